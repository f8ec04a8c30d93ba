/-
  A journal at rest, a transaction upon it: Begin and Commit, told of the home sectors alone. pack.Get, walked. cofferlaw11.key, begun.
-/
import Derived.Test.YtgfbepakonjbnaaGreatX10
import Derived.ChangeKeysEq
import Derived.Test.YtgfbepakonjbnaaGreatX21
import Derived.Test.YtgfbepakonjbnaaGreatX22
import Derived.Test.YtgfbepakonjbnaaGreatX11
set_option maxRecDepth 100000
set_option maxHeartbeats 16000000
section
section
set_option linter.unusedSimpArgs false
set_option linter.unusedVariables false
namespace Go.Proofs.YtgfbepakonjbnaaGreat
open Go.RowKit Go.MapKept Go.ChangeMaps
def De2(w:World)(j:JG)(n ring:Nat)(b:Int)(H:Nat->Sec):Prop:=
 ∃(J:Jn) (D:Dk) (t m:Int),X0 w j J D n ring t m H/\(∀i,(H i).length=512)/\t<=b/\m<=b+1
structure TxP(w0:World)(j:JG)(n ring:Nat)(b:Int)(H:Nat->Sec)(g:Sg):Prop where
 j:g.j=j
 n:g.n=n
 ring:g.ring=ring
 H:g.H=H
 turn:g.turn=g.t-1
 t:g.t<=b
 m:g.m<=b+1
 tb:w0.heap.size<=g.x.tb
 wb:w0.heap.size<=g.x.wb
theorem TxP.h{w0:World}{j:JG}{n ring:Nat}{b:Int}{H:Nat->Sec}{g:Sg}(h:TxP w0 j n ring b H g):g.h=n-2-ring:=by unfold Sg.h;rw[h.n,h.ring]
theorem TxP.S{w0:World}{j:JG}{n ring:Nat}{b:Int}{H:Nat->Sec}{g:Sg}(h:TxP w0 j n ring b H g):∀k,k∈g.S->k∈j.all∨w0.heap.size<=k:=by
 intro k hk;rw[Sg.S,h.j] at hk;rcases List.mem_cons.1 hk with rfl | q
 ·exact .inr h.wb
 ·exact .inl q
theorem Cq2{w:World}{j:JG}{n ring:Nat}{b:Int}{H:Nat->Sec}(h:De2 w j n ring b H) :
  Calls Tryz.prog 18 #[.pointer (some ⟨j.jb,0,none⟩)] w λ e w'=>∃g:Sg,e=.returned (.tuple #[.pointer (some ⟨g.x.tb,0,none⟩),.int .i64 0])/\TxP w j n ring b H g/\B7 w' g (λ _=>none)/\Upd j.all w w':=by
 obtain⟨J,D,t,m,h1,h2,h4,h5⟩:=h;refine(Br7 h1).mono ?_;rintro e w' ⟨x,rfl,hx1,hx2,hx,hr,hu,hfx⟩;exact⟨⟨x,j,J,D,n,ring,t-1,t,m,H⟩,rfl,⟨rfl,rfl,rfl,rfl,rfl,h4,h5,hx1,hx2⟩,⟨hr,hx,h1.at_.late hx2,MOk.none _,h2,hfx⟩,hu⟩
theorem L9.zero{c:Nat->Sec}{h:Nat}{T:Nat->Bool}(hl:∀i,(c i).length=512)(h2:c 2=D9)(h3:c 3=D9):L9 c h T (λ _=>Option.none):=by
 refine⟨hl,λ n hn=>?_,λ _ _=>rfl,λ _ _ e=>(by cases e),λ _ _ e=>(by cases e),λ _ _ _ _ e=>(by cases e),λ _ _ e=>(by cases e)⟩;have e:c (2+n / 32)=D9:=by
  have:n / 32=0∨n / 32=1:=by omega
  rcases this with q | q<;>rw[q]
  ·exact h2
  ·exact h3
 unfold Ak7;rw[e,Bk1 (by omega)];dsimp only;rw[if_neg (by omega)];rfl
end Go.Proofs.YtgfbepakonjbnaaGreat
end
section
set_option linter.unusedSimpArgs false
set_option linter.unusedVariables false
namespace Go.Proofs.YtgfbepakonjbnaaGreat
open Go.RowKit Go.MapKept Go.ChangeMaps
theorem Bu5:Tryz.prog.cellsOf 5=1:=by kernel_rfl
theorem As0(d:Nat)(a b:List UInt8)(w:World):∀is:List Nat,(∀i,i∈is->i<a.length/\i<b.length)->
  ∃r:Bool,(Op.eqItems (d+1) 5 1 (bts a).toArray (bts b).toArray is).run Tryz.prog w=.ok r w/\(r=true↔∀i,i∈is->a[i]?=b[i]?)
 | [],_=>⟨true,by simp[Op.eqItems],by simp⟩
 | i :: is,h=>by
  obtain⟨hi,hj⟩:=h i (by simp);obtain⟨r,hr,hiff⟩:=As0 d a b w is (λ k hk=>h k (by simp[hk]));have e1:(bts a).toArray[i]?=some (bv a[i]):=by simp[bts,hi]
  have e2:(bts b).toArray[i]?=some (bv b[i]):=by simp[bts,hj]
  have p1:=run_part_plain (P:=Tryz.prog) (w:=w) (e:=5) (by kernel_rfl) e1;have p2:=run_part_plain (P:=Tryz.prog) (w:=w) (e:=5) (by kernel_rfl) e2;have p3:=run_equalIn_int (P:=Tryz.prog) w d 5 .u8 .u8 (a[i].toNat:Int) (b[i].toNat:Int) Tryz.underlying5;unfold Op.eqItems;simp only[Nat.mul_one,Sem.run_bind,p1,p2,Result.andThen_ok];unfold bv;simp only[p3,Result.andThen_ok];by_cases hab:a[i]=b[i]
  ·refine⟨r,by simp[hab,hr],?_⟩;rw[hiff];simp only[List.mem_cons,forall_eq_or_imp,List.getElem?_eq_getElem hi,List.getElem?_eq_getElem hj,hab,true_and]
  ·have:((a[i].toNat:Int) == (b[i].toNat:Int))=false:=by
    rw[beq_eq_false_iff_ne];intro q;exact hab (UInt8.toNat_inj.1 (by omega))
   refine⟨false,by simp[this],?_⟩;simp only[Bool.false_eq_true,false_iff,List.mem_cons,forall_eq_or_imp,List.getElem?_eq_getElem hi,List.getElem?_eq_getElem hj,Option.some.injEq];exact λ q=>hab q.1
theorem Cb3{a b:List UInt8}(ha:a.length=32)(hb:b.length=32)(w:World):(Op.equalIn 10000 35 (.agg (bts a).toArray) (.agg (bts b).toArray)).run Tryz.prog w=.ok (decide (a=b)) w:=by
 obtain⟨r,hr,hiff⟩:=As0 9998 a b w (List.range 32) (λ i hi=>by have:=List.mem_range.1 hi;omega);have hu:=Tryz.underlying35;obtain⟨i0,hi0⟩:∃i0,Tryz.prog.info? 5=some i0:=Option.isSome_iff_exists.1 (by kernel_rfl);have h1:=run_equalIn_array (P:=Tryz.prog) w 9999 (t:=35) (bts a).toArray (bts b).toArray hu hi0;rw[Bu5] at h1;rw[h1,hr];congr 1
 cases hr':r
 ·symm;rw[decide_eq_false_iff_not]
  rintro rfl;rw[hr'] at hiff;simp at hiff
 ·symm;rw[decide_eq_true_eq]
  apply List.ext_getElem?;intro i;by_cases hi:i<32
  ·exact hiff.1 hr' i (List.mem_range.2 hi)
  ·rw[List.getElem?_eq_none (by omega),List.getElem?_eq_none (by omega)]
theorem Cq3{w:World}{g:Sg}{M:Nat->Option Sec}{K:Nat->Option Pk}(h:B7 w g M)(hk:L9 (g.cur M) g.h (g.T M) K)(hh:20<=g.h)(hh2:g.h<=4096){n:Nat}{p:Pk}(hp:K n=some p)(at_ ln:Nat)(key b:List UInt8)(hkl:key.length=32)(hbl:b.length<=4200)(hln:ln=46+b.length)
  (hal:at_+ln<=p.data.length) (hfr:(p.data.drop at_).take ln=D8 key b) :
  Calls Tryz.prog 88 #[.pointer (some ⟨g.x.tb,0,none⟩),plV (n,at_,ln),.agg (bts key).toArray] w λ e w'=>∃x,e=.returned (.tuple #[x,.int .i64 0])/\I7 w' w.heap.size x b/\B7 w' g M/\Upd [g.j.jb] w w':=by
 have hlt:=h.lt;have hlow:=hk.low n p hp;obtain⟨st,hst⟩:∃st,st=p.start:=⟨_,rfl⟩;obtain⟨us,hus⟩:∃us,us=p.data.length:=⟨_,rfl⟩;obtain⟨lv,hlv⟩:∃lv,lv=p.live:=⟨_,rfl⟩;obtain⟨pb,hpb⟩:∃pb,pb=w.heap.size:=⟨_,rfl⟩;obtain⟨w1,hw1⟩:∃w1,w1=(w.alloc (.cells #[.int .i64 (n:Int),.int .i64 (at_:Int),.int .i64 (ln:Int)] 92)).alloc (.cells (bts key).toArray 35):=⟨_,rfl⟩;have hu1:Upd [] w w1:=by rw[hw1];exact((Upd.refl _ _).alloc _).alloc _
 have hbp:w1.heap[pb]?=some (.cells #[.int .i64 (n:Int),.int .i64 (at_:Int),.int .i64 (ln:Int)] 92 (0,0)):=by
  rw[hw1,hpb];exact(((Upd.refl [] _).alloc _).block _ (by simp) (by simp)).trans (A4 _)
 have hbk:w1.heap[pb+1]?=some (.cells (bts key).toArray 35 (0,0)):=by
  rw[hw1,hpb];have:=A4 (w:=w.alloc (.cells #[.int .i64 (n:Int),.int .i64 (at_:Int),.int .i64 (ln:Int)] 92)) (.cells (bts key).toArray 35);rwa [World.size_alloc] at this
 have h1:=h.below hu1;have hwi:=Ay3 h1 hk hh hh2 hp at_ ln (by omega) hal;unfold stV plV at hwi;dsimp only at hwi;rw[← hst,← hus,← hlv] at hwi;have HRDP:Hid (∀w',B7 w' g M->Calls Tryz.prog 176 #[.agg #[.int .i64 (st:Int),.int .i64 (us:Int),.int .i64 (lv:Int)],.pointer (some ⟨g.x.tb,0,none⟩),.int .i64 (at_:Int),.int .i64 (ln:Int)] w' λ e w''=>∃x,e=.returned (.tuple #[x,.int .i64 0])/\I7 w'' w'.heap.size x (D8 key b)/\B7 w'' g M/\Upd [g.j.jb] w' w''):=by
  show ∀w',_
  intro w' h';have:=Cb1 h' hh2 st us lv at_ ln p.data (by omega) hal (by omega) (by rw[hst];exact hk.data n p hp);rw[hfr] at this;exact this
 have hik:(Tryz.prog.info? 35).map (·.size)=some (bts key).toArray.size:=by rw[List.size_toArray,A5,hkl];exact Af0
 have hone:(bts key).toArray.all (·.oneCell')=true:=by
  rw[Array.all_eq_true_iff_forall_mem];intro x hx;exact G5 _ x (by simpa using hx)
 have heq:∀w',(Op.equalIn 10000 35 (.agg (bts key).toArray) (.agg (bts key).toArray)).run Tryz.prog w'=.ok true w':=λ w'=>by
  have:=Cb3 hkl hkl w';rwa [decide_eq_true rfl] at this
 have HWI:=η hwi;have HLT:=η hlt;have HU1:=η hu1;have HBP:=η hbp;have HBK:=η hbk;have HPB:=η hpb;have HW1:=η hw1;have HBL:=η hbl;have HLN:=η hln;have HKL:=η hkl;have hq:((ln:Int) != (ln:Int))=false:=by simp
 have p0:w1.cell? ⟨pb,0,none⟩=some (.int .i64 (n:Int)):=by rw[A2 hbp];rfl
 have p1:w1.cell? ⟨pb,1,none⟩=some (.int .i64 (at_:Int)):=by rw[A2 hbp];rfl
 have p2:w1.cell? ⟨pb,2,none⟩=some (.int .i64 (ln:Int)):=by rw[A2 hbp];rfl
 clear h hlt hk hp hst hus hlv hpb hw1 hu1 hbp hbk hwi h1 hfr hlow hal hbl hln;unfold plV;go_enter Tryz.func88,Tryz.ntmps88
 go_upto_region 1 with(fail)
 have hw1:=HW1.out;have hpb:=HPB.out;rw[← hw1,← hpb];clear hw1 hpb;go_wp2_with fail
 refine HWI.out.mono ?_;rintro e w4 ⟨rfl,h4,hu4⟩;have hne:∀i,pb<=i->i∉[g.j.jb]:=λ i hi q=>by have:=HLT.out.1 i (g.mem i q);have:=HPB.out;omega
 have hbp4:=(hu4.block _ (A3 HBP.out) (hne _ (Nat.le_refl _))).trans HBP.out;have hbk4:=(hu4.block _ (A3 HBK.out) (hne _ (by omega))).trans HBK.out;obtain⟨w5,hw5⟩:∃w5,w5=w4.alloc (.cells #[.int .i64 (st:Int),.int .i64 (us:Int),.int .i64 (lv:Int)] 200):=⟨_,rfl⟩;obtain⟨sb,hsb⟩:∃sb,sb=w4.heap.size:=⟨_,rfl⟩;have hu5:Upd [] w4 w5:=by rw[hw5];exact(Upd.refl _ _).alloc _
 have hb5:w5.heap[sb]?=some (.cells #[.int .i64 (st:Int),.int .i64 (us:Int),.int .i64 (lv:Int)] 200 (0,0)):=by rw[hw5,hsb];exact A4 _
 have hbp5:=(hu5.block _ (A3 hbp4) (by simp)).trans hbp4;have hbk5:=(hu5.block _ (A3 hbk4) (by simp)).trans hbk4;have h5:=h4.below hu5;have HRD5:=η (HRDP.out w5 h5);have HU5:=η (((HU1.out.mono (by simp)).trans hu4).trans (hu5.mono (by simp)));have m0:w5.cell? ⟨sb,0,none⟩=some (.int .i64 (st:Int)):=by rw[A2 hb5];rfl
 have m1:w5.cell? ⟨sb,1,none⟩=some (.int .i64 (us:Int)):=by rw[A2 hb5];rfl
 have m2:w5.cell? ⟨sb,2,none⟩=some (.int .i64 (lv:Int)):=by rw[A2 hb5];rfl
 have n1:w5.cell? ⟨pb,1,none⟩=some (.int .i64 (at_:Int)):=by rw[A2 hbp5];rfl
 have n2:w5.cell? ⟨pb,2,none⟩=some (.int .i64 (ln:Int)):=by rw[A2 hbp5];rfl
 have HBP5:=η hbp5;have HBK5:=η hbk5;have HW5:=η hw5;have HSB:=η hsb;clear p0 p1 p2 h4 hu4 hbp4 hbk4 hw5 hsb hu5 hb5 hbp5 hbk5 h5;go_upto_region 2 with(fail)
 have hw5:=HW5.out;have hsb:=HSB.out;rw[← hw5,← hsb];clear hw5 hsb;go_wp2_with fail
 refine HRD5.out.mono ?_;rintro e w6 ⟨x0,rfl,hrow,h6,hu6⟩;have hbp6:=(hu6.block _ (A3 HBP5.out) (hne _ (Nat.le_refl _))).trans HBP5.out;have hbk6:=(hu6.block _ (A3 HBK5.out) (hne _ (by omega))).trans HBK5.out;have htk:=By0 (rest:=[]) (key:=key) (b:=b) (by rw[List.append_nil];exact hrow.rd) hkl HBL.out (by simp);rw[← HLN.out] at htk;have HTK:=η htk;have H6:=η h6;have HU6:=η (HU5.out.trans hu6);have HBP6:=η hbp6;have HBK6:=η hbk6;clear m0 m1 m2 n1 n2 hrow h6 hu6 hbp6 hbk6 htk;go_wp2_with fail
 refine HTK.out.mono ?_;rintro e w7 ⟨x,rfl,hrow,hu7⟩;have hbp7:=(hu7.block _ (A3 HBP6.out) (by simp)).trans HBP6.out;have hbk7:=(hu7.block _ (A3 HBK6.out) (by simp)).trans HBK6.out;have h7:=H6.out.below hu7;have HROW:=η hrow;have H7:=η h7;have HU7:=η (HU6.out.trans (hu7.mono (by simp)));have HBP7:=η hbp7;have HBK7:=η hbk7;clear hrow h7 hu7 hbp7 hbk7;go_upto_region 8 with(refine wpList_store_row (by rfl) 35 (.tmp 11) (.tmp 39) (by rfl) w7.heap.size (bts key).toArray (by rfl) (by rfl) _ _ (A4 _) hik (by simp[A5,hkl]) hone ?_)
 obtain⟨w8,hw8⟩:∃w8,w8=(w7.alloc (.cells (bts As5).toArray 35)).setRow w7.heap.size (bts key).toArray:=⟨_,rfl⟩;obtain⟨ib,hib⟩:∃ib,ib=w7.heap.size:=⟨_,rfl⟩;rw[Ah0,← hw8,← hib];have hb8:w8.heap[ib]?=some (.cells (bts key).toArray 35 (0,0)):=by rw[hw8,hib];exact setRow_heap _ _ _ _ _ _ (A4 _)
 have hu8:Upd [] w7 w8:=by rw[hw8];exact V7 ((Upd.refl _ _).alloc _) _ (.inr (Nat.le_refl _))
 have hbp8:=(hu8.block _ (A3 HBP7.out) (by simp)).trans HBP7.out;have hbk8:=(hu8.block _ (A3 HBK7.out) (by simp)).trans HBK7.out;have q2:w8.cell? ⟨pb,2,none⟩=some (.int .i64 (ln:Int)):=by rw[A2 hbp8];rfl
 have HB8:=η hb8;have HBK8:=η hbk8;have H8:=η (H7.out.below hu8);have HU8:=η (HU7.out.trans (hu8.mono (by simp)));have HROW8:=η (HROW.out.keep hu8);clear hw8 hib hb8 hu8 hbp8 hbk8;go_wp2_with (first | (refine wpList_load_row (by rfl) 35 (.tmp 11) (by rfl) ib (by rfl) _ _ _ _ HB8.out Tryz.underlying35 rfl hik ?_) | (refine wpList_load_row (by rfl) 35 (.tmp 5) (by rfl) (pb+1) (by rfl) _ _ _ _ HBK8.out Tryz.underlying35 rfl hik ?_))
 go_ret2;have hsz:=HU6.out.size;exact⟨x,rfl,HROW8.out.low (by omega),H8.out,HU8.out⟩
end Go.Proofs.YtgfbepakonjbnaaGreat
end
section
set_option linter.unusedSimpArgs false
set_option linter.unusedVariables false
namespace Go.Proofs.YtgfbepakonjbnaaGreat
open Go.RowKit Go.MapKept Go.ChangeMaps
section
attribute [-go_sem] loadCells storeCells Instr.build
end
end Go.Proofs.YtgfbepakonjbnaaGreat
end
end
section
set_option linter.unusedSimpArgs false
set_option linter.unusedVariables false
namespace Go.Proofs.YtgfbepakonjbnaaGreat
open Go.RowKit Go.MapKept Go.ChangeMaps
theorem Ac2{T:Nat->Bool}{F:Nat}(hT:∀i,T i=decide (i<F)):∀h,L6 T h=h-F
 | 0=>by simp[L6]
 | h+1=>by
  unfold L6;rw[Ac2 hT h,hT h];by_cases e:h<F
  ·rw[decide_eq_true e];simp;omega
  ·rw[decide_eq_false e];simp;omega
structure Ai5(S:List Nat)(K:Nat->Option Pk)(T:Nat->Bool)(m:Nat):Prop where
 here:∀n,n<m->∃p,K n=some p
 out:∀n,m<=n->K n=none
 bits:∀i,T i=decide (i<4+S.length+16*m)
theorem Ai5.free{S:List Nat}{K:Nat->Option Pk}{T:Nat->Bool}{m:Nat}(r:Ai5 S K T m)(hm:m<64){l free:Nat}{but:Int}(q:Be2 K but l 64 free):free=m:=by
 have h2:¬m<free:=λ h=>q.free_first m hm h (r.out m (Nat.le_refl _));have h3:¬free<m:=λ h=>by
  obtain⟨p,hp⟩:=r.here free h;rw[q.free_none (by omega)] at hp;cases hp
 omega
theorem Ai5.add{S:List Nat}{K K':Nat->Option Pk}{T T':Nat->Bool}{m h:Nat}{f:List UInt8}{o:Option (Nat × Nat)}(r:Ai5 S K T m)(hm:m<64)(hh:4+S.length+16*m+16<=h)(a:Z2 K T h f K' T' o) :
  ∃y,o=some y/\((T'=T/\Ai5 S K' T' m)∨(y.1=m/\(∀n p,K n=some p->8192<p.data.length+f.length)/\Ai5 S K' T' (m+1)/\K'=Ab6 K m (some ⟨4+S.length+16*m,f,f.length⟩))):=by
 cases o with
 | none=>
  exfalso
  obtain⟨free,q,_,_,e | e⟩:=a
  ·have:=r.free hm q;omega
  ·exact e (4+S.length+16*m) (by omega) (λ q _=>by rw[r.bits,decide_eq_false_iff_not];omega)
 | some y=>
  refine⟨y,rfl,?_⟩;rcases a with⟨free,p,_,h1,h2,h3,rfl,rfl⟩ | ⟨st,q,h1,h2,h3,rfl,h4⟩
  ·refine .inl ⟨rfl,λ n hn=>?_,λ n hn=>?_,r.bits⟩
   ·by_cases e:n=y.1
    ·exact⟨_,by rw[e,E0]⟩
    ·rw[F4 _ _ e];exact r.here n hn
   ·have e:n≠y.1:=λ e=>by rw[← e,r.out n hn] at h2;cases h2
    rw[F4 _ _ e];exact r.out n hn
  ·have hy:=r.free hm q;have hst:st=4+S.length+16*m:=by
    obtain⟨_,a2,a3⟩:=h3;have b1:¬st<4+S.length+16*m:=λ hlt=>by
     have:=a2 0 (by omega);rw[r.bits,decide_eq_false_iff_not] at this;omega
    have b2:¬4+S.length+16*m<st:=λ hlt=>a3 _ hlt λ q _=>by rw[r.bits,decide_eq_false_iff_not];omega
    omega
   refine .inr ⟨hy,λ n p hp=>?_,⟨λ n hn=>?_,λ n hn=>?_,λ i=>?_⟩,by rw[hy,hst]⟩
   ·have hlt:n<64:=by
     rcases Nat.lt_or_ge n m with e | e
     ·omega
     ·rw[r.out n e] at hp;cases hp
    rcases Nat.lt_or_ge 8192 (p.data.length+f.length) with e | e
    ·exact e
    ·exact absurd ⟨by omega,p,hp,e⟩ (q.first n hlt)
   ·by_cases e:n=y.1
    ·exact⟨_,by rw[e,E0]⟩
    ·rw[F4 _ _ e];exact r.here n (by omega)
   ·rw[F4 _ _ (by omega)];exact r.out n (by omega)
   ·rw[h4 i,hst,r.bits i];by_cases e:4+S.length+16*m<=i/\i<4+S.length+16*m+16
    ·rw[if_pos e,decide_eq_true (by omega)]
    ·rw[if_neg e];exact decide_eq_decide.2 (by omega)
theorem Ai5.put{g:Sg}{M M':Nat->Option Sec}{S S':List Nat}{K:Nat->Option Pk}{m n k:Nat}(r:Ai5 S K (g.T M) m)(hF:4+S.length+16*m<=g.h)(hs:∀s,s∈S'->s<g.h)(hG:P0 g M M' S S' n k):Ai5 S' K (g.T M') m:=by
 obtain⟨F,hp⟩:=hG.pre ⟨_,r.bits⟩;have hFh:F<=g.h:=by
  rcases Nat.lt_or_ge g.h F with e | e
  ·exfalso
   have h1:=hp g.h;rw[decide_eq_true e,hG.T,r.bits,decide_eq_false (by omega),Bool.false_or,decide_eq_true_iff] at h1;have:=hs _ h1;omega
  ·exact e
 have h1:=hG.left;rw[Ac2 hp,Ac2 r.bits] at h1;refine⟨r.here,r.out,λ i=>?_⟩;rw[hp i];exact decide_eq_decide.2 (by omega)
def KpH(H:Nat->Sec)(h:Nat)(S:List Nat)(K:Nat->Option Pk)(R:List Rc):Prop:=KpM H h (λ i=>Y9 (T6 (H 1)) i) (num (H 0) 0 4) S K R R/\An9 R
def Cw3(W:World)(j:JG)(n ring:Nat)(b:Int)(H:Nat->Sec)(S:List Nat)(K:Nat->Option Pk)(R:List Rc):Prop:=De2 W j n ring b H/\KpH H (n-2-ring) S K R
structure Co7(w W:World)(j:JG)(n ring:Nat)(b:Int)(g:Sg)(M:Nat->Option Sec)(S:List Nat)(K:Nat->Option Pk)(R:List Rc):Prop where
 tx:∃w0,TxP w0 j n ring b g.H g/\w.heap.size<=w0.heap.size
 sp:B7 W g M
 kp:Ap5 g M S K R
 upd:Upd [] w W
theorem Co7.S{w W:World}{j:JG}{n ring:Nat}{b:Int}{g:Sg}{M:Nat->Option Sec}{S:List Nat}{K:Nat->Option Pk}{R:List Rc}(h:Co7 w W j n ring b g M S K R)(hj:∀k,k∈j.all->w.heap.size<=k):(∀k,k∈g.S->w.heap.size<=k)/\w.heap.size<=g.x.tb:=by
 obtain⟨w0,ht,hw⟩:=h.tx;refine⟨λ k hk=>?_,Nat.le_trans hw ht.tb⟩;rcases ht.S k hk with q | q
 ·exact hj k q
 ·omega
theorem Co7.h{w W:World}{j:JG}{n ring:Nat}{b:Int}{g:Sg}{M:Nat->Option Sec}{S:List Nat}{K:Nat->Option Pk}{R:List Rc}(h:Co7 w W j n ring b g M S K R):g.h=n-2-ring:=by
 obtain⟨w0,ht,hw⟩:=h.tx;exact ht.h
theorem Cw3.begin{w W:World}{j:JG}{n ring:Nat}{b:Int}{H:Nat->Sec}{S:List Nat}{K:Nat->Option Pk}{R:List Rc}(h:Cw3 W j n ring b H S K R)(hj:∀k,k∈j.all->w.heap.size<=k)(hu:Upd [] w W) :
  Calls Tryz.prog 18 #[.pointer (some ⟨j.jb,0,none⟩)] W λ e w'=>∃g:Sg,e=.returned (.tuple #[.pointer (some ⟨g.x.tb,0,none⟩),.int .i64 0])/\Co7 w w' j n ring b g (λ _=>none) S K R/\(∀i,g.T (λ _=>none) i=Y9 (T6 (H 1)) i)/\Upd j.all W w':=by
 obtain⟨hjs,hk,hs⟩:=h;refine(Cq2 hjs).mono ?_;rintro e w' ⟨g,rfl,ht,hsp,hu2⟩;have hH:(g.cur λ _=>none)=H:=by
  funext i
  unfold Sg.cur;rw[ht.H];rfl
 have hgT:(g.T λ _=>none)=λ i=>Y9 (T6 (H 1)) i:=by
  funext i
  show Y9 (T6 ((g.cur λ _=>none) 1)) i=_
  rw[hH]
 refine⟨g,rfl,⟨⟨W,by rw[ht.H];exact ht,hu.size⟩,hsp,⟨?_,hs⟩,Bf1 hu hu2 hj⟩,λ i=>by rw[hgT],hu2⟩;unfold Sg.R;rw[hH,hgT,ht.h];exact hk
theorem Db1(n a l:Nat):Ao3 z16 0 n a l 3=L4 n a l:=rfl
theorem Ca2(s u v:Nat){q:Nat}(hq:q<3)(w:World):(Instr.index 273 (.agg #[.int .i64 (s:Int),.int .i64 (u:Int),.int .i64 (v:Int)]) (.int .i64 (q:Int))).run Tryz.prog w=.ok (.int .i64 (Bk4 s u v q:Int)) w:=by
 obtain rfl | rfl | rfl:q=0∨q=1∨q=2:=by omega
 all_goals kernel_rfl
theorem Au9:(#[.int .u8 0,.int .u8 0,.int .u8 0,.int .u8 0,.int .u8 0,.int .u8 0,.int .u8 0,.int .u8 0,.int .u8 0,.int .u8 0,.int .u8 0,.int .u8 0,.int .u8 0,.int .u8 0,.int .u8 0,.int .u8 0]:Array Value)=(bts z16).toArray:=rfl
theorem Am5:(Tryz.prog.info? 115).map (·.size)=some 16:=by kernel_rfl
theorem Bs9{w:World}{b:Nat}{l:List UInt8}{T:TypeId}(h:w.heap[b]?=some (.cells (bts l).toArray T (0,0)))(i:Nat){y:Nat}(hy:y<256):(w.setCell ⟨b,i,none⟩ (.int .u8 (y:Int))).heap[b]?=some (.cells (bts (l.set i (UInt8.ofNat y))).toArray T (0,0)):=by
 rw[A8 h,αs,Ce8 _ _ hy]
theorem Bt0{fn:Func}{p:Tmp}(h:fn.results=#[.cell p 92])(tmps:Array Value)(w:World)(g:Nat)(x y z:Value)
  (hp:tmps.getD p undef=.pointer (some ⟨g,0,none⟩)) (hb:w.heap[g]?=some (.cells #[x,y,z] 92 (0,0))):(results fn tmps).run Tryz.prog w=.ok (.agg #[x,y,z]) w:=
 results_cell_row h tmps w g _ _ _ _ hp hb Tryz.underlying92 rfl (by kernel_rfl)
theorem Co8(n a l:Nat)(hn:n<=100000)(ha:a<=100000)(hl:l<=100000)(w:World):Calls Tryz.prog 171 #[plV (n,a,l)] w λ e w'=>e=.returned (arr (L4 n a l))/\Upd [] w w':=by
 obtain⟨w3,hw3⟩:∃w3,w3=((w.alloc (.cells #[.int .i64 (n:Int),.int .i64 (a:Int),.int .i64 (l:Int)] 92)).alloc (.cells (bts z16).toArray 115)).alloc (.cells (bts z16).toArray 115):=⟨_,rfl⟩;obtain⟨b1,hb1⟩:∃b,b=w.heap.size:=⟨_,rfl⟩;obtain⟨b2,hb2⟩:∃b,b=w.heap.size+1:=⟨_,rfl⟩;obtain⟨b3,hb3⟩:∃b,b=w.heap.size+1+1:=⟨_,rfl⟩;have hu3:Upd [] w w3:=by rw[hw3];exact(((Upd.refl _ _).alloc _).alloc _).alloc _
 have k1:w3.heap[b1]?=some (.cells #[.int .i64 (n:Int),.int .i64 (a:Int),.int .i64 (l:Int)] 92 (0,0)):=by
  rw[hw3,hb1,A6 (by simp;omega),A6 (by simp)];exact A4 _
 have k2:w3.heap[b2]?=some (.cells (bts z16).toArray 115 (0,0)):=by
  rw[hw3,hb2,A6 (by simp)];have:=A4 (w:=w.alloc (.cells #[.int .i64 (n:Int),.int .i64 (a:Int),.int .i64 (l:Int)] 92)) (.cells (bts z16).toArray 115);simpa using this
 have k3:w3.heap[b3]?=some (.cells (bts z16).toArray 115 (0,0)):=by
  rw[hw3,hb3];have:=A4 (w:=(w.alloc (.cells #[.int .i64 (n:Int),.int .i64 (a:Int),.int .i64 (l:Int)] 92)).alloc (.cells (bts z16).toArray 115)) (.cells (bts z16).toArray 115);simpa using this
 have s0:w3.cell? ⟨b1,0,none⟩=some (.int .i64 (n:Int)):=by rw[A2 k1];rfl
 have s1:w3.cell? ⟨b1,1,none⟩=some (.int .i64 (a:Int)):=by rw[A2 k1];rfl
 have s2:w3.cell? ⟨b1,2,none⟩=some (.int .i64 (l:Int)):=by rw[A2 k1];rfl
 have HW:=η hw3;have HB:=η (And.intro hb1 (And.intro hb2 hb3));have HU3:=η hu3;have HK2:=η k2;have HK3:=η k3;clear hw3 hb1 hb2 hb3 hu3 k1 k2 k3;unfold plV;dsimp only;go_enter Tryz.func171,Tryz.ntmps171
 go_upto_region 2 with(fail)
 have hw3:=HW.out;obtain⟨hb1,hb2,hb3⟩:=HB.out;rw[Au9,← hw3];have e1:w.heap.size+1=b2:=hb2.symm;have e2:w.heap.size+1+1=b3:=hb3.symm;rw[e2,e1,← hb1];clear hw3 hb1 hb2 hb3 e1 e2;go_wp2_with fail
 go_loopw [14] (λ i wr=>∃q:Nat,q<=3/\i=.int .i64 (q:Int)/\wr.heap[b3]?=some (.cells (bts (Ao3 z16 0 n a l q)).toArray 115 (0,0))/\Upd [b3] w3 wr) (λ i _=>3-(intOf i).toNat)
 case atStart=>exact⟨0,by omega,rfl,HK3.out,Upd.refl _ _⟩
 case round=>
  clear s0 s1 s2;obtain⟨q,hq,rfl,hb,hu⟩:=hrel;have hlq:(Ao3 z16 0 n a l q).length=16:=Ai6 (by decide) _ (by omega);by_cases hlt:q<3
  ·have hlt':decide ((q:Int)<3)=true:=decide_eq_true (by omega);have hix:=Ca2 n a l hlt;have hV:=Bu3 (q:=q) hn ha hl;have hstq:=Ap7 z16 0 n a l (q:=q) (by omega);obtain⟨V,hVe⟩:∃V,V=Bk4 n a l q:=⟨_,rfl⟩;rw[← hVe] at hix hV hstq;obtain⟨A,hA⟩:∃A,A=0+4*q:=⟨_,rfl⟩;rw[← hA] at hstq;generalize Ao3 z16 0 n a l q=LQ at hb hstq hlq;have eA:4*(q:Int)=(A:Int):=by omega
   have hA4:A+4<=16:=by omega
   have HB:=η hb;have HU:=η hu;have HSQ:=η hstq;obtain⟨wo,rfl⟩:∃wo:World,wo=wr:=⟨_,rfl⟩;clear hb hu hA hstq hVe;go_wp2_with fail
   go_loopw [18] (λ i wr=>∃p:Nat,p<=4/\i=.int .i64 (p:Int)/\wr.heap[b3]?=some (.cells (bts (Ah7 LQ A 4 V p)).toArray 115 (0,0))/\Upd [b3] w3 wr) (λ i _=>4-(intOf i).toNat)
   case atStart=>exact⟨0,by omega,rfl,by rw[Ag0];exact HB.out,HU.out⟩
   case round=>
    obtain⟨p,hp,rfl,hb,hu2⟩:=hrel;by_cases hpt:p<4
    ·have hpt':decide ((p:Int)<4)=true:=decide_eq_true (by omega);have hlen:(Ah7 LQ A 4 V p).length=16:=by rw[Aa7 (by omega) (by omega)];exact hlq
     have hst:=Ag2 (b:=LQ) (a:=A) (n:=4) (v:=V) hpt (by omega);obtain⟨I,hI⟩:∃I,I=A+p:=⟨_,rfl⟩;have hIk:(A:Int)+(p:Int)=(I:Int):=by omega
     have hI16:I<16:=by omega
     obtain⟨Y,hY⟩:∃Y,Y=V / 256 ^ (4-1-p) % 256:=⟨_,rfl⟩;obtain⟨old,hcl⟩:∃old,wr.cell? ⟨b3,I,none⟩=some old:=⟨_,by rw[A2 hb];exact Array.getElem?_eq_getElem (by rw[List.size_toArray,A5];omega)⟩;have hf:=B6 hb I;have o2:=Bs9 hb I (y:=Y) (by omega);have eY:UInt8.ofNat Y=UInt8.ofNat (V / 256 ^ (4-1-p)):=by
      apply UInt8.toNat_inj.1;rw[UInt8.toNat_ofNat',UInt8.toNat_ofNat',hY];omega
     rw[eY,hI,hst,← hI] at o2;have u2:Upd [b3] wr (wr.setCell ⟨b3,I,none⟩ (.int .u8 (Y:Int))):=(Upd.refl _ _).set _ (by simp);have HO2:=η o2;have HUx:=η (hu2.trans u2);have i0:(0:Int)<=(I:Int):=by omega
     have i1:(I:Int)<16:=by omega
     have t0:decide ((24:Int)-8*(p:Int)<0)=false:=decide_eq_false (by omega);have hsh:(0:Int)<=24-8*(p:Int):=by omega
     have hsh2:24-8*(p:Int)<=24:=by omega
     have hYI:(V:Int) / 2 ^ (24-8*p) % 256=(Y:Int):=by
      have e1:(2:Int) ^ (24-8*p)=((256 ^ (4-1-p):Nat):Int):=by
       rw[show(256:Nat)=2 ^ 8 from rfl,← Nat.pow_mul,Int.natCast_pow,show 24-8*p=8*(4-1-p) from by omega];rfl
      rw[e1,hY];omega
     have HYI:=η hYI;clear hb hu2 hlen hst hI eY o2 u2 hYI hY;go_wp2_with fail
     exact⟨⟨p+1,by omega,by go_num,by rw[HYI.out];exact HO2.out,by rw[HYI.out];exact HUx.out⟩,by simp[intOf];omega⟩
    ·obtain rfl:p=4:=by omega
     have hpt':decide (((4:Nat):Int)<4)=false:=rfl;rw[Ag1,HSQ.out] at hb;have HO2:=η hb;have HU3:=η hu2;clear hb hu2;go_wp2_with fail
     refine⟨⟨q+1,by omega,by go_num,HO2.out,HU3.out⟩,by simp[intOf];omega⟩
  ·obtain rfl:q=3:=by omega
   have hlt':decide (((3:Nat):Int)<3)=false:=rfl;rw[Db1] at hb;obtain⟨_,hb2,hb3⟩:=HB.out;have h2:=(hu.block b2 (A3 HK2.out) (by simp;omega)).trans HK2.out;have hik:(Tryz.prog.info? 115).map (·.size)=some (bts (L4 n a l)).toArray.size:=by rw[List.size_toArray,A5,T9];exact Am5
   have hik2:(Tryz.prog.info? 115).map (·.size)=some (bts z16).toArray.size:=Am5;have hu4:Upd [b2] wr (wr.setRow b2 (bts (L4 n a l)).toArray):=J5 (Upd.refl _ _) _ (.inl (by simp));have HU4:=η ((HU3.out.late hu (λ i hi=> .inr (by simp at hi;omega))).late hu4 (λ i hi=> .inr (by simp at hi;omega)));have HB3:=η hb;have HB2:=η h2;have hone:=At1 (L4 n a l);clear hb hu h2 hu4 hb2 hb3;go_wp2_with (first | (refine wpList_load_row (by rfl) 115 (.tmp 3) (by rfl) b3 (by rfl) _ _ _ _ HB3.out Tryz.underlying115 rfl hik ?_) | (refine wpList_store_row (by rfl) 115 (.tmp 2) (.tmp 36) (by rfl) b2 (bts (L4 n a l)).toArray (by rfl) (by rfl) _ _ HB2.out hik (by rw[List.size_toArray,List.size_toArray,A5,A5,T9];rfl) hone ?_))
   refine bodyPost_ret (results_cell_row (p:=2) (ty:=115) (by rfl) _ _ b2 _ _ _ _ (by rfl) (setRow_heap _ _ _ _ _ _ HB2.out) Tryz.underlying115 rfl hik) (by rfl) ?_;exact⟨rfl,HU4.out⟩
theorem Ax5(L:Bs)(hL:L.length=16)(w:World):Calls Tryz.prog 90 #[arr L] w λ e w'=>e=.returned (plV (num L 0 4,num L 4 4,num L 8 4))/\Upd [] w w':=by
 obtain⟨w3,hw3⟩:∃w3,w3=((w.alloc (.cells (bts L).toArray 115)).alloc (.cells #[.int .i64 0,.int .i64 0,.int .i64 0] 92)).alloc (.cells #[.int .i64 0,.int .i64 0,.int .i64 0] 273):=⟨_,rfl⟩;obtain⟨b1,hb1⟩:∃b,b=w.heap.size:=⟨_,rfl⟩;obtain⟨b2,hb2⟩:∃b,b=w.heap.size+1:=⟨_,rfl⟩;obtain⟨b3,hb3⟩:∃b,b=w.heap.size+1+1:=⟨_,rfl⟩;have hu3:Upd [] w w3:=by rw[hw3];exact(((Upd.refl _ _).alloc _).alloc _).alloc _
 have k1:w3.heap[b1]?=some (.cells (bts L).toArray 115 (0,0)):=by
  rw[hw3,hb1,A6 (by simp;omega),A6 (by simp)];exact A4 _
 have k2:w3.heap[b2]?=some (.cells #[.int .i64 0,.int .i64 0,.int .i64 0] 92 (0,0)):=by
  rw[hw3,hb2,A6 (by simp)];have:=A4 (w:=w.alloc (.cells (bts L).toArray 115)) (.cells #[.int .i64 0,.int .i64 0,.int .i64 0] 92);simpa using this
 have k3:w3.heap[b3]?=some (.cells (v3 L 0 0).toArray 273 (0,0)):=by
  rw[hw3,hb3];have:=A4 (w:=(w.alloc (.cells (bts L).toArray 115)).alloc (.cells #[.int .i64 0,.int .i64 0,.int .i64 0] 92)) (.cells #[.int .i64 0,.int .i64 0,.int .i64 0] 273);rw[show(v3 L 0 0).toArray=#[.int .i64 0,.int .i64 0,.int .i64 0] from rfl];simpa using this
 have hrd:Rd w3 (.slice (some ⟨b1,0,none⟩) 16 16) L:=⟨_,_,by rw[hL],by omega,λ _=>⟨b1,0,rfl,λ i hi=>by rw[A2 k1,Nat.zero_add];unfold bts;rw[List.getElem?_toArray,List.getElem?_map,List.getElem?_eq_getElem hi];rfl⟩⟩;obtain⟨N0,hN0⟩:∃x,x=num L 0 4:=⟨_,rfl⟩;obtain⟨N1,hN1⟩:∃x,x=num L 4 4:=⟨_,rfl⟩;obtain⟨N2,hN2⟩:∃x,x=num L 8 4:=⟨_,rfl⟩;rw[← hN0,← hN1,← hN2];have HN:=η (And.intro hN0 (And.intro hN1 hN2));clear hN0 hN1 hN2;have HW:=η hw3;have HB:=η (And.intro hb1 (And.intro hb2 hb3));have HU3:=η hu3;have HK1:=η k1;have HK2:=η k2;have HK3:=η k3;have HRd:=η hrd;clear hw3 hb1 hb2 hb3 hu3 k1 k2 k3 hrd;unfold arr;go_enter Tryz.func90,Tryz.ntmps90
 go_upto_region 2 with(fail)
 have hw3:=HW.out;obtain⟨hb1,hb2,hb3⟩:=HB.out;rw[← hw3];have e2:w.heap.size+1+1=b3:=hb3.symm;have e1:w.heap.size+1=b2:=hb2.symm;rw[e2,e1,← hb1];clear hw3 hb1 hb2 hb3 e1 e2;go_wp2_with fail
 go_loopw [7] (λ i wr=>∃q:Nat,q<=3/\i=.int .i64 (q:Int)/\wr.heap[b3]?=some (.cells (v3 L 0 q).toArray 273 (0,0))/\Upd [b3] w3 wr) (λ i _=>3-(intOf i).toNat)
 case atStart=>exact⟨0,by omega,rfl,HK3.out,Upd.refl _ _⟩
 case round=>
  obtain⟨q,hq,rfl,hb,hu⟩:=hrel;by_cases hlt:q<3
  ·have hlt':decide ((q:Int)<3)=true:=decide_eq_true (by omega);obtain⟨A,hA⟩:∃A,A=0+4*q:=⟨_,rfl⟩;have hat:=Am2 (.slice (some ⟨b1,0,none⟩) 16 16) L A 4 wr (HRd.out.of_block λ b o c hc=>hu.block b (block_lt_of_cell hc) (by
    simp;rintro rfl;rw[A2 HK3.out] at hc;match o,hc with
    | 0,hc | 1,hc | 2,hc=>simp[v3,bv] at hc
    | k+3,hc=>simp[v3] at hc)) (by omega) (by omega) (by omega) (by omega)
   have hs:=Cp8 L 0 hlt;rw[← hA] at hs;obtain⟨X,hX⟩:∃X,X=num L A 4:=⟨_,rfl⟩;have hXl:X<4294967296:=by rw[hX];exact Ap1 _ _ _
   rw[← hX] at hat hs;rw[show((4:Nat):Int)=4 from rfl] at hat;have st:=A8 (v:=.int .i64 (X:Int)) (o:=q) hb;rw[hs] at st;have eA:4*(q:Int)=(A:Int):=by omega
   have HAT:=η hat;have HST:=η st;have fr:=B6 hb q;have⟨old,hc⟩:∃old,wr.cell? ⟨b3,q,none⟩=some old:=by
    rw[A2 hb];obtain rfl | rfl | rfl:q=0∨q=1∨q=2:=by omega
    all_goals exact⟨_,rfl⟩
   have HU:=η (hu.set (o:=q) (.int .i64 (X:Int)) (.inl (List.mem_singleton.2 rfl)));have eX:IntKind.i64.wrap (X:Int)=(X:Int):=by rw[IntKind.wrap_i64];omega
   have HA:=η hA;clear hat st hs hb hu hX hA;go_wp2_with fail
   refine HAT.out.mono ?_;rintro e w' ⟨rfl,rfl⟩;go_wp2_with fail
   refine⟨⟨q+1,by omega,by go_num,HST.out,HU.out⟩,by simp[intOf];omega⟩
  ·obtain rfl:q=3:=by omega
   have hlt':decide (((3:Nat):Int)<3)=false:=rfl;obtain⟨hb1,hb2,hb3⟩:=HB.out;have h2:=(hu.block b2 (A3 HK2.out) (by simp;omega)).trans HK2.out;have c0:wr.cell? ⟨b3,0,none⟩=some (.int .i64 (num L 0 4:Int)):=by rw[A2 hb];rfl
   have c1:wr.cell? ⟨b3,1,none⟩=some (.int .i64 (num L 4 4:Int)):=by rw[A2 hb];rfl
   have c2:wr.cell? ⟨b3,2,none⟩=some (.int .i64 (num L 8 4:Int)):=by rw[A2 hb];rfl
   have d0:wr.cell? ⟨b2,0,none⟩=some (.int .i64 0):=by rw[A2 h2];rfl
   have d1:wr.cell? ⟨b2,1,none⟩=some (.int .i64 0):=by rw[A2 h2];rfl
   have d2:wr.cell? ⟨b2,2,none⟩=some (.int .i64 0):=by rw[A2 h2];rfl
   have f0:=B6 h2 0;have f1:=B6 h2 1;have f2:=B6 h2 2;obtain⟨hN0,hN1,hN2⟩:=HN.out;rw[← hN0] at c0;rw[← hN1] at c1;rw[← hN2] at c2;have HU2:=η (HU3.out.late hu (λ i hi=> .inr (by simp at hi;omega)));have H2:=η h2;have HB2:Hid (w.heap.size<=b2):=by show _<=_;omega
   clear hb hu h2 hb1 hb2 hb3 hN0 hN1 hN2;go_wp2_with fail
   refine bodyPost_ret (Bt0 (p:=2) (by rfl) _ _ b2 (.int .i64 (N0:Int)) (.int .i64 (N1:Int)) (.int .i64 (N2:Int)) (by rfl) (A8 (A8 (A8 H2.out 0 _) 1 _) 2 _)) (by rfl) ?_;exact⟨rfl,HU2.out.late ((Upd.refl [b2] _).three _ _ _ (.inl (List.mem_singleton.2 rfl))) (λ i hi=> .inr (by simp at hi;have:=HB2.out;omega))⟩
section
section
variable {P:Program} {ops:Array Oper} {Q:Exit->Act->World->Prop}
def Cp4(P:Program)(ops:Array Oper)(Q:Exit->Act->World->Prop)(c:Nat)(a1:Act)(w1:World):Prop:=
 ∃J:(Nat->Bool)->Act->World->Prop,(∀L,(∀i,i<ops.size->L i=decide (i<=c))->J L a1 w1)/\
  (∀i o L a w,c<i->ops[i]?=some o->J L a w->L i=false->(∀e∈o.after,Region.binds .any e=true->L e.on=true)->P7 .any ops L->wpOp P ops Q i (λ a' w'=>J (upL L i) a' w') a w)/\
  (∀L a w,J L a w->(∀i,i<ops.size->L i=true)->Q .normal a w)
def De0(ops:Array Oper)(c:Nat):Bool:=(List.range ops.size).all λ i=>if i<c then Af7 .any ops i ops.size c else if c<i then Af7 .any ops c ops.size i else true
theorem Bh5{id:Nat}{a:Act}{w:World}(c:Nat)(InvA:(Nat->Bool)->Act->World->Prop)(hm:P.follows .mixedOrders=true)(hlow:Bn6 .any ops=true)(hcut:De0 ops c=true)(hc:c<ops.size)(h0:InvA (λ _=>false) a w.drew)
  (hA:∀i o L a w,i<c->ops[i]?=some o->InvA L a w->L i=false->(∀e∈o.after,Region.binds .any e=true->L e.on=true)->P7 .any ops L->wpOp P ops Q i (λ a' w'=>InvA (upL L i) a' w') a w)
  (hC:∀L a w,InvA L a w->(∀i,i<c->L i=true)->wpOp P ops Q c (λ a' w'=>Cp4 P ops Q c a' w') a w):(Code.region id ops true).wp P Q a w:=by
 have hw:∀i,i<ops.size->(i<c->Af7 .any ops i ops.size c=true)/\(c<i->Af7 .any ops c ops.size i=true):=λ i hi=>by
  have h1:=(List.all_eq_true.1 hcut) i (List.mem_range.2 hi);refine⟨λ h=>by rw[if_pos h] at h1;exact h1,λ h=>by rw[if_neg (by omega),if_pos h] at h1;exact h1⟩
 refine Ao1 (λ L a' w'=>P7 .any ops L/\((L c=false/\InvA L a' w')∨(L c=true/\∃J:(Nat->Bool)->Act->World->Prop,J L a' w'/\
  (∀i o L a w,c<i->ops[i]?=some o->J L a w->L i=false->(∀e∈o.after,Region.binds .any e=true->L e.on=true)->P7 .any ops L->wpOp P ops Q i (λ a' w'=>J (upL L i) a' w') a w)/\
  (∀L a w,J L a w->(∀i,i<ops.size->L i=true)->Q .normal a w)))) hm ⟨λ j oj _ h=>(by cases h),.inl ⟨rfl,h0⟩⟩ ?_ ?_ hlow
 ·rintro i o L a' w' ho ⟨hcl,hI⟩ hL hd;have hi:=(Array.getElem?_eq_some_iff.1 ho).1;have hup:=hcl.up ho hd;rcases Nat.lt_trichotomy i c with hic | rfl | hic
  ·rcases hI with⟨h1,h2⟩ | ⟨h1,_⟩
   ·exact wpOp_mono (λ a'' w'' h=>⟨hup,.inl ⟨by rw[F9 _ (by omega)];exact h1,h⟩⟩) (hA i o L a' w' hic ho h2 hL hd hcl)
   ·rw[Am7 hcl ((hw i hi).1 hic) h1] at hL;cases hL
  ·rcases hI with⟨h1,h2⟩ | ⟨h1,_⟩
   ·have hall:∀k,k<i->L k=true:=λ k hk=>hcl.dep_up ho hd ops.size ((hw k (by omega)).1 hk) (by omega);have hno:∀k,k<ops.size->i<k->L k=false:=λ k hk hik=>hcl.not_up ops.size ((hw k hk).2 hik) hL;refine wpOp_mono (λ a'' w'' h=>⟨hup,.inr ⟨Q3 _ _,?_⟩⟩) (hC L a' w' h2 hall);obtain⟨J,j0,j1,j2⟩:=h;refine⟨J,j0 _ λ k hk=>?_,j1,j2⟩;by_cases e:k=i
    ·subst e;rw[Q3];simp
    ·rw[F9 _ e];rcases Nat.lt_or_ge k i with q | q
     ·rw[hall k q,decide_eq_true (by omega)]
     ·rw[hno k hk (by omega),decide_eq_false (by omega)]
   ·rw[h1] at hL;cases hL
  ·have h1:L c=true:=hcl.dep_up ho hd ops.size ((hw i hi).2 hic) (by omega);rcases hI with⟨h2,_⟩ | ⟨_,J,j0,j1,j2⟩
   ·rw[h1] at h2;cases h2
   ·exact wpOp_mono (λ a'' w'' h=>⟨hup,.inr ⟨by rw[F9 _ (by omega)];exact h1,J,h,j1,j2⟩⟩) (j1 i o L a' w' hic ho j0 hL hd hcl)
 ·rintro L a' w' ⟨_,hI⟩ hall;rcases hI with⟨h1,_⟩ | ⟨_,J,j0,_,j2⟩
  ·rw[hall c hc] at h1;cases h1
  ·exact j2 L a' w' j0 hall
theorem Ak6{id:Nat}{a:Act}{w:World}(c:Nat)(D:List (Nat × Nat))(kd:Nat->Kd)(hm:P.follows .mixedOrders=true)(hlow:Bn6 .any ops=true)(hcut:De0 ops c=true)(hc:c<ops.size)(n:Nat)(hn:a.tmps.size=n)(hdf:a.defers=[])
  (hA:∀i o L tmps w',i<c->ops[i]?=some o->Av2 w n a D kd L ⟨tmps,[]⟩ w'->L i=false->(∀e∈o.after,Region.binds .any e=true->L e.on=true)->wpOp P ops Q i (λ a' w'=>Av2 w n a D kd (upL L i) a' w') ⟨tmps,[]⟩ w')
  (hC:∀L tmps w',Av2 w n a D kd L ⟨tmps,[]⟩ w'->(∀i,i<c->L i=true)->wpOp P ops Q c (λ a' w'=>Cp4 P ops Q c a' w') ⟨tmps,[]⟩ w'):(Code.region id ops true).wp P Q a w:=by
 subst hn;refine Bh5 c (Av2 w a.tmps.size a D kd) hm hlow hcut hc ⟨⟨hdf,rfl,λ _ _=>rfl,(λ _ _ h=>(by cases h)),(Upd.refl _ _).drew⟩,λ _ _ _=>rfl⟩ ?_ ?_
 ·rintro i o L ⟨tmps,dfs⟩ w' hi ho hI hL hd _;obtain rfl:dfs=[]:=hI.dfs;exact hA i o L tmps w' hi ho hI hL hd
 ·rintro L ⟨tmps,dfs⟩ w' hI hall;obtain rfl:dfs=[]:=hI.dfs;exact hC L tmps w' hI hall
theorem Cp5{c:Nat}{a:Act}{w:World}(D:List (Nat × Nat))(kd:Nat->Kd)(hD:(D.all λ t=>decide (c<t.1))=true)(hD2:(D.all λ t=>decide (t.1<ops.size))=true)(n:Nat)(hn:a.tmps.size=n)(hdf:a.defers=[])
  (hstep:∀i o L tmps w',c<i->ops[i]?=some o->Av2 w n a D kd L ⟨tmps,[]⟩ w'->L i=false->(∀e∈o.after,Region.binds .any e=true->L e.on=true)->wpOp P ops Q i (λ a' w'=>Av2 w n a D kd (upL L i) a' w') ⟨tmps,[]⟩ w')
  (hend:∀L tmps w',Av2 w n a D kd L ⟨tmps,[]⟩ w'->(∀i,i<ops.size->L i=true)->Q .normal ⟨tmps,[]⟩ w'):Cp4 P ops Q c a w:=by
 subst hn;refine⟨Av2 w a.tmps.size a D kd,λ L hL=>⟨⟨hdf,rfl,λ _ _=>rfl,λ t ht hl=>?_,Upd.refl _ _⟩,λ _ _ _=>rfl⟩,?_,?_⟩
 ·exfalso
  have h1:c<t.1:=by simpa using (List.all_eq_true.1 hD) t ht
  have h2:t.1<ops.size:=by simpa using (List.all_eq_true.1 hD2) t ht
  rw[hL _ h2,decide_eq_true_iff] at hl;omega
 ·rintro i o L ⟨tmps,dfs⟩ w' hi ho hI hL hd _;obtain rfl:dfs=[]:=hI.dfs;exact hstep i o L tmps w' hi ho hI hL hd
 ·rintro L ⟨tmps,dfs⟩ w' hI hall;obtain rfl:dfs=[]:=hI.dfs;exact hend L tmps w' hI hall
end
end
end Go.Proofs.YtgfbepakonjbnaaGreat
end
section
--TRZ
set_option linter.unusedSimpArgs false
set_option linter.unusedVariables false
namespace Go.Proofs.YtgfbepakonjbnaaGreat
open Go.RowKit Go.MapKept Go.ChangeMaps
theorem Cw4{w:World}{g:Sg}{M:Nat->Option Sec}(h:B7 w g M)(hh:1<g.h){r:Nat}{l:List C0}{S:List Nat}(ht:X3 (g.cur M) r l S)(hS:∀s,s∈S->4<=s/\s<g.h)(hl:l.length<490)(key:Bs)(hkey:key.length=32) :
  Calls Tryz.prog 61 #[.pointer (some ⟨g.x.tb,0,none⟩),.int .u32 (r:Int),arr key] w λ e w'=>e=.returned (Cs8 (Q7 l key))/\B7 w' g M/\Upd [g.j.jb] w w':=by
 rcases ht with⟨rfl,rfl,rfl⟩ | ⟨hr,d,hs⟩
 ·have hb:((g.h:Int) == 0)=false:=by rw[beq_eq_false_iff_ne];omega
  have hrb:(((0:Nat):Int) == 0)=true:=rfl;obtain⟨wA,hwA⟩:∃wA,wA=(w.alloc (.cells (bts key).toArray 35)).alloc (.cells (bts z16).toArray 115):=⟨_,rfl⟩;have huA:Upd [] w wA:=by rw[hwA];exact((Upd.refl _ _).alloc _).alloc _
  obtain⟨b6,hb6⟩:∃x,x=w.heap.size+1:=⟨_,rfl⟩;have k6:wA.heap[b6]?=some (.cells (bts z16).toArray 115 (0,0)):=by
   rw[hwA,hb6];have:=A4 (w:=w.alloc (.cells (bts key).toArray 35)) (.cells (bts z16).toArray 115);simpa using this
  have HO:=η (U6 (h.below huA));have HA:=η (h.below huA);have HH0:=η h;have HUA:=η huA;have HW:=η hwA;have HB6:=η hb6;have HK6:=η k6;clear h huA hwA hb6 k6;have hik:(Tryz.prog.info? 115).map (·.size)=some (bts z16).toArray.size:=Am5;have hone:=At1 z16;unfold arr;show Calls _ _ _ _ λ e w'=>e=.returned (Cs8 none)/\_
  unfold Cs8;go_enter Tryz.func61,Tryz.ntmps61
  go_upto_region 1 with(fail)
  have hwA:=HW.out;have hb6:=HB6.out;rw[Au9,← hwA,← hb6];clear hwA hb6;go_wp2_with fail
  refine HO.out.mono ?_;rintro e w1 ⟨rfl,n1,hn1⟩;have hu1:Upd [] wA w1:=by rw[hn1];exact(Upd.refl _ _).drewN _
  have h6:=(hu1.block _ (A3 HK6.out) (by simp)).trans HK6.out;have H61:=η h6;have HU1:=η hu1;clear hn1 hu1 h6;go_wp2_with (refine wpList_store_row (by rfl) 115 (.tmp 6) (.tmp 19) (by rfl) b6 (bts z16).toArray (by rfl) (by rfl) _ _ H61.out hik rfl hone ?_)
  refine bodyPost_ret (F1 (p:=6) (u:=7) (ty:=115) (by rfl) _ _ b6 _ (by rfl) (run_loadVar_row _ b6 _ _ _ _ _ (setRow_heap _ _ _ _ _ _ H61.out) Tryz.underlying115 rfl (Bf8 (l:=z16) rfl))) (by rfl) ?_;exact⟨rfl,Bp2 HH0.out (HA.out.below HU1.out) ((HUA.out.trans HU1.out).mono (by simp)) (by have:=HB6.out;omega) _⟩
 ·exact Cs9 h hs hS (by have:=hs.flat hl;omega) key hkey
def Ag5:Option Rc->Nat × Nat × Nat
 | some x=>(x.n,x.at_,x.len)
 | none=>(0,0,0)
def Ax6:Option Rc->Int
 | some _=>0
 | none=>5
def Bd8:Option Rc->Bs
 | some x=>L4 x.n x.at_ x.len
 | none=>z16
theorem Co9(o:Option Rc):Cs8 (o.map λ r=>L4 r.n r.at_ r.len)=.tuple #[arr (Bd8 o),.int .i64 (Ax6 o)]:=by
 cases o<;>rfl
theorem Bn2(o:Option Rc):(Bd8 o).length=16:=by
 cases o
 ·rfl
 ·exact T9 _ _ _
theorem Bn3:num z16 0 4=0/\num z16 4 4=0/\num z16 8 4=0:=by decide
theorem Ci2(o:Option Rc)(h:∀x,o=some x->x.n<=100000/\x.at_<=100000/\x.len<=100000):(num (Bd8 o) 0 4,num (Bd8 o) 4 4,num (Bd8 o) 8 4)=Ag5 o:=by
 cases o with
 | none=>show(num z16 0 4,num z16 4 4,num z16 8 4)=(0,0,0);rw[Bn3.1,Bn3.2.1,Bn3.2.2]
 | some x=>
  obtain⟨h1,h2,h3⟩:=h x rfl;obtain⟨e1,e2,e3⟩:=Bs6 (n:=x.n) (a:=x.at_) (l:=x.len) (by omega) (by omega) (by omega);show(num (L4 _ _ _) 0 4,num (L4 _ _ _) 4 4,num (L4 _ _ _) 8 4)=(x.n,x.at_,x.len)
  rw[e1,e2,e3]
theorem Ca3{fn:Func}{p u v:Tmp}(h:fn.results=#[.tmp u,.cell p 92,.tmp v])(tmps:Array Value)(w:World)(g:Nat)(x y z:Value)
  (hp:tmps.getD p undef=.pointer (some ⟨g,0,none⟩)) (hg:w.heap[g]?=some (.cells #[x,y,z] 92 (0,0))) :
  (results fn tmps).run Tryz.prog w=.ok (.tuple #[tmps.getD u undef,.agg #[x,y,z],tmps.getD v undef]) w:=by
 have hp':tmps[p]?.getD undef=.pointer (some ⟨g,0,none⟩):=by simpa using hp
 have c0:w.cell? ⟨g,0,none⟩=some x:=by rw[A2 hg];rfl
 have c1:w.cell? ⟨g,1,none⟩=some y:=by rw[A2 hg];rfl
 have c2:w.cell? ⟨g,2,none⟩=some z:=by rw[A2 hg];rfl
 simp[results,h,hp',asAddr,go_sem,c0,c1,c2]
theorem Bt1{w:World}{g:Sg}{M:Nat->Option Sec}(h:B7 w g M)(hh:1<g.h){S:List Nat}{R:List Rc}(ht:X3 (g.cur M) (g.R M 0) (R.map Rc.ent) S)(hS:∀s,s∈S->4<=s/\s<g.h)(hl:R.length<490)(key:Bs)(hkey:key.length=32)(hb:∀x,x∈R->x.n<=100000/\x.at_<=100000/\x.len<=100000) :
  Calls Tryz.prog 81 #[.pointer (some ⟨g.x.tb,0,none⟩),arr key] w λ e w'=>e=.returned (.tuple #[.int .u32 (g.R M 0:Int),plV (Ag5 (J0 R key)),.int .i64 (Ax6 (J0 R key))])/\B7 w' g M/\Upd [g.j.jb] w w':=by
 have hlt:=h.lt;obtain⟨kb,hkb⟩:∃b,b=w.heap.size:=⟨_,rfl⟩;obtain⟨pb,hpb⟩:∃b,b=w.heap.size+1:=⟨_,rfl⟩;obtain⟨w2,hw2⟩:∃w2,w2=(w.alloc (.cells (bts key).toArray 35)).alloc (.cells #[.int .i64 0,.int .i64 0,.int .i64 0] 92):=⟨_,rfl⟩;have hu2:Upd [] w w2:=by rw[hw2];exact((Upd.refl _ _).alloc _).alloc _
 have k1:w2.heap[kb]?=some (.cells (bts key).toArray 35 (0,0)):=by rw[hw2,hkb,A6 (by simp)];exact A4 _
 have k2:w2.heap[pb]?=some (.cells #[.int .i64 0,.int .i64 0,.int .i64 0] 92 (0,0)):=by
  rw[hw2,hpb];have:=A4 (w:=w.alloc (.cells (bts key).toArray 35)) (.cells #[.int .i64 0,.int .i64 0,.int .i64 0] 92);simpa using this
 have h2:=h.below hu2;have hrt:=Bo8 h2 hh 0 (by omega);rw[show((0:Nat):Int)=0 from rfl] at hrt;have hik:(Tryz.prog.info? 35).map (·.size)=some (bts key).toArray.size:=by rw[List.size_toArray,A5,hkey];exact Af0
 have hnum:=Ci2 (J0 R key) (λ x hx=>hb x (X7 hx).1);have hgt:∀w',B7 w' g M->Calls Tryz.prog 61 #[.pointer (some ⟨g.x.tb,0,none⟩),.int .u32 (g.R M 0:Int),arr key] w' λ e w''=>e=.returned (.tuple #[arr (Bd8 (J0 R key)),.int .i64 (Ax6 (J0 R key))])/\B7 w'' g M/\Upd [g.j.jb] w' w'':=by
  intro w' h';have:=Cw4 h' hh ht hS (by rw[List.length_map];exact hl) key hkey;rw[Bj2,Co9] at this;exact this
 obtain⟨L,hL⟩:∃L,L=Bd8 (J0 R key):=⟨_,rfl⟩;have hLl:L.length=16:=by rw[hL];exact Bn2 _
 obtain⟨er,her⟩:∃e,e=Ax6 (J0 R key):=⟨_,rfl⟩;obtain⟨P,hP⟩:∃p,p=Ag5 (J0 R key):=⟨_,rfl⟩;obtain⟨r,hr⟩:∃r,r=g.R M 0:=⟨_,rfl⟩;rw[← hL,← hP] at hnum;rw[← hr] at hrt;rw[← hP,← her,← hr];rw[← hL,← her,← hr] at hgt;have HG:=η hgt;have HP:=η (λ w=>Ax5 L hLl w);rw[hnum] at HP;have HRT:=η hrt;have HB:=η (And.intro hkb hpb);have HW:=η hw2;have HU2:=η hu2;have HLT:=η hlt;have HK1:=η k1;have HK2:=η k2;have hikV:(Tryz.prog.info? 115).map (·.size)=some (bts L).toArray.size:=by rw[List.size_toArray,A5,hLl];exact Am5
 have HLl:=η hLl;clear hgt hrt hkb hpb hw2 hu2 hlt k1 k2 h2 hnum hL her hP hr hb ht hS hLl h hl;unfold arr;go_enter Tryz.func81,Tryz.ntmps81
 go_upto_region 1 with(fail)
 have hw2:=HW.out;obtain⟨hkb,hpb⟩:=HB.out;rw[← hw2,← hpb,← hkb];clear hw2 hkb hpb;go_wp2_with fail
 refine HRT.out.mono ?_;rintro e w3 ⟨rfl,h3,hu3⟩;have hnS:∀b,w.heap.size<=b->b∉g.S:=λ b hb q=>by have:=HLT.out.1 b q;omega
 have q1:=(hu3.block _ (A3 HK1.out) (λ q=>hnS _ (by have:=HB.out;omega) (g.mem _ q))).trans HK1.out;have q2:=(hu3.block _ (A3 HK2.out) (λ q=>hnS _ (by have:=HB.out;omega) (g.mem _ q))).trans HK2.out;have HNS:=η hnS;have H3:=η h3;have HU3:=η hu3;have Q1:=η q1;have Q2:=η q2;have HGT:=HG.out w3 h3;unfold arr at HGT;have HGT':=η HGT;clear h3 hu3 q1 q2 hnS HGT;go_wp2_with (refine wpList_load_row (by rfl) 35 (.tmp 3) (by rfl) kb (by rfl) _ _ _ _ Q1.out Tryz.underlying35 rfl hik ?_)
 refine HGT'.out.mono ?_;rintro e w4 ⟨rfl,h4,hu4⟩;obtain⟨vb,hvb⟩:∃b,b=w4.heap.size:=⟨_,rfl⟩;obtain⟨w5,hw5⟩:∃w5,w5=(w4.alloc (.cells (bts z16).toArray 115)).setRow vb (bts L).toArray:=⟨_,rfl⟩;have hone:=At1 L;have hbz:(w4.alloc (.cells (bts z16).toArray 115)).heap[vb]?=some (.cells (bts z16).toArray 115 (0,0)):=by rw[hvb];exact A4 _
 have hb5:w5.heap[vb]?=some (.cells (bts L).toArray 115 (0,0)):=by rw[hw5];exact setRow_heap _ _ _ _ _ _ hbz
 have hu5:Upd [] w4 w5:=by rw[hw5,hvb,V0];exact(Upd.refl _ _).alloc _
 have hz16:(bts L).length=(bts z16).toArray.size:=by rw[A5,HLl.out];rfl
 go_upto_region 5 with(refine wpList_store_row (by rfl) 115 (.tmp 9) (.tmp 24) (by rfl) w4.heap.size (bts L).toArray (by rfl) (by rfl) _ _ (A4 (w:=w4) (.cells (bts z16).toArray 115)) hikV (by rw[List.size_toArray,List.size_toArray,A5,A5,HLl.out];rfl) hone ?_)
 rw[Au9,← hvb,← hw5];have q1:=((hu5.block _ (Nat.lt_of_lt_of_le (A3 Q2.out) hu4.size) (by simp)).trans (hu4.block _ (A3 Q2.out) (λ q=>HNS.out _ (by have:=HB.out;omega) (g.mem _ q)))).trans Q2.out;have HKP:=η (HP.out w5);unfold arr at HKP;have H5:=η (h4.below hu5);have HU5:=η ((((HU2.out.mono (by simp)).trans HU3.out).trans hu4).trans (hu5.mono (by simp)));have QB:=η q1;have HB5:=η hb5;clear h4 hu4 hvb hw5 hbz hb5 hu5 hz16 q1 hone;go_upto_region 5 with(fail)
 go_wp2_with (refine wpList_load_row (by rfl) 115 (.tmp 9) (by rfl) vb (by rfl) _ _ _ _ HB5.out Tryz.underlying115 rfl hikV ?_)
 refine HKP.out.mono ?_;rintro e w6 ⟨rfl,hu6⟩;have q6:=(hu6.block _ (A3 QB.out) (by simp)).trans QB.out;have r0:w6.cell? ⟨pb,0,none⟩=some (.int .i64 0):=by rw[A2 q6];rfl
 have r1:w6.cell? ⟨pb,1,none⟩=some (.int .i64 0):=by rw[A2 q6];rfl
 have r2:w6.cell? ⟨pb,2,none⟩=some (.int .i64 0):=by rw[A2 q6];rfl
 have f0:=B6 q6 0;have f1:=B6 q6 1;have f2:=B6 q6 2;have Q6:=η q6;have H6:=η (H5.out.below hu6);have HU6:=η (HU5.out.trans (hu6.mono (by simp)));clear hu6 q6;unfold plV;go_wp2_with fail
 refine bodyPost_ret (Ca3 (p:=5) (u:=4) (v:=6) (by rfl) _ _ pb (.int .i64 (P.1:Int)) (.int .i64 (P.2.1:Int)) (.int .i64 (P.2.2:Int)) (by rfl) (A8 (A8 (A8 Q6.out 0 _) 1 _) 2 _)) (by rfl) ?_;have hu7:Upd [pb] w6 (((w6.setCell ⟨pb,0,none⟩ (.int .i64 (P.1:Int))).setCell ⟨pb,1,none⟩ (.int .i64 (P.2.1:Int))).setCell ⟨pb,2,none⟩ (.int .i64 (P.2.2:Int))):=(Upd.refl _ _).three _ _ _ (.inl (List.mem_singleton.2 rfl));exact⟨rfl,H6.out.res HLT.out (by have:=HB.out;omega) Q6.out (by decide) hu7,HU6.out.late hu7 (λ i hi=> .inr (by simp at hi;have:=HB.out;omega))⟩
theorem Ca4{w:World}{g:Sg}{M:Nat->Option Sec}(h:B7 w g M)(hh:1<g.h){S:List Nat}{R:List Rc}(ht:X3 (g.cur M) (g.R M 0) (R.map Rc.ent) S)(hS:∀s,s∈S->4<=s/\s<g.h)(hl:R.length<490)(key:Bs)(hkey:key.length=32)(hb:∀x,x∈R->x.n<=100000/\x.at_<=100000/\x.len<=100000) :
  Calls Tryz.prog 81 #[.pointer (some ⟨g.x.tb,0,none⟩),arr key] w λ e w'=>e=.returned (.tuple #[.int .u32 (g.R M 0:Int),plV (Ag5 (J0 R key)),.int .i64 (Ax6 (J0 R key))])/\B7 w' g M/\Upd g.S w w':=
 (Bt1 h hh ht hS hl key hkey hb).mono λ e w' ⟨e1,e2,e3⟩=>⟨e1,e2,e3.mono g.mem⟩
def Bt2:List (Nat × Nat):=[(0,12),(1,13),(2,14),(3,15),(4,16)]
def Db2(tb:Nat)(r:Nat)(key v:List UInt8)(x:Nat × Nat × Nat):Nat->Kd
 | 0=> .c (.pointer (some ⟨tb,0,none⟩))
 | 1=> .c (.int .u32 (r:Int))
 | 2=> .c (.agg (bts key).toArray)
 | 3=> .c (.agg #[.int .i64 (x.1:Int),.int .i64 (x.2.1:Int),.int .i64 (x.2.2:Int)])
 | 4=> .c (.agg (bts v).toArray)
 | _=> .c undef
theorem Cp0(tb:Nat)(r:Nat)(key v:List UInt8)(x:Nat × Nat × Nat):∀k,(Db2 tb r key v x k).lasts:=by
 intro k;unfold Db2;split<;>first | trivial
def Bd9:List (Nat × Nat):=[(6,11),(7,18),(8,19),(9,9),(10,10)]
def Db3(r2:Nat):Nat->Kd
 | 6=> .c (.tuple #[.int .u32 (r2:Int),.int .i64 0])
 | 7=> .c (.int .u32 (r2:Int))
 | 8=> .c (.int .i64 0)
 | 9=> .c (.int .u32 (r2:Int))
 | 10=> .c (.int .i64 0)
 | _=> .c undef
theorem Cp1(r2:Nat):∀k,(Db3 r2 k).lasts:=by
 intro k;unfold Db3;split<;>first | trivial
def Ba2(g:Sg)(M M':Nat->Option Sec)(r:Nat)(L:List C0)(S:List Nat)(key v:Bs):Prop:=
 ∃M1 r2,V2 g M M1 r r2 L S key v 7/\(∃W,B7 W g M1)/\((r2=r/\M'=M1)∨(r2≠r/\M'=Bv7 M1 (put (g.cur M1 0) (4*0) 4 r2)))
theorem Bj6{w:World}{g:Sg}{M:Nat->Option Sec}(h:B7 w g M)(hh:20<=g.h)(r:Nat)(L:List C0)(S:List Nat)(key:Bs)(hkl:key.length=32)(n a l:Nat)(hn:n<=100000)(ha:a<=100000)(hl:l<=100000)
  (hput:∀W,B7 W g M->Calls Tryz.prog 58 #[.pointer (some ⟨g.x.tb,0,none⟩),.int .u32 (r:Int),arr key,arr (L4 n a l)] W λ e w'=>∃M' r',e=.returned (.tuple #[.int .u32 ((r':Nat):Int),.int .i64 0])/\V2 g M M' r r' L S key (L4 n a l) 7/\B7 w' g M'/\Upd g.S W w')
  (hroot:∀M' r',V2 g M M' r r' L S key (L4 n a l) 7->MOk M' g.h->E1 M' g.h<40) :
  Calls Tryz.prog 84 #[.pointer (some ⟨g.x.tb,0,none⟩),.int .u32 (r:Int),arr key,plV (n,a,l)] w λ e w'=>∃M',e=.returned (.int .i64 0)/\Ba2 g M M' r L S key (L4 n a l)/\B7 w' g M'/\Upd g.S w w':=by
 have hlt:=h.lt;obtain⟨kb,hkb⟩:∃b,b=w.heap.size:=⟨_,rfl⟩;obtain⟨pb,hpb⟩:∃b,b=w.heap.size+1:=⟨_,rfl⟩;obtain⟨w1,hw1⟩:∃w1,w1=(w.alloc (.cells (bts key).toArray 35)).alloc (.cells #[.int .i64 (n:Int),.int .i64 (a:Int),.int .i64 (l:Int)] 92):=⟨_,rfl⟩;have hu1:Upd [] w w1:=by rw[hw1];exact((Upd.refl _ _).alloc _).alloc _
 have k6:w1.heap[kb]?=some (.cells (bts key).toArray 35 (0,0)):=by rw[hw1,hkb,A6 (by simp)];exact A4 _
 have k7:w1.heap[pb]?=some (.cells #[.int .i64 (n:Int),.int .i64 (a:Int),.int .i64 (l:Int)] 92 (0,0)):=by
  rw[hw1,hpb];have:=A4 (w:=w.alloc (.cells (bts key).toArray 35)) (.cells #[.int .i64 (n:Int),.int .i64 (a:Int),.int .i64 (l:Int)] 92);simpa using this
 have hik:(Tryz.prog.info? 35).map (·.size)=some (bts key).toArray.size:=by rw[List.size_toArray,A5,hkl];exact Af0
 have hpt:∀W,Upd [] w1 W->Calls Tryz.prog 58 #[.pointer (some ⟨g.x.tb,0,none⟩),.int .u32 (r:Int),.agg (bts key).toArray,.agg (bts (L4 n a l)).toArray] W λ e w'=>∃M' r',e=.returned (.tuple #[.int .u32 ((r':Nat):Int),.int .i64 0])/\V2 g M M' r r' L S key (L4 n a l) 7/\B7 w' g M'/\Upd g.S W w':=λ W hW=>hput W (h.below (hu1.trans hW));have HPT:Hid (∀W,Upd [] w1 W->Calls Tryz.prog 58 #[.pointer (some ⟨g.x.tb,0,none⟩),.int .u32 (r:Int),.agg (bts key).toArray,.agg (bts (L4 n a l)).toArray] W λ e w'=>∃M' r',e=.returned (.tuple #[.int .u32 ((r':Nat):Int),.int .i64 0])/\V2 g M M' r r' L S key (L4 n a l) 7/\B7 w' g M'/\Upd g.S W w'):=η hpt;have hvl:=λ W=>Co8 n a l hn ha hl W;unfold arr plV at hvl;have HVL:Hid (∀W,Calls Tryz.prog 171 #[.agg #[.int .i64 (n:Int),.int .i64 (a:Int),.int .i64 (l:Int)]] W λ e w'=>e=.returned (.agg (bts (L4 n a l)).toArray)/\Upd [] W w'):=η hvl;have HRT:=η hroot;have HW:=η hw1;have HB:=η (And.intro hkb hpb);have HU1:=η hu1;have H6:=η k6;have H7:=η k7;have HLT:=η hlt;clear hpt hvl hroot hw1 hkb hpb hu1 k6 k7 hlt hput h;unfold arr plV;dsimp only;go_enter Tryz.func84,Tryz.ntmps84
 go_upto_region 1 with(fail)
 have hw1:=HW.out;obtain⟨hkb,hpb⟩:=HB.out;rw[← hw1,← hpb,← hkb];clear hw1 hkb hpb;refine Ak6 5 Bt2 (Db2 g.x.tb r key (L4 n a l) (n,a,l)) (by kernel_rfl) (by kernel_rfl) (by kernel_rfl) (by decide) 31 rfl rfl ?_ ?_
 ·intro i o L tmps w' hi ho hI hL hd;have t0:tmps[0]?.getD undef=.pointer (some ⟨g.x.tb,0,none⟩):=(hI.old 0 (by rfl)).trans rfl;have t1:tmps[1]?.getD undef=.int .u32 (r:Int):=(hI.old 1 (by rfl)).trans rfl;have t6:tmps[6]?.getD undef=.pointer (some ⟨kb,0,none⟩):=(hI.old 6 (by rfl)).trans rfl;have t7:tmps[7]?.getD undef=.pointer (some ⟨pb,0,none⟩):=(hI.old 7 (by rfl)).trans rfl;have hgw:=hI.gw;have q6:=(hgw.block _ (A3 H6.out) (by simp)).trans H6.out;have q7:=(hgw.block _ (A3 H7.out) (by simp)).trans H7.out;have m0:w'.cell? ⟨pb,0,none⟩=some (.int .i64 (n:Int)):=by rw[A2 q7];rfl
  have m1:w'.cell? ⟨pb,1,none⟩=some (.int .i64 (a:Int)):=by rw[A2 q7];rfl
  have m2:w'.cell? ⟨pb,2,none⟩=some (.int .i64 (l:Int)):=by rw[A2 q7];rfl
  have Q6:=η q6;clear q6 q7;obtain rfl | rfl | rfl | rfl | rfl:i=0∨i=1∨i=2∨i=3∨i=4:=by omega
  ·cases ho
   refine wpOp_step rfl (λ K hK=>?_);go_simp;exact hK _ _ (hI.ustep (Cp0 g.x.tb r key (L4 n a l) (n,a,l)) 0 12 (.pointer (some ⟨g.x.tb,0,none⟩)) (by decide) (by kernel_rfl) (Upd.refl _ _) (rfl))
  ·cases ho
   refine wpOp_step rfl (λ K hK=>?_);go_simp;exact hK _ _ (hI.ustep (Cp0 g.x.tb r key (L4 n a l) (n,a,l)) 1 13 (.int .u32 (r:Int)) (by decide) (by kernel_rfl) (Upd.refl _ _) (rfl))
  ·cases ho
   refine wpOp_step rfl (λ K hK=>?_);rw[if_pos (by rfl)];refine wp_load_row 35 (.tmp 6) rfl kb (by simpa [Act.eval] using t6) _ _ _ _ Q6.out Tryz.underlying35 rfl hik ?_;exact hK _ _ (hI.ustep (Cp0 g.x.tb r key (L4 n a l) (n,a,l)) 2 14 (.agg (bts key).toArray) (by decide) (by kernel_rfl) (Upd.refl _ _) (rfl))
  ·cases ho
   refine wpOp_step rfl (λ K hK=>?_);go_simp;exact hK _ _ (hI.ustep (Cp0 g.x.tb r key (L4 n a l) (n,a,l)) 3 15 (.agg #[.int .i64 (n:Int),.int .i64 (a:Int),.int .i64 (l:Int)]) (by decide) (by kernel_rfl) (Upd.refl _ _) (rfl))
  ·cases ho
   have t15:tmps[15]?.getD undef=.agg #[.int .i64 (n:Int),.int .i64 (a:Int),.int .i64 (l:Int)]:=hI.val (3,15) (by simp[Bt2]) (hd ⟨3,.data⟩ (by simp) rfl);refine wpOp_step rfl (λ K hK=>?_);go_simp;go_at_call 171
   refine(HVL.out w').mono ?_;rintro e w2 ⟨rfl,hu⟩;exact hK _ _ (hI.ustep (Cp0 g.x.tb r key (L4 n a l) (n,a,l)) 4 16 (.agg (bts (L4 n a l)).toArray) (by decide) (by kernel_rfl) hu (rfl))
 ·intro L tmps w' hI hall;have hat:=hI.tmps_eq rfl [(12,.pointer (some ⟨g.x.tb,0,none⟩)),(13,.int .u32 (r:Int)),(14,.agg (bts key).toArray),(15,.agg #[.int .i64 (n:Int),.int .i64 (a:Int),.int .i64 (l:Int)]),(16,.agg (bts (L4 n a l)).toArray)] (λ j hj=>by simp[Bt2] at hj ⊢;simp[hj]) (by
   intro p hp;simp only[List.mem_cons,List.not_mem_nil,or_false] at hp;rcases hp with rfl | rfl | rfl | rfl | rfl
   ·exact hI.val (0,12) (by simp[Bt2]) (hall 0 (by decide))
   ·exact hI.val (1,13) (by simp[Bt2]) (hall 1 (by decide))
   ·exact hI.val (2,14) (by simp[Bt2]) (hall 2 (by decide))
   ·exact hI.val (3,15) (by simp[Bt2]) (hall 3 (by decide))
   ·exact hI.val (4,16) (by simp[Bt2]) (hall 4 (by decide)))
  have hgw:=hI.gw;clear hI hall;try dsimp only at hat
  simp only[Af6,αs,αz,αc] at hat;subst hat;refine wpOp_step rfl (λ K hK=>?_);go_simp;go_at_call 58
  refine(HPT.out w' hgw).mono ?_;rintro e w2 ⟨M',r2,rfl,hpt,h2,hu2⟩;refine hK _ _ ?_;clear hK K;try simp only[Act.put,αs,αz,αc]
  refine Cp5 Bd9 (Db3 r2) (by kernel_rfl) (by kernel_rfl) 31 rfl rfl ?_ ?_
  ·intro i o L tmps w' hi ho hI hL hd;have hi2:i<11:=(Array.getElem?_eq_some_iff.1 ho).1;have t17:tmps[17]?.getD undef=.tuple #[.int .u32 (r2:Int),.int .i64 0]:=(hI.old 17 (by rfl)).trans rfl;have hgw2:=hI.gw;obtain rfl | rfl | rfl | rfl | rfl:i=6∨i=7∨i=8∨i=9∨i=10:=by omega
   ·cases ho
    refine wpOp_step rfl (λ K hK=>?_);go_simp;exact hK _ _ (hI.ustep (Cp1 r2) 6 11 (.tuple #[.int .u32 (r2:Int),.int .i64 0]) (by decide) (by kernel_rfl) (Upd.refl _ _) (rfl))
   ·cases ho
    have t11:tmps[11]?.getD undef=.tuple #[.int .u32 (r2:Int),.int .i64 0]:=hI.val (6,11) (by simp[Bd9]) (hd ⟨6,.data⟩ (by simp) rfl);refine wpOp_step rfl (λ K hK=>?_);go_simp;exact hK _ _ (hI.ustep (Cp1 r2) 7 18 (.int .u32 (r2:Int)) (by decide) (by kernel_rfl) (Upd.refl _ _) (rfl))
   ·cases ho
    have t11:tmps[11]?.getD undef=.tuple #[.int .u32 (r2:Int),.int .i64 0]:=hI.val (6,11) (by simp[Bd9]) (hd ⟨6,.data⟩ (by simp) rfl);refine wpOp_step rfl (λ K hK=>?_);go_simp;exact hK _ _ (hI.ustep (Cp1 r2) 8 19 (.int .i64 0) (by decide) (by kernel_rfl) (Upd.refl _ _) (rfl))
   ·cases ho
    have t18:tmps[18]?.getD undef=.int .u32 (r2:Int):=hI.val (7,18) (by simp[Bd9]) (hd ⟨7,.data⟩ (by simp) rfl);refine wpOp_step rfl (λ K hK=>?_);go_simp;exact hK _ _ (hI.ustep (Cp1 r2) 9 9 (.int .u32 (r2:Int)) (by decide) (by kernel_rfl) (Upd.refl _ _) (rfl))
   ·cases ho
    have t19:tmps[19]?.getD undef=.int .i64 0:=hI.val (8,19) (by simp[Bd9]) (hd ⟨8,.data⟩ (by simp) rfl);refine wpOp_step rfl (λ K hK=>?_);go_simp;exact hK _ _ (hI.ustep (Cp1 r2) 10 10 (.int .i64 0) (by decide) (by kernel_rfl) (Upd.refl _ _) (rfl))
  ·intro L tmps w5 hI hall;have hat:=hI.tmps_eq rfl [(11,.tuple #[.int .u32 (r2:Int),.int .i64 0]),(18,.int .u32 (r2:Int)),(19,.int .i64 0),(9,.int .u32 (r2:Int)),(10,.int .i64 0)] (λ j hj=>by simp[Bd9] at hj ⊢;simp[hj]) (by
    intro p hp;simp only[List.mem_cons,List.not_mem_nil,or_false] at hp;rcases hp with rfl | rfl | rfl | rfl | rfl
    ·exact hI.val (6,11) (by simp[Bd9]) (hall 6 (by decide))
    ·exact hI.val (7,18) (by simp[Bd9]) (hall 7 (by decide))
    ·exact hI.val (8,19) (by simp[Bd9]) (hall 8 (by decide))
    ·exact hI.val (9,9) (by simp[Bd9]) (hall 9 (by decide))
    ·exact hI.val (10,10) (by simp[Bd9]) (hall 10 (by decide)))
   have hu5:=hI.gw;clear hI hall;try dsimp only at hat
   simp only[Af6,αs,αz,αc] at hat;rw[hat];clear hat tmps;have h2':=h2.below hu5;have HU6:=η (((HU1.out.mono (by simp)).trans (hgw.mono (by simp))).trans (hu2.trans (hu5.mono (by simp))));have HPU:=η hpt;clear hgw hu2 hu5 h2 hpt;by_cases e:r2=r
   ·subst e;have H2:=η h2';clear h2';go_wp2_with fail
    go_ret;exact⟨M',rfl,⟨M',r2,HPU.out,⟨_,H2.out⟩,.inl ⟨rfl,rfl⟩⟩,H2.out,HU6.out⟩
   ·have he:((r2:Int) == (r:Int))=false:=by rw[beq_eq_false_iff_ne];omega
    have hsr:=Cb7 h2' (by omega) (.inr (HRT.out M' r2 HPU.out h2'.ok)) 0 (by omega) r2;rw[show((0:Nat):Int)=0 from rfl] at hsr;have HSR:=η hsr;have H2:=η h2';clear hsr h2' e;go_wp2_with fail
    refine HSR.out.mono ?_;rintro e w6 ⟨rfl,h6,hu6⟩;have H6':=η h6;have HU7:=η (HU6.out.trans hu6);clear h6 hu6;go_wp2_with fail
    go_ret;exact⟨_,rfl,⟨M',r2,HPU.out,⟨_,H2.out⟩,.inr ⟨by rw[beq_eq_false_iff_ne] at he;omega,rfl⟩⟩,H6'.out,HU7.out⟩
end Go.Proofs.YtgfbepakonjbnaaGreat
end
