/-
  Package keep, plain: a keep whose taken sectors are the first ones; a keep on a journal, and in a transaction.
-/
import Derived.Test.YtgfbepakonjbnaaGreatW21
import Derived.Test.YtgfbepakonjbnaaGreatW22
import Derived.Test.YtgfbepakonjbnaaGreatW11
import Derived.Test.YtgfbepakonjbnaaGreatW20
set_option maxRecDepth 100000
set_option maxHeartbeats 16000000
section
set_option linter.unusedSimpArgs false
set_option linter.unusedVariables false
namespace Go.Proofs.YtgfbepakonjbnaaGreat
open Go.RowKit Go.MapKept Go.ChangeMaps
theorem Ac4{T:Nat->Bool}{F:Nat}(hT:∀i,T i=decide (i<F)):∀h,L8 T h=h-F
 | 0=>by simp[L8]
 | h+1=>by
  unfold L8;rw[Ac4 hT h,hT h];by_cases e:h<F
  ·rw[decide_eq_true e];simp;omega
  ·rw[decide_eq_false e];simp;omega
structure Ai9(S:List Nat)(K:Nat->Option Pk)(T:Nat->Bool)(m:Nat):Prop where
 here:∀n,n<m->∃p,K n=some p
 out:∀n,m<=n->K n=none
 bits:∀i,T i=decide (i<4+S.length+16*m)
theorem Ai9.free{S:List Nat}{K:Nat->Option Pk}{T:Nat->Bool}{m:Nat}(r:Ai9 S K T m)(hm:m<64){l free:Nat}{but:Int}(q:Bf5 K but l 64 free):free=m:=by
 have h2:¬m<free:=λ h=>q.free_first m hm h (r.out m (Nat.le_refl _));have h3:¬free<m:=λ h=>by
  obtain⟨p,hp⟩:=r.here free h;rw[q.free_none (by omega)] at hp;cases hp
 omega
theorem Ai9.add{S:List Nat}{K K':Nat->Option Pk}{T T':Nat->Bool}{m h:Nat}{f:List UInt8}{o:Option (Nat × Nat)}(r:Ai9 S K T m)(hm:m<64)(hh:4+S.length+16*m+16<=h)(a:Ab5 K T h f K' T' o) :
  ∃y,o=some y/\((T'=T/\Ai9 S K' T' m)∨(y.1=m/\(∀n p,K n=some p->8192<p.data.length+f.length)/\Ai9 S K' T' (m+1)/\K'=Ab7 K m (some ⟨4+S.length+16*m,f,f.length⟩))):=by
 cases o with
 | none=>
  exfalso
  obtain⟨free,q,_,_,e | e⟩:=a
  ·have:=r.free hm q;omega
  ·exact e (4+S.length+16*m) (by omega) (λ q _=>by rw[r.bits,decide_eq_false_iff_not];omega)
 | some y=>
  refine⟨y,rfl,?_⟩;rcases a with⟨free,p,_,h1,h2,h3,rfl,rfl⟩ | ⟨st,q,h1,h2,h3,rfl,h4⟩
  ·refine .inl ⟨rfl,λ n hn=>?_,λ n hn=>?_,r.bits⟩
   ·by_cases e:n=y.1
    ·exact⟨_,by rw[e,E2]⟩
    ·rw[F8 _ _ e];exact r.here n hn
   ·have e:n≠y.1:=λ e=>by rw[← e,r.out n hn] at h2;cases h2
    rw[F8 _ _ e];exact r.out n hn
  ·have hy:=r.free hm q;have hst:st=4+S.length+16*m:=by
    obtain⟨_,a2,a3⟩:=h3;have b1:¬st<4+S.length+16*m:=λ hlt=>by
     have:=a2 0 (by omega);rw[r.bits,decide_eq_false_iff_not] at this;omega
    have b2:¬4+S.length+16*m<st:=λ hlt=>a3 _ hlt λ q _=>by rw[r.bits,decide_eq_false_iff_not];omega
    omega
   refine .inr ⟨hy,λ n p hp=>?_,⟨λ n hn=>?_,λ n hn=>?_,λ i=>?_⟩,by rw[hy,hst]⟩
   ·have hlt:n<64:=by
     rcases Nat.lt_or_ge n m with e | e
     ·omega
     ·rw[r.out n e] at hp;cases hp
    rcases Nat.lt_or_ge 8192 (p.data.length+f.length) with e | e
    ·exact e
    ·exact absurd ⟨by omega,p,hp,e⟩ (q.first n hlt)
   ·by_cases e:n=y.1
    ·exact⟨_,by rw[e,E2]⟩
    ·rw[F8 _ _ e];exact r.here n (by omega)
   ·rw[F8 _ _ (by omega)];exact r.out n (by omega)
   ·rw[h4 i,hst,r.bits i];by_cases e:4+S.length+16*m<=i/\i<4+S.length+16*m+16
    ·rw[if_pos e,decide_eq_true (by omega)]
    ·rw[if_neg e];exact decide_eq_decide.2 (by omega)
theorem Ai9.put{g:Sg}{M M':Nat->Option Sec}{S S':List Nat}{K:Nat->Option Pk}{m n k:Nat}(r:Ai9 S K (g.T M) m)(hF:4+S.length+16*m<=g.h)(hs:∀s,s∈S'->s<g.h)(hG:P5 g M M' S S' n k):Ai9 S' K (g.T M') m:=by
 obtain⟨F,hp⟩:=hG.pre ⟨_,r.bits⟩;have hFh:F<=g.h:=by
  rcases Nat.lt_or_ge g.h F with e | e
  ·exfalso
   have h1:=hp g.h;rw[decide_eq_true e,hG.T,r.bits,decide_eq_false (by omega),Bool.false_or,decide_eq_true_iff] at h1;have:=hs _ h1;omega
  ·exact e
 have h1:=hG.left;rw[Ac4 hp,Ac4 r.bits] at h1;refine⟨r.here,r.out,λ i=>?_⟩;rw[hp i];exact decide_eq_decide.2 (by omega)
def KpH(H:Nat->Sec)(h:Nat)(S:List Nat)(K:Nat->Option Pk)(R:List Rc):Prop:=KpM H h (λ i=>Y5 (T6 (H 1)) i) (num (H 0) 0 4) S K R R/\Ao6 R
def Cb4(W:World)(j:JG)(n ring:Nat)(b:Int)(H:Nat->Sec)(S:List Nat)(K:Nat->Option Pk)(R:List Rc):Prop:=Cj7 W j n ring b H/\KpH H (n-2-ring) S K R
structure Ba3(w W:World)(j:JG)(n ring:Nat)(b:Int)(g:Sg)(M:Nat->Option Sec)(S:List Nat)(K:Nat->Option Pk)(R:List Rc):Prop where
 tx:∃w0,TxP w0 j n ring b g.H g/\w.heap.size<=w0.heap.size
 sp:B9 W g M
 kp:Av5 g M S K R
 upd:Upd [] w W
theorem Ba3.S{w W:World}{j:JG}{n ring:Nat}{b:Int}{g:Sg}{M:Nat->Option Sec}{S:List Nat}{K:Nat->Option Pk}{R:List Rc}(h:Ba3 w W j n ring b g M S K R)(hj:∀k,k∈j.all->w.heap.size<=k):(∀k,k∈g.S->w.heap.size<=k)/\w.heap.size<=g.x.tb:=by
 obtain⟨w0,ht,hw⟩:=h.tx;refine⟨λ k hk=>?_,Nat.le_trans hw ht.tb⟩;rcases ht.S k hk with q | q
 ·exact hj k q
 ·omega
theorem Ba3.h{w W:World}{j:JG}{n ring:Nat}{b:Int}{g:Sg}{M:Nat->Option Sec}{S:List Nat}{K:Nat->Option Pk}{R:List Rc}(h:Ba3 w W j n ring b g M S K R):g.h=n-2-ring:=by
 obtain⟨w0,ht,hw⟩:=h.tx;exact ht.h
theorem Ba3.below{w W W':World}{j:JG}{n ring:Nat}{b:Int}{g:Sg}{M:Nat->Option Sec}{S:List Nat}{K:Nat->Option Pk}{R:List Rc}(h:Ba3 w W j n ring b g M S K R)(hu:Upd [] W W'):Ba3 w W' j n ring b g M S K R:=⟨h.tx,h.sp.below hu,h.kp,h.upd.trans hu⟩
theorem Ba3.commit{w W:World}{j:JG}{n ring:Nat}{b:Int}{g:Sg}{M:Nat->Option Sec}{S:List Nat}{K:Nat->Option Pk}{R:List Rc}(h:Ba3 w W j n ring b g M S K R)(hn:n<=5000)(hb:b<900000)(hc:D9 M g.h<=40)(hr:41<=ring) :
  Calls Tryz.prog 21 #[.pointer (some ⟨g.x.tb,0,none⟩)] W λ e w'=>e=.returned (.int .i64 0)/\Cb4 w' j n ring (b+1) (g.cur M) S K R/\Upd (g.x.tb :: j.all) W w':=by
 obtain⟨w0,ht,hw⟩:=h.tx;refine(Cj8 ht h.sp hn hb hc (by omega)).mono ?_;rintro e w' ⟨rfl,h1,hu⟩;refine⟨rfl,⟨h1,?_,h.kp.sort⟩,hu⟩;have:=h.kp.m;rw[h.h] at this;exact this
theorem Cb4.begin{w W:World}{j:JG}{n ring:Nat}{b:Int}{H:Nat->Sec}{S:List Nat}{K:Nat->Option Pk}{R:List Rc}(h:Cb4 W j n ring b H S K R)(hj:∀k,k∈j.all->w.heap.size<=k)(hu:Upd [] w W) :
  Calls Tryz.prog 18 #[.pointer (some ⟨j.jb,0,none⟩)] W λ e w'=>∃g:Sg,e=.returned (.tuple #[.pointer (some ⟨g.x.tb,0,none⟩),.int .i64 0])/\Ba3 w w' j n ring b g (λ _=>none) S K R/\(∀i,g.T (λ _=>none) i=Y5 (T6 (H 1)) i)/\Upd j.all W w':=by
 obtain⟨hjs,hk,hs⟩:=h;refine(Cr1 hjs).mono ?_;rintro e w' ⟨g,rfl,ht,hsp,hu2⟩;have hH:(g.cur λ _=>none)=H:=by
  funext i
  unfold Sg.cur;rw[ht.H];rfl
 have hgT:(g.T λ _=>none)=λ i=>Y5 (T6 (H 1)) i:=by
  funext i
  show Y5 (T6 ((g.cur λ _=>none) 1)) i=_
  rw[hH]
 refine⟨g,rfl,⟨⟨W,by rw[ht.H];exact ht,hu.size⟩,hsp,⟨?_,hs⟩,Bg3 hu hu2 hj⟩,λ i=>by rw[hgT],hu2⟩;unfold Sg.R;rw[hH,hgT,ht.h];exact hk
theorem Db7(n a l:Nat):Ao9 z16 0 n a l 3=L6 n a l:=rfl
theorem Cb5(s u v:Nat){q:Nat}(hq:q<3)(w:World):(Instr.index 273 (.agg #[.int .i64 (s:Int),.int .i64 (u:Int),.int .i64 (v:Int)]) (.int .i64 (q:Int))).run Tryz.prog w=.ok (.int .i64 (Bl8 s u v q:Int)) w:=by
 obtain rfl | rfl | rfl:q=0∨q=1∨q=2:=by omega
 all_goals kernel_rfl
theorem Av6:(#[.int .u8 0,.int .u8 0,.int .u8 0,.int .u8 0,.int .u8 0,.int .u8 0,.int .u8 0,.int .u8 0,.int .u8 0,.int .u8 0,.int .u8 0,.int .u8 0,.int .u8 0,.int .u8 0,.int .u8 0,.int .u8 0]:Array Value)=(bts z16).toArray:=rfl
theorem An1:(Tryz.prog.info? 115).map (·.size)=some 16:=by kernel_rfl
theorem Bu0{w:World}{b:Nat}{l:List UInt8}{T:TypeId}(h:w.heap[b]?=some (.cells (bts l).toArray T (0,0)))(i:Nat){y:Nat}(hy:y<256):(w.setCell ⟨b,i,none⟩ (.int .u8 (y:Int))).heap[b]?=some (.cells (bts (l.set i (UInt8.ofNat y))).toArray T (0,0)):=by
 rw[A8 h,αs,Cf9 _ _ hy]
theorem Bu1{fn:Func}{p:Tmp}(h:fn.results=#[.cell p 92])(tmps:Array Value)(w:World)(g:Nat)(x y z:Value)
  (hp:tmps.getD p undef=.pointer (some ⟨g,0,none⟩)) (hb:w.heap[g]?=some (.cells #[x,y,z] 92 (0,0))):(results fn tmps).run Tryz.prog w=.ok (.agg #[x,y,z]) w:=
 results_cell_row h tmps w g _ _ _ _ hp hb Tryz.underlying92 rfl (by kernel_rfl)
theorem Cp7(n a l:Nat)(hn:n<=100000)(ha:a<=100000)(hl:l<=100000)(w:World):Calls Tryz.prog 171 #[plV (n,a,l)] w λ e w'=>e=.returned (arr (L6 n a l))/\Upd [] w w':=by
 obtain⟨w3,hw3⟩:∃w3,w3=((w.alloc (.cells #[.int .i64 (n:Int),.int .i64 (a:Int),.int .i64 (l:Int)] 92)).alloc (.cells (bts z16).toArray 115)).alloc (.cells (bts z16).toArray 115):=⟨_,rfl⟩;obtain⟨b1,hb1⟩:∃b,b=w.heap.size:=⟨_,rfl⟩;obtain⟨b2,hb2⟩:∃b,b=w.heap.size+1:=⟨_,rfl⟩;obtain⟨b3,hb3⟩:∃b,b=w.heap.size+1+1:=⟨_,rfl⟩;have hu3:Upd [] w w3:=by rw[hw3];exact(((Upd.refl _ _).alloc _).alloc _).alloc _
 have k1:w3.heap[b1]?=some (.cells #[.int .i64 (n:Int),.int .i64 (a:Int),.int .i64 (l:Int)] 92 (0,0)):=by
  rw[hw3,hb1,A6 (by simp;omega),A6 (by simp)];exact A4 _
 have k2:w3.heap[b2]?=some (.cells (bts z16).toArray 115 (0,0)):=by
  rw[hw3,hb2,A6 (by simp)];have:=A4 (w:=w.alloc (.cells #[.int .i64 (n:Int),.int .i64 (a:Int),.int .i64 (l:Int)] 92)) (.cells (bts z16).toArray 115);simpa using this
 have k3:w3.heap[b3]?=some (.cells (bts z16).toArray 115 (0,0)):=by
  rw[hw3,hb3];have:=A4 (w:=(w.alloc (.cells #[.int .i64 (n:Int),.int .i64 (a:Int),.int .i64 (l:Int)] 92)).alloc (.cells (bts z16).toArray 115)) (.cells (bts z16).toArray 115);simpa using this
 have s0:w3.cell? ⟨b1,0,none⟩=some (.int .i64 (n:Int)):=by rw[A2 k1];rfl
 have s1:w3.cell? ⟨b1,1,none⟩=some (.int .i64 (a:Int)):=by rw[A2 k1];rfl
 have s2:w3.cell? ⟨b1,2,none⟩=some (.int .i64 (l:Int)):=by rw[A2 k1];rfl
 have HW:=η hw3;have HB:=η (And.intro hb1 (And.intro hb2 hb3));have HU3:=η hu3;have HK2:=η k2;have HK3:=η k3;clear hw3 hb1 hb2 hb3 hu3 k1 k2 k3;unfold plV;dsimp only;go_enter Tryz.func171,Tryz.ntmps171
 go_upto_region 2 with(fail)
 have hw3:=HW.out;obtain⟨hb1,hb2,hb3⟩:=HB.out;rw[Av6,← hw3];have e1:w.heap.size+1=b2:=hb2.symm;have e2:w.heap.size+1+1=b3:=hb3.symm;rw[e2,e1,← hb1];clear hw3 hb1 hb2 hb3 e1 e2;go_wp2_with fail
 go_loopw [14] (λ i wr=>∃q:Nat,q<=3/\i=.int .i64 (q:Int)/\wr.heap[b3]?=some (.cells (bts (Ao9 z16 0 n a l q)).toArray 115 (0,0))/\Upd [b3] w3 wr) (λ i _=>3-(intOf i).toNat)
 case atStart=>exact⟨0,by omega,rfl,HK3.out,Upd.refl _ _⟩
 case round=>
  clear s0 s1 s2;obtain⟨q,hq,rfl,hb,hu⟩:=hrel;have hlq:(Ao9 z16 0 n a l q).length=16:=Aj0 (by decide) _ (by omega);by_cases hlt:q<3
  ·have hlt':decide ((q:Int)<3)=true:=decide_eq_true (by omega);have hix:=Cb5 n a l hlt;have hV:=Bv4 (q:=q) hn ha hl;have hstq:=Aq1 z16 0 n a l (q:=q) (by omega);obtain⟨V,hVe⟩:∃V,V=Bl8 n a l q:=⟨_,rfl⟩;rw[← hVe] at hix hV hstq;obtain⟨A,hA⟩:∃A,A=0+4*q:=⟨_,rfl⟩;rw[← hA] at hstq;generalize Ao9 z16 0 n a l q=LQ at hb hstq hlq;have eA:4*(q:Int)=(A:Int):=by omega
   have hA4:A+4<=16:=by omega
   have HB:=η hb;have HU:=η hu;have HSQ:=η hstq;obtain⟨wo,rfl⟩:∃wo:World,wo=wr:=⟨_,rfl⟩;clear hb hu hA hstq hVe;go_wp2_with fail
   go_loopw [18] (λ i wr=>∃p:Nat,p<=4/\i=.int .i64 (p:Int)/\wr.heap[b3]?=some (.cells (bts (Ai1 LQ A 4 V p)).toArray 115 (0,0))/\Upd [b3] w3 wr) (λ i _=>4-(intOf i).toNat)
   case atStart=>exact⟨0,by omega,rfl,by rw[Ag4];exact HB.out,HU.out⟩
   case round=>
    obtain⟨p,hp,rfl,hb,hu2⟩:=hrel;by_cases hpt:p<4
    ·have hpt':decide ((p:Int)<4)=true:=decide_eq_true (by omega);have hlen:(Ai1 LQ A 4 V p).length=16:=by rw[Ab0 (by omega) (by omega)];exact hlq
     have hst:=Ag6 (b:=LQ) (a:=A) (n:=4) (v:=V) hpt (by omega);obtain⟨I,hI⟩:∃I,I=A+p:=⟨_,rfl⟩;have hIk:(A:Int)+(p:Int)=(I:Int):=by omega
     have hI16:I<16:=by omega
     obtain⟨Y,hY⟩:∃Y,Y=V / 256 ^ (4-1-p) % 256:=⟨_,rfl⟩;obtain⟨old,hcl⟩:∃old,wr.cell? ⟨b3,I,none⟩=some old:=⟨_,by rw[A2 hb];exact Array.getElem?_eq_getElem (by rw[List.size_toArray,A5];omega)⟩;have hf:=B7 hb I;have o2:=Bu0 hb I (y:=Y) (by omega);have eY:UInt8.ofNat Y=UInt8.ofNat (V / 256 ^ (4-1-p)):=by
      apply UInt8.toNat_inj.1;rw[UInt8.toNat_ofNat',UInt8.toNat_ofNat',hY];omega
     rw[eY,hI,hst,← hI] at o2;have u2:Upd [b3] wr (wr.setCell ⟨b3,I,none⟩ (.int .u8 (Y:Int))):=(Upd.refl _ _).set _ (by simp);have HO2:=η o2;have HUx:=η (hu2.trans u2);have i0:(0:Int)<=(I:Int):=by omega
     have i1:(I:Int)<16:=by omega
     have t0:decide ((24:Int)-8*(p:Int)<0)=false:=decide_eq_false (by omega);have hsh:(0:Int)<=24-8*(p:Int):=by omega
     have hsh2:24-8*(p:Int)<=24:=by omega
     have hYI:(V:Int) / 2 ^ (24-8*p) % 256=(Y:Int):=by
      have e1:(2:Int) ^ (24-8*p)=((256 ^ (4-1-p):Nat):Int):=by
       rw[show(256:Nat)=2 ^ 8 from rfl,← Nat.pow_mul,Int.natCast_pow,show 24-8*p=8*(4-1-p) from by omega];rfl
      rw[e1,hY];omega
     have HYI:=η hYI;clear hb hu2 hlen hst hI eY o2 u2 hYI hY;go_wp2_with fail
     exact⟨⟨p+1,by omega,by go_num,by rw[HYI.out];exact HO2.out,by rw[HYI.out];exact HUx.out⟩,by simp[intOf];omega⟩
    ·obtain rfl:p=4:=by omega
     have hpt':decide (((4:Nat):Int)<4)=false:=rfl;rw[Ag5,HSQ.out] at hb;have HO2:=η hb;have HU3:=η hu2;clear hb hu2;go_wp2_with fail
     refine⟨⟨q+1,by omega,by go_num,HO2.out,HU3.out⟩,by simp[intOf];omega⟩
  ·obtain rfl:q=3:=by omega
   have hlt':decide (((3:Nat):Int)<3)=false:=rfl;rw[Db7] at hb;obtain⟨_,hb2,hb3⟩:=HB.out;have h2:=(hu.block b2 (A3 HK2.out) (by simp;omega)).trans HK2.out;have hik:(Tryz.prog.info? 115).map (·.size)=some (bts (L6 n a l)).toArray.size:=by rw[List.size_toArray,A5,U6];exact An1
   have hik2:(Tryz.prog.info? 115).map (·.size)=some (bts z16).toArray.size:=An1;have hu4:Upd [b2] wr (wr.setRow b2 (bts (L6 n a l)).toArray):=J6 (Upd.refl _ _) _ (.inl (by simp));have HU4:=η ((HU3.out.late hu (λ i hi=> .inr (by simp at hi;omega))).late hu4 (λ i hi=> .inr (by simp at hi;omega)));have HB3:=η hb;have HB2:=η h2;have hone:=At5 (L6 n a l);clear hb hu h2 hu4 hb2 hb3;go_wp2_with (first | (refine wpList_load_row (by rfl) 115 (.tmp 3) (by rfl) b3 (by rfl) _ _ _ _ HB3.out Tryz.underlying115 rfl hik ?_) | (refine wpList_store_row (by rfl) 115 (.tmp 2) (.tmp 36) (by rfl) b2 (bts (L6 n a l)).toArray (by rfl) (by rfl) _ _ HB2.out hik (by rw[List.size_toArray,List.size_toArray,A5,A5,U6];rfl) hone ?_))
   refine bodyPost_ret (results_cell_row (p:=2) (ty:=115) (by rfl) _ _ b2 _ _ _ _ (by rfl) (setRow_heap _ _ _ _ _ _ HB2.out) Tryz.underlying115 rfl hik) (by rfl) ?_;exact⟨rfl,HU4.out⟩
theorem Ay5(L:Bs)(hL:L.length=16)(w:World):Calls Tryz.prog 90 #[arr L] w λ e w'=>e=.returned (plV (num L 0 4,num L 4 4,num L 8 4))/\Upd [] w w':=by
 obtain⟨w3,hw3⟩:∃w3,w3=((w.alloc (.cells (bts L).toArray 115)).alloc (.cells #[.int .i64 0,.int .i64 0,.int .i64 0] 92)).alloc (.cells #[.int .i64 0,.int .i64 0,.int .i64 0] 273):=⟨_,rfl⟩;obtain⟨b1,hb1⟩:∃b,b=w.heap.size:=⟨_,rfl⟩;obtain⟨b2,hb2⟩:∃b,b=w.heap.size+1:=⟨_,rfl⟩;obtain⟨b3,hb3⟩:∃b,b=w.heap.size+1+1:=⟨_,rfl⟩;have hu3:Upd [] w w3:=by rw[hw3];exact(((Upd.refl _ _).alloc _).alloc _).alloc _
 have k1:w3.heap[b1]?=some (.cells (bts L).toArray 115 (0,0)):=by
  rw[hw3,hb1,A6 (by simp;omega),A6 (by simp)];exact A4 _
 have k2:w3.heap[b2]?=some (.cells #[.int .i64 0,.int .i64 0,.int .i64 0] 92 (0,0)):=by
  rw[hw3,hb2,A6 (by simp)];have:=A4 (w:=w.alloc (.cells (bts L).toArray 115)) (.cells #[.int .i64 0,.int .i64 0,.int .i64 0] 92);simpa using this
 have k3:w3.heap[b3]?=some (.cells (v3 L 0 0).toArray 273 (0,0)):=by
  rw[hw3,hb3];have:=A4 (w:=(w.alloc (.cells (bts L).toArray 115)).alloc (.cells #[.int .i64 0,.int .i64 0,.int .i64 0] 92)) (.cells #[.int .i64 0,.int .i64 0,.int .i64 0] 273);rw[show(v3 L 0 0).toArray=#[.int .i64 0,.int .i64 0,.int .i64 0] from rfl];simpa using this
 have hrd:Rd w3 (.slice (some ⟨b1,0,none⟩) 16 16) L:=⟨_,_,by rw[hL],by omega,λ _=>⟨b1,0,rfl,λ i hi=>by rw[A2 k1,Nat.zero_add];unfold bts;rw[List.getElem?_toArray,List.getElem?_map,List.getElem?_eq_getElem hi];rfl⟩⟩;obtain⟨N0,hN0⟩:∃x,x=num L 0 4:=⟨_,rfl⟩;obtain⟨N1,hN1⟩:∃x,x=num L 4 4:=⟨_,rfl⟩;obtain⟨N2,hN2⟩:∃x,x=num L 8 4:=⟨_,rfl⟩;rw[← hN0,← hN1,← hN2];have HN:=η (And.intro hN0 (And.intro hN1 hN2));clear hN0 hN1 hN2;have HW:=η hw3;have HB:=η (And.intro hb1 (And.intro hb2 hb3));have HU3:=η hu3;have HK1:=η k1;have HK2:=η k2;have HK3:=η k3;have HRd:=η hrd;clear hw3 hb1 hb2 hb3 hu3 k1 k2 k3 hrd;unfold arr;go_enter Tryz.func90,Tryz.ntmps90
 go_upto_region 2 with(fail)
 have hw3:=HW.out;obtain⟨hb1,hb2,hb3⟩:=HB.out;rw[← hw3];have e2:w.heap.size+1+1=b3:=hb3.symm;have e1:w.heap.size+1=b2:=hb2.symm;rw[e2,e1,← hb1];clear hw3 hb1 hb2 hb3 e1 e2;go_wp2_with fail
 go_loopw [7] (λ i wr=>∃q:Nat,q<=3/\i=.int .i64 (q:Int)/\wr.heap[b3]?=some (.cells (v3 L 0 q).toArray 273 (0,0))/\Upd [b3] w3 wr) (λ i _=>3-(intOf i).toNat)
 case atStart=>exact⟨0,by omega,rfl,HK3.out,Upd.refl _ _⟩
 case round=>
  obtain⟨q,hq,rfl,hb,hu⟩:=hrel;by_cases hlt:q<3
  ·have hlt':decide ((q:Int)<3)=true:=decide_eq_true (by omega);obtain⟨A,hA⟩:∃A,A=0+4*q:=⟨_,rfl⟩;have hat:=Am9 (.slice (some ⟨b1,0,none⟩) 16 16) L A 4 wr (HRd.out.of_block λ b o c hc=>hu.block b (block_lt_of_cell hc) (by
    simp;rintro rfl;rw[A2 HK3.out] at hc;match o,hc with
    | 0,hc | 1,hc | 2,hc=>simp[v3,bv] at hc
    | k+3,hc=>simp[v3] at hc)) (by omega) (by omega) (by omega) (by omega)
   have hs:=Cq7 L 0 hlt;rw[← hA] at hs;obtain⟨X,hX⟩:∃X,X=num L A 4:=⟨_,rfl⟩;have hXl:X<4294967296:=by rw[hX];exact Ap5 _ _ _
   rw[← hX] at hat hs;rw[show((4:Nat):Int)=4 from rfl] at hat;have st:=A8 (v:=.int .i64 (X:Int)) (o:=q) hb;rw[hs] at st;have eA:4*(q:Int)=(A:Int):=by omega
   have HAT:=η hat;have HST:=η st;have fr:=B7 hb q;have⟨old,hc⟩:∃old,wr.cell? ⟨b3,q,none⟩=some old:=by
    rw[A2 hb];obtain rfl | rfl | rfl:q=0∨q=1∨q=2:=by omega
    all_goals exact⟨_,rfl⟩
   have HU:=η (hu.set (o:=q) (.int .i64 (X:Int)) (.inl (List.mem_singleton.2 rfl)));have eX:IntKind.i64.wrap (X:Int)=(X:Int):=by rw[IntKind.wrap_i64];omega
   have HA:=η hA;clear hat st hs hb hu hX hA;go_wp2_with fail
   refine HAT.out.mono ?_;rintro e w' ⟨rfl,rfl⟩;go_wp2_with fail
   refine⟨⟨q+1,by omega,by go_num,HST.out,HU.out⟩,by simp[intOf];omega⟩
  ·obtain rfl:q=3:=by omega
   have hlt':decide (((3:Nat):Int)<3)=false:=rfl;obtain⟨hb1,hb2,hb3⟩:=HB.out;have h2:=(hu.block b2 (A3 HK2.out) (by simp;omega)).trans HK2.out;have c0:wr.cell? ⟨b3,0,none⟩=some (.int .i64 (num L 0 4:Int)):=by rw[A2 hb];rfl
   have c1:wr.cell? ⟨b3,1,none⟩=some (.int .i64 (num L 4 4:Int)):=by rw[A2 hb];rfl
   have c2:wr.cell? ⟨b3,2,none⟩=some (.int .i64 (num L 8 4:Int)):=by rw[A2 hb];rfl
   have d0:wr.cell? ⟨b2,0,none⟩=some (.int .i64 0):=by rw[A2 h2];rfl
   have d1:wr.cell? ⟨b2,1,none⟩=some (.int .i64 0):=by rw[A2 h2];rfl
   have d2:wr.cell? ⟨b2,2,none⟩=some (.int .i64 0):=by rw[A2 h2];rfl
   have f0:=B7 h2 0;have f1:=B7 h2 1;have f2:=B7 h2 2;obtain⟨hN0,hN1,hN2⟩:=HN.out;rw[← hN0] at c0;rw[← hN1] at c1;rw[← hN2] at c2;have HU2:=η (HU3.out.late hu (λ i hi=> .inr (by simp at hi;omega)));have H2:=η h2;have HB2:Hid (w.heap.size<=b2):=by show _<=_;omega
   clear hb hu h2 hb1 hb2 hb3 hN0 hN1 hN2;go_wp2_with fail
   refine bodyPost_ret (Bu1 (p:=2) (by rfl) _ _ b2 (.int .i64 (N0:Int)) (.int .i64 (N1:Int)) (.int .i64 (N2:Int)) (by rfl) (A8 (A8 (A8 H2.out 0 _) 1 _) 2 _)) (by rfl) ?_;exact⟨rfl,HU2.out.late ((Upd.refl [b2] _).three _ _ _ (.inl (List.mem_singleton.2 rfl))) (λ i hi=> .inr (by simp at hi;have:=HB2.out;omega))⟩
section
section
variable {P:Program} {ops:Array Oper} {Q:Exit->Act->World->Prop}
def Cq3(P:Program)(ops:Array Oper)(Q:Exit->Act->World->Prop)(c:Nat)(a1:Act)(w1:World):Prop:=
 ∃J:(Nat->Bool)->Act->World->Prop,(∀L,(∀i,i<ops.size->L i=decide (i<=c))->J L a1 w1)/\
  (∀i o L a w,c<i->ops[i]?=some o->J L a w->L i=false->(∀e∈o.after,Region.binds .any e=true->L e.on=true)->O0 .any ops L->wpOp P ops Q i (λ a' w'=>J (upL L i) a' w') a w)/\
  (∀L a w,J L a w->(∀i,i<ops.size->L i=true)->Q .normal a w)
def De8(ops:Array Oper)(c:Nat):Bool:=(List.range ops.size).all λ i=>if i<c then Ag1 .any ops i ops.size c else if c<i then Ag1 .any ops c ops.size i else true
theorem Bi9{id:Nat}{a:Act}{w:World}(c:Nat)(InvA:(Nat->Bool)->Act->World->Prop)(hm:P.follows .mixedOrders=true)(hlow:Bi8 .any ops=true)(hcut:De8 ops c=true)(hc:c<ops.size)(h0:InvA (λ _=>false) a w.drew)
  (hA:∀i o L a w,i<c->ops[i]?=some o->InvA L a w->L i=false->(∀e∈o.after,Region.binds .any e=true->L e.on=true)->O0 .any ops L->wpOp P ops Q i (λ a' w'=>InvA (upL L i) a' w') a w)
  (hC:∀L a w,InvA L a w->(∀i,i<c->L i=true)->wpOp P ops Q c (λ a' w'=>Cq3 P ops Q c a' w') a w):(Code.region id ops true).wp P Q a w:=by
 have hw:∀i,i<ops.size->(i<c->Ag1 .any ops i ops.size c=true)/\(c<i->Ag1 .any ops c ops.size i=true):=λ i hi=>by
  have h1:=(List.all_eq_true.1 hcut) i (List.mem_range.2 hi);refine⟨λ h=>by rw[if_pos h] at h1;exact h1,λ h=>by rw[if_neg (by omega),if_pos h] at h1;exact h1⟩
 refine Ag0 (λ L a' w'=>O0 .any ops L/\((L c=false/\InvA L a' w')∨(L c=true/\∃J:(Nat->Bool)->Act->World->Prop,J L a' w'/\
  (∀i o L a w,c<i->ops[i]?=some o->J L a w->L i=false->(∀e∈o.after,Region.binds .any e=true->L e.on=true)->O0 .any ops L->wpOp P ops Q i (λ a' w'=>J (upL L i) a' w') a w)/\
  (∀L a w,J L a w->(∀i,i<ops.size->L i=true)->Q .normal a w)))) hm ⟨λ j oj _ h=>(by cases h),.inl ⟨rfl,h0⟩⟩ ?_ ?_ hlow
 ·rintro i o L a' w' ho ⟨hcl,hI⟩ hL hd;have hi:=(Array.getElem?_eq_some_iff.1 ho).1;have hup:=hcl.up ho hd;rcases Nat.lt_trichotomy i c with hic | rfl | hic
  ·rcases hI with⟨h1,h2⟩ | ⟨h1,_⟩
   ·exact wpOp_mono (λ a'' w'' h=>⟨hup,.inl ⟨by rw[G5 _ (by omega)];exact h1,h⟩⟩) (hA i o L a' w' hic ho h2 hL hd hcl)
   ·rw[An3 hcl ((hw i hi).1 hic) h1] at hL;cases hL
  ·rcases hI with⟨h1,h2⟩ | ⟨h1,_⟩
   ·have hall:∀k,k<i->L k=true:=λ k hk=>hcl.dep_up ho hd ops.size ((hw k (by omega)).1 hk) (by omega);have hno:∀k,k<ops.size->i<k->L k=false:=λ k hk hik=>hcl.not_up ops.size ((hw k hk).2 hik) hL;refine wpOp_mono (λ a'' w'' h=>⟨hup,.inr ⟨Q7 _ _,?_⟩⟩) (hC L a' w' h2 hall);obtain⟨J,j0,j1,j2⟩:=h;refine⟨J,j0 _ λ k hk=>?_,j1,j2⟩;by_cases e:k=i
    ·subst e;rw[Q7];simp
    ·rw[G5 _ e];rcases Nat.lt_or_ge k i with q | q
     ·rw[hall k q,decide_eq_true (by omega)]
     ·rw[hno k hk (by omega),decide_eq_false (by omega)]
   ·rw[h1] at hL;cases hL
  ·have h1:L c=true:=hcl.dep_up ho hd ops.size ((hw i hi).2 hic) (by omega);rcases hI with⟨h2,_⟩ | ⟨_,J,j0,j1,j2⟩
   ·rw[h1] at h2;cases h2
   ·exact wpOp_mono (λ a'' w'' h=>⟨hup,.inr ⟨by rw[G5 _ (by omega)];exact h1,J,h,j1,j2⟩⟩) (j1 i o L a' w' hic ho j0 hL hd hcl)
 ·rintro L a' w' ⟨_,hI⟩ hall;rcases hI with⟨h1,_⟩ | ⟨_,J,j0,_,j2⟩
  ·rw[hall c hc] at h1;cases h1
  ·exact j2 L a' w' j0 hall
theorem Al2{id:Nat}{a:Act}{w:World}(c:Nat)(D:List (Nat × Nat))(kd:Nat->Kd)(hm:P.follows .mixedOrders=true)(hlow:Bi8 .any ops=true)(hcut:De8 ops c=true)(hc:c<ops.size)(n:Nat)(hn:a.tmps.size=n)(hdf:a.defers=[])
  (hA:∀i o L tmps w',i<c->ops[i]?=some o->Aw0 w n a D kd L ⟨tmps,[]⟩ w'->L i=false->(∀e∈o.after,Region.binds .any e=true->L e.on=true)->wpOp P ops Q i (λ a' w'=>Aw0 w n a D kd (upL L i) a' w') ⟨tmps,[]⟩ w')
  (hC:∀L tmps w',Aw0 w n a D kd L ⟨tmps,[]⟩ w'->(∀i,i<c->L i=true)->wpOp P ops Q c (λ a' w'=>Cq3 P ops Q c a' w') ⟨tmps,[]⟩ w'):(Code.region id ops true).wp P Q a w:=by
 subst hn;refine Bi9 c (Aw0 w a.tmps.size a D kd) hm hlow hcut hc ⟨⟨hdf,rfl,λ _ _=>rfl,(λ _ _ h=>(by cases h)),(Upd.refl _ _).drew⟩,λ _ _ _=>rfl⟩ ?_ ?_
 ·rintro i o L ⟨tmps,dfs⟩ w' hi ho hI hL hd _;obtain rfl:dfs=[]:=hI.dfs;exact hA i o L tmps w' hi ho hI hL hd
 ·rintro L ⟨tmps,dfs⟩ w' hI hall;obtain rfl:dfs=[]:=hI.dfs;exact hC L tmps w' hI hall
theorem Cq4{c:Nat}{a:Act}{w:World}(D:List (Nat × Nat))(kd:Nat->Kd)(hD:(D.all λ t=>decide (c<t.1))=true)(hD2:(D.all λ t=>decide (t.1<ops.size))=true)(n:Nat)(hn:a.tmps.size=n)(hdf:a.defers=[])
  (hstep:∀i o L tmps w',c<i->ops[i]?=some o->Aw0 w n a D kd L ⟨tmps,[]⟩ w'->L i=false->(∀e∈o.after,Region.binds .any e=true->L e.on=true)->wpOp P ops Q i (λ a' w'=>Aw0 w n a D kd (upL L i) a' w') ⟨tmps,[]⟩ w')
  (hend:∀L tmps w',Aw0 w n a D kd L ⟨tmps,[]⟩ w'->(∀i,i<ops.size->L i=true)->Q .normal ⟨tmps,[]⟩ w'):Cq3 P ops Q c a w:=by
 subst hn;refine⟨Aw0 w a.tmps.size a D kd,λ L hL=>⟨⟨hdf,rfl,λ _ _=>rfl,λ t ht hl=>?_,Upd.refl _ _⟩,λ _ _ _=>rfl⟩,?_,?_⟩
 ·exfalso
  have h1:c<t.1:=by simpa using (List.all_eq_true.1 hD) t ht
  have h2:t.1<ops.size:=by simpa using (List.all_eq_true.1 hD2) t ht
  rw[hL _ h2,decide_eq_true_iff] at hl;omega
 ·rintro i o L ⟨tmps,dfs⟩ w' hi ho hI hL hd _;obtain rfl:dfs=[]:=hI.dfs;exact hstep i o L tmps w' hi ho hI hL hd
 ·rintro L ⟨tmps,dfs⟩ w' hI hall;obtain rfl:dfs=[]:=hI.dfs;exact hend L tmps w' hI hall
end
end
end Go.Proofs.YtgfbepakonjbnaaGreat
end
section
--TRZ
set_option linter.unusedSimpArgs false
set_option linter.unusedVariables false
namespace Go.Proofs.YtgfbepakonjbnaaGreat
open Go.RowKit Go.MapKept Go.ChangeMaps
theorem Cx2{w:World}{g:Sg}{M:Nat->Option Sec}(h:B9 w g M)(hh:1<g.h){r:Nat}{l:List C3}{S:List Nat}(ht:Z4 (g.cur M) r l S)(hS:∀s,s∈S->4<=s/\s<g.h)(hl:l.length<490)(key:Bs)(hkey:key.length=32) :
  Calls Tryz.prog 61 #[.pointer (some ⟨g.x.tb,0,none⟩),.int .u32 (r:Int),arr key] w λ e w'=>e=.returned (Ct7 (R5 l key))/\B9 w' g M/\Upd [g.j.jb] w w':=by
 rcases ht with⟨rfl,rfl,rfl⟩ | ⟨hr,d,hs⟩
 ·have hb:((g.h:Int) == 0)=false:=by rw[beq_eq_false_iff_ne];omega
  have hrb:(((0:Nat):Int) == 0)=true:=rfl;obtain⟨wA,hwA⟩:∃wA,wA=(w.alloc (.cells (bts key).toArray 35)).alloc (.cells (bts z16).toArray 115):=⟨_,rfl⟩;have huA:Upd [] w wA:=by rw[hwA];exact((Upd.refl _ _).alloc _).alloc _
  obtain⟨b6,hb6⟩:∃x,x=w.heap.size+1:=⟨_,rfl⟩;have k6:wA.heap[b6]?=some (.cells (bts z16).toArray 115 (0,0)):=by
   rw[hwA,hb6];have:=A4 (w:=w.alloc (.cells (bts key).toArray 35)) (.cells (bts z16).toArray 115);simpa using this
  have HO:=η (U9 (h.below huA));have HA:=η (h.below huA);have HH0:=η h;have HUA:=η huA;have HW:=η hwA;have HB6:=η hb6;have HK6:=η k6;clear h huA hwA hb6 k6;have hik:(Tryz.prog.info? 115).map (·.size)=some (bts z16).toArray.size:=An1;have hone:=At5 z16;unfold arr;show Calls _ _ _ _ λ e w'=>e=.returned (Ct7 none)/\_
  unfold Ct7;go_enter Tryz.func61,Tryz.ntmps61
  go_upto_region 1 with(fail)
  have hwA:=HW.out;have hb6:=HB6.out;rw[Av6,← hwA,← hb6];clear hwA hb6;go_wp2_with fail
  refine HO.out.mono ?_;rintro e w1 ⟨rfl,n1,hn1⟩;have hu1:Upd [] wA w1:=by rw[hn1];exact(Upd.refl _ _).drewN _
  have h6:=(hu1.block _ (A3 HK6.out) (by simp)).trans HK6.out;have H61:=η h6;have HU1:=η hu1;clear hn1 hu1 h6;go_wp2_with (refine wpList_store_row (by rfl) 115 (.tmp 6) (.tmp 19) (by rfl) b6 (bts z16).toArray (by rfl) (by rfl) _ _ H61.out hik rfl hone ?_)
  refine bodyPost_ret (F5 (p:=6) (u:=7) (ty:=115) (by rfl) _ _ b6 _ (by rfl) (run_loadVar_row _ b6 _ _ _ _ _ (setRow_heap _ _ _ _ _ _ H61.out) Tryz.underlying115 rfl (Bh1 (l:=z16) rfl))) (by rfl) ?_;exact⟨rfl,Bq4 HH0.out (HA.out.below HU1.out) ((HUA.out.trans HU1.out).mono (by simp)) (by have:=HB6.out;omega) _⟩
 ·exact Ct8 h hs hS (by have:=hs.flat hl;omega) key hkey
def Ak1:Option Rc->Nat × Nat × Nat
 | some x=>(x.n,x.at_,x.len)
 | none=>(0,0,0)
def Be9:Option Rc->Int
 | some _=>0
 | none=>5
def Bf0:Option Rc->Bs
 | some x=>L6 x.n x.at_ x.len
 | none=>z16
theorem Cp8(o:Option Rc):Ct7 (o.map λ r=>L6 r.n r.at_ r.len)=.tuple #[arr (Bf0 o),.int .i64 (Be9 o)]:=by
 cases o<;>rfl
theorem Bo9(o:Option Rc):(Bf0 o).length=16:=by
 cases o
 ·rfl
 ·exact U6 _ _ _
theorem Bp0:num z16 0 4=0/\num z16 4 4=0/\num z16 8 4=0:=by decide
theorem Cj0(o:Option Rc)(h:∀x,o=some x->x.n<=100000/\x.at_<=100000/\x.len<=100000):(num (Bf0 o) 0 4,num (Bf0 o) 4 4,num (Bf0 o) 8 4)=Ak1 o:=by
 cases o with
 | none=>show(num z16 0 4,num z16 4 4,num z16 8 4)=(0,0,0);rw[Bp0.1,Bp0.2.1,Bp0.2.2]
 | some x=>
  obtain⟨h1,h2,h3⟩:=h x rfl;obtain⟨e1,e2,e3⟩:=Bt7 (n:=x.n) (a:=x.at_) (l:=x.len) (by omega) (by omega) (by omega);show(num (L6 _ _ _) 0 4,num (L6 _ _ _) 4 4,num (L6 _ _ _) 8 4)=(x.n,x.at_,x.len)
  rw[e1,e2,e3]
theorem Cb6{fn:Func}{p u v:Tmp}(h:fn.results=#[.tmp u,.cell p 92,.tmp v])(tmps:Array Value)(w:World)(g:Nat)(x y z:Value)
  (hp:tmps.getD p undef=.pointer (some ⟨g,0,none⟩)) (hg:w.heap[g]?=some (.cells #[x,y,z] 92 (0,0))) :
  (results fn tmps).run Tryz.prog w=.ok (.tuple #[tmps.getD u undef,.agg #[x,y,z],tmps.getD v undef]) w:=by
 have hp':tmps[p]?.getD undef=.pointer (some ⟨g,0,none⟩):=by simpa using hp
 have c0:w.cell? ⟨g,0,none⟩=some x:=by rw[A2 hg];rfl
 have c1:w.cell? ⟨g,1,none⟩=some y:=by rw[A2 hg];rfl
 have c2:w.cell? ⟨g,2,none⟩=some z:=by rw[A2 hg];rfl
 simp[results,h,hp',asAddr,go_sem,c0,c1,c2]
theorem Bf1{w:World}{g:Sg}{M:Nat->Option Sec}(h:B9 w g M)(hh:1<g.h){S:List Nat}{R:List Rc}(ht:Z4 (g.cur M) (g.R M 0) (R.map Rc.ent) S)(hS:∀s,s∈S->4<=s/\s<g.h)(hl:R.length<490)(key:Bs)(hkey:key.length=32)(hb:∀x,x∈R->x.n<=100000/\x.at_<=100000/\x.len<=100000) :
  Calls Tryz.prog 81 #[.pointer (some ⟨g.x.tb,0,none⟩),arr key] w λ e w'=>e=.returned (.tuple #[.int .u32 (g.R M 0:Int),plV (Ak1 (P9 R key)),.int .i64 (Be9 (P9 R key))])/\B9 w' g M/\Upd g.S w w':=by
 have hlt:=h.lt;obtain⟨kb,hkb⟩:∃b,b=w.heap.size:=⟨_,rfl⟩;obtain⟨pb,hpb⟩:∃b,b=w.heap.size+1:=⟨_,rfl⟩;obtain⟨w2,hw2⟩:∃w2,w2=(w.alloc (.cells (bts key).toArray 35)).alloc (.cells #[.int .i64 0,.int .i64 0,.int .i64 0] 92):=⟨_,rfl⟩;have hu2:Upd [] w w2:=by rw[hw2];exact((Upd.refl _ _).alloc _).alloc _
 have k1:w2.heap[kb]?=some (.cells (bts key).toArray 35 (0,0)):=by rw[hw2,hkb,A6 (by simp)];exact A4 _
 have k2:w2.heap[pb]?=some (.cells #[.int .i64 0,.int .i64 0,.int .i64 0] 92 (0,0)):=by
  rw[hw2,hpb];have:=A4 (w:=w.alloc (.cells (bts key).toArray 35)) (.cells #[.int .i64 0,.int .i64 0,.int .i64 0] 92);simpa using this
 have h2:=h.below hu2;have hrt:=Bq0 h2 hh 0 (by omega);rw[show((0:Nat):Int)=0 from rfl] at hrt;have hik:(Tryz.prog.info? 35).map (·.size)=some (bts key).toArray.size:=by rw[List.size_toArray,A5,hkey];exact Af2
 have hnum:=Cj0 (P9 R key) (λ x hx=>hb x (Ag9 hx).1);have hgt:∀w',B9 w' g M->Calls Tryz.prog 61 #[.pointer (some ⟨g.x.tb,0,none⟩),.int .u32 (g.R M 0:Int),arr key] w' λ e w''=>e=.returned (.tuple #[arr (Bf0 (P9 R key)),.int .i64 (Be9 (P9 R key))])/\B9 w'' g M/\Upd [g.j.jb] w' w'':=by
  intro w' h';have:=Cx2 h' hh ht hS (by rw[List.length_map];exact hl) key hkey;rw[Bk7,Cp8] at this;exact this
 obtain⟨L,hL⟩:∃L,L=Bf0 (P9 R key):=⟨_,rfl⟩;have hLl:L.length=16:=by rw[hL];exact Bo9 _
 obtain⟨er,her⟩:∃e,e=Be9 (P9 R key):=⟨_,rfl⟩;obtain⟨P,hP⟩:∃p,p=Ak1 (P9 R key):=⟨_,rfl⟩;obtain⟨r,hr⟩:∃r,r=g.R M 0:=⟨_,rfl⟩;rw[← hL,← hP] at hnum;rw[← hr] at hrt;rw[← hP,← her,← hr];rw[← hL,← her,← hr] at hgt;have HG:=η hgt;have HP:=η (λ w=>Ay5 L hLl w);rw[hnum] at HP;have HRT:=η hrt;have HB:=η (And.intro hkb hpb);have HW:=η hw2;have HU2:=η hu2;have HLT:=η hlt;have HK1:=η k1;have HK2:=η k2;have hikV:(Tryz.prog.info? 115).map (·.size)=some (bts L).toArray.size:=by rw[List.size_toArray,A5,hLl];exact An1
 have HLl:=η hLl;clear hgt hrt hkb hpb hw2 hu2 hlt k1 k2 h2 hnum hL her hP hr hb ht hS hLl h hl;unfold arr;go_enter Tryz.func81,Tryz.ntmps81
 go_upto_region 1 with(fail)
 have hw2:=HW.out;obtain⟨hkb,hpb⟩:=HB.out;rw[← hw2,← hpb,← hkb];clear hw2 hkb hpb;go_wp2_with fail
 refine HRT.out.mono ?_;rintro e w3 ⟨rfl,h3,hu3⟩;have hnS:∀b,w.heap.size<=b->b∉g.S:=λ b hb q=>by have:=HLT.out.1 b q;omega
 have q1:=(hu3.block _ (A3 HK1.out) (hnS _ (by have:=HB.out;omega))).trans HK1.out;have q2:=(hu3.block _ (A3 HK2.out) (hnS _ (by have:=HB.out;omega))).trans HK2.out;have HNS:=η hnS;have H3:=η h3;have HU3:=η hu3;have Q1:=η q1;have Q2:=η q2;have HGT:=HG.out w3 h3;unfold arr at HGT;have HGT':=η HGT;clear h3 hu3 q1 q2 hnS HGT;go_wp2_with (refine wpList_load_row (by rfl) 35 (.tmp 3) (by rfl) kb (by rfl) _ _ _ _ Q1.out Tryz.underlying35 rfl hik ?_)
 refine HGT'.out.mono ?_;rintro e w4 ⟨rfl,h4,hu4⟩;obtain⟨vb,hvb⟩:∃b,b=w4.heap.size:=⟨_,rfl⟩;obtain⟨w5,hw5⟩:∃w5,w5=(w4.alloc (.cells (bts z16).toArray 115)).setRow vb (bts L).toArray:=⟨_,rfl⟩;have hone:=At5 L;have hbz:(w4.alloc (.cells (bts z16).toArray 115)).heap[vb]?=some (.cells (bts z16).toArray 115 (0,0)):=by rw[hvb];exact A4 _
 have hb5:w5.heap[vb]?=some (.cells (bts L).toArray 115 (0,0)):=by rw[hw5];exact setRow_heap _ _ _ _ _ _ hbz
 have hu5:Upd [] w4 w5:=by rw[hw5,hvb,Y6];exact(Upd.refl _ _).alloc _
 have hz16:(bts L).length=(bts z16).toArray.size:=by rw[A5,HLl.out];rfl
 go_upto_region 5 with(refine wpList_store_row (by rfl) 115 (.tmp 9) (.tmp 24) (by rfl) w4.heap.size (bts L).toArray (by rfl) (by rfl) _ _ (A4 (w:=w4) (.cells (bts z16).toArray 115)) hikV (by rw[List.size_toArray,List.size_toArray,A5,A5,HLl.out];rfl) hone ?_)
 rw[Av6,← hvb,← hw5];have q1:=((hu5.block _ (Nat.lt_of_lt_of_le (A3 Q2.out) hu4.size) (by simp)).trans (hu4.block _ (A3 Q2.out) (λ q=>HNS.out _ (by have:=HB.out;omega) (g.mem _ q)))).trans Q2.out;have HKP:=η (HP.out w5);unfold arr at HKP;have H5:=η (h4.below hu5);have HU5:=η ((((HU2.out.mono (by simp)).trans HU3.out).trans (hu4.mono g.mem)).trans (hu5.mono (by simp)));have QB:=η q1;have HB5:=η hb5;clear h4 hu4 hvb hw5 hbz hb5 hu5 hz16 q1 hone;go_upto_region 5 with(fail)
 go_wp2_with (refine wpList_load_row (by rfl) 115 (.tmp 9) (by rfl) vb (by rfl) _ _ _ _ HB5.out Tryz.underlying115 rfl hikV ?_)
 refine HKP.out.mono ?_;rintro e w6 ⟨rfl,hu6⟩;have q6:=(hu6.block _ (A3 QB.out) (by simp)).trans QB.out;have r0:w6.cell? ⟨pb,0,none⟩=some (.int .i64 0):=by rw[A2 q6];rfl
 have r1:w6.cell? ⟨pb,1,none⟩=some (.int .i64 0):=by rw[A2 q6];rfl
 have r2:w6.cell? ⟨pb,2,none⟩=some (.int .i64 0):=by rw[A2 q6];rfl
 have f0:=B7 q6 0;have f1:=B7 q6 1;have f2:=B7 q6 2;have Q6:=η q6;have H6:=η (H5.out.below hu6);have HU6:=η (HU5.out.trans (hu6.mono (by simp)));clear hu6 q6;unfold plV;go_wp2_with fail
 refine bodyPost_ret (Cb6 (p:=5) (u:=4) (v:=6) (by rfl) _ _ pb (.int .i64 (P.1:Int)) (.int .i64 (P.2.1:Int)) (.int .i64 (P.2.2:Int)) (by rfl) (A8 (A8 (A8 Q6.out 0 _) 1 _) 2 _)) (by rfl) ?_;have hu7:Upd [pb] w6 (((w6.setCell ⟨pb,0,none⟩ (.int .i64 (P.1:Int))).setCell ⟨pb,1,none⟩ (.int .i64 (P.2.1:Int))).setCell ⟨pb,2,none⟩ (.int .i64 (P.2.2:Int))):=(Upd.refl _ _).three _ _ _ (.inl (List.mem_singleton.2 rfl));exact⟨rfl,H6.out.res HLT.out (by have:=HB.out;omega) Q6.out (by decide) hu7,HU6.out.late hu7 (λ i hi=> .inr (by simp at hi;have:=HB.out;omega))⟩
def Bu2:List (Nat × Nat):=[(0,12),(1,13),(2,14),(3,15),(4,16)]
def Db8(tb:Nat)(r:Nat)(key v:List UInt8)(x:Nat × Nat × Nat):Nat->Kd
 | 0=> .c (.pointer (some ⟨tb,0,none⟩))
 | 1=> .c (.int .u32 (r:Int))
 | 2=> .c (.agg (bts key).toArray)
 | 3=> .c (.agg #[.int .i64 (x.1:Int),.int .i64 (x.2.1:Int),.int .i64 (x.2.2:Int)])
 | 4=> .c (.agg (bts v).toArray)
 | _=> .c undef
theorem Cp9(tb:Nat)(r:Nat)(key v:List UInt8)(x:Nat × Nat × Nat):∀k,(Db8 tb r key v x k).lasts:=by
 intro k;unfold Db8;split<;>first | trivial
def Bf2:List (Nat × Nat):=[(6,11),(7,18),(8,19),(9,9),(10,10)]
def Db9(r2:Nat):Nat->Kd
 | 6=> .c (.tuple #[.int .u32 (r2:Int),.int .i64 0])
 | 7=> .c (.int .u32 (r2:Int))
 | 8=> .c (.int .i64 0)
 | 9=> .c (.int .u32 (r2:Int))
 | 10=> .c (.int .i64 0)
 | _=> .c undef
theorem Cq0(r2:Nat):∀k,(Db9 r2 k).lasts:=by
 intro k;unfold Db9;split<;>first | trivial
def Bb4(g:Sg)(M M':Nat->Option Sec)(r:Nat)(L:List C3)(S:List Nat)(key v:Bs):Prop:=
 ∃M1 r2,V6 g M M1 r r2 L S key v 7/\(∃W,B9 W g M1)/\((r2=r/\M'=M1)∨(r2≠r/\M'=Bw8 M1 (put (g.cur M1 0) (4*0) 4 r2)))
theorem Bl0{w:World}{g:Sg}{M:Nat->Option Sec}(h:B9 w g M)(hh:20<=g.h)(r:Nat)(L:List C3)(S:List Nat)(key:Bs)(hkl:key.length=32)(n a l:Nat)(hn:n<=100000)(ha:a<=100000)(hl:l<=100000)
  (hput:∀W,B9 W g M->Calls Tryz.prog 58 #[.pointer (some ⟨g.x.tb,0,none⟩),.int .u32 (r:Int),arr key,arr (L6 n a l)] W λ e w'=>∃M' r',e=.returned (.tuple #[.int .u32 ((r':Nat):Int),.int .i64 0])/\V6 g M M' r r' L S key (L6 n a l) 7/\B9 w' g M'/\Upd g.S W w')
  (hroot:∀M' r',V6 g M M' r r' L S key (L6 n a l) 7->MOk M' g.h->D9 M' g.h<40) :
  Calls Tryz.prog 84 #[.pointer (some ⟨g.x.tb,0,none⟩),.int .u32 (r:Int),arr key,plV (n,a,l)] w λ e w'=>∃M',e=.returned (.int .i64 0)/\Bb4 g M M' r L S key (L6 n a l)/\B9 w' g M'/\Upd g.S w w':=by
 have hlt:=h.lt;obtain⟨kb,hkb⟩:∃b,b=w.heap.size:=⟨_,rfl⟩;obtain⟨pb,hpb⟩:∃b,b=w.heap.size+1:=⟨_,rfl⟩;obtain⟨w1,hw1⟩:∃w1,w1=(w.alloc (.cells (bts key).toArray 35)).alloc (.cells #[.int .i64 (n:Int),.int .i64 (a:Int),.int .i64 (l:Int)] 92):=⟨_,rfl⟩;have hu1:Upd [] w w1:=by rw[hw1];exact((Upd.refl _ _).alloc _).alloc _
 have k6:w1.heap[kb]?=some (.cells (bts key).toArray 35 (0,0)):=by rw[hw1,hkb,A6 (by simp)];exact A4 _
 have k7:w1.heap[pb]?=some (.cells #[.int .i64 (n:Int),.int .i64 (a:Int),.int .i64 (l:Int)] 92 (0,0)):=by
  rw[hw1,hpb];have:=A4 (w:=w.alloc (.cells (bts key).toArray 35)) (.cells #[.int .i64 (n:Int),.int .i64 (a:Int),.int .i64 (l:Int)] 92);simpa using this
 have hik:(Tryz.prog.info? 35).map (·.size)=some (bts key).toArray.size:=by rw[List.size_toArray,A5,hkl];exact Af2
 have hpt:∀W,Upd [] w1 W->Calls Tryz.prog 58 #[.pointer (some ⟨g.x.tb,0,none⟩),.int .u32 (r:Int),.agg (bts key).toArray,.agg (bts (L6 n a l)).toArray] W λ e w'=>∃M' r',e=.returned (.tuple #[.int .u32 ((r':Nat):Int),.int .i64 0])/\V6 g M M' r r' L S key (L6 n a l) 7/\B9 w' g M'/\Upd g.S W w':=λ W hW=>hput W (h.below (hu1.trans hW));have HPT:Hid (∀W,Upd [] w1 W->Calls Tryz.prog 58 #[.pointer (some ⟨g.x.tb,0,none⟩),.int .u32 (r:Int),.agg (bts key).toArray,.agg (bts (L6 n a l)).toArray] W λ e w'=>∃M' r',e=.returned (.tuple #[.int .u32 ((r':Nat):Int),.int .i64 0])/\V6 g M M' r r' L S key (L6 n a l) 7/\B9 w' g M'/\Upd g.S W w'):=η hpt;have hvl:=λ W=>Cp7 n a l hn ha hl W;unfold arr plV at hvl;have HVL:Hid (∀W,Calls Tryz.prog 171 #[.agg #[.int .i64 (n:Int),.int .i64 (a:Int),.int .i64 (l:Int)]] W λ e w'=>e=.returned (.agg (bts (L6 n a l)).toArray)/\Upd [] W w'):=η hvl;have HRT:=η hroot;have HW:=η hw1;have HB:=η (And.intro hkb hpb);have HU1:=η hu1;have H6:=η k6;have H7:=η k7;have HLT:=η hlt;clear hpt hvl hroot hw1 hkb hpb hu1 k6 k7 hlt hput h;unfold arr plV;dsimp only;go_enter Tryz.func84,Tryz.ntmps84
 go_upto_region 1 with(fail)
 have hw1:=HW.out;obtain⟨hkb,hpb⟩:=HB.out;rw[← hw1,← hpb,← hkb];clear hw1 hkb hpb;refine Al2 5 Bu2 (Db8 g.x.tb r key (L6 n a l) (n,a,l)) (by kernel_rfl) (by kernel_rfl) (by kernel_rfl) (by decide) 31 rfl rfl ?_ ?_
 ·intro i o L tmps w' hi ho hI hL hd;have t0:tmps[0]?.getD undef=.pointer (some ⟨g.x.tb,0,none⟩):=(hI.old 0 (by rfl)).trans rfl;have t1:tmps[1]?.getD undef=.int .u32 (r:Int):=(hI.old 1 (by rfl)).trans rfl;have t6:tmps[6]?.getD undef=.pointer (some ⟨kb,0,none⟩):=(hI.old 6 (by rfl)).trans rfl;have t7:tmps[7]?.getD undef=.pointer (some ⟨pb,0,none⟩):=(hI.old 7 (by rfl)).trans rfl;have hgw:=hI.gw;have q6:=(hgw.block _ (A3 H6.out) (by simp)).trans H6.out;have q7:=(hgw.block _ (A3 H7.out) (by simp)).trans H7.out;have m0:w'.cell? ⟨pb,0,none⟩=some (.int .i64 (n:Int)):=by rw[A2 q7];rfl
  have m1:w'.cell? ⟨pb,1,none⟩=some (.int .i64 (a:Int)):=by rw[A2 q7];rfl
  have m2:w'.cell? ⟨pb,2,none⟩=some (.int .i64 (l:Int)):=by rw[A2 q7];rfl
  have Q6:=η q6;clear q6 q7;obtain rfl | rfl | rfl | rfl | rfl:i=0∨i=1∨i=2∨i=3∨i=4:=by omega
  ·cases ho
   refine wpOp_step rfl (λ K hK=>?_);go_simp;exact hK _ _ (hI.ustep (Cp9 g.x.tb r key (L6 n a l) (n,a,l)) 0 12 (.pointer (some ⟨g.x.tb,0,none⟩)) (by decide) (by kernel_rfl) (Upd.refl _ _) (rfl))
  ·cases ho
   refine wpOp_step rfl (λ K hK=>?_);go_simp;exact hK _ _ (hI.ustep (Cp9 g.x.tb r key (L6 n a l) (n,a,l)) 1 13 (.int .u32 (r:Int)) (by decide) (by kernel_rfl) (Upd.refl _ _) (rfl))
  ·cases ho
   refine wpOp_step rfl (λ K hK=>?_);rw[if_pos (by rfl)];refine wp_load_row 35 (.tmp 6) rfl kb (by simpa [Act.eval] using t6) _ _ _ _ Q6.out Tryz.underlying35 rfl hik ?_;exact hK _ _ (hI.ustep (Cp9 g.x.tb r key (L6 n a l) (n,a,l)) 2 14 (.agg (bts key).toArray) (by decide) (by kernel_rfl) (Upd.refl _ _) (rfl))
  ·cases ho
   refine wpOp_step rfl (λ K hK=>?_);go_simp;exact hK _ _ (hI.ustep (Cp9 g.x.tb r key (L6 n a l) (n,a,l)) 3 15 (.agg #[.int .i64 (n:Int),.int .i64 (a:Int),.int .i64 (l:Int)]) (by decide) (by kernel_rfl) (Upd.refl _ _) (rfl))
  ·cases ho
   have t15:tmps[15]?.getD undef=.agg #[.int .i64 (n:Int),.int .i64 (a:Int),.int .i64 (l:Int)]:=hI.val (3,15) (by simp[Bu2]) (hd ⟨3,.data⟩ (by simp) rfl);refine wpOp_step rfl (λ K hK=>?_);go_simp;go_at_call 171
   refine(HVL.out w').mono ?_;rintro e w2 ⟨rfl,hu⟩;exact hK _ _ (hI.ustep (Cp9 g.x.tb r key (L6 n a l) (n,a,l)) 4 16 (.agg (bts (L6 n a l)).toArray) (by decide) (by kernel_rfl) hu (rfl))
 ·intro L tmps w' hI hall;have hat:=hI.tmps_eq rfl [(12,.pointer (some ⟨g.x.tb,0,none⟩)),(13,.int .u32 (r:Int)),(14,.agg (bts key).toArray),(15,.agg #[.int .i64 (n:Int),.int .i64 (a:Int),.int .i64 (l:Int)]),(16,.agg (bts (L6 n a l)).toArray)] (λ j hj=>by simp[Bu2] at hj ⊢;simp[hj]) (by
   intro p hp;simp only[List.mem_cons,List.not_mem_nil,or_false] at hp;rcases hp with rfl | rfl | rfl | rfl | rfl
   ·exact hI.val (0,12) (by simp[Bu2]) (hall 0 (by decide))
   ·exact hI.val (1,13) (by simp[Bu2]) (hall 1 (by decide))
   ·exact hI.val (2,14) (by simp[Bu2]) (hall 2 (by decide))
   ·exact hI.val (3,15) (by simp[Bu2]) (hall 3 (by decide))
   ·exact hI.val (4,16) (by simp[Bu2]) (hall 4 (by decide)))
  have hgw:=hI.gw;clear hI hall;try dsimp only at hat
  simp only[Ac0,αs,αz,αc] at hat;subst hat;refine wpOp_step rfl (λ K hK=>?_);go_simp;go_at_call 58
  refine(HPT.out w' hgw).mono ?_;rintro e w2 ⟨M',r2,rfl,hpt,h2,hu2⟩;refine hK _ _ ?_;clear hK K;try simp only[Act.put,αs,αz,αc]
  refine Cq4 Bf2 (Db9 r2) (by kernel_rfl) (by kernel_rfl) 31 rfl rfl ?_ ?_
  ·intro i o L tmps w' hi ho hI hL hd;have hi2:i<11:=(Array.getElem?_eq_some_iff.1 ho).1;have t17:tmps[17]?.getD undef=.tuple #[.int .u32 (r2:Int),.int .i64 0]:=(hI.old 17 (by rfl)).trans rfl;have hgw2:=hI.gw;obtain rfl | rfl | rfl | rfl | rfl:i=6∨i=7∨i=8∨i=9∨i=10:=by omega
   ·cases ho
    refine wpOp_step rfl (λ K hK=>?_);go_simp;exact hK _ _ (hI.ustep (Cq0 r2) 6 11 (.tuple #[.int .u32 (r2:Int),.int .i64 0]) (by decide) (by kernel_rfl) (Upd.refl _ _) (rfl))
   ·cases ho
    have t11:tmps[11]?.getD undef=.tuple #[.int .u32 (r2:Int),.int .i64 0]:=hI.val (6,11) (by simp[Bf2]) (hd ⟨6,.data⟩ (by simp) rfl);refine wpOp_step rfl (λ K hK=>?_);go_simp;exact hK _ _ (hI.ustep (Cq0 r2) 7 18 (.int .u32 (r2:Int)) (by decide) (by kernel_rfl) (Upd.refl _ _) (rfl))
   ·cases ho
    have t11:tmps[11]?.getD undef=.tuple #[.int .u32 (r2:Int),.int .i64 0]:=hI.val (6,11) (by simp[Bf2]) (hd ⟨6,.data⟩ (by simp) rfl);refine wpOp_step rfl (λ K hK=>?_);go_simp;exact hK _ _ (hI.ustep (Cq0 r2) 8 19 (.int .i64 0) (by decide) (by kernel_rfl) (Upd.refl _ _) (rfl))
   ·cases ho
    have t18:tmps[18]?.getD undef=.int .u32 (r2:Int):=hI.val (7,18) (by simp[Bf2]) (hd ⟨7,.data⟩ (by simp) rfl);refine wpOp_step rfl (λ K hK=>?_);go_simp;exact hK _ _ (hI.ustep (Cq0 r2) 9 9 (.int .u32 (r2:Int)) (by decide) (by kernel_rfl) (Upd.refl _ _) (rfl))
   ·cases ho
    have t19:tmps[19]?.getD undef=.int .i64 0:=hI.val (8,19) (by simp[Bf2]) (hd ⟨8,.data⟩ (by simp) rfl);refine wpOp_step rfl (λ K hK=>?_);go_simp;exact hK _ _ (hI.ustep (Cq0 r2) 10 10 (.int .i64 0) (by decide) (by kernel_rfl) (Upd.refl _ _) (rfl))
  ·intro L tmps w5 hI hall;have hat:=hI.tmps_eq rfl [(11,.tuple #[.int .u32 (r2:Int),.int .i64 0]),(18,.int .u32 (r2:Int)),(19,.int .i64 0),(9,.int .u32 (r2:Int)),(10,.int .i64 0)] (λ j hj=>by simp[Bf2] at hj ⊢;simp[hj]) (by
    intro p hp;simp only[List.mem_cons,List.not_mem_nil,or_false] at hp;rcases hp with rfl | rfl | rfl | rfl | rfl
    ·exact hI.val (6,11) (by simp[Bf2]) (hall 6 (by decide))
    ·exact hI.val (7,18) (by simp[Bf2]) (hall 7 (by decide))
    ·exact hI.val (8,19) (by simp[Bf2]) (hall 8 (by decide))
    ·exact hI.val (9,9) (by simp[Bf2]) (hall 9 (by decide))
    ·exact hI.val (10,10) (by simp[Bf2]) (hall 10 (by decide)))
   have hu5:=hI.gw;clear hI hall;try dsimp only at hat
   simp only[Ac0,αs,αz,αc] at hat;rw[hat];clear hat tmps;have h2':=h2.below hu5;have HU6:=η (((HU1.out.mono (by simp)).trans (hgw.mono (by simp))).trans (hu2.trans (hu5.mono (by simp))));have HPU:=η hpt;clear hgw hu2 hu5 h2 hpt;by_cases e:r2=r
   ·subst e;have H2:=η h2';clear h2';go_wp2_with fail
    go_ret;exact⟨M',rfl,⟨M',r2,HPU.out,⟨_,H2.out⟩,.inl ⟨rfl,rfl⟩⟩,H2.out,HU6.out⟩
   ·have he:((r2:Int) == (r:Int))=false:=by rw[beq_eq_false_iff_ne];omega
    have hsr:=Cc9 h2' (by omega) (.inr (HRT.out M' r2 HPU.out h2'.ok)) 0 (by omega) r2;rw[show((0:Nat):Int)=0 from rfl] at hsr;have HSR:=η hsr;have H2:=η h2';clear hsr h2' e;go_wp2_with fail
    refine HSR.out.mono ?_;rintro e w6 ⟨rfl,h6,hu6⟩;have H6':=η h6;have HU7:=η (HU6.out.trans hu6);clear h6 hu6;go_wp2_with fail
    go_ret;exact⟨_,rfl,⟨M',r2,HPU.out,⟨_,H2.out⟩,.inr ⟨by rw[beq_eq_false_iff_ne] at he;omega,rfl⟩⟩,H6'.out,HU7.out⟩
end Go.Proofs.YtgfbepakonjbnaaGreat
end
section
namespace Go.Proofs.YtgfbepakonjbnaaGreat
open Go.RowKit Go.MapKept Go.ChangeMaps
section
section
variable {P:Program} {ops:Array Oper} {Q:Exit->Act->World->Prop} {md:Region.Mode} {S:World->Prop} {St:List Nat}
def Aq0(St:List Nat)(listed:Array Bool):Prop:=∀s,s∈St->listed.getD s false=false
def Aw1(md:Region.Mode)(ops:Array Oper)(listed:Array Bool):Prop:=∀j oj,ops[j]?=some oj->listed.getD j false=true->∀e∈oj.after,Region.binds md e=true->listed.getD e.on false=true
def Bl4(md:Region.Mode)(ops:Array Oper)(i:Nat):Nat->Nat->Bool
 | 0,s=>s == i
 | f+1,s=>s == i || match ops[s]? with
  | none=>false
  | some o=>o.after.any λ e=>Region.binds md e && Bl4 md ops i f e.on
theorem Bu5{listed:Array Bool}(hc:Aw1 md ops listed){i:Nat}:∀{f s:Nat},Bl4 md ops i f s=true->listed.getD s false=true->listed.getD i false=true
 | 0,s,h,hs=>by simp[Bl4] at h;rw[← h];exact hs
 | f+1,s,h,hs=>by
  unfold Bl4 at h;rw[Bool.or_eq_true] at h;rcases h with h | h
  ·simp at h;rw[← h];exact hs
  ·cases ho:ops[s]? with
   | none=>rw[ho] at h;simp at h
   | some o=>
    rw[ho] at h;obtain⟨e,he,hb⟩:=Array.any_eq_true'.1 h;simp only[Bool.and_eq_true] at hb;exact Bu5 hc hb.2 (hc s o ho hs e he hb.1)
theorem Aw1.set{listed:Array Bool}(hc:Aw1 md ops listed){j:Nat}(hj:j∈Region.ready md ops listed):Aw1 md ops (listed.setIfInBounds j true):=by
 intro k ok hk hl e he hb;obtain⟨_,oj,hoj,hall⟩:=mem_ready.1 hj;by_cases hkj:j=k
 ·subst hkj;rw[hk] at hoj;cases hoj
  exact getD_set_true (hall e he hb)
 ·rw[getD_set_ne false hkj] at hl;exact getD_set_true (hc k ok hk hl e he hb)
def U7(P:Program)(md:Region.Mode)(ops:Array Oper)(Q:Exit->Act->World->Prop)(S:World->Prop)(St:List Nat):Nat->Array Bool->Act->World->Prop
 | 0,listed,a,w=>Region.ready md ops listed=[]/\Q .normal a w
 | fuel+1,listed,a,w=>
  (Region.ready md ops listed=[]->Q .normal a w)/\
  ∀i∈Region.ready md ops listed,wpOp P ops Q i (λ a' w'=>(Aq0 St (listed.setIfInBounds i true)->S w')/\U7 P md ops Q S St fuel (listed.setIfInBounds i true) a' w') a w
theorem Bf4:∀(fuel:Nat) (listed:Array Bool) (a:Act) (w:World),U7 P md ops Q S St fuel listed a w->wpAny P md ops Q fuel listed a w
 | 0,_,_,_,h=>h
 | fuel+1,_,_,_,h=>⟨h.1,λ i hi=>wpOp_mono (λ a' w' h'=>Bf4 fuel _ a' w' h'.2) (h.2 i hi)⟩
theorem Bp3{i:Nat}{oi:Oper}{v:Value}(hi:ops[i]?=some oi)(hsel:∀(j:Nat) (o:Oper) cs b,ops[j]?=some o->o.op≠.select cs b)
  (hQ:∀c a w,Q (.panic c) (a.put oi.dst v) w->Q (.panic c) a w) (hw:∀s,s∈St->∃f,Bl4 md ops i f s=true/\s≠i) :
  ∀(fuel:Nat) (listed:Array Bool) (a:Act) (w:World),Aw1 md ops listed->
   (∀j oj,ops[j]?=some oj->j≠i->listed.getD j true=false->(∀e∈oj.after,Region.binds md e=true->e.on≠i)->oi.apart ops oj=true)->
   i∈Region.ready md ops listed->YieldsIf P ops S oi v a->S w->
   U7 P md ops Q S St fuel (listed.setIfInBounds i true) (a.put oi.dst v) w->U7 P md ops Q S St (fuel+1) listed a w:=by
 intro fuel;induction fuel with
 | zero=>
  intro listed a w _ _ hr hy hS H;refine⟨λ h=>(by rw[h] at hr;cases hr),λ j hj=>?_⟩;by_cases hji:j=i
  ·subst hji;exact hy.wpOp hi hS ⟨λ _=>hS,H⟩
  ·have:=ready_mono hj hji;rw[H.1] at this;cases this
 | succ fuel ih=>
  intro listed a w hcl hfree hr hy hS H;refine⟨λ h=>(by rw[h] at hr;cases hr),λ j hj=>?_⟩;by_cases hji:j=i
  ·subst hji;exact hy.wpOp hi hS ⟨λ _=>hS,H⟩
  ·have h1:=H.2 j (ready_mono hj hji);obtain⟨hjun,oj,hoj,hall⟩:=mem_ready.1 hj;have hiun:=(mem_ready.1 hr).1;have hnot:∀e∈oj.after,Region.binds md e=true->e.on≠i:=λ e he hb heq=>by
    have h1:=hall e he hb;rw[heq] at h1;rcases Nat.lt_or_ge i listed.size with h' | h'
    ·simp[h'] at hiun h1;rw[hiun] at h1;cases h1
    ·simp[Array.getElem?_eq_none h'] at h1
   have h2:=wpOp_putIf hoj (hfree j oj hoj hji hjun hnot) (λ cs b=>hsel i oi cs b hi) (λ cs b=>hsel j oj cs b hoj) hQ hy h1;have hfree':∀k ok,ops[k]?=some ok->k≠i->(listed.setIfInBounds j true).getD k true=false->
     (∀e∈ok.after,Region.binds md e=true->e.on≠i)->oi.apart ops ok=true:=λ k ok hk hki hun hno=>by
    refine hfree k ok hk hki ?_ hno;by_cases hjk:j=k
    ·subst hjk;exact hjun
    ·rw[getD_set_ne true hjk] at hun;exact hun
   have hcl':=hcl.set hj;have hi0:(listed.setIfInBounds j true).getD i false=false:=by
    rw[getD_set_ne false hji];rcases Nat.lt_or_ge i listed.size with h' | h'
    ·simp[h'] at hiun ⊢;exact hiun
    ·simp[Array.getElem?_eq_none h']
   have hnone:Aq0 St ((listed.setIfInBounds i true).setIfInBounds j true):=λ s hs=>by
    obtain⟨f,hf,hsi⟩:=hw s hs;rw[Array.setIfInBounds_comm _ _ (Ne.symm hji),getD_set_ne false (Ne.symm hsi)];cases hq:(listed.setIfInBounds j true).getD s false
    ·rfl
    ·have:=Bu5 hcl' hf hq;rw[hi0] at this;cases this
   refine wpOp_mono (λ a' w' h3=>?_) h2;have hS':=h3.2.1 hnone;refine⟨λ _=>hS',ih (listed.setIfInBounds j true) a' w' hcl' hfree' (ready_mono hr (Ne.symm hji)) h3.1 hS' ?_⟩;rw[Array.setIfInBounds_comm _ _ hji];exact h3.2.2
def Cf3(md:Region.Mode)(ops:Array Oper)(listed:Array Bool):Bool:=(List.range ops.size).all λ j=> !listed.getD j false || ((ops[j]?).map (·.after.all λ e=> !Region.binds md e || listed.getD e.on false)).getD true
theorem Cj4{listed:Array Bool}(h:Cf3 md ops listed=true):Aw1 md ops listed:=by
 intro j oj hj hl e he hb;have h1:=(List.all_eq_true.1 h) j (List.mem_range.2 (Array.getElem?_eq_some_iff.1 hj).1);rw[hj,hl] at h1;simp only[Bool.not_true,Bool.false_or,Option.map_some,Option.getD_some] at h1;have h2:=Array.all_eq_true_iff_forall_mem.1 h1 e he;rw[hb] at h2;simpa using h2
theorem A7{i:Nat}{oi:Oper}{v:Value}{fuel:Nat}{listed:Array Bool}{a:Act}{w:World}(hi:ops[i]?=some oi)
  (hk:(Region.noSelect ops && Region.free md ops listed i && (Region.ready md ops listed).contains i && Cf3 md ops listed && St.all λ s=>Bl4 md ops i ops.size s && !(s == i))=true)
  (hQ:∀c a w,Q (.panic c) (a.put oi.dst v) w->Q (.panic c) a w) (hS:S w) (hy:YieldsIf P ops S oi v a)
  (h:U7 P md ops Q S St fuel (listed.setIfInBounds i true) (a.put oi.dst v) w):U7 P md ops Q S St (fuel+1) listed a w:=by
 simp only[Bool.and_eq_true] at hk;obtain⟨⟨⟨⟨h1,h2⟩,h3⟩,h4⟩,h5⟩:=hk;refine Bp3 hi (Region.noSelect_spec h1) hQ (λ s hs=>?_) fuel listed a w (Cj4 h4) (Region.free_spec hi h2) (by simpa using h3) hy hS h;have:=(List.all_eq_true.1 h5) s hs;simp only[Bool.and_eq_true,Bool.not_eq_true',beq_eq_false_iff_ne] at this;exact⟨_,this.1,this.2⟩
def B6(P:Program)(md:Region.Mode)(ops:Array Oper)(Q:Exit->Act->World->Prop)(S:World->Prop)(St:List Nat)(fuel:Nat)(listed:Array Bool)(a:Act)(w:World)(rs:List Nat):Prop:=
 ∀i∈rs,wpOp P ops Q i (λ a' w'=>(Aq0 St (listed.setIfInBounds i true)->S w')/\U7 P md ops Q S St fuel (listed.setIfInBounds i true) a' w') a w
theorem B6.one{fuel:Nat}{listed:Array Bool}{a:Act}{w:World}{i:Nat}{o:Oper}(ho:ops[i]?=some o)
  (h:∀K':Act->World->Prop,Shut (∀a w,(Aq0 St (listed.setIfInBounds i true)->S w)->(U7 P md ops Q S St fuel (listed.setIfInBounds i true) a w)->K' a w)->if Region.wanted o (yielded ops a.tmps)=true then Oper.wp P o a w K' Q else K' (a.put o.dst undef) w):B6 P md ops Q S St fuel listed a w [i]:=λ j hj=>by
 rcases List.mem_cons.1 hj with rfl | hj
 ·exact wpOp_step ho (λ K' hK=>h K' (λ a w hS hW=>hK a w ⟨hS,hW⟩))
 ·cases hj
theorem B6.cons{fuel:Nat}{listed:Array Bool}{a:Act}{w:World}{i:Nat}{rs:List Nat}(h:B6 P md ops Q S St fuel listed a w [i])(hs:B6 P md ops Q S St fuel listed a w rs):B6 P md ops Q S St fuel listed a w (i :: rs):=λ j hj=>by
 rcases List.mem_cons.1 hj with rfl | hj
 ·exact h j (by simp)
 ·exact hs j hj
theorem A9{rs:List Nat}{fuel:Nat}{listed:Array Bool}{a:Act}{w:World}(hr:Region.ready md ops listed=rs)(hne:rs≠[])
  (h:B6 P md ops Q S St fuel listed a w rs):U7 P md ops Q S St (fuel+1) listed a w:=
 ⟨λ h0=>absurd (hr ▸ h0) hne,hr ▸ h⟩
theorem F3{listed:Array Bool}{a:Act}{w:World}(hr:Region.ready md ops listed=[])(h:Q .normal a w) :
  ∀fuel,U7 P md ops Q S St fuel listed a w
 | 0=>⟨hr,h⟩
 | _+1=>⟨λ _=>h,by rw[hr];simp⟩
theorem P4{id:Nat}{a:Act}{w:World}(S:World->Prop)(St:List Nat)(hm:P.follows .mixedOrders=true)(hS:S w.drew)
  (h:S w.drew->U7 P .any ops Q S St ops.size (Array.replicate ops.size false) a w.drew):(Code.region id ops true).wp P Q a w:=
 wp_region_any hm (Bf4 _ _ _ _ (h hS))
theorem Af1:∀{fuel:Nat} {listed:Array Bool} {a:Act} {w:World},(St.any λ s=>listed.getD s false)=true->U7 P md ops Q (λ _=>True) [] fuel listed a w->U7 P md ops Q S St fuel listed a w
 | 0,_,_,_,_,h=>h
 | fuel+1,listed,a,w,hs,h=>⟨h.1,λ i hi=>wpOp_mono (λ a' w' h'=>by
   have hs':(St.any λ s=>(listed.setIfInBounds i true).getD s false)=true:=by
    obtain⟨s,hm,he⟩:=List.any_eq_true.1 hs;exact List.any_eq_true.2 ⟨s,hm,getD_set_true he⟩
   refine⟨λ hn=>?_,Af1 hs' h'.2⟩;obtain⟨s,hm,he⟩:=List.any_eq_true.1 hs';rw[hn s hm] at he;cases he) (h.2 i hi)⟩
end
end
end Go.Proofs.YtgfbepakonjbnaaGreat
end
