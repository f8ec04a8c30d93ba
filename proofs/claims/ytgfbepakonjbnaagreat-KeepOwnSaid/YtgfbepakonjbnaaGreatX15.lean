/-
  Package pack, plain: what Add and Drop leave; packs in a row; records; records of one size.
-/
import Derived.Test.YtgfbepakonjbnaaGreatX10
import Derived.Test.YtgfbepakonjbnaaGreatX14
import Derived.Test.YtgfbepakonjbnaaGreatX11
import Derived.Test.YtgfbepakonjbnaaGreatX12
import Derived.Laws.Rows
set_option maxRecDepth 100000
set_option maxHeartbeats 16000000
section
set_option linter.unusedSimpArgs false
set_option linter.unusedVariables false
namespace Go.Proofs.YtgfbepakonjbnaaGreat
open Go.RowKit Go.MapKept Go.ChangeMaps
def Z2(K:Nat->Option Pk)(T:Nat->Bool)(h:Nat)(f:List UInt8)(K':Nat->Option Pk)(T':Nat->Bool):Option (Nat × Nat)->Prop
 | some x=>(∃free p,Be2 K (-1) f.length x.1 free/\x.1<64/\K x.1=some p/\x.2=p.data.length/\K'=Ab6 K x.1 (some ⟨p.start,p.data++f,p.live+f.length⟩)/\T'=T)∨
   (∃s,Be2 K (-1) f.length 64 x.1/\x.1<64/\x.2=0/\T3 T h 16 (some s)/\K'=Ab6 K x.1 (some ⟨s,f,f.length⟩)/\∀i,T' i=if s<=i/\i<s+16 then true else T i)
 | none=>∃free,Be2 K (-1) f.length 64 free/\K'=K/\T'=T/\(free=64∨T3 T h 16 Option.none)
def Ba3(K:Nat->Option Pk)(T:Nat->Bool)(n l:Nat)(K':Nat->Option Pk)(T':Nat->Bool):Prop:=
 ∃p,K n=some p/\l<=p.live/\
  ((p.live=l/\K'=Ab6 K n Option.none/\∀i,T' i=if p.start<=i/\i<p.start+16 then false else T i)∨(p.live≠l/\K'=Ab6 K n (some ⟨p.start,p.data,p.live-l⟩)/\T'=T))
structure Rc where
 n:Nat
 at_:Nat
 key:List UInt8
 b:List UInt8
def Rc.len(r:Rc):Nat:=46+r.b.length
def Ab5(R:List Rc)(n:Nat):Nat:=(R.map λ r=>if r.n=n then r.len else 0).sum
theorem J9(r:Rc)(R:List Rc)(n:Nat):Ab5 (r :: R) n=(if r.n=n then r.len else 0)+Ab5 R n:=by unfold Ab5;rw[List.map_cons,List.sum_cons]
theorem Ax9{R R':List Rc}(h:R.Perm R')(n:Nat):Ab5 R n=Ab5 R' n:=by
 induction h with
 | nil=>rfl
 | cons x _ ih=>rw[J9,J9,ih]
 | swap x y l=>rw[J9,J9,J9,J9];omega
 | trans _ _ h1 h2=>rw[h1,h2]
structure M0(K:Nat->Option Pk)(R:List Rc):Prop where
 rec_:∀r,r∈R->r.key.length=32/\r.b.length<=4200/\∃p,K r.n=some p/\r.at_+r.len<=p.data.length/\(p.data.drop r.at_).take r.len=D8 r.key r.b
 live:∀n p,K n=some p->p.live=Ab5 R n/\0<p.live
theorem M0.zero{K:Nat->Option Pk}(hK:∀n,K n=Option.none):M0 K []:=
 ⟨λ r h=>absurd h (List.not_mem_nil),λ n p h=>by rw[hK n] at h;cases h⟩
theorem M0.gone{K:Nat->Option Pk}{R:List Rc}{r:Rc}(h:M0 K R)(hr:r∈R):K r.n≠Option.none:=by
 obtain⟨_,_,p,hp,_⟩:=h.rec_ r hr;rw[hp];exact λ h=>by cases h
theorem Bt7{K:Nat->Option Pk}{R:List Rc}(h:M0 K R){n:Nat}(hn:K n=Option.none):Ab5 R n=0:=by
 have:∀Q:List Rc,(∀r,r∈Q->r.n≠n)->Ab5 Q n=0:=λ Q=>by
  induction Q with
  | nil=>intro _;rfl
  | cons r Q ih=>
   intro hq;rw[J9,if_neg (hq r (by simp)),ih λ r' h'=>hq r' (by simp[h'])]
 exact this R λ r hr e=>h.gone hr (by rw[e];exact hn)
theorem Cp6{l f:List UInt8}{a k:Nat}(h:a+k<=l.length):((l++f).drop a).take k=(l.drop a).take k:=by
 rw[List.drop_append_of_le_length (by omega),List.take_append_of_le_length (by rw[List.length_drop];omega)]
theorem Cp7{l f:List UInt8}:((l++f).drop l.length).take f.length=f:=by
 rw[List.drop_left,List.take_length]
theorem M0.into{K:Nat->Option Pk}{R:List Rc}{n:Nat}{p:Pk}{key b:List UInt8}(h:M0 K R)(hn:K n=some p)(hk:key.length=32)(hb:b.length<=4200) :
  M0 (Ab6 K n (some ⟨p.start,p.data++D8 key b,p.live+(D8 key b).length⟩)) (⟨n,p.data.length,key,b⟩ :: R):=by
 have hf:=V3 (key:=key) (b:=b) hk;refine⟨λ r hr=>?_,λ m q hq=>?_⟩
 ·rcases List.mem_cons.1 hr with rfl | hr
  ·refine⟨hk,hb,_,E0 _ _ _,?_,?_⟩
   ·show p.data.length+(46+b.length)<=(p.data++D8 key b).length
    rw[List.length_append];omega
   ·show((p.data++D8 key b).drop p.data.length).take (46+b.length)=_
    rw[← hf];exact Cp7
  ·obtain⟨h1,h2,q,hq,h3,h4⟩:=h.rec_ r hr;refine⟨h1,h2,?_⟩;by_cases hrn:r.n=n
   ·rw[hrn] at hq ⊢;rw[hn] at hq;cases hq
    refine⟨_,E0 _ _ _,?_,?_⟩
    ·show r.at_+r.len<=(p.data++D8 key b).length
     rw[List.length_append];omega
    ·show((p.data++D8 key b).drop r.at_).take r.len=_
     rw[Cp6 h3];exact h4
   ·exact⟨q,by rw[F4 _ _ hrn];exact hq,h3,h4⟩
 ·rw[J9];show _=(if n=m then 46+b.length else 0)+_/\_
  by_cases hmn:m=n
  ·subst hmn;rw[E0] at hq;cases hq
   have:=h.live m p hn;rw[if_pos rfl];show p.live+(D8 key b).length=_/\0<p.live+(D8 key b).length
   omega
  ·rw[F4 _ _ hmn] at hq;rw[if_neg (Ne.symm hmn)];have:=h.live m q hq;omega
theorem M0.newp{K:Nat->Option Pk}{R:List Rc}{n s:Nat}{key b:List UInt8}(h:M0 K R)(hn:K n=Option.none)(hk:key.length=32)(hb:b.length<=4200) :
  M0 (Ab6 K n (some ⟨s,D8 key b,(D8 key b).length⟩)) (⟨n,0,key,b⟩ :: R):=by
 have hf:=V3 (key:=key) (b:=b) hk;refine⟨λ r hr=>?_,λ m q hq=>?_⟩
 ·rcases List.mem_cons.1 hr with rfl | hr
  ·refine⟨hk,hb,_,E0 _ _ _,?_,?_⟩
   ·show 0+(46+b.length)<=(D8 key b).length
    omega
   ·show((D8 key b).drop 0).take (46+b.length)=_
    rw[← hf,List.drop_zero,List.take_length]
  ·obtain⟨h1,h2,q,hq,h3,h4⟩:=h.rec_ r hr;have hrn:r.n≠n:=λ e=>by rw[e,hn] at hq;cases hq
   exact⟨h1,h2,q,by rw[F4 _ _ hrn];exact hq,h3,h4⟩
 ·rw[J9];show _=(if n=m then 46+b.length else 0)+_/\_
  by_cases hmn:m=n
  ·subst hmn;rw[E0] at hq;cases hq
   have:=Bt7 h hn;rw[if_pos rfl];show(D8 key b).length=_/\0<(D8 key b).length
   omega
  ·rw[F4 _ _ hmn] at hq;rw[if_neg (Ne.symm hmn)];have:=h.live m q hq;omega
def Rc.off(r:Rc)(n a l:Nat):Prop:=r.n≠n∨a+l<=r.at_∨r.at_+r.len<=a
theorem M0.add{K K':Nat->Option Pk}{T T':Nat->Bool}{h:Nat}{R:List Rc}{key b:List UInt8}{x:Nat × Nat}(k:M0 K R)(hk:key.length=32)(hb:b.length<=4200)
  (a:Z2 K T h (D8 key b) K' T' (some x)):M0 K' (⟨x.1,x.2,key,b⟩ :: R)/\∀r,r∈R->r.off x.1 x.2 (46+b.length):=by
 rcases a with⟨free,p,q,h1,h2,h3,rfl,rfl⟩ | ⟨s,q,h1,h2,h3,rfl,h4⟩
 ·rw[h3];refine⟨k.into h2 hk hb,λ r hr=>?_⟩;obtain⟨_,_,p',hp',h5,_⟩:=k.rec_ r hr;by_cases e:r.n=x.1
  ·right;right
   rw[e,h2] at hp';cases hp'
   exact h5
  ·exact .inl e
 ·rw[h2];have hn:=q.free_none h1;refine⟨k.newp hn hk hb,λ r hr=> .inl λ e=>k.gone hr (by rw[e];exact hn)⟩
theorem M0.drop{K K':Nat->Option Pk}{T T':Nat->Bool}{R R':List Rc}{r:Rc}(k:M0 K R)(hp:R.Perm (r :: R'))(d:Ba3 K T r.n r.len K' T'):M0 K' R':=by
 obtain⟨p,hn,hl,h⟩:=d;have hmem:∀x,x∈R'->x∈R:=λ x hx=>hp.symm.subset (List.mem_cons_of_mem _ hx);have hlive:∀m q,K m=some q->q.live=(if r.n=m then r.len else 0)+Ab5 R' m/\0<q.live:=λ m q hq=>by
  have:=k.live m q hq;rw[Ax9 hp m,J9] at this;exact this
 have h0:=hlive _ _ hn;rw[if_pos rfl] at h0;rcases h with⟨h1,rfl,h2⟩ | ⟨h1,rfl,h2⟩
 ·have hz:Ab5 R' r.n=0:=by omega
  have hno:∀x,x∈R'->x.n≠r.n:=by
   have:∀Q:List Rc,Ab5 Q r.n=0->∀x,x∈Q->x.n≠r.n:=λ Q=>by
    induction Q with
    | nil=>intro _ x hx;cases hx
    | cons y Q ih=>
     intro hq x hx;rw[J9] at hq;rcases List.mem_cons.1 hx with rfl | hx
     ·intro e;rw[if_pos e] at hq;unfold Rc.len at hq;omega
     ·exact ih (by omega) x hx
   exact this R' hz
  refine⟨λ x hx=>?_,λ m q hq=>?_⟩
  ·obtain⟨e1,e2,q,hq,e3⟩:=k.rec_ x (hmem x hx);exact⟨e1,e2,q,by rw[F4 _ _ (hno x hx)];exact hq,e3⟩
  ·by_cases hm:m=r.n
   ·rw[hm,E0] at hq;cases hq
   ·rw[F4 _ _ hm] at hq;have:=hlive m q hq;rw[if_neg (Ne.symm hm)] at this;omega
 ·refine⟨λ x hx=>?_,λ m q hq=>?_⟩
  ·obtain⟨e1,e2,q,hq,e3,e4⟩:=k.rec_ x (hmem x hx);refine⟨e1,e2,?_⟩;by_cases hm:x.n=r.n
   ·rw[hm,hn] at hq;cases hq
    exact⟨⟨p.start,p.data,p.live-r.len⟩,by rw[hm,E0],e3,e4⟩
   ·exact⟨q,by rw[F4 _ _ hm];exact hq,e3,e4⟩
  ·by_cases hm:m=r.n
   ·rw[hm,E0] at hq;cases hq
    subst hm;show p.live-r.len=_/\0<p.live-r.len
    omega
   ·rw[F4 _ _ hm] at hq;have:=hlive m q hq;rw[if_neg (Ne.symm hm)] at this;omega
theorem M0.live_le{K:Nat->Option Pk}{R:List Rc}{r:Rc}(k:M0 K R)(hr:r∈R){p:Pk}(hp:K r.n=some p):r.len<=p.live:=by
 rw[(k.live _ _ hp).1];have:∀Q:List Rc,r∈Q->r.len<=Ab5 Q r.n:=λ Q=>by
  induction Q with
  | nil=>intro h;cases h
  | cons y Q ih=>
   intro h;rw[J9];rcases List.mem_cons.1 h with rfl | h
   ·rw[if_pos rfl];omega
   ·have:=ih h;omega
 exact this R hr
end Go.Proofs.YtgfbepakonjbnaaGreat
end
section
section
set_option linter.unusedSimpArgs false
set_option linter.unusedVariables false
namespace Go.Proofs.YtgfbepakonjbnaaGreat
open Go.RowKit Go.MapKept Go.ChangeMaps
theorem Ci8{w:World}{g:Sg}{M:Nat->Option Sec}{K:Nat->Option Pk}(h:B7 w g M)(hk:L9 (g.cur M) g.h (g.T M) K)(hh:20<=g.h)(hh2:g.h<=4096)(l:Nat)(hl:l<=8192)(but:Int) :
  Calls Tryz.prog 113 #[.pointer (some ⟨g.x.tb,0,none⟩),.int .i64 (l:Int),.int .i64 but] w λ e w'=>∃n free,Be2 K but l n free/\e=.returned (.tuple #[stV (Ca5 (K n)),.int .i64 (n:Int),.int .i64 (free:Int),.int .i64 0])/\B7 w' g M/\Upd [g.j.jb] w w':=by
 have hlt:=h.lt;obtain⟨w0,hw0⟩:∃w0,w0=w.alloc (.cells #[.int .i64 0,.int .i64 0,.int .i64 0] 200):=⟨_,rfl⟩;obtain⟨rb,hrb⟩:∃rb,rb=w.heap.size:=⟨_,rfl⟩;have hu0:Upd [] w w0:=by rw[hw0];exact(Upd.refl _ _).alloc _
 have hb0:w0.heap[rb]?=some (.cells #[.int .i64 0,.int .i64 0,.int .i64 0] 200 (0,0)):=by rw[hw0,hrb];exact A4 _
 have h0:=h.below hu0;have HLT:=η hlt;have HB0:=η hb0;have HU0:=η hu0;have HW0:=η hw0;have HRB:=η hrb;have H0:=η h0;have HK:=η hk;clear h h0 hlt hb0 hu0 hw0 hrb hk;go_enter Tryz.func113,Tryz.ntmps113
 go_upto_region 1 with(fail)
 have hw0:=HW0.out;have hrb:=HRB.out;rw[← hw0,← hrb];clear hw0 hrb;go_wp2_with fail
 go_loopw [14,10] (λ i fr wr=>∃q free:Nat,q<=64/\i=.int .i64 (q:Int)/\fr=.int .i64 (free:Int)/\Ad8 K but l q free/\B7 wr g M/\wr.heap[rb]?=some (.cells #[.int .i64 0,.int .i64 0,.int .i64 0] 200 (0,0))/\Upd [g.j.jb] w wr) (λ i _ _=>64-(intOf i).toNat)
 case atStart=>exact⟨0,64,by omega,rfl,rfl,Ad8.zero _ _ _,H0.out,HB0.out,HU0.out.mono (by simp)⟩
 case round=>
  obtain⟨q,free,hq,rfl,rfl,hi,hsp,hb,hu⟩:=hrel;have hfr:=hi.le;have HI:=η hi;have HB:=η hb;have HU:=η hu;by_cases hlt:q<64
  ·have hlt':decide ((q:Int)<64)=true:=decide_eq_true (by omega);have hlk:=Bk2 hsp hh hh2 q hlt;rw[HK.out.look q hlt] at hlk;have HS:=η hsp;rcases hkq:K q with _ | p
   ·
    rw[hkq] at hlk;have HLK:Hid (Calls Tryz.prog 180 #[.pointer (some ⟨g.x.tb,0,none⟩),.int .i64 (q:Int)] wr λ e w'=>e=.returned (.tuple #[.agg #[.int .i64 0,.int .i64 0,.int .i64 0],.int .i64 0])/\B7 w' g M/\Upd [g.j.jb] wr w'):=η hlk;have HN:=η (hi.stepNone hlt hkq);obtain⟨mn,hmn⟩:∃mn,mn=min free q:=⟨_,rfl⟩;have emn:min (free:Int) (q:Int)=(mn:Int):=by omega
    have HMN:=η hmn;clear hi hsp hb hu hlk hkq hmn;go_wp2_with fail
    refine HLK.out.mono ?_;rintro e w1 ⟨rfl,h1,hu1⟩;have HS1:=η h1;have HB1:=η ((hu1.block _ (A3 HB.out) (by simp;intro e;have:=HLT.out.1 g.j.jb (by simp[Sg.S,JG.all]);have:=HRB.out;omega)).trans HB.out);have HU1:=η (HU.out.trans hu1);clear h1 hu1;go_wp2_with fail
    exact⟨⟨q+1,mn,by omega,by go_num,rfl,by rw[HMN.out];exact HN.out,HS1.out.below ((Upd.refl _ _).alloc _),(((Upd.refl [] w1).alloc _).block _ (A3 HB1.out) (by simp)).trans HB1.out,HU1.out.alloc _⟩,by simp[intOf];omega⟩
   ·
    rw[hkq] at hlk;have HLK:Hid (Calls Tryz.prog 180 #[.pointer (some ⟨g.x.tb,0,none⟩),.int .i64 (q:Int)] wr λ e w'=>e=.returned (.tuple #[.agg #[.int .i64 (p.start:Int),.int .i64 (p.data.length:Int),.int .i64 (p.live:Int)],.int .i64 0])/\B7 w' g M/\Upd [g.j.jb] wr w'):=η hlk;have hlow:=HK.out.low q p hkq;have hst:((p.start:Int) == 0)=false:=by rw[beq_eq_false_iff_ne];omega
    obtain⟨st,hste⟩:∃st,st=p.start:=⟨_,rfl⟩;obtain⟨pl,hple⟩:∃pl,pl=p.data.length:=⟨_,rfl⟩;obtain⟨lv,hlve⟩:∃lv,lv=p.live:=⟨_,rfl⟩;have hpl8:pl<=8192:=by omega
    rw[← hste,← hple,← hlve] at HLK;rw[← hste] at hst;have HKQ:Hid (K q=some p):=η hkq;have HE:Hid (Ca5 (K q)=(st,pl,lv)):=η (by rw[hkq,hste,hple,hlve];rfl);have HPL:=η hple;clear hi hsp hb hu hlk hkq hlow hste hple hlve;by_cases hfit:(q:Int)≠but/\pl+l<=8192
    ·have hb1:((q:Int) != but)=true:=by rw[bne_iff_ne];exact hfit.1
     have hb1':((q:Int) == but)=false:=by rw[beq_eq_false_iff_ne];exact hfit.1
     have hb2:decide ((pl:Int)<=8192-(l:Int))=true:=decide_eq_true (by omega);have hR:=HI.out.found hlt ⟨hfit.1,p,HKQ.out,by rw[← HPL.out];exact hfit.2⟩;have HR:=η hR;clear hR;go_wp2_with fail
     refine HLK.out.mono ?_;rintro e w1 ⟨rfl,h1,hu1⟩;have HS1:=η h1;have HB1:=η ((hu1.block _ (A3 HB.out) (by simp;intro e;have:=HLT.out.1 g.j.jb (by simp[Sg.S,JG.all]);have:=HRB.out;omega)).trans HB.out);have HU1:=η (HU.out.trans hu1);obtain⟨w2,hw2⟩:∃w2,w2=w1.alloc (.cells #[.int .i64 (st:Int),.int .i64 (pl:Int),.int .i64 (lv:Int)] 200):=⟨_,rfl⟩;obtain⟨sb,hsb⟩:∃sb,sb=w1.heap.size:=⟨_,rfl⟩;have hb2':w2.heap[sb]?=some (.cells #[.int .i64 (st:Int),.int .i64 (pl:Int),.int .i64 (lv:Int)] 200 (0,0)):=by rw[hw2,hsb];exact A4 _
     have hu2:Upd [] w1 w2:=by rw[hw2];exact(Upd.refl _ _).alloc _
     have hrb2:=(hu2.block _ (A3 HB1.out) (by simp)).trans HB1.out;have HU2:=η (HU1.out.trans (hu2.mono (by simp)));have HS2:=η (HS1.out.below hu2);have HRB2:=η hrb2;have HB2':=η hb2';have HW2:=η hw2;have HSB:=η hsb;clear h1 hu1 hw2 hsb hb2' hu2 hrb2;go_upto_region 6 with(fail)
     have hw2:=HW2.out;have hsb:=HSB.out;rw[← hw2,← hsb];clear hw2 hsb;have m0:w2.cell? ⟨sb,0,none⟩=some (.int .i64 (st:Int)):=by rw[A2 HB2'.out];rfl
     have m1:w2.cell? ⟨sb,1,none⟩=some (.int .i64 (pl:Int)):=by rw[A2 HB2'.out];rfl
     have m2:w2.cell? ⟨sb,2,none⟩=some (.int .i64 (lv:Int)):=by rw[A2 HB2'.out];rfl
     have n0:w2.cell? ⟨rb,0,none⟩=some (.int .i64 0):=by rw[A2 HRB2.out];rfl
     have n1:w2.cell? ⟨rb,1,none⟩=some (.int .i64 0):=by rw[A2 HRB2.out];rfl
     have n2:w2.cell? ⟨rb,2,none⟩=some (.int .i64 0):=by rw[A2 HRB2.out];rfl
     have f0:=B6 HRB2.out 0;have f1:=B6 HRB2.out 1;have f2:=B6 HRB2.out 2;go_wp2_with fail
     refine bodyPost_ret (Ay2 (p:=6) (u:=7) (v:=8) (x:=9) (by rfl) _ _ rb (.int .i64 (st:Int)) (.int .i64 (pl:Int)) (.int .i64 (lv:Int)) (by rfl) (A8 (A8 (A8 HRB2.out 0 _) 1 _) 2 _)) (by rfl) ?_;have hb5:=HRB.out;have hu5:Upd [rb] w2 (((w2.setCell ⟨rb,0,none⟩ (.int .i64 (st:Int))).setCell ⟨rb,1,none⟩ (.int .i64 (pl:Int))).setCell ⟨rb,2,none⟩ (.int .i64 (lv:Int))):=(Upd.refl _ _).three _ _ _ (.inl (List.mem_singleton.2 rfl));exact⟨q,free,HR.out,by rw[HE.out];rfl,HS2.out.res HLT.out (by omega) HRB2.out (by decide) hu5,HU2.out.late hu5 (λ i hi=> .inr (by simp at hi;omega))⟩
    ·have HN:=η (HI.out.stepSome HKQ.out (λ hf=>by
      obtain⟨h1,p',hp',h2⟩:=hf;rw[HKQ.out] at hp';cases hp'
      exact hfit ⟨h1,by rw[HPL.out];exact h2⟩))
     have fin:∀w1:World,B7 w1 g M->Upd [g.j.jb] wr w1->(∃q' free':Nat,q'<=64/\Value.int .i64 ((q:Int)+1)=.int .i64 (q':Int)/\Value.int .i64 (free:Int)=.int .i64 (free':Int)/\Ad8 K but l q' free'/\B7 (w1.alloc (.cells #[.int .i64 (st:Int),.int .i64 (pl:Int),.int .i64 (lv:Int)] 200)) g M/\(w1.alloc (.cells #[.int .i64 (st:Int),.int .i64 (pl:Int),.int .i64 (lv:Int)] 200)).heap[rb]?=some (.cells #[.int .i64 0,.int .i64 0,.int .i64 0] 200 (0,0))/\Upd [g.j.jb] w (w1.alloc (.cells #[.int .i64 (st:Int),.int .i64 (pl:Int),.int .i64 (lv:Int)] 200))):=λ w1 h1 hu1=>by
      have hb1:=(hu1.block _ (A3 HB.out) (by simp;intro e;have:=HLT.out.1 g.j.jb (by simp[Sg.S,JG.all]);have:=HRB.out;omega)).trans HB.out;exact⟨q+1,free,by omega,by go_num,rfl,HN.out,h1.below ((Upd.refl _ _).alloc _),(((Upd.refl [] w1).alloc _).block _ (A3 hb1) (by simp)).trans hb1,(HU.out.trans hu1).alloc _⟩
     have HFIN:=η fin;clear fin;by_cases hbq:(q:Int)=but
     ·have hb1:((q:Int) != but)=false:=by rw[bne_eq_false_iff_eq];exact hbq
      have hb1':((q:Int) == but)=true:=by rw[beq_iff_eq];exact hbq
      clear hbq hfit;go_wp2_with fail
      refine HLK.out.mono ?_;rintro e w1 ⟨rfl,h1,hu1⟩;have HF:=η (HFIN.out w1 h1 hu1);clear h1 hu1;go_wp2_with fail
      exact⟨HF.out,by simp[intOf];omega⟩
     ·have hb1:((q:Int) != but)=true:=by rw[bne_iff_ne];exact hbq
      have hb1':((q:Int) == but)=false:=by rw[beq_eq_false_iff_ne];exact hbq
      have hb2:decide ((pl:Int)<=8192-(l:Int))=false:=decide_eq_false (λ h=>hfit ⟨hbq,by omega⟩);clear hfit;go_wp2_with fail
      refine HLK.out.mono ?_;rintro e w1 ⟨rfl,h1,hu1⟩;have HF:=η (HFIN.out w1 h1 hu1);clear h1 hu1;go_wp2_with fail
      exact⟨HF.out,by simp[intOf];omega⟩
  ·obtain rfl:q=64:=by omega
   have hlt':decide (((64:Nat):Int)<64)=false:=rfl;have HS:=η hsp;have n0:wr.cell? ⟨rb,0,none⟩=some (.int .i64 0):=by rw[A2 hb];rfl
   have n1:wr.cell? ⟨rb,1,none⟩=some (.int .i64 0):=by rw[A2 hb];rfl
   have n2:wr.cell? ⟨rb,2,none⟩=some (.int .i64 0):=by rw[A2 hb];rfl
   have f0:=B6 hb 0;have f1:=B6 hb 1;have f2:=B6 hb 2;clear hi hsp hb hu;go_wp2_with fail
   refine bodyPost_ret (Ay2 (p:=6) (u:=7) (v:=8) (x:=9) (by rfl) _ _ rb (.int .i64 0) (.int .i64 0) (.int .i64 0) (by rfl) (A8 (A8 (A8 HB.out 0 _) 1 _) 2 _)) (by rfl) ?_;have hb5:=HRB.out;have hu5:Upd [rb] wr (((wr.setCell ⟨rb,0,none⟩ (.int .i64 0)).setCell ⟨rb,1,none⟩ (.int .i64 0)).setCell ⟨rb,2,none⟩ (.int .i64 0)):=(Upd.refl _ _).three _ _ _ (.inl (List.mem_singleton.2 rfl));exact⟨64,free,HI.out.done,by rw[HK.out.high 64 (by omega)];rfl,HS.out.res HLT.out (by omega) HB.out (by decide) hu5,HU.out.late hu5 (λ i hi=> .inr (by simp at hi;omega))⟩
end Go.Proofs.YtgfbepakonjbnaaGreat
end
section
set_option linter.unusedSimpArgs false
set_option linter.unusedVariables false
namespace Go.Proofs.YtgfbepakonjbnaaGreat
open Go.RowKit Go.MapKept Go.ChangeMaps
def plV(x:Nat × Nat × Nat):Value:=.agg #[.int .i64 (x.1:Int),.int .i64 (x.2.1:Int),.int .i64 (x.2.2:Int)]
theorem Ae0{fn:Func}{p u:Tmp}(h:fn.results=#[.cell p 92,.tmp u])(tmps:Array Value)(w:World)(g:Nat)(x y z:Value)
  (hp:tmps.getD p undef=.pointer (some ⟨g,0,none⟩)) (hg:w.heap[g]?=some (.cells #[x,y,z] 92 (0,0))) :
  (results fn tmps).run Tryz.prog w=.ok (.tuple #[.agg #[x,y,z],tmps.getD u undef]) w:=by
 have hp':tmps[p]?.getD undef=.pointer (some ⟨g,0,none⟩):=by simpa using hp
 have c0:w.cell? ⟨g,0,none⟩=some x:=by rw[A2 hg];rfl
 have c1:w.cell? ⟨g,1,none⟩=some y:=by rw[A2 hg];rfl
 have c2:w.cell? ⟨g,2,none⟩=some z:=by rw[A2 hg];rfl
 simp[results,h,hp',asAddr,go_sem,c0,c1,c2]
theorem Bk5{w:World}{g:Sg}{M:Nat->Option Sec}{K:Nat->Option Pk}(h:B7 w g M)(hk:L9 (g.cur M) g.h (g.T M) K)(hh:20<=g.h)(hh2:g.h<=4096){n:Nat}{p:Pk}(hx:Ext (g.cur M) g.h (g.T M) K n p)(f:List UInt8)(vf:Value)(hr:Rd w vf f)(hfl:p.data.length+f.length<=8192)
  (hc:E1 M g.h+18<=40∨(E1 M g.h<40/\∀i,p.start<=i->i<p.start+16->(M i).isSome=true)) :
  Calls Tryz.prog 114 #[stV (p.start,p.data.length,p.live),.pointer (some ⟨g.x.tb,0,none⟩),.int .i64 (n:Int),vf] w λ e w'=>∃M',e=.returned (.tuple #[plV (n,p.data.length,f.length),.int .i64 0])/\B7 w' g M'/\
   L9 (g.cur M') g.h (g.T M') (Ab6 K n (some ⟨p.start,p.data++f,p.live+f.length⟩))/\g.T M'=g.T M/\Db5 M M' ((2+n / 32) :: List.range' p.start 16)/\Upd g.S w w':=by
 obtain⟨vfa,vfc,rfl,hvc⟩:∃a c,vf=.slice a f.length c/\f.length<=c:=by obtain⟨a,c,e,hc,_⟩:=hr;exact⟨a,c,e,hc⟩
 have hlt:=h.lt;have hlow:=hx.low;have hn64:=hx.lt;obtain⟨st,hst⟩:∃st,st=p.start:=⟨_,rfl⟩;obtain⟨pl,hpl⟩:∃pl,pl=p.data.length:=⟨_,rfl⟩;obtain⟨lv,hlv⟩:∃lv,lv=p.live:=⟨_,rfl⟩;obtain⟨fl,hfe⟩:∃fl,fl=f.length:=⟨_,rfl⟩;obtain⟨w1,hw1⟩:∃w1,w1=(w.alloc (.cells #[.int .i64 (st:Int),.int .i64 (pl:Int),.int .i64 (lv:Int)] 200)).alloc (.cells #[.int .i64 0,.int .i64 0,.int .i64 0] 92):=⟨_,rfl⟩;obtain⟨sb,hsb⟩:∃sb,sb=w.heap.size:=⟨_,rfl⟩;have hu1:Upd [] w w1:=by rw[hw1];exact((Upd.refl _ _).alloc _).alloc _
 have hbs:w1.heap[sb]?=some (.cells #[.int .i64 (st:Int),.int .i64 (pl:Int),.int .i64 (lv:Int)] 200 (0,0)):=by
  rw[hw1,hsb];exact(((Upd.refl [] _).alloc _).block _ (by simp) (by simp)).trans (A4 _)
 have hbr:w1.heap[sb+1]?=some (.cells #[.int .i64 0,.int .i64 0,.int .i64 0] 92 (0,0)):=by
  rw[hw1,hsb];have:=A4 (w:=w.alloc (.cells #[.int .i64 (st:Int),.int .i64 (pl:Int),.int .i64 (lv:Int)] 200)) (.cells #[.int .i64 0,.int .i64 0,.int .i64 0] 92);rwa [World.size_alloc] at this
 have h1:=h.below hu1;have hcw:E1 M g.h+17<=40∨∀i,st<=i->i<st+16->(M i).isSome=true:=by
  rw[hst];rcases hc with q | q
  ·left;omega
  ·right;exact q.2
 have hwr:=Bu2 h1 hh2 st pl lv pl f p.data _ (hr.below hu1) (by omega) (by omega) (by omega) (by rw[hst];exact hx.data) hpl.symm hcw;rw[← hfe] at hwr;have HWR:=η hwr;have HX:=η hx;have HK:=η hk;have H:=η h;have HC:=η hc;have HLT:=η hlt;have HU1:=η hu1;have HBS:=η hbs;have HBR:=η hbr;have HSB:=η hsb;have HW1:=η hw1;have HST:=η hst;have HPL:=η hpl;have HLV:=η hlv;have HFE:=η hfe;have m1:w1.cell? ⟨sb,1,none⟩=some (.int .i64 (pl:Int)):=by rw[A2 hbs];rfl
 have m0:w1.cell? ⟨sb,0,none⟩=some (.int .i64 (st:Int)):=by rw[A2 hbs];rfl
 have m2:w1.cell? ⟨sb,2,none⟩=some (.int .i64 (lv:Int)):=by rw[A2 hbs];rfl
 have B1:pl+fl<=8192:=by omega
 have B2:lv<=pl:=by omega
 have B3:st<=4096:=by omega
 rw[← hst,← hpl,← hlv,← hfe];clear h h1 hk hx hc hlt hu1 hbs hbr hsb hw1 hst hpl hlv hfe hwr hcw hr hlow hfl hvc;unfold stV;go_enter Tryz.func114,Tryz.ntmps114
 go_upto_region 1 with(fail)
 have hw1:=HW1.out;have hsb:=HSB.out;rw[← hw1,← hsb];clear hw1 hsb;go_wp2_with fail
 refine HWR.out.mono ?_;rintro e w2 ⟨M1,rfl,h2,hd2,hk2,hs2,hu2⟩;have hnS:∀i,sb<=i->i∉g.S:=λ i hi q=>by have:=HLT.out.1 i q;have:=HSB.out;omega
 have hbs2:=(hu2.block _ (A3 HBS.out) (hnS _ (Nat.le_refl _))).trans HBS.out;have hbr2:=(hu2.block _ (A3 HBR.out) (hnS _ (by omega))).trans HBR.out;obtain⟨pf,hpf⟩:∃pf,pf=pl+fl:=⟨_,rfl⟩;obtain⟨lf,hlf⟩:∃lf,lf=lv+fl:=⟨_,rfl⟩;have ePF:(pl:Int)+(fl:Int)=(pf:Int):=by omega
 have eLF:(lv:Int)+(fl:Int)=(lf:Int):=by omega
 have HPF:=η hpf;have HLF:=η hlf;have B4:pf<=8192:=by omega
 have B5:lf<=pf:=by omega
 clear hpf hlf;obtain⟨w3,hw3⟩:∃w3,w3=(w2.setCell ⟨sb,1,none⟩ (.int .i64 (pf:Int))).setCell ⟨sb,2,none⟩ (.int .i64 (lf:Int)):=⟨_,rfl⟩;have hbs3:w3.heap[sb]?=some (.cells #[.int .i64 (st:Int),.int .i64 (pf:Int),.int .i64 (lf:Int)] 200 (0,0)):=by rw[hw3];exact A8 (A8 hbs2 1 _) 2 _
 have hu3:Upd [sb] w2 w3:=by rw[hw3];exact((Upd.refl _ _).set _ (by simp)).set _ (by simp)
 have hbr3:=(hu3.block _ (A3 hbr2) (by simp)).trans hbr2;have h3:B7 w3 g M1:=h2.res HLT.out (by have:=HSB.out;omega) hbs2 (by decide) hu3;have g1:w2.cell? ⟨sb,1,none⟩=some (.int .i64 (pl:Int)):=by rw[A2 hbs2];rfl
 have g2:w2.cell? ⟨sb,2,none⟩=some (.int .i64 (lv:Int)):=by rw[A2 hbs2];rfl
 have f1:=B6 hbs2 1;have f2:=B6 hbs2 2;have HW3:=η hw3;have HBS3:=η hbs3;have HBR3:=η hbr3;have H3:=η h3;have HU2:=η hu2;have HU3:=η hu3;have HD2:=η hd2;have HK2:=η hk2;have HS2:=η hs2;clear m0 m1 m2 h2 hd2 hk2 hs2 hu2 hbs2 hbr2 hw3 hbs3 hu3 hbr3 h3;go_upto_region 6 with(fail)
 have hw3:=HW3.out;rw[← hw3];clear hw3 g1 g2 f1 f2;have n0:w3.cell? ⟨sb,0,none⟩=some (.int .i64 (st:Int)):=by rw[A2 HBS3.out];rfl
 have n1:w3.cell? ⟨sb,1,none⟩=some (.int .i64 (pf:Int)):=by rw[A2 HBS3.out];rfl
 have n2:w3.cell? ⟨sb,2,none⟩=some (.int .i64 (lf:Int)):=by rw[A2 HBS3.out];rfl
 have hcn:(M1 (2+n / 32)).isSome=true∨E1 M1 g.h<40:=by
  right
  rcases HC.out with q | ⟨q,hq⟩
  ·have ht:Ag7 M M1 (List.range' p.start 16):=λ i hi=>by
    by_cases hr:p.start<=i/\i<p.start+16
    ·right;rw[List.mem_range'_1];omega
    ·rw[HK2.out i (by rw[HST.out];exact hr)] at hi;exact .inl hi
   have:=ht.cnt H.out.ok H3.out.ok;rw[List.length_range'] at this;omega
  ·have ht:Ag7 M M1 []:=λ i hi=>by
    by_cases hr:p.start<=i/\i<p.start+16
    ·exact .inl (hq i hr.1 hr.2)
    ·rw[HK2.out i (by rw[HST.out];exact hr)] at hi;exact .inl hi
   have:=ht.cnt H.out.ok H3.out.ok;rw[List.length_nil] at this;omega
 have hnt:=Ap8 H3.out (by omega) st pf lf n (by omega) (by omega) (by omega) hn64 hcn;have HNT:=η hnt;have HCN:=η hcn;clear hnt hcn;unfold stV at HNT;go_wp2_with fail
 refine HNT.out.mono ?_;rintro e w4 ⟨rfl,h4,hu4⟩;have hbr4:=(hu4.block _ (A3 HBR3.out) (hnS _ (by omega))).trans HBR3.out;have r0:w4.cell? ⟨sb+1,0,none⟩=some (.int .i64 0):=by rw[A2 hbr4];rfl
 have r1:w4.cell? ⟨sb+1,1,none⟩=some (.int .i64 0):=by rw[A2 hbr4];rfl
 have r2:w4.cell? ⟨sb+1,2,none⟩=some (.int .i64 0):=by rw[A2 hbr4];rfl
 have f0:=B6 hbr4 0;have f1:=B6 hbr4 1;have f2:=B6 hbr4 2;have H4:=η h4;have HU4:=η hu4;have HBR4:=η hbr4;clear h4 hu4 hbr4 n0 n1 n2;go_wp2_with fail
 refine bodyPost_ret (Ae0 (p:=8) (u:=9) (by rfl) _ _ (sb+1) (.int .i64 (n:Int)) (.int .i64 (pl:Int)) (.int .i64 (fl:Int)) (by rfl) (A8 (A8 (A8 HBR4.out 0 _) 1 _) 2 _)) (by rfl) ?_;have hsb:=HSB.out;have hst:=HST.out;have hu5:Upd [sb+1] w4 (((w4.setCell ⟨sb+1,0,none⟩ (.int .i64 (n:Int))).setCell ⟨sb+1,1,none⟩ (.int .i64 (pl:Int))).setCell ⟨sb+1,2,none⟩ (.int .i64 (fl:Int))):=(Upd.refl _ _).three _ _ _ (.inl (List.mem_singleton.2 rfl));have hlw:=HX.out.low;have hc23:g.cur M1 (2+n / 32)=g.cur M (2+n / 32):=G9 g (HK2.out _ (by omega));have hT1:g.T M1=g.T M:=Ba4 g (HK2.out 1 (by omega));have hT2:g.T (wr1 M1 (2+n / 32) (Ad7 (g.cur M1 (2+n / 32)) (16*(n % 32)) st pf lf))=g.T M:=by rw[Cp9 g M1 _ (by omega),hT1]
 have hlen:(p.data++f).length=pf:=by rw[List.length_append,HPF.out,HPL.out,HFE.out]
 refine⟨wr1 M1 (2+n / 32) (Ad7 (g.cur M1 (2+n / 32)) (16*(n % 32)) st pf lf),rfl,H4.out.res HLT.out (by omega) HBR4.out (by decide) hu5,?_,hT2,⟨λ i hi=>?_,λ i hi=>?_⟩,?_⟩
 ·rw[hT2];refine HK.out.note (p':=⟨st,p.data++f,lv+fl⟩) hh2 HX.out hst (λ i=>H4.out.cur_len i) ⟨by show(p.data++f).length<=8192;omega,?_⟩ ?_ ?_ (λ i i1 i2=>?_)
  ·show lv+fl<=(p.data++f).length
   rw[hlen,← HLF.out];exact B5
  ·show PkD _ p.start (p.data++f)
   have hd:=HD2.out;rw[hst] at hd;exact hd.congr (by omega) (λ i i1 i2=>by rw[Y5,if_neg (by omega)])
  ·rw[Y5,if_pos rfl,hc23];show Ad7 _ _ st pf lf=Ad7 _ _ p.start (p.data++f).length (lv+fl)
   rw[hlen,← HLF.out,hst]
  ·rw[Y5,if_neg i1];exact G9 g (HK2.out i (by rw[hst];exact i2))
 ·by_cases e:i=2+n / 32
  ·right;rw[e];exact List.mem_cons_self ..
  ·rw[Ak9 e] at hi;by_cases hr:p.start<=i/\i<p.start+16
   ·right;exact List.mem_cons_of_mem _ (by rw[List.mem_range'_1];omega)
   ·rw[HK2.out i (by rw[hst];exact hr)] at hi;exact .inl hi
 ·rw[Ak9 (λ e=>hi (by rw[e];exact List.mem_cons_self ..))];exact HK2.out i (λ q=>hi (List.mem_cons_of_mem _ (by rw[hst] at q;rw[List.mem_range'_1];omega)))
 ·exact((((HU1.out.mono (by simp)).trans HU2.out).late HU3.out (λ i hi=> .inr (by simp at hi;omega))).trans HU4.out).late hu5 (λ i hi=> .inr (by simp at hi;omega))
end Go.Proofs.YtgfbepakonjbnaaGreat
end
section
set_option linter.unusedSimpArgs false
set_option linter.unusedVariables false
namespace Go.Proofs.YtgfbepakonjbnaaGreat
open Go.RowKit Go.MapKept Go.ChangeMaps
def Db6(o:Option (Nat × Nat))(l:Nat):Value:=match o with
 | some x=> .tuple #[plV (x.1,x.2,l),.int .i64 0]
 | none=> .tuple #[plV (0,0,0),.int .i64 7]
theorem Af0:(Tryz.prog.info? 35).map (·.size)=some 32:=by kernel_rfl
theorem L9.apartFree{c:Nat->Sec}{h:Nat}{T:Nat->Bool}{K:Nat->Option Pk}(k:L9 c h T K){s:Nat}(hf:∀q,q<16->T (s+q)=false){m:Nat}{p:Pk}(hp:K m=some p):s+16<=p.start∨p.start+16<=s:=by
 rcases Nat.lt_or_ge p.start (s+16) with h1 | h1
 ·rcases Nat.lt_or_ge s (p.start+16) with h2 | h2
  ·exfalso
   rcases Nat.le_total s p.start with h3 | h3
   ·have a:=hf (p.start-s) (by omega);have b:=k.taken m p hp 0 (by omega);rw[show s+(p.start-s)=p.start+0 by omega,b] at a;cases a
   ·have a:=hf 0 (by omega);have b:=k.taken m p hp (s-p.start) (by omega);rw[show p.start+(s-p.start)=s+0 by omega,a] at b;cases b
  ·exact .inr h2
 ·exact .inl h1
theorem Ca9.packs{g:Sg}{M M1:Nat->Option Sec}{s:Nat}{K:Nat->Option Pk}(r:Ca9 g M M1 (some s))(k:L9 (g.cur M) g.h (g.T M) K)(hl:∀i,(g.cur M1 i).length=512){n:Nat}(hn:n<64) :
  L9 (g.cur M1) g.h (g.T M1) K/\Ext (g.cur M1) g.h (g.T M1) K n ⟨s,[],0⟩:=by
 obtain⟨hf,hT,hkp,hz,h4,hsh⟩:=r;have hap:∀m p,K m=some p->s+16<=p.start∨p.start+16<=s:=λ m p hp=>k.apartFree hf.2.1 hp;refine⟨k.turn hl (G9 g (hkp 2 (by omega) (by omega))) (G9 g (hkp 3 (by omega) (by omega))) (λ m p hp i i1 i2=>G9 g (hkp i (by have:=(k.low m p hp).1;omega) (by have:=hap m p hp;omega))) (λ m p hp i hi=>?_),hn,PkD.nil _ _,⟨h4,hsh,by simp,by simp⟩,λ m q hq _=>hap m q hq,λ i hi=>?_⟩
 ·rw[hT];split
  ·rfl
  ·exact k.taken m p hp i hi
 ·rw[hT,if_pos ⟨by show s<=s+i;omega,by show s+i<s+16;omega⟩]
theorem Ce4{w:World}{g:Sg}{M:Nat->Option Sec}{K:Nat->Option Pk}(h:B7 w g M)(hk:L9 (g.cur M) g.h (g.T M) K)(hh:20<=g.h)(hh2:g.h<=4096)(hc:E1 M g.h+18<=40)(key b:List UInt8)(vb:Value)(hr:Rd w vb b)(hkl:key.length=32)(hbl:b.length<=4200) :
  Calls Tryz.prog 45 #[.pointer (some ⟨g.x.tb,0,none⟩),.agg (bts key).toArray,vb] w λ e w'=>∃M' K' o,e=.returned (Db6 o (46+b.length))/\B7 w' g M'/\L9 (g.cur M') g.h (g.T M') K'/\Z2 K (g.T M) g.h (D8 key b) K' (g.T M') o/\De1 M M' K' o/\E1 M' g.h<=E1 M g.h+18/\Upd g.S w w':=by
 have hlt:=h.lt;obtain⟨kb,hkb⟩:∃kb,kb=w.heap.size:=⟨_,rfl⟩;obtain⟨w1,hw1⟩:∃w1,w1=(w.alloc (.cells (bts key).toArray 35)).alloc (.cells #[.int .i64 0,.int .i64 0,.int .i64 0] 92):=⟨_,rfl⟩;have hu1:Upd [] w w1:=by rw[hw1];exact((Upd.refl _ _).alloc _).alloc _
 have hbk:w1.heap[kb]?=some (.cells (bts key).toArray 35 (0,0)):=by
  rw[hw1,hkb];exact(((Upd.refl [] _).alloc _).block _ (by simp) (by simp)).trans (A4 _)
 have hbr:w1.heap[kb+1]?=some (.cells #[.int .i64 0,.int .i64 0,.int .i64 0] 92 (0,0)):=by
  rw[hw1,hkb];have:=A4 (w:=w.alloc (.cells (bts key).toArray 35)) (.cells #[.int .i64 0,.int .i64 0,.int .i64 0] 92);rwa [World.size_alloc] at this
 have HM:=η (U6 (h.below hu1));have h0:((g.h:Int) == 0)=false:=by rw[beq_eq_false_iff_ne];omega
 have hik:(Tryz.prog.info? 35).map (·.size)=some (bts key).toArray.size:=by rw[List.size_toArray,A5,hkl];exact Af0
 obtain⟨fl,hfl⟩:∃fl,fl=46+b.length:=⟨_,rfl⟩;have HF:=η hfl;have HR:=η hr;have HK:=η hk;have H:=η h;have HLT:=η hlt;have HU1:=η hu1;have HBK:=η hbk;have HBR:=η hbr;have HKB:=η hkb;have HW1:=η hw1;have HBL:=η hbl;have HKL:=η hkl;have hfl2:fl<=4246:=by omega
 rw[← hfl];clear h hk hlt hu1 hbk hbr hkb hw1 hr hfl hbl;go_enter Tryz.func45,Tryz.ntmps45
 go_upto_region 1 with(fail)
 have hw1:=HW1.out;have hkb:=HKB.out;rw[← hw1,← hkb];clear hw1 hkb;go_wp2_with fail
 refine HM.out.mono ?_;rintro e w2 ⟨rfl,m2,hw2⟩;have hu2:Upd [] w1 w2:=by rw[hw2];exact(Upd.refl _ _).drewN _
 have hbk2:=(hu2.block _ (A3 HBK.out) (by simp)).trans HBK.out;have hbr2:=(hu2.block _ (A3 HBR.out) (by simp)).trans HBR.out;have h2:=H.out.below (HU1.out.trans hu2);have hpf:=Cf7 (HR.out.below (HU1.out.trans hu2)) hkl HBL.out;rw[← HF.out] at hpf;have HPF:=η hpf;have H2:=η h2;have HU2:=η (HU1.out.trans hu2);have HBR2:=η hbr2;have HBK2:=η hbk2;clear hw2 hu2 hbk2 hbr2 h2 hpf;go_wp2_with (refine wpList_load_row (by rfl) 35 (.tmp 4) (by rfl) kb (by rfl) _ _ _ _ HBK2.out Tryz.underlying35 rfl hik ?_)
 refine HPF.out.mono ?_;rintro e w3 ⟨fa,fc,rfl,hrow,hu3⟩;have hfl:=V3 (b:=b) hkl;rw[← HF.out] at hfl;have h3:=H2.out.below hu3;have hbr3:=(hu3.block _ (A3 HBR2.out) (by simp)).trans HBR2.out;have HRM:=η (Ci8 h3 HK.out hh hh2 fl (by omega) (-1));have HRW:=η hrow.rd;have HU3:=η (HU2.out.trans hu3);have HBR3:=η hbr3;have HFL:=η hfl;have H3:=η h3;clear hrow hu3 h3 hbr3 hfl;go_wp2_with fail
 refine HRM.out.mono ?_;rintro e w4 ⟨n,free,hR,rfl,h4,hu4⟩;have hnS:∀i,kb<=i->i∉g.S:=λ i hi q=>by have:=HLT.out.1 i q;have:=HKB.out;omega
 have hbr4:=(hu4.block _ (A3 HBR3.out) (λ q=>hnS (kb+1) (by omega) (g.mem _ q))).trans HBR3.out;have hU4:Upd g.S w w4:=(HU3.out.mono (by simp)).trans (hu4.mono g.mem);have hrd4:Rd w4 (.slice fa fl fc) (D8 key b):=((RdS.of HRW.out).sp H3.out hu4 g.mem).1;have HR4:=η hR;have H4:=η h4;have HBR4:=η hbr4;have HU4:=η hU4;have HRD4:=η hrd4;have hn64:=hR.le;have hf64:=hR.free_le;clear hR h4 hu4 hbr4 hU4 hrd4;rcases Nat.lt_or_ge n 64 with hlt | hge
 ·
  obtain⟨_,p,hp,hfit⟩:=HR4.out.fits hlt;rw[hp];have hn6:((n:Int) == 64)=false:=by rw[beq_eq_false_iff_ne];omega
  obtain⟨w5,hw5⟩:∃w5,w5=w4.alloc (.cells #[.int .i64 (p.start:Int),.int .i64 (p.data.length:Int),.int .i64 (p.live:Int)] 200):=⟨_,rfl⟩;obtain⟨sb,hsb⟩:∃sb,sb=w4.heap.size:=⟨_,rfl⟩;have hu5:Upd [] w4 w5:=by rw[hw5];exact(Upd.refl _ _).alloc _
  have hb5:w5.heap[sb]?=some (.cells #[.int .i64 (p.start:Int),.int .i64 (p.data.length:Int),.int .i64 (p.live:Int)] 200 (0,0)):=by rw[hw5,hsb];exact A4 _
  have h5:=H4.out.below hu5;have hbr5:=(hu5.block _ (A3 HBR4.out) (by simp)).trans HBR4.out;have had:=Bk5 h5 HK.out hh hh2 (HK.out.ext hp) (D8 key b) _ (HRD4.out.below hu5) (by rw[HFL.out];exact hfit) (.inl hc);rw[HFL.out] at had;unfold stV plV at had;dsimp only at had;have HAD:=η had;have HU5:=η (HU4.out.trans (hu5.mono (by simp)));have HBR5:=η hbr5;have HW5:=η hw5;have HSB:=η hsb;have HP:=η hp;have m0:w5.cell? ⟨sb,0,none⟩=some (.int .i64 (p.start:Int)):=by rw[A2 hb5];rfl
  have m1:w5.cell? ⟨sb,1,none⟩=some (.int .i64 (p.data.length:Int)):=by rw[A2 hb5];rfl
  have m2:w5.cell? ⟨sb,2,none⟩=some (.int .i64 (p.live:Int)):=by rw[A2 hb5];rfl
  clear hw5 hsb hu5 hb5 h5 hbr5 had hp;unfold stV Ca5;dsimp only;go_upto_region 7 with(fail)
  have hw5:=HW5.out;have hsb:=HSB.out;rw[← hw5,← hsb];clear hw5 hsb;go_wp2_with fail
  refine HAD.out.mono ?_;rintro e w6 ⟨M',rfl,h6,hk6,hT6,ht6,hu6⟩;have hbr6:=(hu6.block _ (A3 HBR5.out) (hnS _ (by omega))).trans HBR5.out;have r0:w6.cell? ⟨kb+1,0,none⟩=some (.int .i64 0):=by rw[A2 hbr6];rfl
  have r1:w6.cell? ⟨kb+1,1,none⟩=some (.int .i64 0):=by rw[A2 hbr6];rfl
  have r2:w6.cell? ⟨kb+1,2,none⟩=some (.int .i64 0):=by rw[A2 hbr6];rfl
  have f0:=B6 hbr6 0;have f1:=B6 hbr6 1;have f2:=B6 hbr6 2;have H6:=η h6;have HK6:=η hk6;have HT6:=η hT6;have HTC6:=η ht6;have HU6:=η hu6;have HBR6:=η hbr6;clear h6 hk6 hT6 ht6 hu6 hbr6;go_wp2_with fail
  refine bodyPost_ret (Ae0 (p:=6) (u:=7) (by rfl) _ _ (kb+1) (.int .i64 (n:Int)) (.int .i64 (p.data.length:Int)) (.int .i64 (fl:Int)) (by rfl) (A8 (A8 (A8 HBR6.out 0 _) 1 _) 2 _)) (by rfl) ?_;have hkb:=HKB.out;have hu7:Upd [kb+1] w6 (((w6.setCell ⟨kb+1,0,none⟩ (.int .i64 (n:Int))).setCell ⟨kb+1,1,none⟩ (.int .i64 (p.data.length:Int))).setCell ⟨kb+1,2,none⟩ (.int .i64 (fl:Int))):=(Upd.refl _ _).three _ _ _ (.inl (List.mem_singleton.2 rfl));have hcn:=HTC6.out.t.cnt H.out.ok H6.out.ok;rw[List.length_cons,List.length_range'] at hcn;have hRR:=HR4.out;rw[← HFL.out] at hRR;refine⟨M',_,some (n,p.data.length),rfl,H6.out.res HLT.out (by omega) HBR6.out (by decide) hu7,HK6.out,.inl ⟨free,p,hRR,hlt,HP.out,rfl,by rw[HFL.out],HT6.out⟩,(λ i i1 i2 i3 hx=>HTC6.out.s i (λ q=>by
   rcases List.mem_cons.1 q with e | e
   ·omega
   ·rw[List.mem_range'_1] at e;exact hx (n,p.data.length) _ rfl (E0 _ _ _) ⟨e.1,e.2⟩)),by omega,(HU5.out.trans HU6.out).late hu7 (λ i hi=> .inr (by simp at hi;omega))⟩
 ·obtain rfl:n=64:=by omega
  rw[HK.out.high 64 (by omega)];have HRR:=HR4.out;rw[← HFL.out] at HRR;have HRX:=η HRR;clear HRR;obtain⟨w5,hw5⟩:∃w5,w5=w4.alloc (.cells #[.int .i64 0,.int .i64 0,.int .i64 0] 200):=⟨_,rfl⟩;obtain⟨sb,hsb⟩:∃sb,sb=w4.heap.size:=⟨_,rfl⟩;have hu5:Upd [] w4 w5:=by rw[hw5];exact(Upd.refl _ _).alloc _
  have hb5:w5.heap[sb]?=some (.cells #[.int .i64 0,.int .i64 0,.int .i64 0] 200 (0,0)):=by rw[hw5,hsb];exact A4 _
  have h5:=H4.out.below hu5;have hbr5:=(hu5.block _ (A3 HBR4.out) (by simp)).trans HBR4.out;have HU5:=η (HU4.out.trans (hu5.mono (by simp)));have HBR5:=η hbr5;have HB5:=η hb5;have HW5:=η hw5;have HSB:=η hsb;have H5:=η h5;have HRD5:=η (HRD4.out.below hu5);have hsk:kb+1<sb:=by have:=A3 HBR4.out;omega
  clear hw5 hsb hu5 hb5 h5 hbr5;by_cases hfull:free=64
  ·subst hfull;unfold stV Ca5;dsimp only;go_upto_region 7 with(fail)
   have hw5:=HW5.out;have hsb:=HSB.out;rw[← hw5,← hsb];clear hw5 hsb;have r0:w5.cell? ⟨kb+1,0,none⟩=some (.int .i64 0):=by rw[A2 HBR5.out];rfl
   have r1:w5.cell? ⟨kb+1,1,none⟩=some (.int .i64 0):=by rw[A2 HBR5.out];rfl
   have r2:w5.cell? ⟨kb+1,2,none⟩=some (.int .i64 0):=by rw[A2 HBR5.out];rfl
   have f0:=B6 HBR5.out 0;have f1:=B6 HBR5.out 1;have f2:=B6 HBR5.out 2;have k64:(((64:Nat):Int) == 64)=true:=rfl;go_wp2_with fail
   refine bodyPost_ret (Ae0 (p:=6) (u:=7) (by rfl) _ _ (kb+1) (.int .i64 0) (.int .i64 0) (.int .i64 0) (by rfl) (A8 (A8 (A8 HBR5.out 0 _) 1 _) 2 _)) (by rfl) ?_;have hkb:=HKB.out;have hu7:Upd [kb+1] w5 (((w5.setCell ⟨kb+1,0,none⟩ (.int .i64 0)).setCell ⟨kb+1,1,none⟩ (.int .i64 0)).setCell ⟨kb+1,2,none⟩ (.int .i64 0)):=(Upd.refl _ _).three _ _ _ (.inl (List.mem_singleton.2 rfl));exact⟨M,K,Option.none,rfl,H5.out.res HLT.out (by omega) HBR5.out (by decide) hu7,HK.out,⟨64,HRX.out,rfl,rfl,.inl rfl⟩,λ _ _ _ _ _=>rfl,by omega,HU5.out.late hu7 (λ i hi=> .inr (by simp at hi;omega))⟩
  ·have hflt:free<64:=by omega
   have k64:((free:Int) == 64)=false:=by rw[beq_eq_false_iff_ne];omega
   have k65:(((64:Nat):Int) == 64)=true:=rfl;have HBG:=η (Cq0 H5.out hh hh2 hc);unfold stV Ca5;dsimp only;go_upto_region 7 with(fail)
   have hw5:=HW5.out;have hsb:=HSB.out;rw[← hw5,← hsb];clear hw5 hsb;go_wp2_with fail
   refine HBG.out.mono ?_;rintro e w6 ⟨o,M1,rfl,hb6,h6,hu6⟩;have hbr6:=(hu6.block _ (A3 HBR5.out) (hnS _ (by omega))).trans HBR5.out;have hbs6:=(hu6.block _ (A3 HB5.out) (hnS _ (by omega))).trans HB5.out;have m0:w6.cell? ⟨sb,0,none⟩=some (.int .i64 0):=by rw[A2 hbs6];rfl
   have m1:w6.cell? ⟨sb,1,none⟩=some (.int .i64 0):=by rw[A2 hbs6];rfl
   have m2:w6.cell? ⟨sb,2,none⟩=some (.int .i64 0):=by rw[A2 hbs6];rfl
   have f0:=B6 hbs6 0;have f1:=B6 hbs6 1;have f2:=B6 hbs6 2;rcases o with _ | s
   ·
    obtain⟨hff,rfl⟩:=hb6;obtain⟨w7,hw7⟩:∃w7,w7=(((w6.setCell ⟨sb,0,none⟩ (.int .i64 0)).setCell ⟨sb,1,none⟩ (.int .i64 0)).setCell ⟨sb,2,none⟩ (.int .i64 0)):=⟨_,rfl⟩;have hu7:Upd [sb] w6 w7:=by rw[hw7];exact(Upd.refl _ _).three _ _ _ (.inl (List.mem_singleton.2 rfl))
    have hbr7:=(hu7.block _ (A3 hbr6) (by simp;omega)).trans hbr6;have h7:B7 w7 g M1:=h6.res HLT.out (by have:=HKB.out;omega) hbs6 (by decide) hu7;have HH:Hid (Upd g.S w w7):=η ((HU5.out.trans hu6).late hu7 (λ i hi=> .inr (by have:=HKB.out;simp at hi;omega)));have H7:=η h7;have HBR7:=η hbr7;have HFF:=η hff;have HW7:=η hw7;clear hff h6 hu6 hbr6 hbs6 hw7 hu7 hbr7 h7;unfold stV;dsimp only[Option.getD];rw[if_pos rfl];go_upto_region 12 with(fail)
    have hw7:=HW7.out;rw[← hw7];clear hw7 m0 m1 m2 f0 f1 f2;have r0:w7.cell? ⟨kb+1,0,none⟩=some (.int .i64 0):=by rw[A2 HBR7.out];rfl
    have r1:w7.cell? ⟨kb+1,1,none⟩=some (.int .i64 0):=by rw[A2 HBR7.out];rfl
    have r2:w7.cell? ⟨kb+1,2,none⟩=some (.int .i64 0):=by rw[A2 HBR7.out];rfl
    have f0:=B6 HBR7.out 0;have f1:=B6 HBR7.out 1;have f2:=B6 HBR7.out 2;go_wp2_with fail
    refine bodyPost_ret (Ae0 (p:=6) (u:=7) (by rfl) _ _ (kb+1) (.int .i64 0) (.int .i64 0) (.int .i64 0) (by rfl) (A8 (A8 (A8 HBR7.out 0 _) 1 _) 2 _)) (by rfl) ?_;have hkb:=HKB.out;have hu8:Upd [kb+1] w7 (((w7.setCell ⟨kb+1,0,none⟩ (.int .i64 0)).setCell ⟨kb+1,1,none⟩ (.int .i64 0)).setCell ⟨kb+1,2,none⟩ (.int .i64 0)):=(Upd.refl _ _).three _ _ _ (.inl (List.mem_singleton.2 rfl));exact⟨M1,K,Option.none,rfl,H7.out.res HLT.out (by omega) HBR7.out (by decide) hu8,HK.out,⟨free,HRX.out,rfl,rfl,.inr HFF.out⟩,λ _ _ _ _ _=>rfl,by omega,HH.out.late hu8 (λ i hi=> .inr (by simp at hi;omega))⟩
   ·
    obtain⟨hkM,hxt⟩:=hb6.packs HK.out (λ i=>h6.cur_len i) hflt;obtain⟨hff,hTT,hkp,hzz,h4s,hsh⟩:=id hb6;obtain⟨w7,hw7⟩:∃w7,w7=(((w6.setCell ⟨sb,0,none⟩ (.int .i64 (s:Int))).setCell ⟨sb,1,none⟩ (.int .i64 0)).setCell ⟨sb,2,none⟩ (.int .i64 0)):=⟨_,rfl⟩;have hu7:Upd [sb] w6 w7:=by rw[hw7];exact(Upd.refl _ _).three _ _ _ (.inl (List.mem_singleton.2 rfl))
    have hbr7:=(hu7.block _ (A3 hbr6) (by simp;omega)).trans hbr6;have hbs7:w7.heap[sb]?=some (.cells #[.int .i64 (s:Int),.int .i64 0,.int .i64 0] 200 (0,0)):=by rw[hw7];exact A8 (A8 (A8 hbs6 0 _) 1 _) 2 _
    have h7:B7 w7 g M1:=h6.res HLT.out (by have:=HKB.out;omega) hbs6 (by decide) hu7;have hrd7:Rd w7 (.slice fa fl fc) (D8 key b):=by
     have q1:=((RdS.of HRD5.out).sp H5.out hu6 (λ k hk=>hk)).keep hu7 (λ k hk hlt o c e=>by
      simp at hk;subst hk;rw[A2 hbs6] at e;match o,e with
      | 0,e | 1,e | 2,e=>simp[bv] at e
      | o+3,e=>simp at e)
     exact q1.1
    have hc1:E1 M1 g.h<40:=by
     have ht:Ag7 M M1 (1 :: List.range' s 16):=λ i hi=>by
      by_cases e:i=1
      ·right;rw[e];exact List.mem_cons_self ..
      ·by_cases e2:s<=i/\i<s+16
       ·right;exact List.mem_cons_of_mem _ (by rw[List.mem_range'_1];omega)
       ·rw[hkp i e e2] at hi;exact .inl hi
     have:=ht.cnt H.out.ok h6.ok;rw[List.length_cons,List.length_range'] at this;omega
    have had:=Bk5 h7 hkM hh hh2 hxt (D8 key b) _ hrd7 (by rw[HFL.out];simp;omega) (.inr ⟨hc1,λ i i1 i2=>by rw[hzz i i1 i2];rfl⟩);rw[HFL.out] at had;unfold stV plV at had;dsimp only[List.length_nil] at had;have HAD:=η had;have HH:Hid (Upd g.S w w7):=η ((HU5.out.trans hu6).late hu7 (λ i hi=> .inr (by have:=HKB.out;simp at hi;omega)));have H7:=η h7;have HBR7:=η hbr7;have HBS7:=η hbs7;have HBB:=η hb6;have HW7:=η hw7;clear hkM hxt hff hTT hkp hzz h6 hu6 hbr6 hbs6 hw7 hu7 hbr7 hbs7 h7 hrd7 hc1 had hb6;unfold stV;dsimp only[Option.getD];rw[if_neg (λ e=>by cases e)];go_upto_region 12 with(fail)
    have hw7:=HW7.out;rw[← hw7];clear hw7 m0 m1 m2 f0 f1 f2;have n0:w7.cell? ⟨sb,0,none⟩=some (.int .i64 (s:Int)):=by rw[A2 HBS7.out];rfl
    have n1:w7.cell? ⟨sb,1,none⟩=some (.int .i64 0):=by rw[A2 HBS7.out];rfl
    have n2:w7.cell? ⟨sb,2,none⟩=some (.int .i64 0):=by rw[A2 HBS7.out];rfl
    go_wp2_with fail
    refine HAD.out.mono ?_;rintro e w8 ⟨M',rfl,h8,hk8,hT8,ht8,hu8⟩;have hbr8:=(hu8.block _ (A3 HBR7.out) (hnS _ (by omega))).trans HBR7.out;have r0:w8.cell? ⟨kb+1,0,none⟩=some (.int .i64 0):=by rw[A2 hbr8];rfl
    have r1:w8.cell? ⟨kb+1,1,none⟩=some (.int .i64 0):=by rw[A2 hbr8];rfl
    have r2:w8.cell? ⟨kb+1,2,none⟩=some (.int .i64 0):=by rw[A2 hbr8];rfl
    have f0:=B6 hbr8 0;have f1:=B6 hbr8 1;have f2:=B6 hbr8 2;have H8:=η h8;have HK8:=η hk8;have HT8:=η hT8;have HTC8:=η ht8;have HU8:=η hu8;have HBR8:=η hbr8;clear h8 hk8 hT8 ht8 hu8 hbr8 n0 n1 n2;go_wp2_with fail
    refine bodyPost_ret (Ae0 (p:=6) (u:=7) (by rfl) _ _ (kb+1) (.int .i64 (free:Int)) (.int .i64 0) (.int .i64 (fl:Int)) (by rfl) (A8 (A8 (A8 HBR8.out 0 _) 1 _) 2 _)) (by rfl) ?_;have hkb:=HKB.out;have hu9:Upd [kb+1] w8 (((w8.setCell ⟨kb+1,0,none⟩ (.int .i64 (free:Int))).setCell ⟨kb+1,1,none⟩ (.int .i64 0)).setCell ⟨kb+1,2,none⟩ (.int .i64 (fl:Int))):=(Upd.refl _ _).three _ _ _ (.inl (List.mem_singleton.2 rfl));obtain⟨hff,hTT,hkp,hzz,h4s,hsh⟩:=HBB.out;have ht:Ag7 M M' (1 :: (2+free / 32) :: List.range' s 16):=λ i hi=>by
     rcases HTC8.out.t i hi with q | q
     ·by_cases e:i=1
      ·right;rw[e];exact List.mem_cons_self ..
      ·by_cases e2:s<=i/\i<s+16
       ·right;exact List.mem_cons_of_mem _ (List.mem_cons_of_mem _ (by rw[List.mem_range'_1];omega))
       ·rw[hkp i e e2] at q;exact .inl q
     ·right;exact List.mem_cons_of_mem _ q
    have hcn:=ht.cnt H.out.ok H8.out.ok;rw[List.length_cons,List.length_cons,List.length_range'] at hcn;have hk8:=HK8.out;refine⟨M',_,some (free,0),rfl,H8.out.res HLT.out (by omega) HBR8.out (by decide) hu9,hk8,.inr ⟨s,HRX.out,hflt,rfl,hff,?_,λ i=>?_⟩,λ i i1 i2 i3 hx=>?_,by omega,(HH.out.trans HU8.out).late hu9 (λ i hi=> .inr (by simp at hi;omega))⟩
    ·rw[HFL.out,List.nil_append,Nat.zero_add]
    ·rw[HT8.out];exact hTT i
    ·have hs9:¬(s<=i/\i<s+16):=hx (free,0) _ rfl (E0 _ _ _);rw[HTC8.out.s i (λ q=>by
      rcases List.mem_cons.1 q with e | e
      ·omega
      ·rw[List.mem_range'_1] at e;exact hs9 ⟨e.1,e.2⟩)]
     exact hkp i i1 hs9
end Go.Proofs.YtgfbepakonjbnaaGreat
end
end
