/-
  space.Root, SetRoot; Free's other answers.
-/
import Derived.Test.YtgfbepakonjbnaaGreatW10
import Derived.Test.YtgfbepakonjbnaaGreatW15
import Derived.Test.YtgfbepakonjbnaaGreatW20
import Derived.Test.YtgfbepakonjbnaaGreatW01
import Derived.ProofKit
import Derived.OpenShut
import Derived.Carry
import Derived.Test.YtgfbepakonjbnaaGreatW09
import Derived.Lib.SlBytesRow
import Derived.Deep.Slices
import Derived.Deep.Strs
set_option maxRecDepth 100000
set_option maxHeartbeats 16000000
section
namespace Go.Proofs.YtgfbepakonjbnaaGreat
open Go.RowKit Go.MapKept Go.ChangeMaps
def Sg.R(g:Sg)(M:Nat->Option Sec)(k:Nat):Nat:=num (g.cur M 0) (4*k) 4
def Bw8(M:Nat->Option Sec)(s:Sec):Nat->Option Sec:=λ k=>if k=0 then some s else M k
theorem Bq0{w:World}{g:Sg}{M:Nat->Option Sec}(h:B9 w g M)(hh:1<g.h)(k:Nat)(hk:k<16) :
  Calls Tryz.prog 89 #[.pointer (some ⟨g.x.tb,0,none⟩),.int .i64 (k:Int)] w λ e w'=>e=.returned (.tuple #[.int .u32 (g.R M k:Int),.int .i64 0])/\B9 w' g M/\Upd g.S w w':=by
 have HH:=η (U9 h);have H:=η h;have hb:((g.h:Int) == 0)=false:=by rw[beq_eq_false_iff_ne];omega
 have d1:decide ((k:Int)<0)=false:=decide_eq_false (by omega);have d2:decide (16<=(k:Int))=false:=decide_eq_false (by omega);have d3:decide (16<=k)=false:=decide_eq_false (by omega);have HL:=η (h.cur_len 0);obtain⟨N,hN⟩:∃N:Int,N=(g.R M k:Int):=⟨_,rfl⟩;have hN0:0<=N:=by omega
 have hN1:N<4294967296:=by have:=Ap5 (g.cur M 0) (4*k) 4;unfold Sg.R at hN;omega
 have hwr:IntKind.u32.wrap N=N:=by rw[IntKind.wrap_u32];omega
 have HN:=η hN;rw[← hN];clear h hN;go_enter Tryz.func89,Tryz.ntmps89
 go_wp2_with fail
 refine HH.out.mono ?_;rintro e w1 ⟨rfl,n1,hn1⟩;have hu1:Upd [] w w1:=by rw[hn1];exact(Upd.refl _ _).drewN _
 have HRD:=η (At0 (H.out.below hu1) 0 (by omega));have HU1:=η hu1;clear hn1 hu1;go_wp2_with fail
 refine HRD.out.mono ?_;rintro e w2 ⟨v,rfl,ho,h2,hu2⟩;obtain⟨av,lv,cv,rfl⟩:∃a b c,v=.slice a b c:=by obtain⟨a,c,rfl,_⟩:=ho.rd;exact⟨_,_,_,rfl⟩
 have hat:=Am9 _ _ (4*k) 4 w2 ho.rd (by omega) (by omega) (by rw[HL.out];omega) (by rw[HL.out];omega);rw[show((4*k:Nat):Int)=4*(k:Int) from by omega,show((4:Nat):Int)=4 from rfl,show((num (g.cur M 0) (4*k) 4:Nat):Int)=N from by rw[HN.out];rfl] at hat;have HAT:=η hat;have HU2:=η ((HU1.out.mono (by simp)).trans (hu2.mono g.mem));have H2:=η h2;clear ho hat h2 hu2;go_wp2_with fail
 refine HAT.out.mono ?_;rintro e w' ⟨rfl,rfl⟩;go_wp2_with fail
 go_ret2;exact⟨rfl,H2.out,HU2.out⟩
theorem Cc9{w:World}{g:Sg}{M:Nat->Option Sec}(h:B9 w g M)(hh:1<g.h)(hc:(M 0).isSome=true∨D9 M g.h<40)(k:Nat)(hk:k<16)(V:Nat) :
  Calls Tryz.prog 172 #[.pointer (some ⟨g.x.tb,0,none⟩),.int .i64 (k:Int),.int .u32 (V:Int)] w λ e w'=>e=.returned (.int .i64 0)/\B9 w' g (Bw8 M (put (g.cur M 0) (4*k) 4 V))/\Upd g.S w w':=by
 have HH:=η (U9 h);have H:=η h;have HC:=η hc;have hb:((g.h:Int) == 0)=false:=by rw[beq_eq_false_iff_ne];omega
 have d1:decide ((k:Int)<0)=false:=decide_eq_false (by omega);have d2:decide (16<=(k:Int))=false:=decide_eq_false (by omega);have d3:decide (16<=k)=false:=decide_eq_false (by omega);have HL:=η (h.cur_len 0);clear h hc;go_enter Tryz.func172,Tryz.ntmps172
 go_wp2_with fail
 refine HH.out.mono ?_;rintro e w1 ⟨rfl,n1,hn1⟩;have hu1:Upd [] w w1:=by rw[hn1];exact(Upd.refl _ _).drewN _
 have HRD:Hid (Calls Tryz.prog 155 #[.pointer (some ⟨g.x.tb,0,none⟩),.int .i64 0] w1 λ e w'=>∃v,e=.returned (.tuple #[v,.int .i64 0])/\Y7 w' 5 (λ k=>w1.heap.size<=k) v (g.cur M 0)/\B9 w' g M/\Upd [g.j.jb] w1 w'):=η (At0 (H.out.below hu1) 0 (by omega));have HU1:=η hu1;clear hn1 hu1;go_wp2_with fail
 refine HRD.out.mono ?_;rintro e w2 ⟨v,rfl,ho,h2,hu2⟩;obtain⟨kb,c,rfl,_,hkb,-⟩:=ho.sec HL.out;have ho2:=ho.own (by rw[HL.out];omega);have HLT:=η (show w.heap.size<=kb from Nat.le_trans HU1.out.size hkb);have HO2:=η ho2;have H1:=η (H.out.below HU1.out);have HU12:=η hu2;have HU2:=η ((HU1.out.mono (by simp)).trans (hu2.mono g.mem));have H2:=η h2;have HKB:=η hkb;clear ho ho2 hkb h2 hu2;go_wp2_with fail
 go_loopw [29] (λ i wr=>∃q:Nat,q<=4/\i=.int .i64 (q:Int)/\Own wr 5 (λ k=>w1.heap.size<=k) (.slice (some ⟨kb,0,none⟩) 512 c) (Ai1 (g.cur M 0) (4*k) 4 V q)/\Upd [kb] w2 wr) (λ i _=>4-(intOf i).toNat)
 case atStart=>exact⟨0,by omega,rfl,by rw[Ag4];exact HO2.out,Upd.refl _ _⟩
 case round=>
  obtain⟨q,hq,rfl,ho,hu⟩:=hrel;by_cases hlt:q<4
  ·have hlt':decide ((q:Int)<4)=true:=decide_eq_true (by omega);have hlen:(Ai1 (g.cur M 0) (4*k) 4 V q).length=512:=by rw[Ab0 (by omega) (by rw[HL.out];omega)];exact HL.out
   have hst:=Ag6 (b:=g.cur M 0) (a:=4*k) (n:=4) (v:=V) hlt (by rw[HL.out];omega);obtain⟨I,hI⟩:∃I,I=4*k+q:=⟨_,rfl⟩;have hIk:4*(k:Int)+(q:Int)=(I:Int):=by omega
   obtain⟨hcl,hf⟩:=ho.cell512 hlen (q:=I) (by omega);obtain⟨Y,hY⟩:∃Y,Y=V / 256 ^ (4-1-q) % 256:=⟨_,rfl⟩;have o2:=Aj4 ho hlen (q:=I) (by omega) (y:=Y) (by omega);have eY:UInt8.ofNat Y=UInt8.ofNat (V / 256 ^ (4-1-q)):=by
    apply UInt8.toNat_inj.1;rw[UInt8.toNat_ofNat',UInt8.toNat_ofNat',hY];omega
   rw[eY,hI,hst,← hI] at o2;have u2:Upd [kb] wr (wr.setCell ⟨kb,I,none⟩ (.int .u8 (Y:Int))):=(Upd.refl _ _).set _ (by simp);have HO:=η o2;have HUx:=η (hu.trans u2);have i0:(0:Int)<=(I:Int):=by omega
   have i1:(I:Int)<512:=by omega
   have s0:decide ((24:Int)-8*(q:Int)<0)=false:=decide_eq_false (by omega);have hsh:(0:Int)<=24-8*(q:Int):=by omega
   have hsh2:24-8*(q:Int)<=24:=by omega
   have hYI:(V:Int) / 2 ^ (24-8*q) % 256=(Y:Int):=by
    have e1:(2:Int) ^ (24-8*q)=((256 ^ (4-1-q):Nat):Int):=by
     rw[show(256:Nat)=2 ^ 8 from rfl,← Nat.pow_mul,Int.natCast_pow,show 24-8*q=8*(4-1-q) from by omega];rfl
    rw[e1,hY];omega
   have HYI:=η hYI;clear ho hu hlen hst hI eY o2 u2 hYI hY;go_wp2_with fail
   exact⟨⟨q+1,by omega,by go_num,by rw[HYI.out];exact HO.out,by rw[HYI.out];exact HUx.out⟩,by simp[intOf];omega⟩
  ·obtain rfl:q=4:=by omega
   have hlt':decide (((4:Nat):Int)<4)=false:=rfl;rw[Ag5] at ho;have hlen:(put (g.cur M 0) (4*k) 4 V).length=512:=by rw[Ad1 (by rw[HL.out];omega)];exact HL.out
   have h3:=H1.out.late H2.out HU12.out hu (λ q hq=>by simp at hq;subst hq;exact HKB.out);have HW:Hid (Calls Tryz.prog 140 #[.pointer (some ⟨g.x.tb,0,none⟩),.int .i64 0,.slice (some ⟨kb,0,none⟩) 512 c] wr λ e w'=>e=.returned (.int .i64 0)/\B9 w' g (Bw8 M (put (g.cur M 0) (4*k) 4 V))/\Upd [g.x.wb] wr w'):=η (Aj3 h3 0 (by omega) _ _ ho.rd hlen HC.out);have HU3:=η (HU2.out.late hu (λ k hk=>by simp at hk;subst hk;exact .inr HLT.out));clear ho hu hlen h3;go_wp2_with fail
   refine HW.out.mono ?_;rintro e w4 ⟨rfl,h4,hu4⟩;have H4:=η h4;have HU4:=η (HU3.out.trans (hu4.mono g.memw));clear h4 hu4;go_wp2_with fail
   go_ret;exact⟨rfl,H4.out,HU4.out⟩
end Go.Proofs.YtgfbepakonjbnaaGreat
end
section
set_option linter.unusedSimpArgs false
set_option linter.unusedVariables false
namespace Go.Proofs.YtgfbepakonjbnaaGreat
open Go.RowKit Go.MapKept Go.ChangeMaps
section
def L6(n a l:Nat):Bs:=put (put (put z16 0 4 n) 4 4 a) 8 4 l
theorem U6(n a l:Nat):(L6 n a l).length=16:=by
 have h1:=E8 (b:=z16) (L:=16) rfl (a:=0) (n:=4) (v:=n) (by omega);have h2:=E8 h1 (a:=4) (n:=4) (v:=a) (by omega);exact E8 h2 (a:=8) (n:=4) (v:=l) (by omega)
theorem Bt7{n a l:Nat}(hn:n<4294967296)(ha:a<4294967296)(hl:l<4294967296):num (L6 n a l) 0 4=n/\num (L6 n a l) 4 4=a/\num (L6 n a l) 8 4=l:=by
 have h1:=E8 (b:=z16) (L:=16) rfl (a:=0) (n:=4) (v:=n) (by omega);have h2:=E8 h1 (a:=4) (n:=4) (v:=a) (by omega);unfold L6;refine⟨?_,?_,?_⟩
 ·rw[E4 _ (by rw[h2];omega) (.inl (by omega)),E4 _ (by rw[h1];omega) (.inl (by omega)),P3 (by decide) (by omega)]
 ·rw[E4 _ (by rw[h2];omega) (.inl (by omega)),P3 (by rw[h1];omega) (by omega)]
 ·rw[P3 (by rw[h2];omega) (by omega)]
def Rc.ent(r:Rc):C3:=(r.key,L6 r.n r.at_ r.len)
def P9:List Rc->Bs->Option Rc
 | [],_=>none
 | r :: R,key=>if ltB r.key key then P9 R key else if r.key=key then some r else none
theorem Bk7:∀(R:List Rc) (key:Bs),R5 (R.map Rc.ent) key=(P9 R key).map λ r=>L6 r.n r.at_ r.len
 | [],_=>rfl
 | r :: R,key=>by
  have ih:=Bk7 R key;simp only[List.map_cons,R5,P9];by_cases h:ltB r.key key=true
  ·rw[if_pos (show ltB r.ent.1 key=true from h),if_pos h,ih]
  ·rw[if_neg (show ¬ltB r.ent.1 key=true from h),if_neg h];by_cases e:r.key=key
   ·rw[if_pos (show r.ent.1=key from e),if_pos e];rfl
   ·rw[if_neg (show ¬r.ent.1=key from e),if_neg e];rfl
theorem Ag9:∀{R:List Rc} {key:Bs} {r:Rc},P9 R key=some r->r∈R/\r.key=key
 | [],_,_,h=>by cases h
 | x :: R,key,r,h=>by
  unfold P9 at h;split at h
  ·obtain⟨h1,h2⟩:=Ag9 h;exact⟨List.mem_cons_of_mem _ h1,h2⟩
  ·split at h
   ·rename_i e;cases h;exact⟨List.mem_cons_self ..,e⟩
   ·cases h
theorem M5.perm'{K:Nat->Option Pk}{R R':List Rc}(k:M5 K R)(h:R.Perm R'):M5 K R':=
 ⟨λ r hr=>k.rec_ r (h.symm.subset hr),λ n p hp=>by rw[← Ay8 h];exact k.live n p hp⟩
def V5:List Rc->Rc->List Rc
 | [],x=>[x]
 | r :: R,x=>if ltB r.key x.key then r :: V5 R x else if r.key=x.key then x :: R else x :: r :: R
theorem Bt8:∀(R:List Rc) (x:Rc),(V5 R x).map Rc.ent=O4 (R.map Rc.ent) x.key (L6 x.n x.at_ x.len)
 | [],_=>rfl
 | r :: R,x=>by
  have ih:=Bt8 R x;simp only[List.map_cons,O4,V5];by_cases h:ltB r.key x.key=true
  ·rw[if_pos (show ltB r.ent.1 x.key=true from h),if_pos h,List.map_cons,ih]
  ·rw[if_neg (show ¬ltB r.ent.1 x.key=true from h),if_neg h];by_cases e:r.key=x.key
   ·rw[if_pos (show r.ent.1=x.key from e),if_pos e];rfl
   ·rw[if_neg (show ¬r.ent.1=x.key from e),if_neg e];rfl
def Ao6(R:List Rc):Prop:=(R.map (·.key)).Pairwise (λ x y=>ltB x y=true)
theorem Av4:∀{R:List Rc} {x:Rc},P9 R x.key=none->(V5 R x).Perm (x :: R)
 | [],x,_=>List.Perm.refl _
 | r :: R,x,hn=>by
  unfold P9 at hn;unfold V5;by_cases h:ltB r.key x.key=true
  ·rw[if_pos h] at hn ⊢;exact((Av4 hn).cons r).trans (List.Perm.swap x r R)
  ·rw[if_neg h] at hn ⊢;by_cases e:r.key=x.key
   ·rw[if_pos e] at hn;cases hn
   ·rw[if_neg e]
theorem Bk8:∀{R:List Rc} {key:Bs} {y:Rc},P9 R key=some y->∃A B,R=A++y :: B/\∀x:Rc,x.key=key->V5 R x=A++x :: B
 | [],key,y,h=>by cases h
 | r :: R,key,y,h=>by
  unfold P9 at h;by_cases hl:ltB r.key key=true
  ·rw[if_pos hl] at h;obtain⟨A,B,e1,e2⟩:=Bk8 h;refine⟨r :: A,B,by rw[e1];rfl,λ x hx=>?_⟩;unfold V5;rw[hx,if_pos hl,e2 x hx];rfl
  ·rw[if_neg hl] at h;by_cases e:r.key=key
   ·rw[if_pos e] at h;cases h
    refine⟨[],R,rfl,λ x hx=>?_⟩;unfold V5;rw[hx,if_neg hl,if_pos e];rfl
   ·rw[if_neg e] at h;cases h
theorem Be8(R:List Rc)(x:Rc):(V5 R x).length<=R.length+1:=by
 induction R with
 | nil=>simp[V5]
 | cons r R ih=>
  unfold V5;split
  ·simp only[List.length_cons];omega
  ·split<;>simp only[List.length_cons]<;>omega
theorem Bt9:∀{R:List Rc} {x y:Rc},y∈V5 R x->y=x∨y∈R
 | [],x,y,h=>by simp[V5] at h;exact .inl h
 | r :: R,x,y,h=>by
  unfold V5 at h;split at h
  ·rcases List.mem_cons.1 h with e | e
   ·exact .inr (by rw[e];exact List.mem_cons_self ..)
   ·rcases Bt9 e with q | q
    ·exact .inl q
    ·exact .inr (List.mem_cons_of_mem _ q)
  ·split at h
   ·rcases List.mem_cons.1 h with e | e
    ·exact .inl e
    ·exact .inr (List.mem_cons_of_mem _ e)
   ·rcases List.mem_cons.1 h with e | e
    ·exact .inl e
    ·exact .inr e
theorem Bk9:∀{R:List Rc} {x:Rc},Ao6 R->Ao6 (V5 R x)
 | [],x,_=>by unfold Ao6 V5;simp
 | r :: R,x,hs=>by
  have hs2:=List.pairwise_cons.1 hs;unfold V5;by_cases h:ltB r.key x.key=true
  ·rw[if_pos h];refine List.pairwise_cons.2 ⟨λ k hk=>?_,Bk9 hs2.2⟩;obtain⟨y,hy,rfl⟩:=List.mem_map.1 hk;rcases Bt9 hy with rfl | q
   ·exact h
   ·exact hs2.1 _ (List.mem_map.2 ⟨y,q,rfl⟩)
  ·rw[if_neg h];by_cases e:r.key=x.key
   ·rw[if_pos e];exact List.pairwise_cons.2 ⟨λ k hk=>by have:=hs2.1 k hk;dsimp only at this ⊢;rw[← e];exact this,hs2.2⟩
   ·rw[if_neg e];have hlt:ltB x.key r.key=true:=by
     cases q:ltB x.key r.key
     ·exact absurd (Y4 (by simpa using h) q) e
     ·rfl
    refine List.pairwise_cons.2 ⟨λ k hk=>?_,hs⟩;rcases List.mem_cons.1 hk with rfl | q
    ·exact hlt
    ·exact L9 hlt (hs2.1 k q)
def InP(K:Nat->Option Pk)(i:Nat):Prop:=∃n p,K n=some p/\p.start<=i/\i<p.start+16
structure KpM(C:Nat->Sec)(h:Nat)(T:Nat->Bool)(r:Nat)(S:List Nat)(K:Nat->Option Pk)(Rp Rt:List Rc):Prop where
 pk:M4 C h T K
 rc:M5 K Rp
 tr:Z4 C r (Rt.map Rc.ent) S
 nd:S.Nodup
 low:∀s,s∈S->4<=s/\s<h
 only:∀i,T i=true↔i<4∨i∈S∨InP K i
 apart:∀s,s∈S->¬InP K s
theorem InP.set{K:Nat->Option Pk}{n:Nat}{p:Pk}{i:Nat}:InP (Ab7 K n (some p)) i↔(p.start<=i/\i<p.start+16)∨∃m q,m≠n/\K m=some q/\q.start<=i/\i<q.start+16:=by
 constructor
 ·rintro⟨m,q,hq,h1,h2⟩;by_cases e:m=n
  ·subst e;rw[E2] at hq;cases hq;exact .inl ⟨h1,h2⟩
  ·rw[F8 _ _ e] at hq;exact .inr ⟨m,q,e,hq,h1,h2⟩
 ·rintro(⟨h1,h2⟩ | ⟨m,q,e,hq,h1,h2⟩)
  ·exact⟨n,p,E2 _ _ _,h1,h2⟩
  ·exact⟨m,q,by rw[F8 _ _ e];exact hq,h1,h2⟩
theorem InP.same{K:Nat->Option Pk}{n:Nat}{p p':Pk}(hn:K n=some p)(hs:p'.start=p.start)(i:Nat):InP (Ab7 K n (some p')) i↔InP K i:=by
 rw[InP.set,hs];constructor
 ·rintro(⟨h1,h2⟩ | ⟨m,q,e,hq,h1,h2⟩)
  ·exact⟨n,p,hn,h1,h2⟩
  ·exact⟨m,q,hq,h1,h2⟩
 ·rintro⟨m,q,hq,h1,h2⟩;by_cases e:m=n
  ·rw[e,hn] at hq;cases hq;exact .inl ⟨h1,h2⟩
  ·exact .inr ⟨m,q,e,hq,h1,h2⟩
theorem InP.new{K:Nat->Option Pk}{n:Nat}{p:Pk}(hn:K n=none)(i:Nat):InP (Ab7 K n (some p)) i↔(p.start<=i/\i<p.start+16)∨InP K i:=by
 rw[InP.set];refine or_congr Iff.rfl ⟨?_,?_⟩
 ·rintro⟨m,q,e,hq,h1,h2⟩;exact⟨m,q,hq,h1,h2⟩
 ·rintro⟨m,q,hq,h1,h2⟩;exact⟨m,q,(λ e=>by rw[e,hn] at hq;cases hq),hq,h1,h2⟩
theorem InP.gone{C:Nat->Sec}{h:Nat}{T:Nat->Bool}{K:Nat->Option Pk}(k:M4 C h T K){n:Nat}{p:Pk}(hn:K n=some p)(i:Nat):InP (Ab7 K n none) i↔InP K i/\¬(p.start<=i/\i<p.start+16):=by
 constructor
 ·rintro⟨m,q,hq,h1,h2⟩;by_cases e:m=n
  ·rw[e,E2] at hq;cases hq
  ·rw[F8 _ _ e] at hq;have:=k.apart m q n p hq hn e;exact⟨⟨m,q,hq,h1,h2⟩,by omega⟩
 ·rintro⟨⟨m,q,hq,h1,h2⟩,h3⟩;by_cases e:m=n
  ·rw[e,hn] at hq;cases hq;exact absurd ⟨h1,h2⟩ h3
  ·exact⟨m,q,by rw[F8 _ _ e];exact hq,h1,h2⟩
section
variable {C C':Nat->Sec} {h r:Nat} {T T':Nat->Bool} {S:List Nat} {K K':Nat->Option Pk} {Rp Rt:List Rc}
theorem KpM.drop(k:KpM C h T r S K Rp Rt)(hpk:M4 C' h T' K'){x:Rc}{Rp':List Rc}(hd:Bb5 K T x.n x.len K' T')(hp:Rp.Perm (x :: Rp'))(hc:∀i,i≠1->i≠2->i≠3->C' i=C i):KpM C' h T' r S K' Rp' Rt:=by
 have hrc:=k.rc.drop hp hd;have htr:Z4 C' r (Rt.map Rc.ent) S:=k.tr.keep λ s hs=>by have:=k.low s hs;exact hc s (by omega) (by omega) (by omega)
 obtain⟨p,hn,_,⟨_,rfl,hT⟩ | ⟨_,rfl,rfl⟩⟩:=hd
 ·refine⟨hpk,hrc,htr,k.nd,k.low,λ i=>?_,λ s hs q=>k.apart s hs ((InP.gone k.pk hn s).1 q).1⟩;rw[hT,InP.gone k.pk hn];have h4:=(k.pk.low _ _ hn).1;by_cases e:p.start<=i/\i<p.start+16
  ·rw[if_pos e];refine⟨(λ q=>by cases q),?_⟩;rintro(q | q | ⟨_,q⟩)
   ·omega
   ·exact absurd ⟨_,p,hn,e.1,e.2⟩ (k.apart i q)
   ·exact absurd e q
  ·rw[if_neg e,k.only i];exact or_congr Iff.rfl (or_congr Iff.rfl ⟨λ q=>⟨q,e⟩,λ q=>q.1⟩)
 ·refine⟨hpk,hrc,htr,k.nd,k.low,λ i=>?_,λ s hs q=>k.apart s hs ((InP.same hn (p':=⟨p.start,p.data,p.live-x.len⟩) rfl s).1 q)⟩;rw[InP.same hn (p':=⟨p.start,p.data,p.live-x.len⟩) rfl];exact k.only i
theorem KpM.add(k:KpM C h T r S K Rp Rt)(hpk:M4 C' h T' K'){key b:List UInt8}{y:Nat × Nat}(hk:key.length=32)(hb:b.length<=4200)(ha:Ab5 K T h (E1 key b) K' T' (some y))
  (hc:∀i,i≠1->i≠2->i≠3->(∀p,K' y.1=some p->¬(p.start<=i/\i<p.start+16))->C' i=C i):KpM C' h T' r S K' (⟨y.1,y.2,key,b⟩ :: Rp) Rt/\(∀s,s∈S->C' s=C s):=by
 have hrc:=(k.rc.add hk hb ha).1;have hS:∀s,s∈S->¬InP K' s:=λ s hs q=>by
  rcases ha with⟨free,p,_,h1,h2,h3,rfl,rfl⟩ | ⟨st,q1,h1,h2,h3,rfl,h4⟩
  ·exact k.apart s hs ((InP.same h2 (p':=⟨p.start,p.data++E1 key b,p.live+(E1 key b).length⟩) rfl s).1 q)
  ·rcases (InP.new (q1.free_none h1) s).1 q with q | q
   ·dsimp only at q;have:=h3.2.1 (s-st) (by omega);rw[show st+(s-st)=s by omega,Bool.eq_false_iff] at this;exact this ((k.only s).2 (.inr (.inl hs)))
   ·exact k.apart s hs q
 have hsame:∀s,s∈S->C' s=C s:=λ s hs=>by
  have:=k.low s hs;exact hc s (by omega) (by omega) (by omega) (λ p hp q=>hS s hs ⟨_,p,hp,q.1,q.2⟩)
 refine⟨⟨hpk,hrc,k.tr.keep hsame,k.nd,k.low,λ i=>?_,hS⟩,hsame⟩;rcases ha with⟨free,p,_,h1,h2,h3,rfl,rfl⟩ | ⟨st,q1,h1,h2,h3,rfl,h4⟩
 ·rw[InP.same h2 (p':=⟨p.start,p.data++E1 key b,p.live+(E1 key b).length⟩) rfl];exact k.only i
 ·rw[InP.new (q1.free_none h1),h4];by_cases e:st<=i/\i<st+16
  ·rw[if_pos e];exact⟨λ _=> .inr (.inr (.inl e)),λ _=>rfl⟩
  ·rw[if_neg e,k.only i];exact or_congr Iff.rfl (or_congr Iff.rfl ⟨λ q=> .inr q,λ q=>q.resolve_left e⟩)
end
theorem KpM.put{g:Sg}{M M':Nat->Option Sec}{r r':Nat}{S:List Nat}{K:Nat->Option Pk}{Rp Rt:List Rc}{m:Nat}{w':World}(k:KpM (g.cur M) g.h (g.T M) r S K Rp Rt)(hs:B9 w' g M'){x:Rc}(hp:V6 g M M' r r' (Rt.map Rc.ent) S x.key (L6 x.n x.at_ x.len) m) :
  ∃S',KpM (g.cur M') g.h (g.T M') r' S' K Rp (V5 Rt x)/\P5 g M M' S S' 4 m:=by
 obtain⟨S',h1,_,hG,_⟩:=hp;rw[← Bt8] at h1;have hh:=hG.held ⟨k.nd,k.low,λ s q=>(k.only s).2 (.inr (.inl q))⟩;have hS:∀s,s∈S'->¬InP K s:=λ s q i=>by
  rcases hG.new s q with c | c
  ·exact k.apart s c i
  ·have:=(k.only s).2 (.inr (.inr i));rw[c.1] at this;cases this
 refine⟨S',⟨k.pk.turn (λ i=>hs.cur_len i) (I0 g (hG.keep 2 (λ q=>by have:=hh.low 2 q;omega) (by omega))) (I0 g (hG.keep 3 (λ q=>by have:=hh.low 3 q;omega) (by omega)))
   (λ n p hp i i1 i2=>I0 g (hG.keep i (λ q=>hS i q ⟨n,p,hp,i1,i2⟩) (by have:=(k.pk.low n p hp).1;omega))) (λ n p hp i hi=>?_),k.rc,h1,hh.nd,hh.low,λ i=>?_,hS⟩,hG⟩
 ·rw[hG.T,k.pk.taken n p hp i hi];rfl
 ·rw[hG.T,Bool.or_eq_true,k.only i,decide_eq_true_iff];constructor
  ·rintro((q | q | q) | q)
   ·exact .inl q
   ·exact .inr (.inl (hG.sub i q))
   ·exact .inr (.inr q)
   ·exact .inr (.inl q)
  ·rintro(q | q | q)
   ·exact .inl (.inl q)
   ·exact .inr q
   ·exact .inl (.inr (.inr q))
theorem KpM.turn{g:Sg}{M M':Nat->Option Sec}{r:Nat}{S:List Nat}{K:Nat->Option Pk}{Rp Rt:List Rc}{w':World}(k:KpM (g.cur M) g.h (g.T M) r S K Rp Rt)(hs:B9 w' g M')(h:∀i,i≠0->M' i=M i):KpM (g.cur M') g.h (g.T M') r S K Rp Rt:=by
 have hT:g.T M'=g.T M:=Bb6 g (h 1 (by omega));rw[hT];exact⟨k.pk.turn (λ i=>hs.cur_len i) (I0 g (h 2 (by omega))) (I0 g (h 3 (by omega))) (λ n p hp i i1 i2=>I0 g (h i (by have:=(k.pk.low n p hp).1;omega))) (λ n p hp i hi=>k.pk.taken n p hp i hi),
  k.rc,k.tr.keep λ s q=>I0 g (h s (by have:=k.low s q;omega)),k.nd,k.low,k.only,k.apart⟩
structure Av5(g:Sg)(M:Nat->Option Sec)(S:List Nat)(K:Nat->Option Pk)(R:List Rc):Prop where
 m:KpM (g.cur M) g.h (g.T M) (g.R M 0) S K R R
 sort:Ao6 R
end
end Go.Proofs.YtgfbepakonjbnaaGreat
end
section
section
set_option linter.unusedSimpArgs false
set_option linter.unusedVariables false
namespace Go.Proofs.YtgfbepakonjbnaaGreat
open Go.RowKit Go.MapKept Go.ChangeMaps
theorem Cc4(w:World):Calls Tryz.prog 221 #[.int .i64 0] w λ e w'=>e=.returned (.int .i64 46)/\Upd [] w w':=by
 go_enter Tryz.func221,Tryz.ntmps221
 go_wp2_with fail
 go_ret;exact⟨rfl,Upd.refl _ _⟩
def wiV(pb sb st us at_ ln:Nat):List (Nat × Nat × Value):=[(0,19,.pointer (some ⟨sb,0,none⟩)),(1,20,.int .i64 (st:Int)),(2,21,.bool false),(3,22,.bool false),(4,23,.pointer (some ⟨pb,1,none⟩)),(5,24,.int .i64 (at_:Int)),(6,25,.bool false),(7,26,.bool false),(8,27,.bool false),(9,28,.pointer (some ⟨pb,2,none⟩)),(10,29,.int .i64 (ln:Int)),(11,30,.int .i64 46),(12,31,.bool false),(13,32,.bool false),(14,33,.bool false),(15,34,.pointer (some ⟨pb,2,none⟩)),(16,35,.int .i64 (ln:Int)),(17,36,.pointer (some ⟨sb,1,none⟩)),(18,37,.int .i64 (us:Int)),(19,38,.bool false),(20,39,.bool false),(21,40,.bool false),(22,41,.pointer (some ⟨pb,1,none⟩)),(23,42,.int .i64 (at_:Int)),(24,43,.pointer (some ⟨sb,1,none⟩)),(25,44,.int .i64 (us:Int)),(26,45,.pointer (some ⟨pb,2,none⟩)),(27,46,.int .i64 (ln:Int)),(28,47,.int .i64 ((us:Int)-(ln:Int))),(29,48,.bool false),(30,49,.bool false)]
theorem Az2{w:World}{g:Sg}{M:Nat->Option Sec}{K:Nat->Option Pk}(h:B9 w g M)(hk:M4 (g.cur M) g.h (g.T M) K)(hh:20<=g.h)(hh2:g.h<=4096){n:Nat}{p:Pk}(hp:K n=some p)(at_ ln:Nat)(h46:46<=ln)(hal:at_+ln<=p.data.length) :
  Calls Tryz.prog 169 #[.pointer (some ⟨g.x.tb,0,none⟩),plV (n,at_,ln)] w λ e w'=>e=.returned (.tuple #[stV (p.start,p.data.length,p.live),.int .i64 0])/\B9 w' g M/\Upd [g.j.jb] w w':=by
 have hlt:=h.lt;have hlow:=hk.low n p hp;have hn64:=hk.lt hp;obtain⟨st,hst⟩:∃st,st=p.start:=⟨_,rfl⟩;obtain⟨us,hus⟩:∃us,us=p.data.length:=⟨_,rfl⟩;obtain⟨lv,hlv⟩:∃lv,lv=p.live:=⟨_,rfl⟩;obtain⟨pb,hpb⟩:∃pb,pb=w.heap.size:=⟨_,rfl⟩;obtain⟨w1,hw1⟩:∃w1,w1=(w.alloc (.cells #[.int .i64 (n:Int),.int .i64 (at_:Int),.int .i64 (ln:Int)] 92)).alloc (.cells #[.int .i64 0,.int .i64 0,.int .i64 0] 200):=⟨_,rfl⟩;have hu1:Upd [] w w1:=by rw[hw1];exact((Upd.refl _ _).alloc _).alloc _
 have hbp:w1.heap[pb]?=some (.cells #[.int .i64 (n:Int),.int .i64 (at_:Int),.int .i64 (ln:Int)] 92 (0,0)):=by
  rw[hw1,hpb];exact(((Upd.refl [] _).alloc _).block _ (by simp) (by simp)).trans (A4 _)
 have hbr:w1.heap[pb+1]?=some (.cells #[.int .i64 0,.int .i64 0,.int .i64 0] 200 (0,0)):=by
  rw[hw1,hpb];have:=A4 (w:=w.alloc (.cells #[.int .i64 (n:Int),.int .i64 (at_:Int),.int .i64 (ln:Int)] 92)) (.cells #[.int .i64 0,.int .i64 0,.int .i64 0] 200);rwa [World.size_alloc] at this
 have hlk:=Bl6 (h.below hu1) hh hh2 n hn64;rw[hk.look n hn64,hp] at hlk;unfold stV Cb7 at hlk;dsimp only at hlk;rw[← hst,← hus,← hlv] at hlk hlow;rw[← hus] at hal;rw[← hst,← hus,← hlv];have HLK:=η hlk;have HLT:=η hlt;have HU1:=η hu1;have HBP:=η hbp;have HBR:=η hbr;have HPB:=η hpb;have HW1:=η hw1;have p0:w1.cell? ⟨pb,0,none⟩=some (.int .i64 (n:Int)):=by rw[A2 hbp];rfl
 clear h hlt hk hp hst hus hlv hpb hw1 hu1 hbp hbr hlk;unfold plV;go_enter Tryz.func169,Tryz.ntmps169
 go_upto_region 1 with(fail)
 have hw1:=HW1.out;have hpb:=HPB.out;rw[← hw1,← hpb];clear hw1 hpb;go_wp2_with fail
 refine HLK.out.mono ?_;rintro e w4 ⟨rfl,h4,hu4⟩;have hne:∀i,pb<=i->i∉[g.j.jb]:=λ i hi q=>by have:=HLT.out.1 i (g.mem i q);have:=HPB.out;omega
 have hbp4:=(hu4.block _ (A3 HBP.out) (hne _ (Nat.le_refl _))).trans HBP.out;have hbr4:=(hu4.block _ (A3 HBR.out) (hne _ (by omega))).trans HBR.out;obtain⟨w5,hw5⟩:∃w5,w5=w4.alloc (.cells #[.int .i64 (st:Int),.int .i64 (us:Int),.int .i64 (lv:Int)] 200):=⟨_,rfl⟩;obtain⟨sb,hsb⟩:∃sb,sb=w4.heap.size:=⟨_,rfl⟩;have hu5:Upd [] w4 w5:=by rw[hw5];exact(Upd.refl _ _).alloc _
 have hb5:w5.heap[sb]?=some (.cells #[.int .i64 (st:Int),.int .i64 (us:Int),.int .i64 (lv:Int)] 200 (0,0)):=by rw[hw5,hsb];exact A4 _
 have hbp5:=(hu5.block _ (A3 hbp4) (by simp)).trans hbp4;have hbr5:=(hu5.block _ (A3 hbr4) (by simp)).trans hbr4;have H5:=η (h4.below hu5);have HU5:=η (((HU1.out.mono (by simp)).trans hu4).trans (hu5.mono (by simp)));have m0:w5.cell? ⟨sb,0,none⟩=some (.int .i64 (st:Int)):=by rw[A2 hb5];rfl
 have m1:w5.cell? ⟨sb,1,none⟩=some (.int .i64 (us:Int)):=by rw[A2 hb5];rfl
 have n1:w5.cell? ⟨pb,1,none⟩=some (.int .i64 (at_:Int)):=by rw[A2 hbp5];rfl
 have n2:w5.cell? ⟨pb,2,none⟩=some (.int .i64 (ln:Int)):=by rw[A2 hbp5];rfl
 have HB5:=η hb5;have HBR5:=η hbr5;have HW5:=η hw5;have HSB:=η hsb;clear p0 h4 hu4 hbp4 hbr4 hw5 hsb hu5 hb5 hbp5 hbr5;go_upto_region 2 with(fail)
 have hw5:=HW5.out;have hsb:=HSB.out;rw[← hw5,← hsb];clear hw5 hsb;go_wp2_with fail
 have t0:((st:Int) == 0)=false:=by rw[beq_eq_false_iff_ne];omega
 have t1:decide ((at_:Int)<0)=false:=decide_eq_false (by omega);have t2:decide ((ln:Int)<46)=false:=decide_eq_false (by omega);have t3:decide ((us:Int)<(ln:Int))=false:=decide_eq_false (by omega);have t3':decide (us<ln)=false:=decide_eq_false (by omega);have t4:decide ((us:Int)-(ln:Int)<(at_:Int))=false:=decide_eq_false (by omega);have t5:IntKind.i64.wrap ((us:Int)-(ln:Int))=(us:Int)-(ln:Int):=by rw[IntKind.wrap_i64];omega
 --REG
 refine W0 (wiV pb sb st us at_ ln) [] (by kernel_rfl) (by kernel_rfl) 52 rfl rfl ?_ ?_
 ·intro i o L tmps w' ho hI hL hd;have hi:i<31:=(Array.getElem?_eq_some_iff.1 ho).1;have hw5:=(Upd.refl [] w5).drew.trans hI.upd;have u0:=K9 m0 hw5 (by simp);have u1:=K9 m1 hw5 (by simp);have v1:=K9 n1 hw5 (by simp);have v2:=K9 n2 hw5 (by simp);have t3:tmps[3]?.getD undef=.pointer (some ⟨pb,0,none⟩):=(hI.old 3 (by rfl)).trans rfl;have t6:tmps[6]?.getD undef=.pointer (some ⟨sb,0,none⟩):=(hI.old 6 (by rfl)).trans rfl;obtain rfl | rfl | rfl | rfl | rfl | rfl | rfl | rfl | rfl | rfl | rfl | rfl | rfl | rfl | rfl | rfl | rfl | rfl | rfl | rfl | rfl | rfl | rfl | rfl | rfl | rfl | rfl | rfl | rfl | rfl | rfl:i=0∨i=1∨i=2∨i=3∨i=4∨i=5∨i=6∨i=7∨i=8∨i=9∨i=10∨i=11∨i=12∨i=13∨i=14∨i=15∨i=16∨i=17∨i=18∨i=19∨i=20∨i=21∨i=22∨i=23∨i=24∨i=25∨i=26∨i=27∨i=28∨i=29∨i=30:=by omega
  ·cases ho
   refine wpOp_step rfl (λ K hK=>?_);go_simp;exact hK _ _ (hI.val_step 0 19 (.pointer (some ⟨sb,0,none⟩)) (by decide) (Upd.refl _ _) (by simp[wiV]) (by kernel_rfl))
  ·cases ho
   have t19:tmps[19]?.getD undef=.pointer (some ⟨sb,0,none⟩):=hI.val (0,19,_) (by simp[wiV]) (hd ⟨0,.data⟩ (by simp) rfl);refine wpOp_step rfl (λ K hK=>?_);go_simp;exact hK _ _ (hI.val_step 1 20 (.int .i64 (st:Int)) (by decide) (Upd.refl _ _) (by simp[wiV]) (by kernel_rfl))
  ·cases ho
   have t20:tmps[20]?.getD undef=.int .i64 (st:Int):=hI.val (1,20,_) (by simp[wiV]) (hd ⟨1,.data⟩ (by simp) rfl);refine wpOp_step rfl (λ K hK=>?_);go_simp;exact hK _ _ (hI.val_step 2 21 (.bool false) (by decide) (Upd.refl _ _) (by simp[wiV]) (by kernel_rfl))
  ·cases ho
   have t21:tmps[21]?.getD undef=.bool false:=hI.val (2,21,_) (by simp[wiV]) (hd ⟨2,.data⟩ (by simp) rfl);refine wpOp_step rfl (λ K hK=>?_);go_simp;exact hK _ _ (hI.val_step 3 22 (.bool false) (by decide) (Upd.refl _ _) (by simp[wiV]) (by kernel_rfl))
  ·cases ho
   have t22:tmps[22]?.getD undef=.bool false:=hI.val (3,22,_) (by simp[wiV]) (hd ⟨3,.guard⟩ (by simp) rfl);have tg:=E5 t22;clear t22;refine wpOp_step rfl (λ K hK=>?_);go_simp;exact hK _ _ (hI.val_step 4 23 (.pointer (some ⟨pb,1,none⟩)) (by decide) (Upd.refl _ _) (by simp[wiV]) (by kernel_rfl))
  ·cases ho
   have t23:tmps[23]?.getD undef=.pointer (some ⟨pb,1,none⟩):=hI.val (4,23,_) (by simp[wiV]) (hd ⟨4,.data⟩ (by simp) rfl);have t22:tmps[22]?.getD undef=.bool false:=hI.val (3,22,_) (by simp[wiV]) (hd ⟨3,.guard⟩ (by simp) rfl);have tg:=E5 t22;clear t22;refine wpOp_step rfl (λ K hK=>?_);go_simp;exact hK _ _ (hI.val_step 5 24 (.int .i64 (at_:Int)) (by decide) (Upd.refl _ _) (by simp[wiV]) (by kernel_rfl))
  ·cases ho
   have t24:tmps[24]?.getD undef=.int .i64 (at_:Int):=hI.val (5,24,_) (by simp[wiV]) (hd ⟨5,.data⟩ (by simp) rfl);have t22:tmps[22]?.getD undef=.bool false:=hI.val (3,22,_) (by simp[wiV]) (hd ⟨3,.guard⟩ (by simp) rfl);have tg:=E5 t22;clear t22;refine wpOp_step rfl (λ K hK=>?_);go_simp;exact hK _ _ (hI.val_step 6 25 (.bool false) (by decide) (Upd.refl _ _) (by simp[wiV]) (by kernel_rfl))
  ·cases ho
   have t22:tmps[22]?.getD undef=.bool false:=hI.val (3,22,_) (by simp[wiV]) (hd ⟨3,.data⟩ (by simp) rfl);have t25:tmps[25]?.getD undef=.bool false:=hI.val (6,25,_) (by simp[wiV]) (hd ⟨6,.data⟩ (by simp) rfl);refine wpOp_step rfl (λ K hK=>?_);go_simp;exact hK _ _ (hI.val_step 7 26 (.bool false) (by decide) (Upd.refl _ _) (by simp[wiV]) (by kernel_rfl))
  ·cases ho
   have t26:tmps[26]?.getD undef=.bool false:=hI.val (7,26,_) (by simp[wiV]) (hd ⟨7,.data⟩ (by simp) rfl);refine wpOp_step rfl (λ K hK=>?_);go_simp;exact hK _ _ (hI.val_step 8 27 (.bool false) (by decide) (Upd.refl _ _) (by simp[wiV]) (by kernel_rfl))
  ·cases ho
   have t27:tmps[27]?.getD undef=.bool false:=hI.val (8,27,_) (by simp[wiV]) (hd ⟨8,.guard⟩ (by simp) rfl);have tg:=E5 t27;clear t27;refine wpOp_step rfl (λ K hK=>?_);go_simp;exact hK _ _ (hI.val_step 9 28 (.pointer (some ⟨pb,2,none⟩)) (by decide) (Upd.refl _ _) (by simp[wiV]) (by kernel_rfl))
  ·cases ho
   have t28:tmps[28]?.getD undef=.pointer (some ⟨pb,2,none⟩):=hI.val (9,28,_) (by simp[wiV]) (hd ⟨9,.data⟩ (by simp) rfl);have t27:tmps[27]?.getD undef=.bool false:=hI.val (8,27,_) (by simp[wiV]) (hd ⟨8,.guard⟩ (by simp) rfl);have tg:=E5 t27;clear t27;refine wpOp_step rfl (λ K hK=>?_);go_simp;exact hK _ _ (hI.val_step 10 29 (.int .i64 (ln:Int)) (by decide) (Upd.refl _ _) (by simp[wiV]) (by kernel_rfl))
  ·cases ho
   have t27:tmps[27]?.getD undef=.bool false:=hI.val (8,27,_) (by simp[wiV]) (hd ⟨8,.chain⟩ (by simp) rfl);have tg:=E5 t27;clear t27;refine wpOp_step rfl (λ K hK=>?_);go_simp;go_at_call 221
   refine(Cc4 _).mono ?_;rintro e w2 ⟨rfl,hu⟩;exact hK _ _ (hI.val_step 11 30 (.int .i64 46) (by decide) hu (by simp[wiV]) (by kernel_rfl))
  ·cases ho
   have t29:tmps[29]?.getD undef=.int .i64 (ln:Int):=hI.val (10,29,_) (by simp[wiV]) (hd ⟨10,.data⟩ (by simp) rfl);have t30:tmps[30]?.getD undef=.int .i64 46:=hI.val (11,30,_) (by simp[wiV]) (hd ⟨11,.data⟩ (by simp) rfl);have t27:tmps[27]?.getD undef=.bool false:=hI.val (8,27,_) (by simp[wiV]) (hd ⟨8,.guard⟩ (by simp) rfl);have tg:=E5 t27;clear t27;refine wpOp_step rfl (λ K hK=>?_);go_simp;exact hK _ _ (hI.val_step 12 31 (.bool false) (by decide) (Upd.refl _ _) (by simp[wiV]) (by kernel_rfl))
  ·cases ho
   have t27:tmps[27]?.getD undef=.bool false:=hI.val (8,27,_) (by simp[wiV]) (hd ⟨8,.data⟩ (by simp) rfl);have t31:tmps[31]?.getD undef=.bool false:=hI.val (12,31,_) (by simp[wiV]) (hd ⟨12,.data⟩ (by simp) rfl);refine wpOp_step rfl (λ K hK=>?_);go_simp;exact hK _ _ (hI.val_step 13 32 (.bool false) (by decide) (Upd.refl _ _) (by simp[wiV]) (by kernel_rfl))
  ·cases ho
   have t32:tmps[32]?.getD undef=.bool false:=hI.val (13,32,_) (by simp[wiV]) (hd ⟨13,.data⟩ (by simp) rfl);refine wpOp_step rfl (λ K hK=>?_);go_simp;exact hK _ _ (hI.val_step 14 33 (.bool false) (by decide) (Upd.refl _ _) (by simp[wiV]) (by kernel_rfl))
  ·cases ho
   have t33:tmps[33]?.getD undef=.bool false:=hI.val (14,33,_) (by simp[wiV]) (hd ⟨14,.guard⟩ (by simp) rfl);have tg:=E5 t33;clear t33;refine wpOp_step rfl (λ K hK=>?_);go_simp;exact hK _ _ (hI.val_step 15 34 (.pointer (some ⟨pb,2,none⟩)) (by decide) (Upd.refl _ _) (by simp[wiV]) (by kernel_rfl))
  ·cases ho
   have t34:tmps[34]?.getD undef=.pointer (some ⟨pb,2,none⟩):=hI.val (15,34,_) (by simp[wiV]) (hd ⟨15,.data⟩ (by simp) rfl);have t33:tmps[33]?.getD undef=.bool false:=hI.val (14,33,_) (by simp[wiV]) (hd ⟨14,.guard⟩ (by simp) rfl);have tg:=E5 t33;clear t33;refine wpOp_step rfl (λ K hK=>?_);go_simp;exact hK _ _ (hI.val_step 16 35 (.int .i64 (ln:Int)) (by decide) (Upd.refl _ _) (by simp[wiV]) (by kernel_rfl))
  ·cases ho
   have t33:tmps[33]?.getD undef=.bool false:=hI.val (14,33,_) (by simp[wiV]) (hd ⟨14,.guard⟩ (by simp) rfl);have tg:=E5 t33;clear t33;refine wpOp_step rfl (λ K hK=>?_);go_simp;exact hK _ _ (hI.val_step 17 36 (.pointer (some ⟨sb,1,none⟩)) (by decide) (Upd.refl _ _) (by simp[wiV]) (by kernel_rfl))
  ·cases ho
   have t36:tmps[36]?.getD undef=.pointer (some ⟨sb,1,none⟩):=hI.val (17,36,_) (by simp[wiV]) (hd ⟨17,.data⟩ (by simp) rfl);have t33:tmps[33]?.getD undef=.bool false:=hI.val (14,33,_) (by simp[wiV]) (hd ⟨14,.guard⟩ (by simp) rfl);have tg:=E5 t33;clear t33;refine wpOp_step rfl (λ K hK=>?_);go_simp;exact hK _ _ (hI.val_step 18 37 (.int .i64 (us:Int)) (by decide) (Upd.refl _ _) (by simp[wiV]) (by kernel_rfl))
  ·cases ho
   have t35:tmps[35]?.getD undef=.int .i64 (ln:Int):=hI.val (16,35,_) (by simp[wiV]) (hd ⟨16,.data⟩ (by simp) rfl);have t37:tmps[37]?.getD undef=.int .i64 (us:Int):=hI.val (18,37,_) (by simp[wiV]) (hd ⟨18,.data⟩ (by simp) rfl);have t33:tmps[33]?.getD undef=.bool false:=hI.val (14,33,_) (by simp[wiV]) (hd ⟨14,.guard⟩ (by simp) rfl);have tg:=E5 t33;clear t33;refine wpOp_step rfl (λ K hK=>?_);go_simp;exact hK _ _ (hI.val_step 19 38 (.bool false) (by decide) (Upd.refl _ _) (by simp[wiV]) (by kernel_rfl))
  ·cases ho
   have t33:tmps[33]?.getD undef=.bool false:=hI.val (14,33,_) (by simp[wiV]) (hd ⟨14,.data⟩ (by simp) rfl);have t38:tmps[38]?.getD undef=.bool false:=hI.val (19,38,_) (by simp[wiV]) (hd ⟨19,.data⟩ (by simp) rfl);refine wpOp_step rfl (λ K hK=>?_);go_simp;exact hK _ _ (hI.val_step 20 39 (.bool false) (by decide) (Upd.refl _ _) (by simp[wiV]) (by kernel_rfl))
  ·cases ho
   have t39:tmps[39]?.getD undef=.bool false:=hI.val (20,39,_) (by simp[wiV]) (hd ⟨20,.data⟩ (by simp) rfl);refine wpOp_step rfl (λ K hK=>?_);go_simp;exact hK _ _ (hI.val_step 21 40 (.bool false) (by decide) (Upd.refl _ _) (by simp[wiV]) (by kernel_rfl))
  ·cases ho
   have t40:tmps[40]?.getD undef=.bool false:=hI.val (21,40,_) (by simp[wiV]) (hd ⟨21,.guard⟩ (by simp) rfl);have tg:=E5 t40;clear t40;refine wpOp_step rfl (λ K hK=>?_);go_simp;exact hK _ _ (hI.val_step 22 41 (.pointer (some ⟨pb,1,none⟩)) (by decide) (Upd.refl _ _) (by simp[wiV]) (by kernel_rfl))
  ·cases ho
   have t41:tmps[41]?.getD undef=.pointer (some ⟨pb,1,none⟩):=hI.val (22,41,_) (by simp[wiV]) (hd ⟨22,.data⟩ (by simp) rfl);have t40:tmps[40]?.getD undef=.bool false:=hI.val (21,40,_) (by simp[wiV]) (hd ⟨21,.guard⟩ (by simp) rfl);have tg:=E5 t40;clear t40;refine wpOp_step rfl (λ K hK=>?_);go_simp;exact hK _ _ (hI.val_step 23 42 (.int .i64 (at_:Int)) (by decide) (Upd.refl _ _) (by simp[wiV]) (by kernel_rfl))
  ·cases ho
   have t40:tmps[40]?.getD undef=.bool false:=hI.val (21,40,_) (by simp[wiV]) (hd ⟨21,.guard⟩ (by simp) rfl);have tg:=E5 t40;clear t40;refine wpOp_step rfl (λ K hK=>?_);go_simp;exact hK _ _ (hI.val_step 24 43 (.pointer (some ⟨sb,1,none⟩)) (by decide) (Upd.refl _ _) (by simp[wiV]) (by kernel_rfl))
  ·cases ho
   have t43:tmps[43]?.getD undef=.pointer (some ⟨sb,1,none⟩):=hI.val (24,43,_) (by simp[wiV]) (hd ⟨24,.data⟩ (by simp) rfl);have t40:tmps[40]?.getD undef=.bool false:=hI.val (21,40,_) (by simp[wiV]) (hd ⟨21,.guard⟩ (by simp) rfl);have tg:=E5 t40;clear t40;refine wpOp_step rfl (λ K hK=>?_);go_simp;exact hK _ _ (hI.val_step 25 44 (.int .i64 (us:Int)) (by decide) (Upd.refl _ _) (by simp[wiV]) (by kernel_rfl))
  ·cases ho
   have t40:tmps[40]?.getD undef=.bool false:=hI.val (21,40,_) (by simp[wiV]) (hd ⟨21,.guard⟩ (by simp) rfl);have tg:=E5 t40;clear t40;refine wpOp_step rfl (λ K hK=>?_);go_simp;exact hK _ _ (hI.val_step 26 45 (.pointer (some ⟨pb,2,none⟩)) (by decide) (Upd.refl _ _) (by simp[wiV]) (by kernel_rfl))
  ·cases ho
   have t45:tmps[45]?.getD undef=.pointer (some ⟨pb,2,none⟩):=hI.val (26,45,_) (by simp[wiV]) (hd ⟨26,.data⟩ (by simp) rfl);have t40:tmps[40]?.getD undef=.bool false:=hI.val (21,40,_) (by simp[wiV]) (hd ⟨21,.guard⟩ (by simp) rfl);have tg:=E5 t40;clear t40;refine wpOp_step rfl (λ K hK=>?_);go_simp;exact hK _ _ (hI.val_step 27 46 (.int .i64 (ln:Int)) (by decide) (Upd.refl _ _) (by simp[wiV]) (by kernel_rfl))
  ·cases ho
   have t44:tmps[44]?.getD undef=.int .i64 (us:Int):=hI.val (25,44,_) (by simp[wiV]) (hd ⟨25,.data⟩ (by simp) rfl);have t46:tmps[46]?.getD undef=.int .i64 (ln:Int):=hI.val (27,46,_) (by simp[wiV]) (hd ⟨27,.data⟩ (by simp) rfl);have t40:tmps[40]?.getD undef=.bool false:=hI.val (21,40,_) (by simp[wiV]) (hd ⟨21,.guard⟩ (by simp) rfl);have tg:=E5 t40;clear t40;refine wpOp_step rfl (λ K hK=>?_);go_simp;exact hK _ _ (hI.val_step 28 47 (.int .i64 ((us:Int)-(ln:Int))) (by decide) (Upd.refl _ _) (by simp[wiV]) (by kernel_rfl))
  ·cases ho
   have t42:tmps[42]?.getD undef=.int .i64 (at_:Int):=hI.val (23,42,_) (by simp[wiV]) (hd ⟨23,.data⟩ (by simp) rfl);have t47:tmps[47]?.getD undef=.int .i64 ((us:Int)-(ln:Int)):=hI.val (28,47,_) (by simp[wiV]) (hd ⟨28,.data⟩ (by simp) rfl);have t40:tmps[40]?.getD undef=.bool false:=hI.val (21,40,_) (by simp[wiV]) (hd ⟨21,.guard⟩ (by simp) rfl);have tg:=E5 t40;clear t40;refine wpOp_step rfl (λ K hK=>?_);go_simp;exact hK _ _ (hI.val_step 29 48 (.bool false) (by decide) (Upd.refl _ _) (by simp[wiV]) (by kernel_rfl))
  ·cases ho
   have t40:tmps[40]?.getD undef=.bool false:=hI.val (21,40,_) (by simp[wiV]) (hd ⟨21,.data⟩ (by simp) rfl);have t48:tmps[48]?.getD undef=.bool false:=hI.val (29,48,_) (by simp[wiV]) (hd ⟨29,.data⟩ (by simp) rfl);refine wpOp_step rfl (λ K hK=>?_);go_simp;exact hK _ _ (hI.val_step 30 49 (.bool false) (by decide) (Upd.refl _ _) (by simp[wiV]) (by kernel_rfl))
 ·intro L tmps w4 hI hall;have hat:=hI.fin rfl (λ t ht=>hall _ (by have h9:=List.all_eq_true.1 (show((wiV pb sb st us at_ ln).all λ t=>decide (t.1<31))=true from rfl) t ht;simpa using h9));have hu4:=hI.upd;clear hI hall;simp only[wiV,List.map_cons,List.map_nil,Ac0,αs,αz,αc] at hat;rw[hat];clear hat tmps
 --END
  have hb6:=(hu4.block _ (A3 (w:=w5.drew) HB5.out) (by simp)).trans HB5.out;have hbr6:=(hu4.block _ (A3 (w:=w5.drew) HBR5.out) (by simp)).trans HBR5.out;have u0:w4.cell? ⟨sb,0,none⟩=some (.int .i64 (st:Int)):=by rw[A2 hb6];rfl
  have u1:w4.cell? ⟨sb,1,none⟩=some (.int .i64 (us:Int)):=by rw[A2 hb6];rfl
  have u2:w4.cell? ⟨sb,2,none⟩=some (.int .i64 (lv:Int)):=by rw[A2 hb6];rfl
  have r0:w4.cell? ⟨pb+1,0,none⟩=some (.int .i64 0):=by rw[A2 hbr6];rfl
  have r1:w4.cell? ⟨pb+1,1,none⟩=some (.int .i64 0):=by rw[A2 hbr6];rfl
  have r2:w4.cell? ⟨pb+1,2,none⟩=some (.int .i64 0):=by rw[A2 hbr6];rfl
  have f0:=B7 hbr6 0;have f1:=B7 hbr6 1;have f2:=B7 hbr6 2;have H6:=η (H5.out.below ((Upd.refl [] w5).drew.trans hu4));have HU6:=η (HU5.out.trans (((Upd.refl [] w5).drew.trans hu4).mono (by simp)));have HBR6:=η hbr6;clear hb6 hbr6 hu4 m0 m1 n1 n2;go_wp2_with fail
  refine bodyPost_ret (Z7 (p:=4) (u:=5) (by rfl) _ _ (pb+1) (.int .i64 (st:Int)) (.int .i64 (us:Int)) (.int .i64 (lv:Int)) (by rfl) (A8 (A8 (A8 HBR6.out 0 _) 1 _) 2 _)) (by rfl) ?_;have hpb:=HPB.out;have hu7:Upd [pb+1] w4 (((w4.setCell ⟨pb+1,0,none⟩ (.int .i64 (st:Int))).setCell ⟨pb+1,1,none⟩ (.int .i64 (us:Int))).setCell ⟨pb+1,2,none⟩ (.int .i64 (lv:Int))):=(Upd.refl _ _).three _ _ _ (.inl (List.mem_singleton.2 rfl));exact⟨rfl,H6.out.res HLT.out (by omega) HBR6.out (by decide) hu7,HU6.out.late hu7 (λ i hi=> .inr (by simp at hi;omega))⟩
end Go.Proofs.YtgfbepakonjbnaaGreat
end
section
set_option linter.unusedSimpArgs false
set_option linter.unusedVariables false
namespace Go.Proofs.YtgfbepakonjbnaaGreat
open Go.RowKit Go.MapKept Go.ChangeMaps
theorem Cr0{w:World}{g:Sg}{M:Nat->Option Sec}{K:Nat->Option Pk}(h:B9 w g M)(hk:M4 (g.cur M) g.h (g.T M) K)(hh:20<=g.h)(hh2:g.h<=4096)(hc:D9 M g.h+2<=40){n:Nat}{p:Pk}(hp:K n=some p)(at_ ln:Nat)(h46:46<=ln)(hal:at_+ln<=p.data.length)(hlv0:ln<=p.live) :
  Calls Tryz.prog 83 #[.pointer (some ⟨g.x.tb,0,none⟩),plV (n,at_,ln)] w λ e w'=>∃M' K',e=.returned (.int .i64 0)/\B9 w' g M'/\M4 (g.cur M') g.h (g.T M') K'/\Bb5 K (g.T M) n ln K' (g.T M')/\(∀i,i≠1->i≠2->i≠3->M' i=M i)/\D9 M' g.h<=D9 M g.h+2/\Upd g.S w w':=by
 have hlt:=h.lt;have hlow:=hk.low n p hp;have hn64:=hk.lt hp;obtain⟨st,hst⟩:∃st,st=p.start:=⟨_,rfl⟩;obtain⟨us,hus⟩:∃us,us=p.data.length:=⟨_,rfl⟩;obtain⟨lv,hlv⟩:∃lv,lv=p.live:=⟨_,rfl⟩;obtain⟨df,hdf⟩:∃df,df=lv-ln:=⟨_,rfl⟩;obtain⟨pb,hpb⟩:∃pb,pb=w.heap.size:=⟨_,rfl⟩;obtain⟨w1,hw1⟩:∃w1,w1=w.alloc (.cells #[.int .i64 (n:Int),.int .i64 (at_:Int),.int .i64 (ln:Int)] 92):=⟨_,rfl⟩;have hu1:Upd [] w w1:=by rw[hw1];exact(Upd.refl _ _).alloc _
 have hbp:w1.heap[pb]?=some (.cells #[.int .i64 (n:Int),.int .i64 (at_:Int),.int .i64 (ln:Int)] 92 (0,0)):=by rw[hw1,hpb];exact A4 _
 have hwi:=Az2 (h.below hu1) hk hh hh2 hp at_ ln h46 hal;unfold stV plV at hwi;dsimp only at hwi;rw[← hst,← hus,← hlv] at hwi hlow;rw[← hlv] at hlv0;have HWI:=η hwi;have HK:=η hk;have HP:=η hp;have H:=η h;have HLT:=η hlt;have HU1:=η hu1;have HBP:=η hbp;have HPB:=η hpb;have HW1:=η hw1;have HST:=η hst;have HUS:=η hus;have HLV:=η hlv;have HDF:=η hdf;have p0:w1.cell? ⟨pb,0,none⟩=some (.int .i64 (n:Int)):=by rw[A2 hbp];rfl
 have p1:w1.cell? ⟨pb,1,none⟩=some (.int .i64 (at_:Int)):=by rw[A2 hbp];rfl
 have p2:w1.cell? ⟨pb,2,none⟩=some (.int .i64 (ln:Int)):=by rw[A2 hbp];rfl
 have eDF:(lv:Int)-(ln:Int)=(df:Int):=by omega
 have hdf2:df<=us:=by omega
 clear h hlt hk hp hst hus hlv hpb hw1 hu1 hbp hwi hdf hal;unfold plV;go_enter Tryz.func83,Tryz.ntmps83
 go_upto_region 1 with(fail)
 have hw1:=HW1.out;have hpb:=HPB.out;rw[← hw1,← hpb];clear hw1 hpb;go_wp2_with fail
 refine HWI.out.mono ?_;rintro e w4 ⟨rfl,h4,hu4⟩;have hnS:∀i,pb<=i->i∉g.S:=λ i hi q=>by have:=HLT.out.1 i q;have:=HPB.out;omega
 have hbp4:=(hu4.block _ (A3 HBP.out) (λ q=>hnS _ (Nat.le_refl _) (g.mem _ q))).trans HBP.out;obtain⟨w5,hw5⟩:∃w5,w5=w4.alloc (.cells #[.int .i64 (st:Int),.int .i64 (us:Int),.int .i64 (lv:Int)] 200):=⟨_,rfl⟩;obtain⟨sb,hsb⟩:∃sb,sb=w4.heap.size:=⟨_,rfl⟩;have hu5:Upd [] w4 w5:=by rw[hw5];exact(Upd.refl _ _).alloc _
 have hb5:w5.heap[sb]?=some (.cells #[.int .i64 (st:Int),.int .i64 (us:Int),.int .i64 (lv:Int)] 200 (0,0)):=by rw[hw5,hsb];exact A4 _
 have hbp5:=(hu5.block _ (A3 hbp4) (by simp)).trans hbp4;have hps:pb<sb:=by have:=A3 hbp4;omega
 have h5:=h4.below hu5;obtain⟨w6,hw6⟩:∃w6,w6=w5.setCell ⟨sb,2,none⟩ (.int .i64 (df:Int)):=⟨_,rfl⟩;have hu6:Upd [sb] w5 w6:=by rw[hw6];exact(Upd.refl _ _).set _ (by simp)
 have hb6:w6.heap[sb]?=some (.cells #[.int .i64 (st:Int),.int .i64 (us:Int),.int .i64 (df:Int)] 200 (0,0)):=by rw[hw6];exact A8 hb5 2 _
 have hbp6:=(hu6.block _ (A3 hbp5) (by simp;omega)).trans hbp5;have h6:B9 w6 g M:=h5.res HLT.out (by have:=HPB.out;omega) hb5 (by decide) hu6;have hU6:Upd g.S w w6:=(((HU1.out.mono (by simp)).trans (hu4.mono g.mem)).trans (hu5.mono (by simp))).late hu6 (λ i hi=> .inr (by have:=HPB.out;simp at hi;omega));have m2:w5.cell? ⟨sb,2,none⟩=some (.int .i64 (lv:Int)):=by rw[A2 hb5];rfl
 have q2:w5.cell? ⟨pb,2,none⟩=some (.int .i64 (ln:Int)):=by rw[A2 hbp5];rfl
 have f2:=B7 hb5 2;have n0:w6.cell? ⟨sb,0,none⟩=some (.int .i64 (st:Int)):=by rw[A2 hb6];rfl
 have n1:w6.cell? ⟨sb,1,none⟩=some (.int .i64 (us:Int)):=by rw[A2 hb6];rfl
 have n2:w6.cell? ⟨sb,2,none⟩=some (.int .i64 (df:Int)):=by rw[A2 hb6];rfl
 have k0:w6.cell? ⟨pb,0,none⟩=some (.int .i64 (n:Int)):=by rw[A2 hbp6];rfl
 have t1:decide ((lv:Int)<(ln:Int))=false:=decide_eq_false (by omega);have t1':decide (lv<ln)=false:=decide_eq_false (by omega);have H6:=η h6;have HU6:=η hU6;have HB6:=η hb6;have HBP6:=η hbp6;have HW5:=η hw5;have HW6:=η hw6;have HSB:=η hsb;clear p0 p1 p2 h4 hu4 hbp4 hw5 hsb hu5 hb5 hbp5 h5 hw6 hu6 hb6 hbp6 h6 hU6;go_upto_region 2 with(fail)
 have hw5:=HW5.out;have hsb:=HSB.out;rw[← hw5,← hsb];clear hw5 hsb;go_upto_region 7 with(fail)
 have hw6:=HW6.out;rw[← hw6];clear hw6 m2 q2 f2;by_cases h0:df=0
 ·
  have t2:((df:Int) == 0)=true:=by rw[beq_iff_eq];omega
  have hfr:=Cy0 H6.out (by omega) hh2 (.inr (by omega)) st 16 (by omega) (by omega) (by omega) (by omega) (λ q hq=>by rw[HST.out];exact HK.out.taken n p HP.out q hq);have hl1:=H6.out.cur_len 1;have hT1:∀i,g.T (Am0 M (Aj2 (T6 (g.cur M 1)) st false 16)) i=if st<=i/\i<st+16 then false else g.T M i:=λ i=>Sg.T_turn hl1 false (by omega) (by omega) i;obtain⟨M1,hM1⟩:∃M1,M1=Am0 M (Aj2 (T6 (g.cur M 1)) st false 16):=⟨_,rfl⟩;have hk1:∀i,i≠1->M1 i=M i:=λ i hi=>by rw[hM1];unfold Am0;rw[if_neg hi]
  rw[← hM1] at hfr hT1;have HFR:Hid (Calls Tryz.prog 129 #[.pointer (some ⟨g.x.tb,0,none⟩),.int .i64 (st:Int),.int .i64 16] w6 λ e w'=>e=.returned (.int .i64 0)/\B9 w' g M1/\Upd g.S w6 w'):=η hfr;have HT1:=η hT1;have HK1:=η hk1;clear hfr hT1 hk1 hM1 hl1;go_wp2_with fail
  refine HFR.out.mono ?_;rintro e w7 ⟨rfl,h7,hu7⟩;have hb7:=(hu7.block _ (A3 HB6.out) (hnS _ (by omega))).trans HB6.out;have hbp7:=(hu7.block _ (A3 HBP6.out) (hnS _ (Nat.le_refl _))).trans HBP6.out;obtain⟨w8,hw8⟩:∃w8,w8=((w7.setCell ⟨sb,0,none⟩ (.int .i64 0)).setCell ⟨sb,1,none⟩ (.int .i64 0)).setCell ⟨sb,2,none⟩ (.int .i64 0):=⟨_,rfl⟩;have hu8:Upd [sb] w7 w8:=by rw[hw8];exact(Upd.refl _ _).three _ _ _ (.inl (List.mem_singleton.2 rfl))
  have hb8:w8.heap[sb]?=some (.cells #[.int .i64 0,.int .i64 0,.int .i64 0] 200 (0,0)):=by rw[hw8];exact A8 (A8 (A8 hb7 0 _) 1 _) 2 _
  have hbp8:=(hu8.block _ (A3 hbp7) (by simp;omega)).trans hbp7;have h8:B9 w8 g M1:=h7.res HLT.out (by have:=HPB.out;omega) hb7 (by decide) hu8;have hc1:D9 M1 g.h<=D9 M g.h+1:=by
   have ht:Ah1 M M1 [1]:=λ i hi=>by
    by_cases e:i=1
    ·right;simp[e]
    ·rw[HK1.out i e] at hi;exact .inl hi
   exact ht.cnt H.out.ok h8.ok
  have hnt:=Aq2 h8 (by omega) 0 0 0 n (by omega) (by omega) (by omega) hn64 (.inr (by omega));unfold stV at hnt;have HNT:Hid (Calls Tryz.prog 170 #[.agg #[.int .i64 0,.int .i64 0,.int .i64 0],.pointer (some ⟨g.x.tb,0,none⟩),.int .i64 (n:Int)] w8 λ e w'=>e=.returned (.int .i64 0)/\B9 w' g (wr1 M1 (2+n / 32) (Ad8 (g.cur M1 (2+n / 32)) (16*(n % 32)) 0 0 0))/\Upd g.S w8 w'):=η hnt;have a0:w7.cell? ⟨sb,0,none⟩=some (.int .i64 (st:Int)):=by rw[A2 hb7];rfl
  have a1:w7.cell? ⟨sb,1,none⟩=some (.int .i64 (us:Int)):=by rw[A2 hb7];rfl
  have a2:w7.cell? ⟨sb,2,none⟩=some (.int .i64 (df:Int)):=by rw[A2 hb7];rfl
  have g0:=B7 hb7 0;have g1:=B7 hb7 1;have g2:=B7 hb7 2;have HU8:=η ((HU6.out.trans hu7).late hu8 (λ i hi=> .inr (by have:=HPB.out;simp at hi;omega)));have HB8:=η hb8;have HBP8:=η hbp8;have H8:=η h8;have HW8:=η hw8;clear n0 n1 n2 k0 h7 hu7 hb7 hbp7 hw8 hu8 hb8 hbp8 h8 hnt;go_upto_region 12 with(fail)
  have hw8:=HW8.out;rw[← hw8];clear hw8 a0 a1 a2 g0 g1 g2;have a0:w8.cell? ⟨sb,0,none⟩=some (.int .i64 0):=by rw[A2 HB8.out];rfl
  have a1:w8.cell? ⟨sb,1,none⟩=some (.int .i64 0):=by rw[A2 HB8.out];rfl
  have a2:w8.cell? ⟨sb,2,none⟩=some (.int .i64 0):=by rw[A2 HB8.out];rfl
  have b0:w8.cell? ⟨pb,0,none⟩=some (.int .i64 (n:Int)):=by rw[A2 HBP8.out];rfl
  go_wp2_with fail
  refine HNT.out.mono ?_;rintro e w9 ⟨rfl,h9,hu9⟩;have H9:=η h9;have HU9:=η (HU8.out.trans hu9);clear h9 hu9;go_wp2_with fail
  go_ret;have hst:=HST.out;have hT2:g.T (wr1 M1 (2+n / 32) (Ad8 (g.cur M1 (2+n / 32)) (16*(n % 32)) 0 0 0))=g.T M1:=Cq8 g M1 _ (by omega);have hc23:g.cur M1 (2+n / 32)=g.cur M (2+n / 32):=I0 g (HK1.out _ (by omega));refine⟨wr1 M1 (2+n / 32) (Ad8 (g.cur M1 (2+n / 32)) (16*(n % 32)) 0 0 0),Ab7 K n Option.none,rfl,H9.out,?_,⟨p,HP.out,by rw[← HLV.out];exact hlv0,.inl ⟨by have:=HDF.out;have:=HLV.out;omega,rfl,λ i=>by rw[hT2,HT1.out i,hst]⟩⟩,λ i i1 i2 i3=>by rw[Al5 (by omega)];exact HK1.out i i1,?_,HU9.out⟩
  ·refine HK.out.noteNo hn64 (λ i=>H9.out.cur_len i) (by rw[Z1,if_pos rfl,hc23]) (λ i i1 i2=>by rw[Z1,if_neg i2];exact I0 g (HK1.out i (by omega))) (λ m q hq hm i hi=>?_);rw[hT2,HT1.out];have hap:=HK.out.apart m q n p hq HP.out hm;rw[if_neg (by rw[hst];omega)];exact HK.out.taken m q hq i hi
  ·have ht:Ah1 M (wr1 M1 (2+n / 32) (Ad8 (g.cur M1 (2+n / 32)) (16*(n % 32)) 0 0 0)) [1,2+n / 32]:=λ i hi=>by
    by_cases e:i=2+n / 32
    ·right;simp[e]
    ·rw[Al5 e] at hi;by_cases e2:i=1
     ·right;simp[e2]
     ·rw[HK1.out i e2] at hi;exact .inl hi
   exact ht.cnt H.out.ok H9.out.ok
 ·
  have t2:((df:Int) == 0)=false:=by rw[beq_eq_false_iff_ne];omega
  have hnt:=Aq2 H6.out (by omega) st us df n (by omega) (by omega) (by omega) hn64 (.inr (by omega));unfold stV at hnt;have HNT:=η hnt;clear hnt;go_wp2_with fail
  refine HNT.out.mono ?_;rintro e w7 ⟨rfl,h7,hu7⟩;have H7:=η h7;have HU7:=η (HU6.out.trans hu7);clear h7 hu7;go_wp2_with fail
  go_ret;have hst:=HST.out;have hT2:g.T (wr1 M (2+n / 32) (Ad8 (g.cur M (2+n / 32)) (16*(n % 32)) st us df))=g.T M:=Cq8 g M _ (by omega);refine⟨wr1 M (2+n / 32) (Ad8 (g.cur M (2+n / 32)) (16*(n % 32)) st us df),Ab7 K n (some ⟨p.start,p.data,p.live-ln⟩),rfl,H7.out,?_,⟨p,HP.out,by rw[← HLV.out];exact hlv0,.inr ⟨by have:=HDF.out;have:=HLV.out;omega,rfl,hT2⟩⟩,λ i i1 i2 i3=>Al5 (by omega),?_,HU7.out⟩
  ·rw[hT2];refine HK.out.note (p':=⟨p.start,p.data,p.live-ln⟩) hh2 (HK.out.ext HP.out) rfl (λ i=>H7.out.cur_len i) ⟨by show p.data.length<=8192;rw[← HUS.out];omega,by show p.live-ln<=p.data.length;rw[← HUS.out,← HLV.out,← HDF.out];exact hdf2⟩ ?_ ?_ (λ i i1 i2=>by rw[Z1,if_neg i1])
   ·show PkD _ p.start p.data
    exact(HK.out.data n p HP.out).congr (by rw[← HUS.out];omega) (λ i i1 i2=>by rw[Z1,if_neg (by omega)])
   ·rw[Z1,if_pos rfl];show Ad8 _ _ st us df=Ad8 _ _ p.start p.data.length (p.live-ln)
    rw[← HUS.out,← HLV.out,← HDF.out,hst]
  ·have ht:Ah1 M (wr1 M (2+n / 32) (Ad8 (g.cur M (2+n / 32)) (16*(n % 32)) st us df)) [2+n / 32]:=λ i hi=>by
    by_cases e:i=2+n / 32
    ·right;simp[e]
    ·rw[Al5 e] at hi;exact .inl hi
   have:=ht.cnt H.out.ok H7.out.ok;rw[List.length_singleton] at this;omega
end Go.Proofs.YtgfbepakonjbnaaGreat
end
end
section
namespace Go.Proofs.YtgfbepakonjbnaaGreat
open Go.ChangeShapes Go.WideShapes Go.ChangeAt Go.RowKit
section
theorem own:ownKnob Tryz.prog.godebug=none:=by kernel_rfl
theorem Cx3:laidOutB Tryz.prog=true:=by kernel_rfl
section
variable {H:Type} {enc:TypeId × Value->H}
theorem Ao7{W W':World}(hb:Below W.heap.size W W')(sp:Nat->Bool):∀(ts:List TypeId) (vs:List Value) (ds:List (DataW H)) (ps:List MemPlace),DataW.TrodAll enc Tryz.prog W 0 (λ _=>true) true ts vs ds ps->
  (∀t∈ts,Tryz.prog.readableRec t=true/\t<Tryz.prog.types.size)->(∀x∈ps,x.block<W.heap.size)->(∀x∈ps,sp x.block=true)->DataW.TrodAll enc Tryz.prog W' 0 sp true ts vs ds ps
 | [],[],[],ps,h,_,_,_=>h
 | [],[],_ :: _,_,h,_,_,_=>h.elim
 | [],_ :: _,_,_,h,_,_,_=>h.elim
 | _ :: _,[],_,_,h,_,_,_=>h.elim
 | _ :: _,_ :: _,[],_,h,_,_,_=>h.elim
 | t :: ts,v :: vs,d :: ds,ps,h,ht,hlt,hsp=>by
  obtain⟨p,q,h1,h2,rfl⟩:=h;refine⟨p,q,?_,Ao7 hb sp ts vs ds q h2 (λ t q=>ht t (by simp[q])) (λ x q=>hlt x (by simp[q])) (λ x q=>hsp x (by simp[q])),rfl⟩;obtain⟨r1,r2⟩:=ht t (by simp);exact WideElems.Trod_stays Cx3 r1 r2 h1 (λ x hx=>hb.same (hlt x (by simp[hx]))) (λ x hx=>hsp x (by simp[hx]))
theorem Cq2{f:Func}{s:ChangeSpec}{W W':World}{args:Array Value}{ds gs:List (DataW H)}{before:List MemPlace}(hW:DataW.Whole enc Tryz.prog f.params.toList s.vars false W args.toList ds gs before)
  (hvars:s.vars=[]) (hrt:f.resultTypes=#[4]) (hfn:s.fn H (ds++gs) = { results:=[.lit (.bool true)],args:=ds }) (hpar:∀t∈f.params.toList,Tryz.prog.readableRec t=true/\t<Tryz.prog.types.size) (hb:Below W.heap.size W W') :
  s.post enc Tryz.prog f false true false false W args (.bool true) W':=by
 have hlt:∀x∈before,x.block<W.heap.size:=λ x hx=>by simpa using hW.lt x hx
 have hW2:=hW;obtain⟨p,q,hA,hV,rfl,_,_⟩:=hW2;rw[hvars] at hV;obtain⟨rfl,rfl⟩:=trodVars_none hV;refine⟨ds,[],p ++ [],[],p,[],hW,?_,?_,?_,hb.frame _,λ h=>by simp at h⟩
 ·rw[hfn,hrt];exact trodAll_cons_mk (shut_bool Tryz.underlying4 _) trodAll_mk0
 ·rw[hfn];exact Ao7 hb _ _ _ _ _ hA hpar (λ x hx=>hlt x (by simp[hx])) (λ x hx=>by simpa using hlt x (by simp[hx]))
 ·rw[hfn,hvars];rfl
end
end
end Go.Proofs.YtgfbepakonjbnaaGreat
end
section
namespace Go.Proofs.YtgfbepakonjbnaaGreat
open Go.RowKit
def str(l:List UInt8):ByteArray:=⟨l.toArray⟩
theorem Cw8(bs:ByteArray):∀(m i:Nat) (r:List UInt8),bs.size-i=m->ByteArray.toList.loop bs i r=r.reverse++bs.data.toList.drop i:=by
 intro m;induction m with
 | zero=>
  intro i r h;rw[ByteArray.toList.loop];have hi:¬i<bs.size:=by omega
  rw[if_neg hi,List.drop_eq_nil_of_le (by simp;omega)];simp
 | succ m ih=>
  intro i r h;rw[ByteArray.toList.loop];have hi:i<bs.size:=by omega
  rw[if_pos hi,ih (i+1) _ (by omega)];have hl:i<bs.data.toList.length:=by simpa using hi
  rw[List.drop_eq_getElem_cons hl];have e:bs.get! i=bs.data.toList[i]:=by simp[ByteArray.get!,hi]
  rw[e];simp
theorem Ai8(l:List UInt8):(str l).toList=l:=by
 unfold ByteArray.toList;rw[Cw8 _ (str l).size 0 [] (by omega)];simp[str]
theorem Da9{a b:List UInt8}(h:a=b):((str a).toList == (str b).toList)=true:=by rw[Ai8,Ai8,h];simp
theorem Db0{a b:List UInt8}(h:a≠b):((str a).toList == (str b).toList)=false:=by rw[Ai8,Ai8];simpa using h
theorem Bb3{w:World}{v:Value}{l:List UInt8}(h:Rd w v l)(hl:0<l.length):(convert 32 9 v).run Tryz.prog w=.ok (.string (str l)) w:=by
 obtain⟨ao,cap,rfl,hc,hh⟩:=h;obtain⟨b,off,rfl,hcell⟩:=hh hl;have hsz:(str l).size=l.length:=by simp[str,ByteArray.size]
 have:=Lib.run_convert_whole (P:=Tryz.prog) w 32 5 9 Tryz.underlying32 Tryz.underlying5 Tryz.underlying9 b off (str l) (λ i hi=>by
  rw[hsz] at hi;rw[hcell i hi];rfl) cap
 rw[hsz] at this;exact this
def hl(H:Nat->Sec)(k:Nat):List (List UInt8):=(List.range k).map H
theorem RdL.cell{w:World}{S:List Nat}{a:Option Addr}{n c:Nat}{cs:List Value}(h:RdL w S (.slice a n c) cs)(i:Nat)(hi:i<cs.length):∃b off,a=some ⟨b,off,none⟩/\w.cell? ⟨b,off+i,none⟩=some cs[i]:=by
 obtain⟨ao,cap,e,hc,hh⟩:=h;obtain⟨b,off,_,hab,hcell⟩:=hh (by omega);cases e
 exact⟨b,off,hab,hcell i hi⟩
theorem RdL.shape{w:World}{S:List Nat}{v:Value}{cs:List Value}(h:RdL w S v cs):∃a c,v=.slice a cs.length c/\cs.length<=c:=by
 obtain⟨ao,cap,e,hc,_⟩:=h;exact⟨ao,cap,e,hc⟩
end Go.Proofs.YtgfbepakonjbnaaGreat
namespace Go.Proofs.YtgfbepakonjbnaaGreat
open Go.RowKit
end Go.Proofs.YtgfbepakonjbnaaGreat
namespace Go.Proofs.YtgfbepakonjbnaaGreat
open Go.ChangeShapes Go.WideShapes Go.ChangeAt Go.RowKit Go.Deep
section
variable {H:Type} {enc:TypeId × Value->H} {W:World}
theorem Bo4{α:Type}{p:Nat->α->Prop}:∀n,(∀i,i<n->∃a,p i a)->∃l:List α,l.length=n/\∀i (h:i<l.length),p i l[i]
 | 0,_=>⟨[],rfl,λ i h=>by simp at h⟩
 | n+1,h=>by
  obtain⟨l,hl,hp⟩:=Bo4 n (λ i hi=>h i (by omega));obtain⟨a,ha⟩:=h n (by omega);refine⟨l ++ [a],by simp[hl],λ i hi=>?_⟩;by_cases q:i<l.length
  ·rw[List.getElem_append_left q];exact hp i q
  ·have:i=l.length:=by simp at hi;omega
   subst this;rw[List.getElem_append_right (Nat.le_refl _)];simp only[Nat.sub_self,List.getElem_cons_zero];rw[hl];exact ha
theorem Cw9{n:Int}(h:(Lit.int .u8 n).wf=true):∃c:UInt8,bv c=.int .u8 n:=by
 simp[Lit.wf] at h;have h0:(0:Int)<=n:=h.1;have h1:n<=255:=h.2;refine⟨UInt8.ofNat n.toNat,?_⟩;unfold bv;congr 1
 have:(UInt8.ofNat n.toNat).toNat=n.toNat % 256:=by simp
 rw[this];omega
theorem Bk2{t e:TypeId}{fuel:Nat}{v:Value}{x:DataW H × List MemPlace}(ht:Tryz.prog.underlying t=some (.slice e))(hc:Tryz.prog.cellsOf e=1)(h:DataW.trod enc Tryz.prog W 0 (λ _=>true) true fuel t [v]=some x) :
  ∃ao len cap,v=.slice ao len cap/\len<=cap/\(0<len->∃b off,ao=some ⟨b,off,none⟩/\∀i,i<len->∃u n y,W.cell? ⟨b,off+i,none⟩=some u/\DataW.trod enc Tryz.prog W 0 (λ _=>true) true n e [u]=some y):=by
 rcases open_slice1 ht hc h with⟨e,_⟩ | ⟨a,len,cap,m,n,V,D,Pl,e,_,hl,_,hm,_,hx⟩
 ·cases e;exact⟨none,0,0,rfl,Nat.le_refl _,λ q=>by omega⟩
 ·cases e
  simp only[if_true] at hm;subst hm;refine⟨some a,len,m,rfl,hl,λ hp=>?_⟩;have h0:=(hx 0 (by omega)).1;have hsp:a.spot=none:=by
   have:=World.cell?_spot h0;cases a;simpa [Addr.add] using this
  obtain⟨b,off,spot⟩:=a;simp at hsp;subst hsp;refine⟨b,off,rfl,λ i hi=>?_⟩;obtain⟨c1,c2⟩:=hx i (by omega);rw[Q4] at c1;exact⟨V i,n,_,c1,c2⟩
theorem De2{fuel:Nat}{v:Value}{x:DataW H × List MemPlace}(h:DataW.trod enc Tryz.prog W 0 (λ _=>true) true fuel 32 [v]=some x):∃l,Rd W v l:=by
 obtain⟨ao,len,cap,rfl,hl,hh⟩:=Bk2 Tryz.underlying32 (by kernel_rfl) h;by_cases hp:0<len
 ·obtain⟨b,off,rfl,hc⟩:=hh hp;obtain⟨l,hlen,hl2⟩:=Bo4 (p:=λ i c=>W.cell? ⟨b,off+i,none⟩=some (bv c)) len (λ i hi=>by
   obtain⟨u,n,y,c1,c2⟩:=hc i hi;obtain⟨k,e,_,hw⟩:=DataW.trod_int Tryz.underlying5 c2;cases e
   obtain⟨c,hc'⟩:=Cw9 hw;exact⟨c,by rw[hc'];exact c1⟩)
  exact⟨l,_,cap,by rw[hlen],by omega,λ _=>⟨b,off,rfl,hl2⟩⟩
 ·obtain rfl:len=0:=by omega
  exact⟨[],ao,cap,rfl,by simp,λ q=>by simp at q⟩
theorem Co5{fuel:Nat}{v:Value}{x:DataW H × List MemPlace}(h:DataW.trod enc Tryz.prog W 0 (λ _=>true) true fuel 43 [v]=some x):∃l:List Int,RdL W [] v (l.map λ i=> .int .i64 i):=by
 obtain⟨ao,len,cap,rfl,hl,hh⟩:=Bk2 Tryz.underlying43 (by kernel_rfl) h;by_cases hp:0<len
 ·obtain⟨b,off,rfl,hc⟩:=hh hp;obtain⟨l,hlen,hl2⟩:=Bo4 (p:=λ i (c:Int)=>W.cell? ⟨b,off+i,none⟩=some (.int .i64 c)) len (λ i hi=>by
   obtain⟨u,n,y,c1,c2⟩:=hc i hi;obtain⟨k,e,_,_⟩:=DataW.trod_int Tryz.underlying3 c2;cases e
   exact⟨k,c1⟩)
  exact⟨l,_,cap,by rw[List.length_map,hlen],by rw[List.length_map];omega,λ _=>⟨b,off,by simp,rfl,λ i hi=>by rw[List.getElem_map];exact hl2 i (by simpa using hi)⟩⟩
 ·obtain rfl:len=0:=by omega
  exact⟨[],ao,cap,rfl,by simp,λ q=>by simp at q⟩
theorem Bt1{r:Reach}{b0:Nat}{t e:TypeId}{v:Value}{d:DataW H}{ps:List MemPlace}(ht:Tryz.prog.underlying t=some (.slice e))(hval:Value.okWide Tryz.prog W r b0 t v)(hd:DataW.Trod enc Tryz.prog W 0 (λ _=>true) true t v d ps):∃fuel,DataW.trod enc Tryz.prog W 0 (λ _=>true) true fuel t [v]=some (d,ps):=by
 obtain⟨a,len,cap,rfl⟩:=okWide_slice ht hval;obtain⟨fuel,hf⟩:=hd;exact⟨fuel,hf⟩
theorem Ce8{r:Reach}{b0:Nat}{v:Value}{d:DataW H}{ps:List MemPlace}(hval:Value.okWide Tryz.prog W r b0 43 v)(hd:DataW.Trod enc Tryz.prog W 0 (λ _=>true) true 43 v d ps):∃l:List Int,RdL W [] v (l.map λ i=> .int .i64 i):=by
 obtain⟨fuel,h⟩:=Bt1 Tryz.underlying43 hval hd;exact Co5 h
end
end Go.Proofs.YtgfbepakonjbnaaGreat
end
