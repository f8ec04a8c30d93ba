/-
  space.Root, SetRoot; Free's other answers.
-/
import Derived.Test.YtgfbepakonjbnaaGreatX10
import Derived.Test.YtgfbepakonjbnaaGreatX15
import Derived.Test.YtgfbepakonjbnaaGreatX20
import Derived.Test.YtgfbepakonjbnaaGreatX01
import Derived.ProofKit
import Derived.OpenShut
import Derived.Carry
set_option maxRecDepth 100000
set_option maxHeartbeats 16000000
section
namespace Go.Proofs.YtgfbepakonjbnaaGreat
open Go.RowKit Go.MapKept Go.ChangeMaps
def Sg.R(g:Sg)(M:Nat->Option Sec)(k:Nat):Nat:=num (g.cur M 0) (4*k) 4
def Bv7(M:Nat->Option Sec)(s:Sec):Nat->Option Sec:=λ k=>if k=0 then some s else M k
theorem Bo8{w:World}{g:Sg}{M:Nat->Option Sec}(h:B7 w g M)(hh:1<g.h)(k:Nat)(hk:k<16) :
  Calls Tryz.prog 89 #[.pointer (some ⟨g.x.tb,0,none⟩),.int .i64 (k:Int)] w λ e w'=>e=.returned (.tuple #[.int .u32 (g.R M k:Int),.int .i64 0])/\B7 w' g M/\Upd [g.j.jb] w w':=by
 have HH:=η (U6 h);have H:=η h;have hb:((g.h:Int) == 0)=false:=by rw[beq_eq_false_iff_ne];omega
 have d1:decide ((k:Int)<0)=false:=decide_eq_false (by omega);have d2:decide (16<=(k:Int))=false:=decide_eq_false (by omega);have d3:decide (16<=k)=false:=decide_eq_false (by omega);have HL:=η (h.cur_len 0);obtain⟨N,hN⟩:∃N:Int,N=(g.R M k:Int):=⟨_,rfl⟩;have hN0:0<=N:=by omega
 have hN1:N<4294967296:=by have:=Ap1 (g.cur M 0) (4*k) 4;unfold Sg.R at hN;omega
 have hwr:IntKind.u32.wrap N=N:=by rw[IntKind.wrap_u32];omega
 have HN:=η hN;rw[← hN];clear h hN;go_enter Tryz.func89,Tryz.ntmps89
 go_wp2_with fail
 refine HH.out.mono ?_;rintro e w1 ⟨rfl,n1,hn1⟩;have hu1:Upd [] w w1:=by rw[hn1];exact(Upd.refl _ _).drewN _
 have HRD:=η (As6 (H.out.below hu1) 0 (by omega));have HU1:=η hu1;clear hn1 hu1;go_wp2_with fail
 refine HRD.out.mono ?_;rintro e w2 ⟨v,rfl,ho,h2,hu2⟩;obtain⟨av,lv,cv,rfl⟩:∃a b c,v=.slice a b c:=by obtain⟨a,c,rfl,_⟩:=ho.rd;exact⟨_,_,_,rfl⟩
 have hat:=Am2 _ _ (4*k) 4 w2 ho.rd (by omega) (by omega) (by rw[HL.out];omega) (by rw[HL.out];omega);rw[show((4*k:Nat):Int)=4*(k:Int) from by omega,show((4:Nat):Int)=4 from rfl,show((num (g.cur M 0) (4*k) 4:Nat):Int)=N from by rw[HN.out];rfl] at hat;have HAT:=η hat;have HU2:=η ((HU1.out.mono (by simp)).trans hu2);have H2:=η h2;clear ho hat h2 hu2;go_wp2_with fail
 refine HAT.out.mono ?_;rintro e w' ⟨rfl,rfl⟩;go_wp2_with fail
 go_ret2;exact⟨rfl,H2.out,HU2.out⟩
theorem Cx5{w:World}{g:Sg}{M:Nat->Option Sec}(h:B7 w g M)(hh:1<g.h)(k:Nat)(hk:k<16) :
  Calls Tryz.prog 89 #[.pointer (some ⟨g.x.tb,0,none⟩),.int .i64 (k:Int)] w λ e w'=>e=.returned (.tuple #[.int .u32 (g.R M k:Int),.int .i64 0])/\B7 w' g M/\Upd g.S w w':=
 (Bo8 h hh k hk).mono λ _ _ ⟨e1,e2,e3⟩=>⟨e1,e2,e3.mono g.mem⟩
theorem Cb7{w:World}{g:Sg}{M:Nat->Option Sec}(h:B7 w g M)(hh:1<g.h)(hc:(M 0).isSome=true∨E1 M g.h<40)(k:Nat)(hk:k<16)(V:Nat) :
  Calls Tryz.prog 172 #[.pointer (some ⟨g.x.tb,0,none⟩),.int .i64 (k:Int),.int .u32 (V:Int)] w λ e w'=>e=.returned (.int .i64 0)/\B7 w' g (Bv7 M (put (g.cur M 0) (4*k) 4 V))/\Upd g.S w w':=by
 have HH:=η (U6 h);have H:=η h;have HC:=η hc;have hb:((g.h:Int) == 0)=false:=by rw[beq_eq_false_iff_ne];omega
 have d1:decide ((k:Int)<0)=false:=decide_eq_false (by omega);have d2:decide (16<=(k:Int))=false:=decide_eq_false (by omega);have d3:decide (16<=k)=false:=decide_eq_false (by omega);have HL:=η (h.cur_len 0);clear h hc;go_enter Tryz.func172,Tryz.ntmps172
 go_wp2_with fail
 refine HH.out.mono ?_;rintro e w1 ⟨rfl,n1,hn1⟩;have hu1:Upd [] w w1:=by rw[hn1];exact(Upd.refl _ _).drewN _
 have HRD:Hid (Calls Tryz.prog 155 #[.pointer (some ⟨g.x.tb,0,none⟩),.int .i64 0] w1 λ e w'=>∃v,e=.returned (.tuple #[v,.int .i64 0])/\Y1 w' 5 (λ k=>w1.heap.size<=k) v (g.cur M 0)/\B7 w' g M/\Upd [g.j.jb] w1 w'):=η (As6 (H.out.below hu1) 0 (by omega));have HU1:=η hu1;clear hn1 hu1;go_wp2_with fail
 refine HRD.out.mono ?_;rintro e w2 ⟨v,rfl,ho,h2,hu2⟩;obtain⟨kb,c,rfl,_,hkb,-⟩:=ho.sec HL.out;have ho2:=ho.own (by rw[HL.out];omega);have HLT:=η (show w.heap.size<=kb from Nat.le_trans HU1.out.size hkb);have HO2:=η ho2;have H1:=η (H.out.below HU1.out);have HU12:=η hu2;have HU2:=η ((HU1.out.mono (by simp)).trans (hu2.mono g.mem));have H2:=η h2;have HKB:=η hkb;clear ho ho2 hkb h2 hu2;go_wp2_with fail
 go_loopw [29] (λ i wr=>∃q:Nat,q<=4/\i=.int .i64 (q:Int)/\Own wr 5 (λ k=>w1.heap.size<=k) (.slice (some ⟨kb,0,none⟩) 512 c) (Ah7 (g.cur M 0) (4*k) 4 V q)/\Upd [kb] w2 wr) (λ i _=>4-(intOf i).toNat)
 case atStart=>exact⟨0,by omega,rfl,by rw[Ag0];exact HO2.out,Upd.refl _ _⟩
 case round=>
  obtain⟨q,hq,rfl,ho,hu⟩:=hrel;by_cases hlt:q<4
  ·have hlt':decide ((q:Int)<4)=true:=decide_eq_true (by omega);have hlen:(Ah7 (g.cur M 0) (4*k) 4 V q).length=512:=by rw[Aa7 (by omega) (by rw[HL.out];omega)];exact HL.out
   have hst:=Ag2 (b:=g.cur M 0) (a:=4*k) (n:=4) (v:=V) hlt (by rw[HL.out];omega);obtain⟨I,hI⟩:∃I,I=4*k+q:=⟨_,rfl⟩;have hIk:4*(k:Int)+(q:Int)=(I:Int):=by omega
   obtain⟨hcl,hf⟩:=ho.cell512 hlen (q:=I) (by omega);obtain⟨Y,hY⟩:∃Y,Y=V / 256 ^ (4-1-q) % 256:=⟨_,rfl⟩;have o2:=Aj0 ho hlen (q:=I) (by omega) (y:=Y) (by omega);have eY:UInt8.ofNat Y=UInt8.ofNat (V / 256 ^ (4-1-q)):=by
    apply UInt8.toNat_inj.1;rw[UInt8.toNat_ofNat',UInt8.toNat_ofNat',hY];omega
   rw[eY,hI,hst,← hI] at o2;have u2:Upd [kb] wr (wr.setCell ⟨kb,I,none⟩ (.int .u8 (Y:Int))):=(Upd.refl _ _).set _ (by simp);have HO:=η o2;have HUx:=η (hu.trans u2);have i0:(0:Int)<=(I:Int):=by omega
   have i1:(I:Int)<512:=by omega
   have s0:decide ((24:Int)-8*(q:Int)<0)=false:=decide_eq_false (by omega);have hsh:(0:Int)<=24-8*(q:Int):=by omega
   have hsh2:24-8*(q:Int)<=24:=by omega
   have hYI:(V:Int) / 2 ^ (24-8*q) % 256=(Y:Int):=by
    have e1:(2:Int) ^ (24-8*q)=((256 ^ (4-1-q):Nat):Int):=by
     rw[show(256:Nat)=2 ^ 8 from rfl,← Nat.pow_mul,Int.natCast_pow,show 24-8*q=8*(4-1-q) from by omega];rfl
    rw[e1,hY];omega
   have HYI:=η hYI;clear ho hu hlen hst hI eY o2 u2 hYI hY;go_wp2_with fail
   exact⟨⟨q+1,by omega,by go_num,by rw[HYI.out];exact HO.out,by rw[HYI.out];exact HUx.out⟩,by simp[intOf];omega⟩
  ·obtain rfl:q=4:=by omega
   have hlt':decide (((4:Nat):Int)<4)=false:=rfl;rw[Ag1] at ho;have hlen:(put (g.cur M 0) (4*k) 4 V).length=512:=by rw[Ac9 (by rw[HL.out];omega)];exact HL.out
   have h3:=H1.out.late H2.out HU12.out hu (λ q hq=>by simp at hq;subst hq;exact HKB.out);have HW:Hid (Calls Tryz.prog 140 #[.pointer (some ⟨g.x.tb,0,none⟩),.int .i64 0,.slice (some ⟨kb,0,none⟩) 512 c] wr λ e w'=>e=.returned (.int .i64 0)/\B7 w' g (Bv7 M (put (g.cur M 0) (4*k) 4 V))/\Upd [g.x.wb] wr w'):=η (Ai9 h3 0 (by omega) _ _ ho.rd hlen HC.out);have HU3:=η (HU2.out.late hu (λ k hk=>by simp at hk;subst hk;exact .inr HLT.out));clear ho hu hlen h3;go_wp2_with fail
   refine HW.out.mono ?_;rintro e w4 ⟨rfl,h4,hu4⟩;have H4:=η h4;have HU4:=η (HU3.out.trans (hu4.mono g.memw));clear h4 hu4;go_wp2_with fail
   go_ret;exact⟨rfl,H4.out,HU4.out⟩
end Go.Proofs.YtgfbepakonjbnaaGreat
end
section
set_option linter.unusedSimpArgs false
set_option linter.unusedVariables false
namespace Go.Proofs.YtgfbepakonjbnaaGreat
open Go.RowKit Go.MapKept Go.ChangeMaps
section
def L4(n a l:Nat):Bs:=put (put (put z16 0 4 n) 4 4 a) 8 4 l
theorem T9(n a l:Nat):(L4 n a l).length=16:=by
 have h1:=E6 (b:=z16) (L:=16) rfl (a:=0) (n:=4) (v:=n) (by omega);have h2:=E6 h1 (a:=4) (n:=4) (v:=a) (by omega);exact E6 h2 (a:=8) (n:=4) (v:=l) (by omega)
theorem Bs6{n a l:Nat}(hn:n<4294967296)(ha:a<4294967296)(hl:l<4294967296):num (L4 n a l) 0 4=n/\num (L4 n a l) 4 4=a/\num (L4 n a l) 8 4=l:=by
 have h1:=E6 (b:=z16) (L:=16) rfl (a:=0) (n:=4) (v:=n) (by omega);have h2:=E6 h1 (a:=4) (n:=4) (v:=a) (by omega);unfold L4;refine⟨?_,?_,?_⟩
 ·rw[E3 _ (by rw[h2];omega) (.inl (by omega)),E3 _ (by rw[h1];omega) (.inl (by omega)),O8 (by decide) (by omega)]
 ·rw[E3 _ (by rw[h2];omega) (.inl (by omega)),O8 (by rw[h1];omega) (by omega)]
 ·rw[O8 (by rw[h2];omega) (by omega)]
def Rc.ent(r:Rc):C0:=(r.key,L4 r.n r.at_ r.len)
def J0:List Rc->Bs->Option Rc
 | [],_=>none
 | r :: R,key=>if ltB r.key key then J0 R key else if r.key=key then some r else none
theorem Bj2:∀(R:List Rc) (key:Bs),Q7 (R.map Rc.ent) key=(J0 R key).map λ r=>L4 r.n r.at_ r.len
 | [],_=>rfl
 | r :: R,key=>by
  have ih:=Bj2 R key;simp only[List.map_cons,Q7,J0];by_cases h:ltB r.key key=true
  ·rw[if_pos (show ltB r.ent.1 key=true from h),if_pos h,ih]
  ·rw[if_neg (show ¬ltB r.ent.1 key=true from h),if_neg h];by_cases e:r.key=key
   ·rw[if_pos (show r.ent.1=key from e),if_pos e];rfl
   ·rw[if_neg (show ¬r.ent.1=key from e),if_neg e];rfl
theorem X7:∀{R:List Rc} {key:Bs} {r:Rc},J0 R key=some r->r∈R/\r.key=key
 | [],_,_,h=>by cases h
 | x :: R,key,r,h=>by
  unfold J0 at h;split at h
  ·obtain⟨h1,h2⟩:=X7 h;exact⟨List.mem_cons_of_mem _ h1,h2⟩
  ·split at h
   ·rename_i e;cases h;exact⟨List.mem_cons_self ..,e⟩
   ·cases h
theorem M0.perm'{K:Nat->Option Pk}{R R':List Rc}(k:M0 K R)(h:R.Perm R'):M0 K R':=
 ⟨λ r hr=>k.rec_ r (h.symm.subset hr),λ n p hp=>by rw[← Ax9 h];exact k.live n p hp⟩
def S8:List Rc->Rc->List Rc
 | [],x=>[x]
 | r :: R,x=>if ltB r.key x.key then r :: S8 R x else if r.key=x.key then x :: R else x :: r :: R
theorem Bs7:∀(R:List Rc) (x:Rc),(S8 R x).map Rc.ent=O0 (R.map Rc.ent) x.key (L4 x.n x.at_ x.len)
 | [],_=>rfl
 | r :: R,x=>by
  have ih:=Bs7 R x;simp only[List.map_cons,O0,S8];by_cases h:ltB r.key x.key=true
  ·rw[if_pos (show ltB r.ent.1 x.key=true from h),if_pos h,List.map_cons,ih]
  ·rw[if_neg (show ¬ltB r.ent.1 x.key=true from h),if_neg h];by_cases e:r.key=x.key
   ·rw[if_pos (show r.ent.1=x.key from e),if_pos e];rfl
   ·rw[if_neg (show ¬r.ent.1=x.key from e),if_neg e];rfl
def An9(R:List Rc):Prop:=(R.map (·.key)).Pairwise (λ x y=>ltB x y=true)
theorem Au8:∀{R:List Rc} {x:Rc},J0 R x.key=none->(S8 R x).Perm (x :: R)
 | [],x,_=>List.Perm.refl _
 | r :: R,x,hn=>by
  unfold J0 at hn;unfold S8;by_cases h:ltB r.key x.key=true
  ·rw[if_pos h] at hn ⊢;exact((Au8 hn).cons r).trans (List.Perm.swap x r R)
  ·rw[if_neg h] at hn ⊢;by_cases e:r.key=x.key
   ·rw[if_pos e] at hn;cases hn
   ·rw[if_neg e]
theorem Bj3:∀{R:List Rc} {key:Bs} {y:Rc},J0 R key=some y->∃A B,R=A++y :: B/\∀x:Rc,x.key=key->S8 R x=A++x :: B
 | [],key,y,h=>by cases h
 | r :: R,key,y,h=>by
  unfold J0 at h;by_cases hl:ltB r.key key=true
  ·rw[if_pos hl] at h;obtain⟨A,B,e1,e2⟩:=Bj3 h;refine⟨r :: A,B,by rw[e1];rfl,λ x hx=>?_⟩;unfold S8;rw[hx,if_pos hl,e2 x hx];rfl
  ·rw[if_neg hl] at h;by_cases e:r.key=key
   ·rw[if_pos e] at h;cases h
    refine⟨[],R,rfl,λ x hx=>?_⟩;unfold S8;rw[hx,if_neg hl,if_pos e];rfl
   ·rw[if_neg e] at h;cases h
theorem Bd6(R:List Rc)(x:Rc):(S8 R x).length<=R.length+1:=by
 induction R with
 | nil=>simp[S8]
 | cons r R ih=>
  unfold S8;split
  ·simp only[List.length_cons];omega
  ·split<;>simp only[List.length_cons]<;>omega
theorem Bd7:∀{R:List Rc} {x y:Rc},y∈S8 R x->y=x∨y∈R
 | [],x,y,h=>by simp[S8] at h;exact .inl h
 | r :: R,x,y,h=>by
  unfold S8 at h;split at h
  ·rcases List.mem_cons.1 h with e | e
   ·exact .inr (by rw[e];exact List.mem_cons_self ..)
   ·rcases Bd7 e with q | q
    ·exact .inl q
    ·exact .inr (List.mem_cons_of_mem _ q)
  ·split at h
   ·rcases List.mem_cons.1 h with e | e
    ·exact .inl e
    ·exact .inr (List.mem_cons_of_mem _ e)
   ·rcases List.mem_cons.1 h with e | e
    ·exact .inl e
    ·exact .inr e
theorem Am4:∀{R:List Rc} {x:Rc},An9 R->An9 (S8 R x)
 | [],x,_=>by unfold An9 S8;simp
 | r :: R,x,hs=>by
  have hs2:=List.pairwise_cons.1 hs;unfold S8;by_cases h:ltB r.key x.key=true
  ·rw[if_pos h];refine List.pairwise_cons.2 ⟨λ k hk=>?_,Am4 hs2.2⟩;obtain⟨y,hy,rfl⟩:=List.mem_map.1 hk;rcases Bd7 hy with rfl | q
   ·exact h
   ·exact hs2.1 _ (List.mem_map.2 ⟨y,q,rfl⟩)
  ·rw[if_neg h];by_cases e:r.key=x.key
   ·rw[if_pos e];exact List.pairwise_cons.2 ⟨λ k hk=>by have:=hs2.1 k hk;dsimp only at this ⊢;rw[← e];exact this,hs2.2⟩
   ·rw[if_neg e];have hlt:ltB x.key r.key=true:=by
     cases q:ltB x.key r.key
     ·exact absurd (Y0 (by simpa using h) q) e
     ·rfl
    refine List.pairwise_cons.2 ⟨λ k hk=>?_,hs⟩;rcases List.mem_cons.1 hk with rfl | q
    ·exact hlt
    ·exact L7 hlt (hs2.1 k q)
theorem Ab1:∀{R:List Rc} {x:Rc},An9 R->x∈R->J0 R x.key=some x
 | [],x,_,h=>by simp at h
 | r :: R,x,hs,h=>by
  have hs2:=List.pairwise_cons.1 hs;unfold J0;rcases List.mem_cons.1 h with rfl | h
  ·rw[I6,if_neg (by simp),if_pos rfl]
  ·rw[if_pos (hs2.1 _ (List.mem_map.2 ⟨x,h,rfl⟩))];exact Ab1 hs2.2 h
theorem Bj4:∀(R:List Rc) (x:Rc),x∈S8 R x
 | [],x=>by simp[S8]
 | r :: R,x=>by
  unfold S8;split
  ·exact List.mem_cons_of_mem _ (Bj4 R x)
  ·split<;>exact List.mem_cons_self ..
theorem Bj5:∀{R:List Rc} {x y:Rc},y∈R->y.key≠x.key->y∈S8 R x
 | [],x,y,h,_=>by simp at h
 | r :: R,x,y,h,hne=>by
  unfold S8;split
  ·rcases List.mem_cons.1 h with rfl | h
   ·exact List.mem_cons_self ..
   ·exact List.mem_cons_of_mem _ (Bj5 h hne)
  ·split
   ·rename_i e;rcases List.mem_cons.1 h with rfl | h
    ·exact absurd e hne
    ·exact List.mem_cons_of_mem _ h
   ·exact List.mem_cons_of_mem _ h
theorem Co6{R:List Rc}(hs:An9 R)(x:Rc):J0 (S8 R x) x.key=some x:=Ab1 (Am4 hs) (Bj4 R x)
theorem Bs8{R:List Rc}(hs:An9 R)(x:Rc){key:Bs}(hk:key≠x.key):J0 (S8 R x) key=J0 R key:=by
 cases hq:J0 R key with
 | some z=>
  obtain⟨h1,h2⟩:=X7 hq;have:=Ab1 (Am4 hs) (Bj5 (x:=x) h1 (by rw[h2];exact hk));rw[h2] at this;exact this
 | none=>
  cases hp:J0 (S8 R x) key with
  | none=>rfl
  | some z=>
   exfalso
   obtain⟨h1,h2⟩:=X7 hp;rcases Bd7 h1 with rfl | h3
   ·exact hk h2.symm
   ·have:=Ab1 hs h3;rw[h2,hq] at this;cases this
def InP(K:Nat->Option Pk)(i:Nat):Prop:=∃n p,K n=some p/\p.start<=i/\i<p.start+16
structure KpM(C:Nat->Sec)(h:Nat)(T:Nat->Bool)(r:Nat)(S:List Nat)(K:Nat->Option Pk)(Rp Rt:List Rc):Prop where
 pk:L9 C h T K
 rc:M0 K Rp
 tr:X3 C r (Rt.map Rc.ent) S
 nd:S.Nodup
 low:∀s,s∈S->4<=s/\s<h
 only:∀i,T i=true↔i<4∨i∈S∨InP K i
 apart:∀s,s∈S->¬InP K s
theorem InP.set{K:Nat->Option Pk}{n:Nat}{p:Pk}{i:Nat}:InP (Ab6 K n (some p)) i↔(p.start<=i/\i<p.start+16)∨∃m q,m≠n/\K m=some q/\q.start<=i/\i<q.start+16:=by
 constructor
 ·rintro⟨m,q,hq,h1,h2⟩;by_cases e:m=n
  ·subst e;rw[E0] at hq;cases hq;exact .inl ⟨h1,h2⟩
  ·rw[F4 _ _ e] at hq;exact .inr ⟨m,q,e,hq,h1,h2⟩
 ·rintro(⟨h1,h2⟩ | ⟨m,q,e,hq,h1,h2⟩)
  ·exact⟨n,p,E0 _ _ _,h1,h2⟩
  ·exact⟨m,q,by rw[F4 _ _ e];exact hq,h1,h2⟩
theorem InP.same{K:Nat->Option Pk}{n:Nat}{p p':Pk}(hn:K n=some p)(hs:p'.start=p.start)(i:Nat):InP (Ab6 K n (some p')) i↔InP K i:=by
 rw[InP.set,hs];constructor
 ·rintro(⟨h1,h2⟩ | ⟨m,q,e,hq,h1,h2⟩)
  ·exact⟨n,p,hn,h1,h2⟩
  ·exact⟨m,q,hq,h1,h2⟩
 ·rintro⟨m,q,hq,h1,h2⟩;by_cases e:m=n
  ·rw[e,hn] at hq;cases hq;exact .inl ⟨h1,h2⟩
  ·exact .inr ⟨m,q,e,hq,h1,h2⟩
theorem InP.new{K:Nat->Option Pk}{n:Nat}{p:Pk}(hn:K n=none)(i:Nat):InP (Ab6 K n (some p)) i↔(p.start<=i/\i<p.start+16)∨InP K i:=by
 rw[InP.set];refine or_congr Iff.rfl ⟨?_,?_⟩
 ·rintro⟨m,q,e,hq,h1,h2⟩;exact⟨m,q,hq,h1,h2⟩
 ·rintro⟨m,q,hq,h1,h2⟩;exact⟨m,q,(λ e=>by rw[e,hn] at hq;cases hq),hq,h1,h2⟩
theorem InP.gone{C:Nat->Sec}{h:Nat}{T:Nat->Bool}{K:Nat->Option Pk}(k:L9 C h T K){n:Nat}{p:Pk}(hn:K n=some p)(i:Nat):InP (Ab6 K n none) i↔InP K i/\¬(p.start<=i/\i<p.start+16):=by
 constructor
 ·rintro⟨m,q,hq,h1,h2⟩;by_cases e:m=n
  ·rw[e,E0] at hq;cases hq
  ·rw[F4 _ _ e] at hq;have:=k.apart m q n p hq hn e;exact⟨⟨m,q,hq,h1,h2⟩,by omega⟩
 ·rintro⟨⟨m,q,hq,h1,h2⟩,h3⟩;by_cases e:m=n
  ·rw[e,hn] at hq;cases hq;exact absurd ⟨h1,h2⟩ h3
  ·exact⟨m,q,by rw[F4 _ _ e];exact hq,h1,h2⟩
section
variable {C C':Nat->Sec} {h r:Nat} {T T':Nat->Bool} {S:List Nat} {K K':Nat->Option Pk} {Rp Rt:List Rc}
theorem KpM.drop(k:KpM C h T r S K Rp Rt)(hpk:L9 C' h T' K'){x:Rc}{Rp':List Rc}(hd:Ba3 K T x.n x.len K' T')(hp:Rp.Perm (x :: Rp'))(hc:∀i,i≠1->i≠2->i≠3->C' i=C i):KpM C' h T' r S K' Rp' Rt:=by
 have hrc:=k.rc.drop hp hd;have htr:X3 C' r (Rt.map Rc.ent) S:=k.tr.keep λ s hs=>by have:=k.low s hs;exact hc s (by omega) (by omega) (by omega)
 obtain⟨p,hn,_,⟨_,rfl,hT⟩ | ⟨_,rfl,rfl⟩⟩:=hd
 ·refine⟨hpk,hrc,htr,k.nd,k.low,λ i=>?_,λ s hs q=>k.apart s hs ((InP.gone k.pk hn s).1 q).1⟩;rw[hT,InP.gone k.pk hn];have h4:=(k.pk.low _ _ hn).1;by_cases e:p.start<=i/\i<p.start+16
  ·rw[if_pos e];refine⟨(λ q=>by cases q),?_⟩;rintro(q | q | ⟨_,q⟩)
   ·omega
   ·exact absurd ⟨_,p,hn,e.1,e.2⟩ (k.apart i q)
   ·exact absurd e q
  ·rw[if_neg e,k.only i];exact or_congr Iff.rfl (or_congr Iff.rfl ⟨λ q=>⟨q,e⟩,λ q=>q.1⟩)
 ·refine⟨hpk,hrc,htr,k.nd,k.low,λ i=>?_,λ s hs q=>k.apart s hs ((InP.same hn (p':=⟨p.start,p.data,p.live-x.len⟩) rfl s).1 q)⟩;rw[InP.same hn (p':=⟨p.start,p.data,p.live-x.len⟩) rfl];exact k.only i
theorem KpM.add(k:KpM C h T r S K Rp Rt)(hpk:L9 C' h T' K'){key b:List UInt8}{y:Nat × Nat}(hk:key.length=32)(hb:b.length<=4200)(ha:Z2 K T h (D8 key b) K' T' (some y))
  (hc:∀i,i≠1->i≠2->i≠3->(∀p,K' y.1=some p->¬(p.start<=i/\i<p.start+16))->C' i=C i):KpM C' h T' r S K' (⟨y.1,y.2,key,b⟩ :: Rp) Rt/\(∀s,s∈S->C' s=C s):=by
 have hrc:=(k.rc.add hk hb ha).1;have hS:∀s,s∈S->¬InP K' s:=λ s hs q=>by
  rcases ha with⟨free,p,_,h1,h2,h3,rfl,rfl⟩ | ⟨st,q1,h1,h2,h3,rfl,h4⟩
  ·exact k.apart s hs ((InP.same h2 (p':=⟨p.start,p.data++D8 key b,p.live+(D8 key b).length⟩) rfl s).1 q)
  ·rcases (InP.new (q1.free_none h1) s).1 q with q | q
   ·dsimp only at q;have:=h3.2.1 (s-st) (by omega);rw[show st+(s-st)=s by omega,Bool.eq_false_iff] at this;exact this ((k.only s).2 (.inr (.inl hs)))
   ·exact k.apart s hs q
 have hsame:∀s,s∈S->C' s=C s:=λ s hs=>by
  have:=k.low s hs;exact hc s (by omega) (by omega) (by omega) (λ p hp q=>hS s hs ⟨_,p,hp,q.1,q.2⟩)
 refine⟨⟨hpk,hrc,k.tr.keep hsame,k.nd,k.low,λ i=>?_,hS⟩,hsame⟩;rcases ha with⟨free,p,_,h1,h2,h3,rfl,rfl⟩ | ⟨st,q1,h1,h2,h3,rfl,h4⟩
 ·rw[InP.same h2 (p':=⟨p.start,p.data++D8 key b,p.live+(D8 key b).length⟩) rfl];exact k.only i
 ·rw[InP.new (q1.free_none h1),h4];by_cases e:st<=i/\i<st+16
  ·rw[if_pos e];exact⟨λ _=> .inr (.inr (.inl e)),λ _=>rfl⟩
  ·rw[if_neg e,k.only i];exact or_congr Iff.rfl (or_congr Iff.rfl ⟨λ q=> .inr q,λ q=>q.resolve_left e⟩)
end
theorem KpM.put{g:Sg}{M M':Nat->Option Sec}{r r':Nat}{S:List Nat}{K:Nat->Option Pk}{Rp Rt:List Rc}{m:Nat}{w':World}(k:KpM (g.cur M) g.h (g.T M) r S K Rp Rt)(hs:B7 w' g M'){x:Rc}(hp:V2 g M M' r r' (Rt.map Rc.ent) S x.key (L4 x.n x.at_ x.len) m) :
  ∃S',KpM (g.cur M') g.h (g.T M') r' S' K Rp (S8 Rt x)/\P0 g M M' S S' 4 m:=by
 obtain⟨S',h1,_,hG,_⟩:=hp;rw[← Bs7] at h1;have hh:=hG.held ⟨k.nd,k.low,λ s q=>(k.only s).2 (.inr (.inl q))⟩;have hS:∀s,s∈S'->¬InP K s:=λ s q i=>by
  rcases hG.new s q with c | c
  ·exact k.apart s c i
  ·have:=(k.only s).2 (.inr (.inr i));rw[c.1] at this;cases this
 refine⟨S',⟨k.pk.turn (λ i=>hs.cur_len i) (G9 g (hG.keep 2 (λ q=>by have:=hh.low 2 q;omega) (by omega))) (G9 g (hG.keep 3 (λ q=>by have:=hh.low 3 q;omega) (by omega)))
   (λ n p hp i i1 i2=>G9 g (hG.keep i (λ q=>hS i q ⟨n,p,hp,i1,i2⟩) (by have:=(k.pk.low n p hp).1;omega))) (λ n p hp i hi=>?_),k.rc,h1,hh.nd,hh.low,λ i=>?_,hS⟩,hG⟩
 ·rw[hG.T,k.pk.taken n p hp i hi];rfl
 ·rw[hG.T,Bool.or_eq_true,k.only i,decide_eq_true_iff];constructor
  ·rintro((q | q | q) | q)
   ·exact .inl q
   ·exact .inr (.inl (hG.sub i q))
   ·exact .inr (.inr q)
   ·exact .inr (.inl q)
  ·rintro(q | q | q)
   ·exact .inl (.inl q)
   ·exact .inr q
   ·exact .inl (.inr (.inr q))
theorem KpM.turn{g:Sg}{M M':Nat->Option Sec}{r:Nat}{S:List Nat}{K:Nat->Option Pk}{Rp Rt:List Rc}{w':World}(k:KpM (g.cur M) g.h (g.T M) r S K Rp Rt)(hs:B7 w' g M')(h:∀i,i≠0->M' i=M i):KpM (g.cur M') g.h (g.T M') r S K Rp Rt:=by
 have hT:g.T M'=g.T M:=Ba4 g (h 1 (by omega));rw[hT];exact⟨k.pk.turn (λ i=>hs.cur_len i) (G9 g (h 2 (by omega))) (G9 g (h 3 (by omega))) (λ n p hp i i1 i2=>G9 g (h i (by have:=(k.pk.low n p hp).1;omega))) (λ n p hp i hi=>k.pk.taken n p hp i hi),
  k.rc,k.tr.keep λ s q=>G9 g (h s (by have:=k.low s q;omega)),k.nd,k.low,k.only,k.apart⟩
structure Ap5(g:Sg)(M:Nat->Option Sec)(S:List Nat)(K:Nat->Option Pk)(R:List Rc):Prop where
 m:KpM (g.cur M) g.h (g.T M) (g.R M 0) S K R R
 sort:An9 R
end
end Go.Proofs.YtgfbepakonjbnaaGreat
end
section
section
set_option linter.unusedSimpArgs false
set_option linter.unusedVariables false
namespace Go.Proofs.YtgfbepakonjbnaaGreat
open Go.RowKit Go.MapKept Go.ChangeMaps
theorem Cb2(w:World):Calls Tryz.prog 221 #[.int .i64 0] w λ e w'=>e=.returned (.int .i64 46)/\Upd [] w w':=by
 go_enter Tryz.func221,Tryz.ntmps221
 go_wp2_with fail
 go_ret;exact⟨rfl,Upd.refl _ _⟩
def wiV(pb sb st us at_ ln:Nat):List (Nat × Nat × Value):=[(0,19,.pointer (some ⟨sb,0,none⟩)),(1,20,.int .i64 (st:Int)),(2,21,.bool false),(3,22,.bool false),(4,23,.pointer (some ⟨pb,1,none⟩)),(5,24,.int .i64 (at_:Int)),(6,25,.bool false),(7,26,.bool false),(8,27,.bool false),(9,28,.pointer (some ⟨pb,2,none⟩)),(10,29,.int .i64 (ln:Int)),(11,30,.int .i64 46),(12,31,.bool false),(13,32,.bool false),(14,33,.bool false),(15,34,.pointer (some ⟨pb,2,none⟩)),(16,35,.int .i64 (ln:Int)),(17,36,.pointer (some ⟨sb,1,none⟩)),(18,37,.int .i64 (us:Int)),(19,38,.bool false),(20,39,.bool false),(21,40,.bool false),(22,41,.pointer (some ⟨pb,1,none⟩)),(23,42,.int .i64 (at_:Int)),(24,43,.pointer (some ⟨sb,1,none⟩)),(25,44,.int .i64 (us:Int)),(26,45,.pointer (some ⟨pb,2,none⟩)),(27,46,.int .i64 (ln:Int)),(28,47,.int .i64 ((us:Int)-(ln:Int))),(29,48,.bool false),(30,49,.bool false)]
theorem Ay3{w:World}{g:Sg}{M:Nat->Option Sec}{K:Nat->Option Pk}(h:B7 w g M)(hk:L9 (g.cur M) g.h (g.T M) K)(hh:20<=g.h)(hh2:g.h<=4096){n:Nat}{p:Pk}(hp:K n=some p)(at_ ln:Nat)(h46:46<=ln)(hal:at_+ln<=p.data.length) :
  Calls Tryz.prog 169 #[.pointer (some ⟨g.x.tb,0,none⟩),plV (n,at_,ln)] w λ e w'=>e=.returned (.tuple #[stV (p.start,p.data.length,p.live),.int .i64 0])/\B7 w' g M/\Upd [g.j.jb] w w':=by
 have hlt:=h.lt;have hlow:=hk.low n p hp;have hn64:=hk.lt hp;obtain⟨st,hst⟩:∃st,st=p.start:=⟨_,rfl⟩;obtain⟨us,hus⟩:∃us,us=p.data.length:=⟨_,rfl⟩;obtain⟨lv,hlv⟩:∃lv,lv=p.live:=⟨_,rfl⟩;obtain⟨pb,hpb⟩:∃pb,pb=w.heap.size:=⟨_,rfl⟩;obtain⟨w1,hw1⟩:∃w1,w1=(w.alloc (.cells #[.int .i64 (n:Int),.int .i64 (at_:Int),.int .i64 (ln:Int)] 92)).alloc (.cells #[.int .i64 0,.int .i64 0,.int .i64 0] 200):=⟨_,rfl⟩;have hu1:Upd [] w w1:=by rw[hw1];exact((Upd.refl _ _).alloc _).alloc _
 have hbp:w1.heap[pb]?=some (.cells #[.int .i64 (n:Int),.int .i64 (at_:Int),.int .i64 (ln:Int)] 92 (0,0)):=by
  rw[hw1,hpb];exact(((Upd.refl [] _).alloc _).block _ (by simp) (by simp)).trans (A4 _)
 have hbr:w1.heap[pb+1]?=some (.cells #[.int .i64 0,.int .i64 0,.int .i64 0] 200 (0,0)):=by
  rw[hw1,hpb];have:=A4 (w:=w.alloc (.cells #[.int .i64 (n:Int),.int .i64 (at_:Int),.int .i64 (ln:Int)] 92)) (.cells #[.int .i64 0,.int .i64 0,.int .i64 0] 200);rwa [World.size_alloc] at this
 have hlk:=Bk2 (h.below hu1) hh hh2 n hn64;rw[hk.look n hn64,hp] at hlk;unfold stV Ca5 at hlk;dsimp only at hlk;rw[← hst,← hus,← hlv] at hlk hlow;rw[← hus] at hal;rw[← hst,← hus,← hlv];have HLK:=η hlk;have HLT:=η hlt;have HU1:=η hu1;have HBP:=η hbp;have HBR:=η hbr;have HPB:=η hpb;have HW1:=η hw1;have p0:w1.cell? ⟨pb,0,none⟩=some (.int .i64 (n:Int)):=by rw[A2 hbp];rfl
 clear h hlt hk hp hst hus hlv hpb hw1 hu1 hbp hbr hlk;unfold plV;go_enter Tryz.func169,Tryz.ntmps169
 go_upto_region 1 with(fail)
 have hw1:=HW1.out;have hpb:=HPB.out;rw[← hw1,← hpb];clear hw1 hpb;go_wp2_with fail
 refine HLK.out.mono ?_;rintro e w4 ⟨rfl,h4,hu4⟩;have hne:∀i,pb<=i->i∉[g.j.jb]:=λ i hi q=>by have:=HLT.out.1 i (g.mem i q);have:=HPB.out;omega
 have hbp4:=(hu4.block _ (A3 HBP.out) (hne _ (Nat.le_refl _))).trans HBP.out;have hbr4:=(hu4.block _ (A3 HBR.out) (hne _ (by omega))).trans HBR.out;obtain⟨w5,hw5⟩:∃w5,w5=w4.alloc (.cells #[.int .i64 (st:Int),.int .i64 (us:Int),.int .i64 (lv:Int)] 200):=⟨_,rfl⟩;obtain⟨sb,hsb⟩:∃sb,sb=w4.heap.size:=⟨_,rfl⟩;have hu5:Upd [] w4 w5:=by rw[hw5];exact(Upd.refl _ _).alloc _
 have hb5:w5.heap[sb]?=some (.cells #[.int .i64 (st:Int),.int .i64 (us:Int),.int .i64 (lv:Int)] 200 (0,0)):=by rw[hw5,hsb];exact A4 _
 have hbp5:=(hu5.block _ (A3 hbp4) (by simp)).trans hbp4;have hbr5:=(hu5.block _ (A3 hbr4) (by simp)).trans hbr4;have H5:=η (h4.below hu5);have HU5:=η (((HU1.out.mono (by simp)).trans hu4).trans (hu5.mono (by simp)));have m0:w5.cell? ⟨sb,0,none⟩=some (.int .i64 (st:Int)):=by rw[A2 hb5];rfl
 have m1:w5.cell? ⟨sb,1,none⟩=some (.int .i64 (us:Int)):=by rw[A2 hb5];rfl
 have n1:w5.cell? ⟨pb,1,none⟩=some (.int .i64 (at_:Int)):=by rw[A2 hbp5];rfl
 have n2:w5.cell? ⟨pb,2,none⟩=some (.int .i64 (ln:Int)):=by rw[A2 hbp5];rfl
 have HB5:=η hb5;have HBR5:=η hbr5;have HW5:=η hw5;have HSB:=η hsb;clear p0 h4 hu4 hbp4 hbr4 hw5 hsb hu5 hb5 hbp5 hbr5;go_upto_region 2 with(fail)
 have hw5:=HW5.out;have hsb:=HSB.out;rw[← hw5,← hsb];clear hw5 hsb;go_wp2_with fail
 have t0:((st:Int) == 0)=false:=by rw[beq_eq_false_iff_ne];omega
 have t1:decide ((at_:Int)<0)=false:=decide_eq_false (by omega);have t2:decide ((ln:Int)<46)=false:=decide_eq_false (by omega);have t3:decide ((us:Int)<(ln:Int))=false:=decide_eq_false (by omega);have t3':decide (us<ln)=false:=decide_eq_false (by omega);have t4:decide ((us:Int)-(ln:Int)<(at_:Int))=false:=decide_eq_false (by omega);have t5:IntKind.i64.wrap ((us:Int)-(ln:Int))=(us:Int)-(ln:Int):=by rw[IntKind.wrap_i64];omega
 --REG
 refine Aa5 (wiV pb sb st us at_ ln) [] (by kernel_rfl) (by kernel_rfl) 52 rfl rfl ?_ ?_
 ·intro i o L tmps w' ho hI hL hd;have hi:i<31:=(Array.getElem?_eq_some_iff.1 ho).1;have hw5:=(Upd.refl [] w5).drew.trans hI.upd;have u0:=K8 m0 hw5 (by simp);have u1:=K8 m1 hw5 (by simp);have v1:=K8 n1 hw5 (by simp);have v2:=K8 n2 hw5 (by simp);have t3:tmps[3]?.getD undef=.pointer (some ⟨pb,0,none⟩):=(hI.old 3 (by rfl)).trans rfl;have t6:tmps[6]?.getD undef=.pointer (some ⟨sb,0,none⟩):=(hI.old 6 (by rfl)).trans rfl;obtain rfl | rfl | rfl | rfl | rfl | rfl | rfl | rfl | rfl | rfl | rfl | rfl | rfl | rfl | rfl | rfl | rfl | rfl | rfl | rfl | rfl | rfl | rfl | rfl | rfl | rfl | rfl | rfl | rfl | rfl | rfl:i=0∨i=1∨i=2∨i=3∨i=4∨i=5∨i=6∨i=7∨i=8∨i=9∨i=10∨i=11∨i=12∨i=13∨i=14∨i=15∨i=16∨i=17∨i=18∨i=19∨i=20∨i=21∨i=22∨i=23∨i=24∨i=25∨i=26∨i=27∨i=28∨i=29∨i=30:=by omega
  ·cases ho
   refine wpOp_step rfl (λ K hK=>?_);go_simp;exact hK _ _ (hI.val_step 0 19 (.pointer (some ⟨sb,0,none⟩)) (by decide) (Upd.refl _ _) (by simp[wiV]) (by kernel_rfl))
  ·cases ho
   have t19:tmps[19]?.getD undef=.pointer (some ⟨sb,0,none⟩):=hI.val (0,19,_) (by simp[wiV]) (hd ⟨0,.data⟩ (by simp) rfl);refine wpOp_step rfl (λ K hK=>?_);go_simp;exact hK _ _ (hI.val_step 1 20 (.int .i64 (st:Int)) (by decide) (Upd.refl _ _) (by simp[wiV]) (by kernel_rfl))
  ·cases ho
   have t20:tmps[20]?.getD undef=.int .i64 (st:Int):=hI.val (1,20,_) (by simp[wiV]) (hd ⟨1,.data⟩ (by simp) rfl);refine wpOp_step rfl (λ K hK=>?_);go_simp;exact hK _ _ (hI.val_step 2 21 (.bool false) (by decide) (Upd.refl _ _) (by simp[wiV]) (by kernel_rfl))
  ·cases ho
   have t21:tmps[21]?.getD undef=.bool false:=hI.val (2,21,_) (by simp[wiV]) (hd ⟨2,.data⟩ (by simp) rfl);refine wpOp_step rfl (λ K hK=>?_);go_simp;exact hK _ _ (hI.val_step 3 22 (.bool false) (by decide) (Upd.refl _ _) (by simp[wiV]) (by kernel_rfl))
  ·cases ho
   have t22:tmps[22]?.getD undef=.bool false:=hI.val (3,22,_) (by simp[wiV]) (hd ⟨3,.guard⟩ (by simp) rfl);have tg:=I4 t22;clear t22;refine wpOp_step rfl (λ K hK=>?_);go_simp;exact hK _ _ (hI.val_step 4 23 (.pointer (some ⟨pb,1,none⟩)) (by decide) (Upd.refl _ _) (by simp[wiV]) (by kernel_rfl))
  ·cases ho
   have t23:tmps[23]?.getD undef=.pointer (some ⟨pb,1,none⟩):=hI.val (4,23,_) (by simp[wiV]) (hd ⟨4,.data⟩ (by simp) rfl);have t22:tmps[22]?.getD undef=.bool false:=hI.val (3,22,_) (by simp[wiV]) (hd ⟨3,.guard⟩ (by simp) rfl);have tg:=I4 t22;clear t22;refine wpOp_step rfl (λ K hK=>?_);go_simp;exact hK _ _ (hI.val_step 5 24 (.int .i64 (at_:Int)) (by decide) (Upd.refl _ _) (by simp[wiV]) (by kernel_rfl))
  ·cases ho
   have t24:tmps[24]?.getD undef=.int .i64 (at_:Int):=hI.val (5,24,_) (by simp[wiV]) (hd ⟨5,.data⟩ (by simp) rfl);have t22:tmps[22]?.getD undef=.bool false:=hI.val (3,22,_) (by simp[wiV]) (hd ⟨3,.guard⟩ (by simp) rfl);have tg:=I4 t22;clear t22;refine wpOp_step rfl (λ K hK=>?_);go_simp;exact hK _ _ (hI.val_step 6 25 (.bool false) (by decide) (Upd.refl _ _) (by simp[wiV]) (by kernel_rfl))
  ·cases ho
   have t22:tmps[22]?.getD undef=.bool false:=hI.val (3,22,_) (by simp[wiV]) (hd ⟨3,.data⟩ (by simp) rfl);have t25:tmps[25]?.getD undef=.bool false:=hI.val (6,25,_) (by simp[wiV]) (hd ⟨6,.data⟩ (by simp) rfl);refine wpOp_step rfl (λ K hK=>?_);go_simp;exact hK _ _ (hI.val_step 7 26 (.bool false) (by decide) (Upd.refl _ _) (by simp[wiV]) (by kernel_rfl))
  ·cases ho
   have t26:tmps[26]?.getD undef=.bool false:=hI.val (7,26,_) (by simp[wiV]) (hd ⟨7,.data⟩ (by simp) rfl);refine wpOp_step rfl (λ K hK=>?_);go_simp;exact hK _ _ (hI.val_step 8 27 (.bool false) (by decide) (Upd.refl _ _) (by simp[wiV]) (by kernel_rfl))
  ·cases ho
   have t27:tmps[27]?.getD undef=.bool false:=hI.val (8,27,_) (by simp[wiV]) (hd ⟨8,.guard⟩ (by simp) rfl);have tg:=I4 t27;clear t27;refine wpOp_step rfl (λ K hK=>?_);go_simp;exact hK _ _ (hI.val_step 9 28 (.pointer (some ⟨pb,2,none⟩)) (by decide) (Upd.refl _ _) (by simp[wiV]) (by kernel_rfl))
  ·cases ho
   have t28:tmps[28]?.getD undef=.pointer (some ⟨pb,2,none⟩):=hI.val (9,28,_) (by simp[wiV]) (hd ⟨9,.data⟩ (by simp) rfl);have t27:tmps[27]?.getD undef=.bool false:=hI.val (8,27,_) (by simp[wiV]) (hd ⟨8,.guard⟩ (by simp) rfl);have tg:=I4 t27;clear t27;refine wpOp_step rfl (λ K hK=>?_);go_simp;exact hK _ _ (hI.val_step 10 29 (.int .i64 (ln:Int)) (by decide) (Upd.refl _ _) (by simp[wiV]) (by kernel_rfl))
  ·cases ho
   have t27:tmps[27]?.getD undef=.bool false:=hI.val (8,27,_) (by simp[wiV]) (hd ⟨8,.chain⟩ (by simp) rfl);have tg:=I4 t27;clear t27;refine wpOp_step rfl (λ K hK=>?_);go_simp;go_at_call 221
   refine(Cb2 _).mono ?_;rintro e w2 ⟨rfl,hu⟩;exact hK _ _ (hI.val_step 11 30 (.int .i64 46) (by decide) hu (by simp[wiV]) (by kernel_rfl))
  ·cases ho
   have t29:tmps[29]?.getD undef=.int .i64 (ln:Int):=hI.val (10,29,_) (by simp[wiV]) (hd ⟨10,.data⟩ (by simp) rfl);have t30:tmps[30]?.getD undef=.int .i64 46:=hI.val (11,30,_) (by simp[wiV]) (hd ⟨11,.data⟩ (by simp) rfl);have t27:tmps[27]?.getD undef=.bool false:=hI.val (8,27,_) (by simp[wiV]) (hd ⟨8,.guard⟩ (by simp) rfl);have tg:=I4 t27;clear t27;refine wpOp_step rfl (λ K hK=>?_);go_simp;exact hK _ _ (hI.val_step 12 31 (.bool false) (by decide) (Upd.refl _ _) (by simp[wiV]) (by kernel_rfl))
  ·cases ho
   have t27:tmps[27]?.getD undef=.bool false:=hI.val (8,27,_) (by simp[wiV]) (hd ⟨8,.data⟩ (by simp) rfl);have t31:tmps[31]?.getD undef=.bool false:=hI.val (12,31,_) (by simp[wiV]) (hd ⟨12,.data⟩ (by simp) rfl);refine wpOp_step rfl (λ K hK=>?_);go_simp;exact hK _ _ (hI.val_step 13 32 (.bool false) (by decide) (Upd.refl _ _) (by simp[wiV]) (by kernel_rfl))
  ·cases ho
   have t32:tmps[32]?.getD undef=.bool false:=hI.val (13,32,_) (by simp[wiV]) (hd ⟨13,.data⟩ (by simp) rfl);refine wpOp_step rfl (λ K hK=>?_);go_simp;exact hK _ _ (hI.val_step 14 33 (.bool false) (by decide) (Upd.refl _ _) (by simp[wiV]) (by kernel_rfl))
  ·cases ho
   have t33:tmps[33]?.getD undef=.bool false:=hI.val (14,33,_) (by simp[wiV]) (hd ⟨14,.guard⟩ (by simp) rfl);have tg:=I4 t33;clear t33;refine wpOp_step rfl (λ K hK=>?_);go_simp;exact hK _ _ (hI.val_step 15 34 (.pointer (some ⟨pb,2,none⟩)) (by decide) (Upd.refl _ _) (by simp[wiV]) (by kernel_rfl))
  ·cases ho
   have t34:tmps[34]?.getD undef=.pointer (some ⟨pb,2,none⟩):=hI.val (15,34,_) (by simp[wiV]) (hd ⟨15,.data⟩ (by simp) rfl);have t33:tmps[33]?.getD undef=.bool false:=hI.val (14,33,_) (by simp[wiV]) (hd ⟨14,.guard⟩ (by simp) rfl);have tg:=I4 t33;clear t33;refine wpOp_step rfl (λ K hK=>?_);go_simp;exact hK _ _ (hI.val_step 16 35 (.int .i64 (ln:Int)) (by decide) (Upd.refl _ _) (by simp[wiV]) (by kernel_rfl))
  ·cases ho
   have t33:tmps[33]?.getD undef=.bool false:=hI.val (14,33,_) (by simp[wiV]) (hd ⟨14,.guard⟩ (by simp) rfl);have tg:=I4 t33;clear t33;refine wpOp_step rfl (λ K hK=>?_);go_simp;exact hK _ _ (hI.val_step 17 36 (.pointer (some ⟨sb,1,none⟩)) (by decide) (Upd.refl _ _) (by simp[wiV]) (by kernel_rfl))
  ·cases ho
   have t36:tmps[36]?.getD undef=.pointer (some ⟨sb,1,none⟩):=hI.val (17,36,_) (by simp[wiV]) (hd ⟨17,.data⟩ (by simp) rfl);have t33:tmps[33]?.getD undef=.bool false:=hI.val (14,33,_) (by simp[wiV]) (hd ⟨14,.guard⟩ (by simp) rfl);have tg:=I4 t33;clear t33;refine wpOp_step rfl (λ K hK=>?_);go_simp;exact hK _ _ (hI.val_step 18 37 (.int .i64 (us:Int)) (by decide) (Upd.refl _ _) (by simp[wiV]) (by kernel_rfl))
  ·cases ho
   have t35:tmps[35]?.getD undef=.int .i64 (ln:Int):=hI.val (16,35,_) (by simp[wiV]) (hd ⟨16,.data⟩ (by simp) rfl);have t37:tmps[37]?.getD undef=.int .i64 (us:Int):=hI.val (18,37,_) (by simp[wiV]) (hd ⟨18,.data⟩ (by simp) rfl);have t33:tmps[33]?.getD undef=.bool false:=hI.val (14,33,_) (by simp[wiV]) (hd ⟨14,.guard⟩ (by simp) rfl);have tg:=I4 t33;clear t33;refine wpOp_step rfl (λ K hK=>?_);go_simp;exact hK _ _ (hI.val_step 19 38 (.bool false) (by decide) (Upd.refl _ _) (by simp[wiV]) (by kernel_rfl))
  ·cases ho
   have t33:tmps[33]?.getD undef=.bool false:=hI.val (14,33,_) (by simp[wiV]) (hd ⟨14,.data⟩ (by simp) rfl);have t38:tmps[38]?.getD undef=.bool false:=hI.val (19,38,_) (by simp[wiV]) (hd ⟨19,.data⟩ (by simp) rfl);refine wpOp_step rfl (λ K hK=>?_);go_simp;exact hK _ _ (hI.val_step 20 39 (.bool false) (by decide) (Upd.refl _ _) (by simp[wiV]) (by kernel_rfl))
  ·cases ho
   have t39:tmps[39]?.getD undef=.bool false:=hI.val (20,39,_) (by simp[wiV]) (hd ⟨20,.data⟩ (by simp) rfl);refine wpOp_step rfl (λ K hK=>?_);go_simp;exact hK _ _ (hI.val_step 21 40 (.bool false) (by decide) (Upd.refl _ _) (by simp[wiV]) (by kernel_rfl))
  ·cases ho
   have t40:tmps[40]?.getD undef=.bool false:=hI.val (21,40,_) (by simp[wiV]) (hd ⟨21,.guard⟩ (by simp) rfl);have tg:=I4 t40;clear t40;refine wpOp_step rfl (λ K hK=>?_);go_simp;exact hK _ _ (hI.val_step 22 41 (.pointer (some ⟨pb,1,none⟩)) (by decide) (Upd.refl _ _) (by simp[wiV]) (by kernel_rfl))
  ·cases ho
   have t41:tmps[41]?.getD undef=.pointer (some ⟨pb,1,none⟩):=hI.val (22,41,_) (by simp[wiV]) (hd ⟨22,.data⟩ (by simp) rfl);have t40:tmps[40]?.getD undef=.bool false:=hI.val (21,40,_) (by simp[wiV]) (hd ⟨21,.guard⟩ (by simp) rfl);have tg:=I4 t40;clear t40;refine wpOp_step rfl (λ K hK=>?_);go_simp;exact hK _ _ (hI.val_step 23 42 (.int .i64 (at_:Int)) (by decide) (Upd.refl _ _) (by simp[wiV]) (by kernel_rfl))
  ·cases ho
   have t40:tmps[40]?.getD undef=.bool false:=hI.val (21,40,_) (by simp[wiV]) (hd ⟨21,.guard⟩ (by simp) rfl);have tg:=I4 t40;clear t40;refine wpOp_step rfl (λ K hK=>?_);go_simp;exact hK _ _ (hI.val_step 24 43 (.pointer (some ⟨sb,1,none⟩)) (by decide) (Upd.refl _ _) (by simp[wiV]) (by kernel_rfl))
  ·cases ho
   have t43:tmps[43]?.getD undef=.pointer (some ⟨sb,1,none⟩):=hI.val (24,43,_) (by simp[wiV]) (hd ⟨24,.data⟩ (by simp) rfl);have t40:tmps[40]?.getD undef=.bool false:=hI.val (21,40,_) (by simp[wiV]) (hd ⟨21,.guard⟩ (by simp) rfl);have tg:=I4 t40;clear t40;refine wpOp_step rfl (λ K hK=>?_);go_simp;exact hK _ _ (hI.val_step 25 44 (.int .i64 (us:Int)) (by decide) (Upd.refl _ _) (by simp[wiV]) (by kernel_rfl))
  ·cases ho
   have t40:tmps[40]?.getD undef=.bool false:=hI.val (21,40,_) (by simp[wiV]) (hd ⟨21,.guard⟩ (by simp) rfl);have tg:=I4 t40;clear t40;refine wpOp_step rfl (λ K hK=>?_);go_simp;exact hK _ _ (hI.val_step 26 45 (.pointer (some ⟨pb,2,none⟩)) (by decide) (Upd.refl _ _) (by simp[wiV]) (by kernel_rfl))
  ·cases ho
   have t45:tmps[45]?.getD undef=.pointer (some ⟨pb,2,none⟩):=hI.val (26,45,_) (by simp[wiV]) (hd ⟨26,.data⟩ (by simp) rfl);have t40:tmps[40]?.getD undef=.bool false:=hI.val (21,40,_) (by simp[wiV]) (hd ⟨21,.guard⟩ (by simp) rfl);have tg:=I4 t40;clear t40;refine wpOp_step rfl (λ K hK=>?_);go_simp;exact hK _ _ (hI.val_step 27 46 (.int .i64 (ln:Int)) (by decide) (Upd.refl _ _) (by simp[wiV]) (by kernel_rfl))
  ·cases ho
   have t44:tmps[44]?.getD undef=.int .i64 (us:Int):=hI.val (25,44,_) (by simp[wiV]) (hd ⟨25,.data⟩ (by simp) rfl);have t46:tmps[46]?.getD undef=.int .i64 (ln:Int):=hI.val (27,46,_) (by simp[wiV]) (hd ⟨27,.data⟩ (by simp) rfl);have t40:tmps[40]?.getD undef=.bool false:=hI.val (21,40,_) (by simp[wiV]) (hd ⟨21,.guard⟩ (by simp) rfl);have tg:=I4 t40;clear t40;refine wpOp_step rfl (λ K hK=>?_);go_simp;exact hK _ _ (hI.val_step 28 47 (.int .i64 ((us:Int)-(ln:Int))) (by decide) (Upd.refl _ _) (by simp[wiV]) (by kernel_rfl))
  ·cases ho
   have t42:tmps[42]?.getD undef=.int .i64 (at_:Int):=hI.val (23,42,_) (by simp[wiV]) (hd ⟨23,.data⟩ (by simp) rfl);have t47:tmps[47]?.getD undef=.int .i64 ((us:Int)-(ln:Int)):=hI.val (28,47,_) (by simp[wiV]) (hd ⟨28,.data⟩ (by simp) rfl);have t40:tmps[40]?.getD undef=.bool false:=hI.val (21,40,_) (by simp[wiV]) (hd ⟨21,.guard⟩ (by simp) rfl);have tg:=I4 t40;clear t40;refine wpOp_step rfl (λ K hK=>?_);go_simp;exact hK _ _ (hI.val_step 29 48 (.bool false) (by decide) (Upd.refl _ _) (by simp[wiV]) (by kernel_rfl))
  ·cases ho
   have t40:tmps[40]?.getD undef=.bool false:=hI.val (21,40,_) (by simp[wiV]) (hd ⟨21,.data⟩ (by simp) rfl);have t48:tmps[48]?.getD undef=.bool false:=hI.val (29,48,_) (by simp[wiV]) (hd ⟨29,.data⟩ (by simp) rfl);refine wpOp_step rfl (λ K hK=>?_);go_simp;exact hK _ _ (hI.val_step 30 49 (.bool false) (by decide) (Upd.refl _ _) (by simp[wiV]) (by kernel_rfl))
 ·intro L tmps w4 hI hall;have hat:=hI.fin rfl (λ t ht=>hall _ (by have h9:=List.all_eq_true.1 (show((wiV pb sb st us at_ ln).all λ t=>decide (t.1<31))=true from rfl) t ht;simpa using h9));have hu4:=hI.upd;clear hI hall;simp only[wiV,List.map_cons,List.map_nil,Af6,αs,αz,αc] at hat;rw[hat];clear hat tmps
 --END
  have hb6:=(hu4.block _ (A3 (w:=w5.drew) HB5.out) (by simp)).trans HB5.out;have hbr6:=(hu4.block _ (A3 (w:=w5.drew) HBR5.out) (by simp)).trans HBR5.out;have u0:w4.cell? ⟨sb,0,none⟩=some (.int .i64 (st:Int)):=by rw[A2 hb6];rfl
  have u1:w4.cell? ⟨sb,1,none⟩=some (.int .i64 (us:Int)):=by rw[A2 hb6];rfl
  have u2:w4.cell? ⟨sb,2,none⟩=some (.int .i64 (lv:Int)):=by rw[A2 hb6];rfl
  have r0:w4.cell? ⟨pb+1,0,none⟩=some (.int .i64 0):=by rw[A2 hbr6];rfl
  have r1:w4.cell? ⟨pb+1,1,none⟩=some (.int .i64 0):=by rw[A2 hbr6];rfl
  have r2:w4.cell? ⟨pb+1,2,none⟩=some (.int .i64 0):=by rw[A2 hbr6];rfl
  have f0:=B6 hbr6 0;have f1:=B6 hbr6 1;have f2:=B6 hbr6 2;have H6:=η (H5.out.below ((Upd.refl [] w5).drew.trans hu4));have HU6:=η (HU5.out.trans (((Upd.refl [] w5).drew.trans hu4).mono (by simp)));have HBR6:=η hbr6;clear hb6 hbr6 hu4 m0 m1 n1 n2;go_wp2_with fail
  refine bodyPost_ret (Z3 (p:=4) (u:=5) (by rfl) _ _ (pb+1) (.int .i64 (st:Int)) (.int .i64 (us:Int)) (.int .i64 (lv:Int)) (by rfl) (A8 (A8 (A8 HBR6.out 0 _) 1 _) 2 _)) (by rfl) ?_;have hpb:=HPB.out;have hu7:Upd [pb+1] w4 (((w4.setCell ⟨pb+1,0,none⟩ (.int .i64 (st:Int))).setCell ⟨pb+1,1,none⟩ (.int .i64 (us:Int))).setCell ⟨pb+1,2,none⟩ (.int .i64 (lv:Int))):=(Upd.refl _ _).three _ _ _ (.inl (List.mem_singleton.2 rfl));exact⟨rfl,H6.out.res HLT.out (by omega) HBR6.out (by decide) hu7,HU6.out.late hu7 (λ i hi=> .inr (by simp at hi;omega))⟩
end Go.Proofs.YtgfbepakonjbnaaGreat
end
section
set_option linter.unusedSimpArgs false
set_option linter.unusedVariables false
namespace Go.Proofs.YtgfbepakonjbnaaGreat
open Go.RowKit Go.MapKept Go.ChangeMaps
theorem Cq1{w:World}{g:Sg}{M:Nat->Option Sec}{K:Nat->Option Pk}(h:B7 w g M)(hk:L9 (g.cur M) g.h (g.T M) K)(hh:20<=g.h)(hh2:g.h<=4096)(hc:E1 M g.h+2<=40){n:Nat}{p:Pk}(hp:K n=some p)(at_ ln:Nat)(h46:46<=ln)(hal:at_+ln<=p.data.length)(hlv0:ln<=p.live) :
  Calls Tryz.prog 83 #[.pointer (some ⟨g.x.tb,0,none⟩),plV (n,at_,ln)] w λ e w'=>∃M' K',e=.returned (.int .i64 0)/\B7 w' g M'/\L9 (g.cur M') g.h (g.T M') K'/\Ba3 K (g.T M) n ln K' (g.T M')/\(∀i,i≠1->i≠2->i≠3->M' i=M i)/\E1 M' g.h<=E1 M g.h+2/\Upd g.S w w':=by
 have hlt:=h.lt;have hlow:=hk.low n p hp;have hn64:=hk.lt hp;obtain⟨st,hst⟩:∃st,st=p.start:=⟨_,rfl⟩;obtain⟨us,hus⟩:∃us,us=p.data.length:=⟨_,rfl⟩;obtain⟨lv,hlv⟩:∃lv,lv=p.live:=⟨_,rfl⟩;obtain⟨df,hdf⟩:∃df,df=lv-ln:=⟨_,rfl⟩;obtain⟨pb,hpb⟩:∃pb,pb=w.heap.size:=⟨_,rfl⟩;obtain⟨w1,hw1⟩:∃w1,w1=w.alloc (.cells #[.int .i64 (n:Int),.int .i64 (at_:Int),.int .i64 (ln:Int)] 92):=⟨_,rfl⟩;have hu1:Upd [] w w1:=by rw[hw1];exact(Upd.refl _ _).alloc _
 have hbp:w1.heap[pb]?=some (.cells #[.int .i64 (n:Int),.int .i64 (at_:Int),.int .i64 (ln:Int)] 92 (0,0)):=by rw[hw1,hpb];exact A4 _
 have hwi:=Ay3 (h.below hu1) hk hh hh2 hp at_ ln h46 hal;unfold stV plV at hwi;dsimp only at hwi;rw[← hst,← hus,← hlv] at hwi hlow;rw[← hlv] at hlv0;have HWI:=η hwi;have HK:=η hk;have HP:=η hp;have H:=η h;have HLT:=η hlt;have HU1:=η hu1;have HBP:=η hbp;have HPB:=η hpb;have HW1:=η hw1;have HST:=η hst;have HUS:=η hus;have HLV:=η hlv;have HDF:=η hdf;have p0:w1.cell? ⟨pb,0,none⟩=some (.int .i64 (n:Int)):=by rw[A2 hbp];rfl
 have p1:w1.cell? ⟨pb,1,none⟩=some (.int .i64 (at_:Int)):=by rw[A2 hbp];rfl
 have p2:w1.cell? ⟨pb,2,none⟩=some (.int .i64 (ln:Int)):=by rw[A2 hbp];rfl
 have eDF:(lv:Int)-(ln:Int)=(df:Int):=by omega
 have hdf2:df<=us:=by omega
 clear h hlt hk hp hst hus hlv hpb hw1 hu1 hbp hwi hdf hal;unfold plV;go_enter Tryz.func83,Tryz.ntmps83
 go_upto_region 1 with(fail)
 have hw1:=HW1.out;have hpb:=HPB.out;rw[← hw1,← hpb];clear hw1 hpb;go_wp2_with fail
 refine HWI.out.mono ?_;rintro e w4 ⟨rfl,h4,hu4⟩;have hnS:∀i,pb<=i->i∉g.S:=λ i hi q=>by have:=HLT.out.1 i q;have:=HPB.out;omega
 have hbp4:=(hu4.block _ (A3 HBP.out) (λ q=>hnS _ (Nat.le_refl _) (g.mem _ q))).trans HBP.out;obtain⟨w5,hw5⟩:∃w5,w5=w4.alloc (.cells #[.int .i64 (st:Int),.int .i64 (us:Int),.int .i64 (lv:Int)] 200):=⟨_,rfl⟩;obtain⟨sb,hsb⟩:∃sb,sb=w4.heap.size:=⟨_,rfl⟩;have hu5:Upd [] w4 w5:=by rw[hw5];exact(Upd.refl _ _).alloc _
 have hb5:w5.heap[sb]?=some (.cells #[.int .i64 (st:Int),.int .i64 (us:Int),.int .i64 (lv:Int)] 200 (0,0)):=by rw[hw5,hsb];exact A4 _
 have hbp5:=(hu5.block _ (A3 hbp4) (by simp)).trans hbp4;have hps:pb<sb:=by have:=A3 hbp4;omega
 have h5:=h4.below hu5;obtain⟨w6,hw6⟩:∃w6,w6=w5.setCell ⟨sb,2,none⟩ (.int .i64 (df:Int)):=⟨_,rfl⟩;have hu6:Upd [sb] w5 w6:=by rw[hw6];exact(Upd.refl _ _).set _ (by simp)
 have hb6:w6.heap[sb]?=some (.cells #[.int .i64 (st:Int),.int .i64 (us:Int),.int .i64 (df:Int)] 200 (0,0)):=by rw[hw6];exact A8 hb5 2 _
 have hbp6:=(hu6.block _ (A3 hbp5) (by simp;omega)).trans hbp5;have h6:B7 w6 g M:=h5.res HLT.out (by have:=HPB.out;omega) hb5 (by decide) hu6;have hU6:Upd g.S w w6:=(((HU1.out.mono (by simp)).trans (hu4.mono g.mem)).trans (hu5.mono (by simp))).late hu6 (λ i hi=> .inr (by have:=HPB.out;simp at hi;omega));have m2:w5.cell? ⟨sb,2,none⟩=some (.int .i64 (lv:Int)):=by rw[A2 hb5];rfl
 have q2:w5.cell? ⟨pb,2,none⟩=some (.int .i64 (ln:Int)):=by rw[A2 hbp5];rfl
 have f2:=B6 hb5 2;have n0:w6.cell? ⟨sb,0,none⟩=some (.int .i64 (st:Int)):=by rw[A2 hb6];rfl
 have n1:w6.cell? ⟨sb,1,none⟩=some (.int .i64 (us:Int)):=by rw[A2 hb6];rfl
 have n2:w6.cell? ⟨sb,2,none⟩=some (.int .i64 (df:Int)):=by rw[A2 hb6];rfl
 have k0:w6.cell? ⟨pb,0,none⟩=some (.int .i64 (n:Int)):=by rw[A2 hbp6];rfl
 have t1:decide ((lv:Int)<(ln:Int))=false:=decide_eq_false (by omega);have t1':decide (lv<ln)=false:=decide_eq_false (by omega);have H6:=η h6;have HU6:=η hU6;have HB6:=η hb6;have HBP6:=η hbp6;have HW5:=η hw5;have HW6:=η hw6;have HSB:=η hsb;clear p0 p1 p2 h4 hu4 hbp4 hw5 hsb hu5 hb5 hbp5 h5 hw6 hu6 hb6 hbp6 h6 hU6;go_upto_region 2 with(fail)
 have hw5:=HW5.out;have hsb:=HSB.out;rw[← hw5,← hsb];clear hw5 hsb;go_upto_region 7 with(fail)
 have hw6:=HW6.out;rw[← hw6];clear hw6 m2 q2 f2;by_cases h0:df=0
 ·
  have t2:((df:Int) == 0)=true:=by rw[beq_iff_eq];omega
  have hfr:=Cx3 H6.out (by omega) hh2 (.inr (by omega)) st 16 (by omega) (by omega) (by omega) (by omega) (λ q hq=>by rw[HST.out];exact HK.out.taken n p HP.out q hq);have hl1:=H6.out.cur_len 1;have hT1:∀i,g.T (Al4 M (Ai8 (T6 (g.cur M 1)) st false 16)) i=if st<=i/\i<st+16 then false else g.T M i:=λ i=>Sg.T_turn hl1 false (by omega) (by omega) i;obtain⟨M1,hM1⟩:∃M1,M1=Al4 M (Ai8 (T6 (g.cur M 1)) st false 16):=⟨_,rfl⟩;have hk1:∀i,i≠1->M1 i=M i:=λ i hi=>by rw[hM1];unfold Al4;rw[if_neg hi]
  rw[← hM1] at hfr hT1;have HFR:Hid (Calls Tryz.prog 129 #[.pointer (some ⟨g.x.tb,0,none⟩),.int .i64 (st:Int),.int .i64 16] w6 λ e w'=>e=.returned (.int .i64 0)/\B7 w' g M1/\Upd g.S w6 w'):=η hfr;have HT1:=η hT1;have HK1:=η hk1;clear hfr hT1 hk1 hM1 hl1;go_wp2_with fail
  refine HFR.out.mono ?_;rintro e w7 ⟨rfl,h7,hu7⟩;have hb7:=(hu7.block _ (A3 HB6.out) (hnS _ (by omega))).trans HB6.out;have hbp7:=(hu7.block _ (A3 HBP6.out) (hnS _ (Nat.le_refl _))).trans HBP6.out;obtain⟨w8,hw8⟩:∃w8,w8=((w7.setCell ⟨sb,0,none⟩ (.int .i64 0)).setCell ⟨sb,1,none⟩ (.int .i64 0)).setCell ⟨sb,2,none⟩ (.int .i64 0):=⟨_,rfl⟩;have hu8:Upd [sb] w7 w8:=by rw[hw8];exact(Upd.refl _ _).three _ _ _ (.inl (List.mem_singleton.2 rfl))
  have hb8:w8.heap[sb]?=some (.cells #[.int .i64 0,.int .i64 0,.int .i64 0] 200 (0,0)):=by rw[hw8];exact A8 (A8 (A8 hb7 0 _) 1 _) 2 _
  have hbp8:=(hu8.block _ (A3 hbp7) (by simp;omega)).trans hbp7;have h8:B7 w8 g M1:=h7.res HLT.out (by have:=HPB.out;omega) hb7 (by decide) hu8;have hc1:E1 M1 g.h<=E1 M g.h+1:=by
   have ht:Ag7 M M1 [1]:=λ i hi=>by
    by_cases e:i=1
    ·right;simp[e]
    ·rw[HK1.out i e] at hi;exact .inl hi
   exact ht.cnt H.out.ok h8.ok
  have hnt:=Ap8 h8 (by omega) 0 0 0 n (by omega) (by omega) (by omega) hn64 (.inr (by omega));unfold stV at hnt;have HNT:Hid (Calls Tryz.prog 170 #[.agg #[.int .i64 0,.int .i64 0,.int .i64 0],.pointer (some ⟨g.x.tb,0,none⟩),.int .i64 (n:Int)] w8 λ e w'=>e=.returned (.int .i64 0)/\B7 w' g (wr1 M1 (2+n / 32) (Ad7 (g.cur M1 (2+n / 32)) (16*(n % 32)) 0 0 0))/\Upd g.S w8 w'):=η hnt;have a0:w7.cell? ⟨sb,0,none⟩=some (.int .i64 (st:Int)):=by rw[A2 hb7];rfl
  have a1:w7.cell? ⟨sb,1,none⟩=some (.int .i64 (us:Int)):=by rw[A2 hb7];rfl
  have a2:w7.cell? ⟨sb,2,none⟩=some (.int .i64 (df:Int)):=by rw[A2 hb7];rfl
  have g0:=B6 hb7 0;have g1:=B6 hb7 1;have g2:=B6 hb7 2;have HU8:=η ((HU6.out.trans hu7).late hu8 (λ i hi=> .inr (by have:=HPB.out;simp at hi;omega)));have HB8:=η hb8;have HBP8:=η hbp8;have H8:=η h8;have HW8:=η hw8;clear n0 n1 n2 k0 h7 hu7 hb7 hbp7 hw8 hu8 hb8 hbp8 h8 hnt;go_upto_region 12 with(fail)
  have hw8:=HW8.out;rw[← hw8];clear hw8 a0 a1 a2 g0 g1 g2;have a0:w8.cell? ⟨sb,0,none⟩=some (.int .i64 0):=by rw[A2 HB8.out];rfl
  have a1:w8.cell? ⟨sb,1,none⟩=some (.int .i64 0):=by rw[A2 HB8.out];rfl
  have a2:w8.cell? ⟨sb,2,none⟩=some (.int .i64 0):=by rw[A2 HB8.out];rfl
  have b0:w8.cell? ⟨pb,0,none⟩=some (.int .i64 (n:Int)):=by rw[A2 HBP8.out];rfl
  go_wp2_with fail
  refine HNT.out.mono ?_;rintro e w9 ⟨rfl,h9,hu9⟩;have H9:=η h9;have HU9:=η (HU8.out.trans hu9);clear h9 hu9;go_wp2_with fail
  go_ret;have hst:=HST.out;have hT2:g.T (wr1 M1 (2+n / 32) (Ad7 (g.cur M1 (2+n / 32)) (16*(n % 32)) 0 0 0))=g.T M1:=Cp9 g M1 _ (by omega);have hc23:g.cur M1 (2+n / 32)=g.cur M (2+n / 32):=G9 g (HK1.out _ (by omega));refine⟨wr1 M1 (2+n / 32) (Ad7 (g.cur M1 (2+n / 32)) (16*(n % 32)) 0 0 0),Ab6 K n Option.none,rfl,H9.out,?_,⟨p,HP.out,by rw[← HLV.out];exact hlv0,.inl ⟨by have:=HDF.out;have:=HLV.out;omega,rfl,λ i=>by rw[hT2,HT1.out i,hst]⟩⟩,λ i i1 i2 i3=>by rw[Ak9 (by omega)];exact HK1.out i i1,?_,HU9.out⟩
  ·refine HK.out.noteNo hn64 (λ i=>H9.out.cur_len i) (by rw[Y5,if_pos rfl,hc23]) (λ i i1 i2=>by rw[Y5,if_neg i2];exact G9 g (HK1.out i (by omega))) (λ m q hq hm i hi=>?_);rw[hT2,HT1.out];have hap:=HK.out.apart m q n p hq HP.out hm;rw[if_neg (by rw[hst];omega)];exact HK.out.taken m q hq i hi
  ·have ht:Ag7 M (wr1 M1 (2+n / 32) (Ad7 (g.cur M1 (2+n / 32)) (16*(n % 32)) 0 0 0)) [1,2+n / 32]:=λ i hi=>by
    by_cases e:i=2+n / 32
    ·right;simp[e]
    ·rw[Ak9 e] at hi;by_cases e2:i=1
     ·right;simp[e2]
     ·rw[HK1.out i e2] at hi;exact .inl hi
   exact ht.cnt H.out.ok H9.out.ok
 ·
  have t2:((df:Int) == 0)=false:=by rw[beq_eq_false_iff_ne];omega
  have hnt:=Ap8 H6.out (by omega) st us df n (by omega) (by omega) (by omega) hn64 (.inr (by omega));unfold stV at hnt;have HNT:=η hnt;clear hnt;go_wp2_with fail
  refine HNT.out.mono ?_;rintro e w7 ⟨rfl,h7,hu7⟩;have H7:=η h7;have HU7:=η (HU6.out.trans hu7);clear h7 hu7;go_wp2_with fail
  go_ret;have hst:=HST.out;have hT2:g.T (wr1 M (2+n / 32) (Ad7 (g.cur M (2+n / 32)) (16*(n % 32)) st us df))=g.T M:=Cp9 g M _ (by omega);refine⟨wr1 M (2+n / 32) (Ad7 (g.cur M (2+n / 32)) (16*(n % 32)) st us df),Ab6 K n (some ⟨p.start,p.data,p.live-ln⟩),rfl,H7.out,?_,⟨p,HP.out,by rw[← HLV.out];exact hlv0,.inr ⟨by have:=HDF.out;have:=HLV.out;omega,rfl,hT2⟩⟩,λ i i1 i2 i3=>Ak9 (by omega),?_,HU7.out⟩
  ·rw[hT2];refine HK.out.note (p':=⟨p.start,p.data,p.live-ln⟩) hh2 (HK.out.ext HP.out) rfl (λ i=>H7.out.cur_len i) ⟨by show p.data.length<=8192;rw[← HUS.out];omega,by show p.live-ln<=p.data.length;rw[← HUS.out,← HLV.out,← HDF.out];exact hdf2⟩ ?_ ?_ (λ i i1 i2=>by rw[Y5,if_neg i1])
   ·show PkD _ p.start p.data
    exact(HK.out.data n p HP.out).congr (by rw[← HUS.out];omega) (λ i i1 i2=>by rw[Y5,if_neg (by omega)])
   ·rw[Y5,if_pos rfl];show Ad7 _ _ st us df=Ad7 _ _ p.start p.data.length (p.live-ln)
    rw[← HUS.out,← HLV.out,← HDF.out,hst]
  ·have ht:Ag7 M (wr1 M (2+n / 32) (Ad7 (g.cur M (2+n / 32)) (16*(n % 32)) st us df)) [2+n / 32]:=λ i hi=>by
    by_cases e:i=2+n / 32
    ·right;simp[e]
    ·rw[Ak9 e] at hi;exact .inl hi
   have:=ht.cnt H.out.ok H7.out.ok;rw[List.length_singleton] at this;omega
end Go.Proofs.YtgfbepakonjbnaaGreat
end
end
section
namespace Go.Proofs.YtgfbepakonjbnaaGreat
open Go.ChangeShapes Go.WideShapes Go.ChangeAt Go.RowKit
section
theorem own:ownKnob Tryz.prog.godebug=none:=by kernel_rfl
theorem Cw5:laidOutB Tryz.prog=true:=by kernel_rfl
section
variable {H:Type} {enc:TypeId × Value->H}
theorem Ao0{W W':World}(hb:Below W.heap.size W W')(sp:Nat->Bool):∀(ts:List TypeId) (vs:List Value) (ds:List (DataW H)) (ps:List MemPlace),DataW.TrodAll enc Tryz.prog W 0 (λ _=>true) true ts vs ds ps->
  (∀t∈ts,Tryz.prog.readableRec t=true/\t<Tryz.prog.types.size)->(∀x∈ps,x.block<W.heap.size)->(∀x∈ps,sp x.block=true)->DataW.TrodAll enc Tryz.prog W' 0 sp true ts vs ds ps
 | [],[],[],ps,h,_,_,_=>h
 | [],[],_ :: _,_,h,_,_,_=>h.elim
 | [],_ :: _,_,_,h,_,_,_=>h.elim
 | _ :: _,[],_,_,h,_,_,_=>h.elim
 | _ :: _,_ :: _,[],_,h,_,_,_=>h.elim
 | t :: ts,v :: vs,d :: ds,ps,h,ht,hlt,hsp=>by
  obtain⟨p,q,h1,h2,rfl⟩:=h;refine⟨p,q,?_,Ao0 hb sp ts vs ds q h2 (λ t q=>ht t (by simp[q])) (λ x q=>hlt x (by simp[q])) (λ x q=>hsp x (by simp[q])),rfl⟩;obtain⟨r1,r2⟩:=ht t (by simp);exact WideElems.Trod_stays Cw5 r1 r2 h1 (λ x hx=>hb.same (hlt x (by simp[hx]))) (λ x hx=>hsp x (by simp[hx]))
theorem Cp3{f:Func}{s:ChangeSpec}{W W':World}{args:Array Value}{ds gs:List (DataW H)}{before:List MemPlace}(hW:DataW.Whole enc Tryz.prog f.params.toList s.vars false W args.toList ds gs before)
  (hvars:s.vars=[]) (hrt:f.resultTypes=#[4]) (hfn:s.fn H (ds++gs) = { results:=[.lit (.bool true)],args:=ds }) (hpar:∀t∈f.params.toList,Tryz.prog.readableRec t=true/\t<Tryz.prog.types.size) (hb:Below W.heap.size W W') :
  s.post enc Tryz.prog f false true false false W args (.bool true) W':=by
 have hlt:∀x∈before,x.block<W.heap.size:=λ x hx=>by simpa using hW.lt x hx
 have hW2:=hW;obtain⟨p,q,hA,hV,rfl,_,_⟩:=hW2;rw[hvars] at hV;obtain⟨rfl,rfl⟩:=trodVars_none hV;refine⟨ds,[],p ++ [],[],p,[],hW,?_,?_,?_,hb.frame _,λ h=>by simp at h⟩
 ·rw[hfn,hrt];exact trodAll_cons_mk (shut_bool Tryz.underlying4 _) trodAll_mk0
 ·rw[hfn];exact Ao0 hb _ _ _ _ _ hA hpar (λ x hx=>hlt x (by simp[hx])) (λ x hx=>by simpa using hlt x (by simp[hx]))
 ·rw[hfn,hvars];rfl
end
end
end Go.Proofs.YtgfbepakonjbnaaGreat
end
