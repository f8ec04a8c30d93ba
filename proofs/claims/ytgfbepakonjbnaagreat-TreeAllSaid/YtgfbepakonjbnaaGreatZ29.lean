/-
  TreeAll: a transaction, the tree of now and the tree of the last commit; each call on them.
-/
import Derived.Test.YtgfbepakonjbnaaGreatZ28
set_option maxRecDepth 100000
set_option maxHeartbeats 16000000
section
set_option linter.unusedSimpArgs false
set_option linter.unusedVariables false
namespace Go.Proofs.YtgfbepakonjbnaaGreat
open Go.RowKit Go.MapKept Go.ChangeMaps
section
structure R7(w0:World)(j:JG)(B:Int)(g:Sg)(M:Nat->Option Sec)(r:Nat)(L:List B0)(S:List Nat)(r0:Nat)(L0:List B0)(S0:List Nat)(w:World):Prop where
 tx:TxG w0 j 500 60 B g
 sp:B7 w g M
 tree:N0 (g.cur M) g.h r L S
 old:N0 g.H g.h r0 L0 S0
 jl:∀k,k∈j.all->w0.heap.size<=k
 u:Upd [] w0 w
section
variable {w0 w w':World} {j:JG} {B:Int} {g:Sg} {M M':Nat->Option Sec} {r r' r0:Nat} {L L' L0:List B0} {S S' S0:List Nat}
theorem R7.below(h:R7 w0 j B g M r L S r0 L0 S0 w)(hu:Upd [] w w'):R7 w0 j B g M r L S r0 L0 S0 w':=⟨h.tx,h.sp.below hu,h.tree,h.old,h.jl,h.u.trans hu⟩
theorem R7.late(h:R7 w0 j B g M r L S r0 L0 S0 w):∀k,k∈g.x.tb :: g.S->w0.heap.size<=k:=by
 intro k hk;rcases List.mem_cons.1 hk with rfl | q
 ·exact h.tx.tb
 ·rcases h.tx.S k q with x | x
  ·exact h.jl k x
  ·exact x
theorem R7.next(h:R7 w0 j B g M r L S r0 L0 S0 w){T:List Nat}(hu:Upd T w w')(hT:∀k,k∈T->k∈g.x.tb :: g.S)(hs:B7 w' g M')(ht:N0 (g.cur M') g.h r' L' S'):R7 w0 j B g M' r' L' S' r0 L0 S0 w'/\K8 w w':=
 ⟨⟨h.tx,hs,ht,h.old,h.jl,U5 h.u hu (λ k hk=>h.late k (hT k hk))⟩,h.sp.keep9 hu hT⟩
theorem R7.hh(h:R7 w0 j B g M r L S r0 L0 S0 w):g.h=438:=h.tx.h
theorem R7.le{B':Int}(h:R7 w0 j B g M r L S r0 L0 S0 w)(hB:B<=B'):R7 w0 j B' g M r L S r0 L0 S0 w:=
 ⟨⟨h.tx.j,h.tx.n,h.tx.ring,h.tx.turn,by have:=h.tx.t;omega,by have:=h.tx.m;omega,h.tx.tb,h.tx.wb⟩,h.sp,h.tree,h.old,h.jl,h.u⟩
theorem Ci7(M:Nat->Option Sec):c1M M<=1:=by unfold c1M;split<;>omega
theorem Cb8(g:Sg):∀k,k∈[g.j.jb]->k∈g.x.tb :: g.S:=λ k hk=>List.mem_cons_of_mem _ (g.mem k hk)
theorem Cr7{J:Jn}{D:Dk}{n ring:Nat}{t m:Int}{H:Nat->Sec}(h:V4 w j J D n ring t m H)(hu:Upd j.all w w'):K8 w w':=by
 refine⟨λ b o c e=>?_,λ b c fr e=>(hu.block _ (A2 e) λ q=>h.at_.kind e (by decide) (by decide) (by decide) q).trans e⟩;obtain⟨cs,T,fr,e2⟩:=Ak1 e;exact(World.cell?_of_block (hu.block _ (A2 e2) λ q=>h.at_.cellB e q)).trans e
theorem Ci8(h:R7 w0 j B g M r L S r0 L0 S0 w) :
  Calls Tryz.prog 35 #[.pointer (some ⟨g.x.tb,0,none⟩)] w λ e w'=>e=.returned (.int .i64 (F2 M g.h:Int))/\R7 w0 j B g M r L S r0 L0 S0 w'/\K8 w w'/\Upd [] w w':=by
 refine(Bg7 h.sp.tx h.sp.ok).mono ?_;rintro e w1 ⟨rfl,n,rfl⟩;have hu:Upd [] w (w.drewN n):=(Upd.refl _ _).drewN _;exact⟨rfl,h.below hu,K8.below hu,hu⟩
theorem Bx2(h:R7 w0 j B g M r L S r0 L0 S0 w)(hB:B<900000)(hc:F2 M g.h<=40) :
  Calls Tryz.prog 21 #[.pointer (some ⟨g.x.tb,0,none⟩)] w λ e w'=>e=.returned (.int .i64 0)/\Ca4 w' j 500 60 r L S (B+1)/\K8 w w'/\Upd [] w0 w':=by
 refine(Ca5 h.tx h.sp h.tree (by omega) hB hc (by omega)).mono ?_;rintro e w1 ⟨rfl,hg,hu⟩;have hS:∀k,k∈g.x.tb :: j.all->k∈g.x.tb :: g.S:=by
  intro k hk;rcases List.mem_cons.1 hk with rfl | q
  ·simp
  ·rw[← h.tx.j] at q;simp[Sg.S,q]
 exact⟨rfl,hg,h.sp.keep9 hu hS,U5 h.u hu (λ k hk=>h.late k (hS k hk))⟩
theorem Cm9(h:R7 w0 j B g M r L S r0 L0 S0 w) :
  Calls Tryz.prog 33 #[.pointer (some ⟨g.x.tb,0,none⟩)] w λ e w'=>e=.returned (.tuple #[])/\Ca4 w' j 500 60 r0 L0 S0 B/\K8 w w'/\Upd [] w0 w':=by
 refine(Cj0 h.tx h.sp h.old).mono ?_;rintro e w1 ⟨rfl,hg,hu⟩;have hS:∀k,k∈[g.x.tb]->k∈g.x.tb :: g.S:=by intro k hk;simp at hk;simp[hk]
 exact⟨rfl,hg,h.sp.keep9 hu hS,U5 h.u hu (λ k hk=>h.late k (hS k hk))⟩
theorem Bu1(hg:Ca4 w j 500 60 r L S B)(hu0:Upd [] w0 w)(jl:∀k,k∈j.all->w0.heap.size<=k) :
  Calls Tryz.prog 18 #[.pointer (some ⟨j.jb,0,none⟩)] w λ e w'=>∃g:Sg,e=.returned (.tuple #[.pointer (some ⟨g.x.tb,0,none⟩),.int .i64 0])/\R7 w0 j B g (λ _=>none) r L S r L S w'/\K8 w w':=by
 obtain⟨J,D,t,m,H,h1,h2,h3,h4,h5⟩:=id hg;refine(Ch4 hg).mono ?_;rintro e w1 ⟨g,rfl,hx,hs,ht,hu⟩;have hsz:=hu0.size;exact⟨g,rfl,⟨⟨hx.j,hx.n,hx.ring,hx.turn,hx.t,hx.m,by have:=hx.tb;omega,by have:=hx.wb;omega⟩,hs,ht,ht,jl,U5 hu0 hu jl⟩,Cr7 h1 hu⟩
theorem Ct0(h:R7 w0 j B g M r L S r0 L0 S0 w)(hL:L.length<=200)(hc:F2 M g.h<=26)(key v:Bs)(hkey:key.length=32)(hv:v.length=16) :
  Calls Tryz.prog 58 #[.pointer (some ⟨g.x.tb,0,none⟩),.int .u32 (r:Int),.agg (bts key).toArray,.agg (bts v).toArray] w λ e w'=>∃M' r' S',e=.returned (.tuple #[.int .u32 ((r':Nat):Int),.int .i64 0])/\R7 w0 j B g M' r' (J8 L key v) S' r0 L0 S0 w'/\F2 M' g.h<=F2 M g.h+8/\K8 w w':=by
 have hh:=h.hh;have hc1:=Ci7 M;have hsz:=h.tree.at_.size;have hlf:=h.tree.left;refine(Bw8 h.sp (by omega) (by omega) h.tree (by omega) key v hkey hv (by omega) (by omega)).mono ?_;rintro e w1 ⟨M',r',rfl,hp,hs,hu⟩;obtain⟨S',ht,hG⟩:=h.tree.put hp;have hcn:=hG.cnt;obtain⟨a1,a2⟩:=h.next hu (λ k hk=>List.mem_cons_of_mem _ hk) hs ht;exact⟨M',r',S',rfl,a1,by omega,a2⟩
theorem Cr8(h:R7 w0 j B g M r L S r0 L0 S0 w)(hL:L.length<=200)(hc:F2 M g.h<=26)(key:Bs)(hkey:key.length=32) :
  Calls Tryz.prog 56 #[.pointer (some ⟨g.x.tb,0,none⟩),.int .u32 (r:Int),.agg (bts key).toArray] w λ e w'=>
   (G9 L key=none/\e=.returned (.tuple #[.int .u32 0,.int .i64 5])/\R7 w0 j B g M r L S r0 L0 S0 w'/\K8 w w')∨
   (G9 L key≠none/\∃M' r' S',e=.returned (.tuple #[.int .u32 ((r':Nat):Int),.int .i64 0])/\R7 w0 j B g M' r' (N7 L key) S' r0 L0 S0 w'/\F2 M' g.h<=F2 M g.h+9/\K8 w w'):=by
 have hh:=h.hh;have hc1:=Ci7 M;refine(Ci4 h.sp (by omega) (by omega) h.tree.at_ h.tree.held (by omega) key hkey (by omega)).mono ?_;rintro e w1 (⟨h1,rfl,h2,h3⟩ | ⟨h1,M',r',rfl,hp,hs,hu⟩)
 ·obtain⟨a1,a2⟩:=h.next h3 (λ k hk=>List.mem_cons_of_mem _ hk) h2 h.tree;exact .inl ⟨h1,rfl,a1,a2⟩
 ·obtain⟨S',ht,hG⟩:=h.tree.drop hp;have hcn:=hG.cnt;obtain⟨a1,a2⟩:=h.next hu (λ k hk=>List.mem_cons_of_mem _ hk) hs ht;exact .inr ⟨h1,M',r',S',rfl,a1,by omega,a2⟩
theorem Bu2(h:R7 w0 j B g M r L S r0 L0 S0 w)(hL:L.length<=200) :
  Calls Tryz.prog 66 #[.pointer (some ⟨g.x.tb,0,none⟩),.int .u32 (r:Int)] w λ e w'=>e=.returned (.tuple #[.int .i64 (L.length:Int),.int .i64 0])/\R7 w0 j B g M r L S r0 L0 S0 w'/\K8 w w':=by
 have hh:=h.hh;refine(Cb0 h.sp (by omega) (by omega) h.tree (by omega)).mono ?_;rintro e w1 ⟨rfl,hs,hu⟩;obtain⟨a1,a2⟩:=h.next hu (Cb8 g) hs h.tree;exact⟨rfl,a1,a2⟩
end
attribute [-go_sem] loadCells storeCells Instr.build Instr.buildSlice
section
set_option maxRecDepth 100000
set_option maxHeartbeats 4000000
theorem Cb9{w:World}{g:Sg}{M:Nat->Option Sec}(h:B7 w g M)(hh:1<g.h)(key:Bs)(hkey:key.length=32) :
  Calls Tryz.prog 61 #[.pointer (some ⟨g.x.tb,0,none⟩),.int .u32 0,.agg (bts key).toArray] w λ e w'=>e=.returned (Bz6 none)/\B7 w' g M/\Upd [g.j.jb] w w':=by
 have hb:((g.h:Int) == 0)=false:=by rw[beq_eq_false_iff_ne];omega
 obtain⟨wA,hwA⟩:∃wA,wA=(w.alloc (.cells (bts key).toArray 35)).alloc (.cells (bts z16).toArray 115):=⟨_,rfl⟩;have huA:Upd [] w wA:=by rw[hwA];exact((Upd.refl _ _).alloc _).alloc _
 obtain⟨b6,hb6⟩:∃x,x=w.heap.size+1:=⟨_,rfl⟩;obtain⟨_,k6⟩:=Aa0 w (bts key).toArray (bts z16).toArray 35 115;rw[← hwA,← hb6] at k6;have z16a:(#[.int .u8 0,.int .u8 0,.int .u8 0,.int .u8 0,.int .u8 0,.int .u8 0,.int .u8 0,.int .u8 0,.int .u8 0,.int .u8 0,.int .u8 0,.int .u8 0,.int .u8 0,.int .u8 0,.int .u8 0,.int .u8 0]:Array Value)=(bts z16).toArray:=rfl;have HZ:=η z16a;have HO:=η (T3 (h.below huA));have HA:=η (h.below huA);have HH0:=η h;have HUA:=η huA;have HW:=η hwA;have HB6:=η hb6;have HK6:=η k6;clear h huA hwA hb6 k6 z16a;have bz:∀w,(Instr.build 115 #[]).run Tryz.prog w=.ok (.agg (bts z16).toArray) w:=λ w=>run_build w _ _ _ (by kernel_rfl);unfold Bz6;go_enter Tryz.func61,Tryz.ntmps61
 go_wp2_with fail
 rw[HZ.out,← HW.out,← HB6.out];refine HO.out.mono ?_;rintro e w1 ⟨rfl,n1,hn1⟩;have hu1:Upd [] wA w1:=by rw[hn1];exact(Upd.refl _ _).drewN _
 have h6:=(hu1.block _ (A2 HK6.out) (by simp)).trans HK6.out;have H61:=η h6;have HU1:=η hu1;have st:=C7 h6 (l:=bts z16) rfl (G7 _);clear hn1 hu1 h6;go_wp2_with fail
 refine bodyPost_ret (C5 (p:=6) (u:=7) (ty:=115) (by rfl) _ _ b6 _ (by rfl) (run_loadVar_row _ b6 _ _ _ _ _ (setRow_heap _ _ _ _ _ _ H61.out) Tryz.underlying115 rfl (Af7 (l:=z16) rfl))) (by rfl) ?_;exact⟨rfl,Bh9 HH0.out (HA.out.below HU1.out) ((HUA.out.trans HU1.out).mono (by simp)) (by have:=HB6.out;omega) _⟩
theorem Bj1{w:World}{g:Sg}{M:Nat->Option Sec}(h:B7 w g M)(hh1:1<g.h){r:Nat}(hr:r≠0){from_:Bs}(most:Int)(hm:most<1) :
  Calls Tryz.prog 63 #[.pointer (some ⟨g.x.tb,0,none⟩),.int .u32 (r:Int),arr from_,.int .i64 most] w λ e w'=>e=.returned (.tuple #[.slice none 0 0,.int .i64 0])/\B7 w' g M/\Upd [] w w':=by
 have hb:((g.h:Int) == 0)=false:=by rw[beq_eq_false_iff_ne];omega
 have hb2:((r:Int) == 0)=false:=by rw[beq_eq_false_iff_ne];omega
 have hmb:decide (most<1)=true:=decide_eq_true hm;obtain⟨wA,hwA⟩:∃wA,wA=(w.alloc (.cells (bts from_).toArray 35)).alloc (.cells #[.int .i64 most] 3):=⟨_,rfl⟩;have huA:Upd [] w wA:=by rw[hwA];exact((Upd.refl _ _).alloc _).alloc _
 obtain⟨b2,hb2'⟩:∃b,b=w.heap.size+1:=⟨_,rfl⟩;obtain⟨_,h2⟩:=Aa0 w (bts from_).toArray #[.int .i64 most] 35 3;rw[← hwA,← hb2'] at h2;have H2:=η h2;have HB:=η hb2';have HO:=η (T3 (h.below huA));have HH:=η (h.below huA);have HUA:=η huA;have HW:=η hwA;clear h huA hwA h2 hb2';unfold arr;go_enter Tryz.func63,Tryz.ntmps63
 go_wp2_with fail
 rw[← HW.out,← HB.out];refine HO.out.mono ?_;rintro e w1 ⟨rfl,n1,hn1⟩;have HU1:Hid (Upd [] wA w1):=by show Upd _ _ _;rw[hn1];exact(Upd.refl _ _).drewN _
 have mm:=A4 ((HU1.out.block _ (A2 H2.out) (by simp)).trans H2.out) 0;clear hn1;go_wp2_with fail
 go_ret2;exact⟨rfl,HH.out.below HU1.out,HUA.out.trans HU1.out⟩
theorem Ci9{w:World}{g:Sg}{M:Nat->Option Sec}(h:B7 w g M)(hh1:1<g.h) :
  Calls Tryz.prog 67 #[.pointer (some ⟨g.x.tb,0,none⟩),.int .u32 ((0:Nat):Int)] w λ e w'=>e=.returned (.tuple #[.int .i64 ((0:Nat):Int),.int .i64 0])/\B7 w' g M/\Upd [g.j.jb] w w':=by
 have hb:((g.h:Int) == 0)=false:=by rw[beq_eq_false_iff_ne];omega
 show Calls _ _ #[_,.int .u32 0] _ λ e w'=>e=.returned (.tuple #[.int .i64 0,.int .i64 0])/\_
 have HO:=η (T3 h);have HH:=η h;clear h;go_enter Tryz.func67,Tryz.ntmps67
 go_wp2_with fail
 refine HO.out.mono ?_;rintro e w1 ⟨rfl,n1,hn1⟩;have HU1:Hid (Upd [] w w1):=by show Upd _ _ _;rw[hn1];exact(Upd.refl _ _).drewN _
 clear hn1;go_wp2_with fail
 go_ret2;exact⟨rfl,HH.out.below HU1.out,HU1.out.mono (by simp)⟩
theorem Bu3{w:World}{g:Sg}{M:Nat->Option Sec}(h:B7 w g M) :
  Calls Tryz.prog 57 #[.pointer (some ⟨g.x.tb,0,none⟩),.int .u32 ((0:Nat):Int)] w λ e w'=>e=.returned (.tuple #[.slice none 0 0,.int .i64 ((0:Nat):Int),.bool true])/\B7 w' g M/\Upd [] w w':=by
 show Calls _ _ #[_,.int .u32 0] _ λ e w'=>e=.returned (.tuple #[.slice none 0 0,.int .i64 0,.bool true])/\_
 have H:=η h;clear h;go_enter Tryz.func57,Tryz.ntmps57
 go_wp2_with fail
 refine bodyPost_ret (results_tmp3 (t:=4) (u:=5) (v:=6) (by rfl) _ _ _) (by rfl) ?_;exact⟨rfl,H.out,Upd.refl _ _⟩
theorem Bu4{w:World}{g:Sg}{M:Nat->Option Sec}(h:B7 w g M)(h1:1<g.h)(h2:g.h<=4096){r:Nat}(hr:r≠0){d:Nat}{l:List B0}{S:List Nat}(hs:E3 (g.cur M) true d r l S)(hh:K7 g M S)(hl:l.length<490) :
  Calls Tryz.prog 57 #[.pointer (some ⟨g.x.tb,0,none⟩),.int .u32 (r:Int)] w λ e w'=>∃a c',e=.returned (.tuple #[.slice a l.length c',.int .i64 ((d+1:Nat):Int),.bool true])/\E8 w' w.heap.size (.slice a l.length c') l/\B7 w' g M/\Upd g.S w w':=by
 have hd2:=hs.flat hl;have hB:=Bb6 d h h1 h2 true false false r hs (λ s q=>⟨hh.low s q,hh.T s q⟩) (List.replicate 32 0) (List.replicate 32 0) (by simp) (by simp) (by simp) (by simp) 9 ⟨by omega,by omega⟩ hl;unfold arr at hB;have HB:=η hB;have bi:∀w,(Instr.build 35 #[]).run Tryz.prog w=.ok (.agg (bts (List.replicate 32 0)).toArray) w:=λ w=>run_build w _ _ _ (by kernel_rfl);have hr4:=hs.mem.2;have d1:((r:Int) == 0)=false:=by rw[beq_eq_false_iff_ne];omega
 obtain⟨hw1,hw2⟩:=Aj9 hr4;clear hB hs hh hl h hr;go_enter Tryz.func57,Tryz.ntmps57
 go_wp2_with fail
 refine HB.out.mono ?_;rintro e w1 ⟨a,c,rfl,hP,hs1,hu1⟩;have HP:=η hP;have HS:=η hs1;have HU:=η hu1;clear hP hs1 hu1;go_wp2_with fail
 refine bodyPost_ret (results_tmp3 (t:=4) (u:=5) (v:=6) (by rfl) _ _ _) (by rfl) ?_;exact⟨a,c,rfl,HP.out,HS.out,HU.out⟩
end
section
variable {w0 w w':World} {j:JG} {B:Int} {g:Sg} {M M':Nat->Option Sec} {r r' r0:Nat} {L L' L0:List B0} {S S' S0:List Nat}
theorem Ct1(h:R7 w0 j B g M r L S r0 L0 S0 w)(hL:L.length<=200)(key:Bs)(hkey:key.length=32) :
  Calls Tryz.prog 61 #[.pointer (some ⟨g.x.tb,0,none⟩),.int .u32 (r:Int),.agg (bts key).toArray] w λ e w'=>e=.returned (Bz6 (G9 L key))/\R7 w0 j B g M r L S r0 L0 S0 w'/\K8 w w':=by
 have hh:=h.hh;rcases h.tree.at_ with⟨rfl,rfl,rfl⟩ | ⟨hr,d,hs⟩
 ·refine(Cb9 h.sp (by omega) key hkey).mono ?_;rintro e w1 ⟨rfl,hs,hu⟩;obtain⟨a1,a2⟩:=h.next hu (Cb8 g) hs h.tree;exact⟨rfl,a1,a2⟩
 ·refine(Bm7 h.sp hs h.tree.low (by have:=hs.flat (by omega);omega) key hkey).mono ?_;rintro e w1 ⟨rfl,hs,hu⟩;obtain⟨a1,a2⟩:=h.next hu (Cb8 g) hs h.tree;exact⟨rfl,a1,a2⟩
theorem Cr9(h:R7 w0 j B g M r L S r0 L0 S0 w)(hL:L.length<=200)(key:Bs)(hkey:key.length=32)(k:Int) :
  Calls Tryz.prog 63 #[.pointer (some ⟨g.x.tb,0,none⟩),.int .u32 (r:Int),.agg (bts key).toArray,.int .i64 k] w λ e w'=>∃v,e=.returned (.tuple #[v,.int .i64 0])/\E8 w' w.heap.size v (O8 key k.toNat L)/\R7 w0 j B g M r L S r0 L0 S0 w'/\K8 w w':=by
 have hh:=h.hh;rcases Int.lt_or_le k 1 with hk | hk
 ·have e0:O8 key k.toNat L=[]:=by unfold O8;rw[show k.toNat=0 by omega];rfl
  rw[e0];rcases Nat.eq_zero_or_pos r with hr | hr
  ·subst hr;refine(Ba6 h.sp (by omega) k).mono ?_;rintro e w1 ⟨rfl,hs,hu⟩;obtain⟨a1,a2⟩:=h.next hu (by simp) hs h.tree;exact⟨_,rfl,Y0 _ _ _ _,a1,a2⟩
  ·refine(Bj1 h.sp (by omega) (by omega) k hk).mono ?_;rintro e w1 ⟨rfl,hs,hu⟩;obtain⟨a1,a2⟩:=h.next hu (by simp) hs h.tree;exact⟨_,rfl,Y0 _ _ _ _,a1,a2⟩
 ·obtain⟨m,rfl⟩:=Int.eq_ofNat_of_zero_le (show 0<=k by omega);refine(Cb2 h.sp (by omega) (by omega) h.tree (by omega) hkey m (by omega)).mono ?_;rintro e w1 ⟨v,rfl,hp,hs,hu⟩;obtain⟨a1,a2⟩:=h.next hu (Cb8 g) hs h.tree;exact⟨v,rfl,hp,a1,a2⟩
theorem Ct2(h:R7 w0 j B g M r L S r0 L0 S0 w)(hL:L.length<=200):∃D:Nat,
  (∀w1,R7 w0 j B g M r L S r0 L0 S0 w1->Calls Tryz.prog 57 #[.pointer (some ⟨g.x.tb,0,none⟩),.int .u32 (r:Int)] w1 λ e w'=>∃a c',e=.returned (.tuple #[.slice a L.length c',.int .i64 (D:Int),.bool true])/\E8 w' w1.heap.size (.slice a L.length c') L/\R7 w0 j B g M r L S r0 L0 S0 w'/\K8 w1 w')/\
  (∀w1,R7 w0 j B g M r L S r0 L0 S0 w1->Calls Tryz.prog 67 #[.pointer (some ⟨g.x.tb,0,none⟩),.int .u32 (r:Int)] w1 λ e w'=>e=.returned (.tuple #[.int .i64 (D:Int),.int .i64 0])/\R7 w0 j B g M r L S r0 L0 S0 w'/\K8 w1 w'):=by
 have hh:=h.hh;have ht:=h.tree;rcases h.tree.at_ with⟨hr,hL0,hS0⟩ | ⟨hr,d,hs⟩
 ·refine⟨0,λ w1 h1=>?_,λ w1 h1=>?_⟩
  ·subst hr;refine(Bu3 h1.sp).mono ?_;rintro e w2 ⟨rfl,hs,hu⟩;obtain⟨a1,a2⟩:=h1.next hu (by simp) hs h1.tree;subst hL0;exact⟨none,0,rfl,Y0 _ _ _ _,a1,a2⟩
  ·subst hr;refine(Ci9 h1.sp (by omega)).mono ?_;rintro e w2 ⟨rfl,hs,hu⟩;obtain⟨a1,a2⟩:=h1.next hu (Cb8 g) hs h1.tree;exact⟨rfl,a1,a2⟩
 ·refine⟨d+1,λ w1 h1=>?_,λ w1 h1=>?_⟩
  ·refine(Bu4 h1.sp (by omega) (by omega) hr hs ht.held (by omega)).mono ?_;rintro e w2 ⟨a,c,rfl,hp,hs2,hu⟩;obtain⟨a1,a2⟩:=h1.next hu (λ k hk=>List.mem_cons_of_mem _ hk) hs2 h1.tree;exact⟨a,c,rfl,hp,a1,a2⟩
  ·refine(Az3 h1.sp hs ht.low (by have:=hs.flat (by omega);omega)).mono ?_;rintro e w2 ⟨rfl,hs2,hu⟩;obtain⟨a1,a2⟩:=h1.next hu (Cb8 g) hs2 h1.tree;exact⟨rfl,a1,a2⟩
end
end
section
theorem Bu5{l:List B0}(hl:Ab3 l)(key:Bs):∃x er,Bz6 (G9 l key)=.tuple #[.agg (bts x).toArray,.int .i64 er]/\x.length=16:=by
 cases h:G9 l key with
 | none=>exact⟨z16,5,rfl,rfl⟩
 | some v=>
  refine⟨v,0,rfl,?_⟩;rw[W0] at h;split at h
  ·rw[List.getElem?_map,Option.map_eq_some_iff] at h;obtain⟨p,hp,rfl⟩:=h;exact(hl p (List.mem_of_getElem? hp)).2
  ·cases h
theorem Cc1{l:List B0}(hl:Ab3 l){key x:Bs}(hk:key.length=32)(hx:x.length=16):Ab3 (J8 l key x):=λ p hp=>by
 rcases Aa5 hp with rfl | q
 ·exact⟨hk,hx⟩
 ·exact hl p q
theorem Cc2{l:List B0}(hl:Ab3 l)(key:Bs):Ab3 (N7 l key):=λ p hp=>hl p (Y4 hp)
theorem Cs0{w:World}{b:Nat}{o:Op9}{T:TypeId}{fr:Nat × Nat}(h:w.heap[b]?=some (.cells (opc o).toArray T fr)):w.rangeAt b 3 (bts o.V):=λ j v hv=>by
 rw[A4 h,List.getElem?_toArray];unfold opc;rw[List.getElem?_append_right (by simp)];simpa using hv
theorem Cp9{w:World}{b:Nat}{o:Op9}{T:TypeId}{fr:Nat × Nat}(h:w.heap[b]?=some (.cells (opc o).toArray T fr)):w.cell? ⟨b,0,none⟩=some (.int .i64 o.K)/\w.cell? ⟨b,1,none⟩=some (.int .i64 o.A)/\w.cell? ⟨b,2,none⟩=some (.int .i64 o.N):=by
 refine⟨?_,?_,?_⟩;all_goals (rw[A4 h,List.getElem?_toArray];rfl)
theorem Bq3{w:World}{b o:Nat}{x:Op9}(h:w.rangeAt b o (opc x)):(loadCells ⟨b,o,none⟩ 19).run Tryz.prog w=.ok (opc x).toArray w:=by
 have:=run_loadCells_list (P:=Tryz.prog) w ⟨b,o,none⟩ (opc x) (λ j v hv=>by rw[Addr.add_mid];exact h j v hv);rw[An4] at this;exact this
structure Bb4(w:World)(q:Nat)(v:Value)(l:List B0):Prop where
 row:R4 w v l
 len:Ab3 l
 n:l.length<=q
theorem Bb4.keep{w w':World}{q:Nat}{v:Value}{l:List B0}(h:Bb4 w q v l)(hk:K8 w w'):Bb4 w' q v l:=⟨hk.row h.row,h.len,h.n⟩
theorem Bb4.le{w:World}{q q':Nat}{v:Value}{l:List B0}(h:Bb4 w q v l)(hq:q<=q'):Bb4 w q' v l:=⟨h.row,h.len,Nat.le_trans h.n hq⟩
attribute [-go_sem] loadCells storeCells Instr.build Instr.buildSlice Op.eqFields run_equalIn_agg Program.fieldsOf
theorem Cc3(ops:List Op9)(v:Value)(w:World)(hrd:Bf5 w v ops):Calls Tryz.prog 13 #[v] w λ e w'=>e=.returned (.bool true)/\Upd [] w w':=by
 obtain⟨av,cv,rfl⟩:=RRd.shape hrd;rw[List.length_map] at hrd ⊢;have HRD:=η hrd;clear hrd;go_enter Tryz.func13,Tryz.ntmps13
 go_wp2_with fail
 refine(Bo1 _).mono ?_;rintro e w1 ⟨rfl,hu1⟩;have HU1:=η hu1;clear hu1;rcases Nat.lt_or_ge 150 ops.length with hgt | hle
 ·have hb100:decide ((150:Int)<(ops.length:Int))=true:=decide_eq_true (by omega);have hb101:decide (150<ops.length)=true:=decide_eq_true hgt;go_wp2_with fail
  go_ret;exact⟨rfl,HU1.out⟩
 have hb100:decide ((150:Int)<(ops.length:Int))=false:=decide_eq_false (by omega);have hb101:decide (150<ops.length)=false:=decide_eq_false (by omega);have HB:Hid (Calls Tryz.prog 40 #[.int .i64 500,.int .i64 60] w1 λ e w'=>∃g:Sg,e=.returned (.tuple #[.pointer (some ⟨g.j.jb,0,none⟩),.pointer (some ⟨g.x.tb,0,none⟩)])/\Bz0 w1 w' g 500 60/\Upd [] w1 w'):=η (Cf8 500 60 500 rfl (by omega) (by omega) (by omega) (by omega) (by omega) w1);go_wp2_with fail
 refine HB.out.mono ?_;rintro e w3 ⟨g0,rfl,hg0,hu3⟩;have HA0:Hid (R7 w g0.j 2 g0 (λ _=>none) 0 [] [] 0 [] [] w3):=by
  show R7 _ _ _ _ _ _ _ _ _ _ _ _
  have hsz:=HU1.out.size;have hl:∀k,k∈g0.x.tb :: g0.S->w.heap.size<=k:=λ k hk=>by have:=hg0.late k hk;omega
  exact⟨⟨rfl,hg0.n,hg0.ring,hg0.turn,hg0.t,hg0.m,hl _ (by simp),hl _ (by simp[Sg.S])⟩,hg0.sp,hg0.tree,hg0.tree,λ k hk=>hl k (by simp[Sg.S,hk]),HU1.out.trans hu3⟩
 have HJL:Hid (∀k,k∈g0.j.all->w.heap.size<=k):=η HA0.out.jl;clear hg0 hu3;go_wp2_with fail
 go_loopw [9,4,5,6,7,8] (λ i t ro ol lv wv wr=>∃(q:Nat) (g:Sg) (M:Nat->Option Sec) (r:Nat) (L:List B0) (S:List Nat) (r0:Nat) (L0:List B0) (S0:List Nat),q<=ops.length/\i=.int .i64 (q:Int)/\t=.pointer (some ⟨g.x.tb,0,none⟩)/\ro=.int .u32 (r:Int)/\ol=.int .u32 (r0:Int)/\R7 w g0.j (2+2*q) g M r L S r0 L0 S0 wr/\Bb4 wr q lv L/\Bb4 wr q wv L0/\F2 M g.h<=35) (λ i _ _ _ _ _ _=>ops.length-(intOf i).toNat)
 case atStart=>exact⟨0,g0,λ _=>none,0,[],[],0,[],[],by omega,rfl,rfl,rfl,rfl,HA0.out,⟨R4.nil _,by intro p hp;simp at hp,Nat.le_refl _⟩,⟨R4.nil _,by intro p hp;simp at hp,Nat.le_refl _⟩,by rw[Ae8];omega⟩
 case round=>
  obtain⟨q,g,M,r,L,S,r0,L0,S0,hq,rfl,rfl,rfl,rfl,ha,hl,hl0,hcn⟩:=hrel;obtain⟨al,cl,rfl,_⟩:=hl.row.shape;obtain⟨a0,c0,rfl,_⟩:=hl0.row.shape;rcases Nat.lt_or_ge q ops.length with hlt | hge
  ·have hqb:decide ((q:Int)<(ops.length:Int))=true:=decide_eq_true (by omega);have hqc:decide (q<ops.length)=true:=decide_eq_true hlt;have hq0:(0:Int)<=(q:Int):=by omega
   have hq1:(q:Int)<(ops.length:Int):=by omega
   obtain⟨o,ho⟩:∃o,ops[q]?=some o:=⟨_,List.getElem?_eq_getElem hlt⟩;obtain⟨bo,off,rfl,hr⟩:=RRd.at (HRD.out.below ha.u) (i:=q) (e:=opc o) (by rw[List.getElem?_map,ho];rfl);have l13:=Bq3 hr;have hB2:2+2*(q:Int)<800000:=by omega
   have HB2:=η hB2;obtain⟨w4,hw4⟩:∃x,x=(wr.alloc (.cells #[.int .i64 0,.int .i64 0,.int .i64 0,.int .u8 0,.int .u8 0,.int .u8 0,.int .u8 0,.int .u8 0,.int .u8 0,.int .u8 0,.int .u8 0,.int .u8 0,.int .u8 0,.int .u8 0,.int .u8 0,.int .u8 0,.int .u8 0,.int .u8 0,.int .u8 0] 117)).setRow wr.heap.size (opc o).toArray:=⟨_,rfl⟩;obtain⟨b10,hb10⟩:∃x,x=wr.heap.size:=⟨_,rfl⟩;have hik13:(Tryz.prog.info? 117).map (·.size)=some (opc o).toArray.size:=by rw[List.size_toArray,An4];kernel_rfl
   have hone13:(opc o).toArray.all (·.oneCell')=true:=by rw[List.all_toArray,List.all_eq_true];exact Cm7 o
   have hsz13:(#[.int .i64 0,.int .i64 0,.int .i64 0,.int .u8 0,.int .u8 0,.int .u8 0,.int .u8 0,.int .u8 0,.int .u8 0,.int .u8 0,.int .u8 0,.int .u8 0,.int .u8 0,.int .u8 0,.int .u8 0,.int .u8 0,.int .u8 0,.int .u8 0,.int .u8 0]:Array Value).size=(opc o).toArray.size:=by show 19=_;rw[List.size_toArray,An4]
   have hal13:=A6 (w:=wr) (.cells #[.int .i64 0,.int .i64 0,.int .i64 0,.int .u8 0,.int .u8 0,.int .u8 0,.int .u8 0,.int .u8 0,.int .u8 0,.int .u8 0,.int .u8 0,.int .u8 0,.int .u8 0,.int .u8 0,.int .u8 0,.int .u8 0,.int .u8 0,.int .u8 0,.int .u8 0] 117);have hop4:w4.heap[b10]?=some (.cells (opc o).toArray 117 (0,0)):=by rw[hw4,hb10];exact setRow_heap _ _ _ _ _ _ (A6 _)
   have hu4:Upd [] wr w4:=by
    rw[hw4,N8];exact(Upd.refl _ _).alloc _
   obtain⟨i0,i1,i2⟩:=Cp9 hop4;have HOP4:=η hop4;have HA4:=η (ha.below hu4);have hk4:=K8.below hu4;have HL4:=η (hl.keep hk4);have HL04:=η (hl0.keep hk4);have HCN:=η hcn;have HW4:=η hw4;have HB10:=η hb10;have hpl:=Aq2 (k:=o.A) (n:=300) (by omega);have HPA:=η (Aw0 o.A 300 w4 (by omega) (by omega));have hpl2:=Aq2 (k:=o.K) (n:=6) (by omega);have HPK:=λ w=>η (Aw0 o.K 6 w (by omega) (by omega));generalize Ag4 o.A 300=pa at *;generalize Ag4 o.K 6=pk at *;have HKY:=η (Ba0 (pa:Int) w4);unfold arr at HKY;have hkl:(Ad0 (pa:Int)).length=32:=X2 _;generalize Ad0 (pa:Int)=key at *;rw[hw4,hb10] at i1;have HX13:=η (And.intro hik13 (And.intro hone13 (And.intro hsz13 hal13)));clear hik13 hone13 hsz13 hal13;clear ha hl hl0 hcn hop4 hu4 hk4 ho hr hw4 hb10 i0 i2 hB2 hpl;go_wp2_with (first | (refine wpList_store_row (by rfl) 117 (.tmp 10) (.tmp 51) (by rfl) wr.heap.size (opc o).toArray (by rfl) (by rfl) _ _ HX13.out.2.2.2 HX13.out.1 HX13.out.2.2.1 HX13.out.2.1 ?_))
   rw[← HW4.out,← HB10.out];refine HPA.out.mono ?_;rintro e w' ⟨rfl,rfl⟩;go_wp2_with fail
   refine HKY.out.mono ?_;rintro e w5 ⟨rfl,hu5⟩;obtain⟨w6,hw6⟩:∃x,x=(w5.alloc (.cells #[.int .u8 0,.int .u8 0,.int .u8 0,.int .u8 0,.int .u8 0,.int .u8 0,.int .u8 0,.int .u8 0,.int .u8 0,.int .u8 0,.int .u8 0,.int .u8 0,.int .u8 0,.int .u8 0,.int .u8 0,.int .u8 0,.int .u8 0,.int .u8 0,.int .u8 0,.int .u8 0,.int .u8 0,.int .u8 0,.int .u8 0,.int .u8 0,.int .u8 0,.int .u8 0,.int .u8 0,.int .u8 0,.int .u8 0,.int .u8 0,.int .u8 0,.int .u8 0] 35)).setRow w5.heap.size (bts key).toArray:=⟨_,rfl⟩;obtain⟨b11,hb11⟩:∃x,x=w5.heap.size:=⟨_,rfl⟩;have s14:=C7 (A6 (w:=w5) (.cells #[.int .u8 0,.int .u8 0,.int .u8 0,.int .u8 0,.int .u8 0,.int .u8 0,.int .u8 0,.int .u8 0,.int .u8 0,.int .u8 0,.int .u8 0,.int .u8 0,.int .u8 0,.int .u8 0,.int .u8 0,.int .u8 0,.int .u8 0,.int .u8 0,.int .u8 0,.int .u8 0,.int .u8 0,.int .u8 0,.int .u8 0,.int .u8 0,.int .u8 0,.int .u8 0,.int .u8 0,.int .u8 0,.int .u8 0,.int .u8 0,.int .u8 0,.int .u8 0] 35)) (l:=bts key) (by rw[A8,hkl];rfl) (G7 _);have h11:w6.heap[b11]?=some (.cells (bts key).toArray 35 (0,0)):=by rw[hw6,hb11];exact setRow_heap _ _ _ _ _ _ (A6 _)
   have hu6:Upd [] w5 w6:=by
    rw[hw6,N8];exact(Upd.refl _ _).alloc _
   rw[← hw6] at s14;have hu46:=hu5.trans hu6;have hk6:=K8.below hu46;have HA6:=η (HA4.out.below hu46);have HL6:=η (HL4.out.keep hk6);have HL06:=η (HL04.out.keep hk6);have HOP6:=η (hk6.op _ _ _ HOP4.out);have HKR6:Hid (w6.rangeAt b11 0 (bts key)):=by
    show World.rangeAt _ _ _ _
    intro j v hv;rw[A4 h11,List.getElem?_toArray,Nat.zero_add];exact hv
   have HW6:=η (And.intro hw6 hb11);have HTC:=η (Ci8 HA6.out);clear hu5 hu6 hu46 hk6 h11 hw6 hb11 i1;obtain⟨cn,hcc⟩:∃cn,F2 M g.h=cn:=⟨_,rfl⟩;rw[hcc] at HTC;rw[hcc] at HCN;have HCC:=η hcc;clear hcc;obtain⟨bc,hbc,hbc2,hbc3⟩:∃b,decide ((25:Int)<(cn:Int))=b/\decide (25<cn)=b/\(b=decide (25<cn)):=⟨_,rfl,decide_eq_decide.2 (by omega),decide_eq_decide.2 (by omega)⟩;have HBC:=η hbc3;clear hbc3;go_upto_region 15 with(fail)
   rw[← HW6.out.2];go_cut [58] (λ s wq=>s=.bool bc/\R7 w g0.j (2+2*q) g M r L S r0 L0 S0 wq/\K8 w6 wq)
   case first=>
    go_wp2_with fail
    refine HTC.out.mono ?_;rintro e w7 ⟨rfl,ha7,hk7,_⟩;have HA7:=η ha7;have HK7:=η hk7;clear ha7 hk7;go_wp2_with fail
    go_meet
    exact⟨rfl,HA7.out,HK7.out⟩
   case rest=>
   obtain⟨rfl,ha7,hk7⟩:=hcut;obtain⟨w7,rfl⟩:∃x:World,x=wc:=⟨_,rfl⟩;have HA7:=η ha7;have HL7:=η (HL6.out.keep hk7);have HL07:=η (HL06.out.keep hk7);have HOP7:=η (hk7.op _ _ _ HOP6.out);have HKR7:=η (hk7.range HKR6.out);clear ha7 hk7 hbc hbc2 s14 l13;go_upto_if 58 with(fail)
   go_cut [4,6,8] (λ st so sw wz=>∃(g':Sg) (M':Nat->Option Sec) (r0':Nat) (L0':List B0) (S0':List Nat),st=.pointer (some ⟨g'.x.tb,0,none⟩)/\so=.int .u32 (r0':Int)/\R7 w g0.j (3+2*q) g' M' r L S r0' L0' S0' wz/\Bb4 wz q sw L0'/\F2 M' g'.h<=26/\K8 w7 wz)
   case first=>
    cases bc with
    | true=>
     have HCM:=η (Bx2 HA7.out (by have:=HB2.out;omega) (by have:=HCN.out;have:=HCC.out;omega));go_wp2_with fail
     refine HCM.out.mono ?_;rintro e w8 ⟨rfl,hg8,hk8,hu8⟩;have HBG:=η (Bu1 hg8 hu8 HJL.out);have HK8:=η hk8;clear hg8 hk8 hu8;go_wp2_with fail
     refine HBG.out.mono ?_;rintro e w9 ⟨g',rfl,ha9,hk9⟩;have HA9:=η ha9;have HK9:=η (HK8.out.trans hk9);clear ha9 hk9;go_wp2_with fail
     go_meet
     exact⟨g',λ _=>none,r,L,S,rfl,rfl,HA9.out.le (by omega),HL7.out.keep HK9.out,by rw[Ae8];omega,HK9.out⟩
    | false=>
     have hc:cn<=25:=by have:=of_decide_eq_false HBC.out.symm;omega
     have HC25:=η hc;clear hc;go_wp2_with fail
     go_meet
     exact⟨g,M,r0,L0,S0,rfl,rfl,HA7.out.le (by omega),HL07.out,by have:=HCC.out;have:=HC25.out;omega,K8.refl _⟩
   case rest=>
   obtain⟨g',M',r0',L0',S0',rfl,rfl,haz,hlz0,hcz,hkz⟩:=hcut;obtain⟨wz,rfl⟩:∃x:World,x=wc:=⟨_,rfl⟩;obtain⟨a0',c0',rfl,_⟩:=hlz0.row.shape;have hopz:=hkz.op _ _ _ HOP7.out;have hkrz:=hkz.range HKR7.out;obtain⟨i0,i1,i2⟩:=Cp9 hopz;have lk:=B2 hkrz hkl;have lV:=U6 (Cs0 hopz) o.lv;have HAZ:=η haz;have HLZ:=η (HL7.out.keep hkz);have HLZ0:=η hlz0;have HCZ:=η hcz;have HOPZ:=η hopz;have HKRZ:=η hkrz;have HOV:=η o.lv;have hq150:q+1<=150:=by omega
   have HBD:Hid (∀B:Int,B=3+2*(q:Int)∨B=3+2*(q:Int)+1->B<=2+2*((q+1:Nat):Int)):=by show ∀B:Int,_;intro B h;omega
   have HQL:=η hq150;clear haz hlz0 hcz hopz hkrz hkz hq150;go_wp2_with fail
   refine(HPK _).out.mono ?_;rintro e w' ⟨rfl,rfl⟩;have hpk:pk=0∨pk=1∨pk=2∨pk=3∨pk=4∨pk=5:=by omega
   clear hpl2;rcases hpk with hpk | hpk | hpk | hpk | hpk | hpk
   ·as_aux_lemma=>
    have e0:((pk:Int) == 0)=true:=by simp[hpk]
    clear hpk;have HPT:=η (Ct0 HAZ.out (by have:=HLZ.out.n;have:=HQL.out;omega) HCZ.out key o.V hkl HOV.out);go_wp2_with fail
    refine HPT.out.mono ?_;rintro e w8 ⟨M2,r2,S2,rfl,ha8,hc8,hk8⟩;have HA8:=η ha8;have HC8:=η hc8;have HL8:=η (HLZ.out.keep hk8);have HL08:=η (HLZ0.out.keep hk8);have lk8:=B2 (hk8.range HKRZ.out) hkl;have lV8:=U6 (Cs0 (hk8.op _ _ _ HOPZ.out)) HOV.out;have HRP:=η (Cc0 HL8.out.row HL8.out.len (by have:=HL8.out.n;have:=HQL.out;omega) key o.V hkl HOV.out);clear ha8 hc8 hk8 lk lV;go_wp2_with fail
    refine HRP.out.mono ?_;rintro e w9 ⟨⟨a9,c9,rfl,hrow9⟩,hu9⟩;have HA9:=η (HA8.out.below hu9);have HL9:Hid (Bb4 w9 (q+1) (.slice a9 (J8 L key o.V).length c9) (J8 L key o.V)):=η ⟨hrow9,Cc1 HL8.out.len hkl HOV.out,by have:=HL8.out.n;have:=Aj5 L key o.V;omega⟩;have HL09:=η (HL08.out.keep (K8.below hu9));clear hrow9 hu9 lk8 lV8;have HLN:=η (Bu2 HA9.out (by have:=HL9.out.n;have:=HQL.out;omega));go_wp2_with fail
    refine HLN.out.mono ?_;rintro e wy ⟨rfl,hay,hky⟩;have HAY:=η hay;have HLY:=η (HL9.out.keep hky);have HLY0:=η (HL09.out.keep hky);clear hay hky;go_wp2_with fail
    exact⟨⟨q+1,g',M2,r2,(J8 L key o.V),S2,r0',L0',S0',by omega,by go_num,rfl,rfl,rfl,HAY.out.le (HBD.out _ (by exact .inl rfl)),HLY.out.le (by omega),HLY0.out.le (by omega),by have:=HCZ.out;have:=HC8.out;omega⟩,by simp[intOf];omega⟩
   ·as_aux_lemma=>
    have e0:((pk:Int) == 0)=false:=by(rw[beq_eq_false_iff_ne];omega)
    have e1:((pk:Int) == 1)=true:=by simp[hpk]
    clear hpk;have HRD2:=η (Bt8 HLZ.out.row HLZ.out.len HAZ.out.tree.at_.sorted (by have:=HLZ.out.n;have:=HQL.out;omega) key hkl);go_wp2_with fail
    refine HRD2.out.mono ?_;rintro e w8 ⟨hcase,hu8⟩;have hk8:=K8.below hu8;have HA8:=η (HAZ.out.below hu8);have HL8:=η (HLZ.out.keep hk8);have HL08:=η (HLZ0.out.keep hk8);have lk8:=B2 (hk8.range HKRZ.out) hkl;have HDR:=η (Cr8 HA8.out (by have:=HL8.out.n;have:=HQL.out;omega) HCZ.out key hkl);clear hu8 hk8 lk lV;rcases hcase with⟨hlk,rfl⟩ | ⟨hlk,a8,c8,rfl,hrow8⟩
    ·have HLK:=η hlk;clear hlk;go_wp2_with fail
     refine HDR.out.mono ?_;rintro e w9 (⟨_,rfl,ha9,hk9⟩ | ⟨hbad,_⟩)
     ·have HA9:=η ha9;have HL9:=η (HL8.out.keep hk9);have HL09:=η (HL08.out.keep hk9);clear ha9 hk9 lk8;have HLN:=η (Bu2 HA9.out (by have:=HL9.out.n;have:=HQL.out;omega));go_wp2_with fail
      refine HLN.out.mono ?_;rintro e wy ⟨rfl,hay,hky⟩;have HAY:=η hay;have HLY:=η (HL9.out.keep hky);have HLY0:=η (HL09.out.keep hky);clear hay hky;go_wp2_with fail
      exact⟨⟨q+1,g',M',r,L,S,r0',L0',S0',by omega,by go_num,rfl,rfl,rfl,HAY.out.le (HBD.out _ (by exact .inl rfl)),HLY.out.le (by omega),HLY0.out.le (by omega),by have:=HCZ.out;omega⟩,by simp[intOf];omega⟩
     ·exact absurd HLK.out hbad
    ·have HLK:=η hlk;have HR8:=η hrow8;clear hlk hrow8;go_wp2_with fail
     refine HDR.out.mono ?_;rintro e w9 (⟨hbad,_⟩ | ⟨_,M2,r2,S2,rfl,ha9,hc9,hk9⟩)
     ·exact absurd hbad HLK.out
     ·have HA9:=η ha9;have HC9:=η hc9;have HL9:Hid (Bb4 w9 (q+1) (.slice a8 (N7 L key).length c8) (N7 L key)):=η ⟨hk9.row HR8.out,Cc2 HL8.out.len key,by have:=HL8.out.n;have:=Bp0 L key;omega⟩;have HL09:=η (HL08.out.keep hk9);clear ha9 hk9 hc9 lk8;have HLN:=η (Bu2 HA9.out (by have:=HL9.out.n;have:=HQL.out;omega));go_wp2_with fail
      refine HLN.out.mono ?_;rintro e wy ⟨rfl,hay,hky⟩;have HAY:=η hay;have HLY:=η (HL9.out.keep hky);have HLY0:=η (HL09.out.keep hky);clear hay hky;go_wp2_with fail
      exact⟨⟨q+1,g',M2,r2,(N7 L key),S2,r0',L0',S0',by omega,by go_num,rfl,rfl,rfl,HAY.out.le (HBD.out _ (by exact .inl rfl)),HLY.out.le (by omega),HLY0.out.le (by omega),by have:=HCZ.out;have:=HC9.out;omega⟩,by simp[intOf];omega⟩
   ·as_aux_lemma=>
    have e0:((pk:Int) == 0)=false:=by(rw[beq_eq_false_iff_ne];omega)
    have e1:((pk:Int) == 1)=false:=by(rw[beq_eq_false_iff_ne];omega)
    have e2:((pk:Int) == 2)=true:=by simp[hpk]
    clear hpk;obtain⟨gx,ger,hgv,hgx⟩:=Bu5 HLZ.out.len key;have hga:=Ct1 HAZ.out (by have:=HLZ.out.n;have:=HQL.out;omega) key hkl;rw[hgv] at hga;have HGA:=η hga;have HGV:=η hgv;clear hga hgv;go_wp2_with fail
    refine HGA.out.mono ?_;rintro e w8 ⟨rfl,ha8,hk8⟩;obtain⟨w9,hw9⟩:∃x,x=(w8.alloc (.cells #[.int .u8 0,.int .u8 0,.int .u8 0,.int .u8 0,.int .u8 0,.int .u8 0,.int .u8 0,.int .u8 0,.int .u8 0,.int .u8 0,.int .u8 0,.int .u8 0,.int .u8 0,.int .u8 0,.int .u8 0,.int .u8 0] 115)).setRow w8.heap.size (bts gx).toArray:=⟨_,rfl⟩;obtain⟨b18,hb18⟩:∃x,x=w8.heap.size:=⟨_,rfl⟩;have s18:=C7 (A6 (w:=w8) (.cells #[.int .u8 0,.int .u8 0,.int .u8 0,.int .u8 0,.int .u8 0,.int .u8 0,.int .u8 0,.int .u8 0,.int .u8 0,.int .u8 0,.int .u8 0,.int .u8 0,.int .u8 0,.int .u8 0,.int .u8 0,.int .u8 0] 115)) (l:=bts gx) (by rw[A8,hgx];rfl) (G7 _);have h18:w9.heap[b18]?=some (.cells (bts gx).toArray 115 (0,0)):=by rw[hw9,hb18];exact setRow_heap _ _ _ _ _ _ (A6 _)
    have hu9:Upd [] w8 w9:=by
     rw[hw9,N8];exact(Upd.refl _ _).alloc _
    have hk9:=hk8.trans (K8.below hu9);have HA9:=η (ha8.below hu9);have HL9:=η (HLZ.out.keep hk9);have HL09:=η (HLZ0.out.keep hk9);have H18:=η h18;have lk9:=B2 (hk9.range HKRZ.out) hkl;have hrg:=Cb7 HL9.out.row HL9.out.len (by have:=HL9.out.n;have:=HQL.out;omega) key hkl;rw[HGV.out] at hrg;have HRG:=η hrg;rw[← hw9] at s18;have HW9:=η (And.intro hw9 hb18);clear ha8 hk8 h18 hu9 hk9 hrg lk lV;clear hw9 hb18;go_wp2_with fail
    rw[← HW9.out.2];refine HRG.out.mono ?_;rintro e w10 ⟨rfl,hu10⟩;obtain⟨w11,hw11⟩:∃x,x=(w10.alloc (.cells #[.int .u8 0,.int .u8 0,.int .u8 0,.int .u8 0,.int .u8 0,.int .u8 0,.int .u8 0,.int .u8 0,.int .u8 0,.int .u8 0,.int .u8 0,.int .u8 0,.int .u8 0,.int .u8 0,.int .u8 0,.int .u8 0] 115)).setRow w10.heap.size (bts gx).toArray:=⟨_,rfl⟩;obtain⟨b20,hb20⟩:∃x,x=w10.heap.size:=⟨_,rfl⟩;have s20:=C7 (A6 (w:=w10) (.cells #[.int .u8 0,.int .u8 0,.int .u8 0,.int .u8 0,.int .u8 0,.int .u8 0,.int .u8 0,.int .u8 0,.int .u8 0,.int .u8 0,.int .u8 0,.int .u8 0,.int .u8 0,.int .u8 0,.int .u8 0,.int .u8 0] 115)) (l:=bts gx) (by rw[A8,hgx];rfl) (G7 _);have h20:w11.heap[b20]?=some (.cells (bts gx).toArray 115 (0,0)):=by rw[hw11,hb20];exact setRow_heap _ _ _ _ _ _ (A6 _)
    have hu11:Upd [] w10 w11:=by
     rw[hw11,N8];exact(Upd.refl _ _).alloc _
    have hu911:=hu10.trans hu11;have hk11:=K8.below hu911;have HA11:=η (HA9.out.below hu911);have HL11:=η (HL9.out.keep hk11);have HL011:=η (HL09.out.keep hk11);have l18:=A7 (n:=16) ((hu911.block _ (A2 H18.out) (by simp)).trans H18.out) (by rw[A8,hgx]);have l20:=A7 (n:=16) h20 (by rw[A8,hgx]);have heq:∀w,(Op.equalIn 10000 115 (.agg (bts gx).toArray) (.agg (bts gx).toArray)).run Tryz.prog w=.ok true w:=λ w=>An2 9998 Tryz.underlying115 hgx w;rw[← hw11] at s20;rw[hb20] at l20;have HW11:=η (And.intro hw11 hb20);have hger:(ger == ger)=true:=by simp
    clear hu10 hu11 hu911 hk11 h20 lk9 s18;clear hw11 hb20;have HLN:=η (Bu2 HA11.out (by have:=HL11.out.n;have:=HQL.out;omega));go_wp2_with fail
    refine HLN.out.mono ?_;rintro e wy ⟨rfl,hay,hky⟩;have HAY:=η hay;have HLY:=η (HL11.out.keep hky);have HLY0:=η (HL011.out.keep hky);clear hay hky;go_wp2_with fail
    exact⟨⟨q+1,g',M',r,L,S,r0',L0',S0',by omega,by go_num,rfl,rfl,rfl,HAY.out.le (HBD.out _ (by exact .inl rfl)),HLY.out.le (by omega),HLY0.out.le (by omega),by have:=HCZ.out;omega⟩,by simp[intOf];omega⟩
   ·as_aux_lemma=>
    have e0:((pk:Int) == 0)=false:=by(rw[beq_eq_false_iff_ne];omega)
    have e1:((pk:Int) == 1)=false:=by(rw[beq_eq_false_iff_ne];omega)
    have e2:((pk:Int) == 2)=false:=by(rw[beq_eq_false_iff_ne];omega)
    have e3:((pk:Int) == 3)=true:=by simp[hpk]
    clear hpk;have HSC:=η (Cr9 HAZ.out (by have:=HLZ.out.n;have:=HQL.out;omega) key hkl o.N);go_wp2_with fail
    refine HSC.out.mono ?_;rintro e w8 ⟨sv,rfl,hp8,ha8,hk8⟩;obtain⟨sa,sc,rfl⟩:=hp8.shape;have HSL:Hid (Ab3 (O8 key o.N.toNat L)):=by
     show Ab3 _
     intro x hx;unfold O8 at hx;exact HLZ.out.len x (List.mem_filter.1 (List.mem_of_mem_take hx)).1
    have HSN:Hid ((O8 key o.N.toNat L).length<=1000):=by
     show _<=_
     have h1:(O8 key o.N.toNat L).length<=L.length:=by
      unfold O8;exact Nat.le_trans (by rw[List.length_take];exact Nat.min_le_right _ _) (List.length_filter_le _ _)
     have:=HLZ.out.n;have:=HQL.out;omega
    have HR8:=η (hp8.row HSL.out);have HA8:=η ha8;have HL8:=η (HLZ.out.keep hk8);have HL08:=η (HLZ0.out.keep hk8);have lk8:=B2 (hk8.range HKRZ.out) hkl;obtain⟨_,_,i28⟩:=Cp9 (hk8.op _ _ _ HOPZ.out);have HRS:=η (Bt9 HL8.out.row HL8.out.len HA8.out.tree.at_.sorted (by have:=HL8.out.n;have:=HQL.out;omega) key hkl o.N);clear hp8 ha8 hk8 lk lV i2;generalize O8 key o.N.toNat L=SL at *;go_wp2_with fail
    refine HRS.out.mono ?_;rintro e w9 ⟨⟨a9,c9,rfl,hrow9⟩,hu9⟩;have HA9:=η (HA8.out.below hu9);have HL9:=η (HL8.out.keep (K8.below hu9));have HL09:=η (HL08.out.keep (K8.below hu9));have HAL:=η (Ba7 HSN.out HSL.out (HR8.out.below hu9) hrow9);clear hrow9 hu9 lk8 i28;go_wp2_with fail
    refine HAL.out.mono ?_;rintro e w10 ⟨rfl,hu10⟩;have HA10:=η (HA9.out.below hu10);have HL10:=η (HL9.out.keep (K8.below hu10));have HL010:=η (HL09.out.keep (K8.below hu10));clear hu10;have HLN:=η (Bu2 HA10.out (by have:=HL10.out.n;have:=HQL.out;omega));go_wp2_with fail
    refine HLN.out.mono ?_;rintro e wy ⟨rfl,hay,hky⟩;have HAY:=η hay;have HLY:=η (HL10.out.keep hky);have HLY0:=η (HL010.out.keep hky);clear hay hky;go_wp2_with fail
    exact⟨⟨q+1,g',M',r,L,S,r0',L0',S0',by omega,by go_num,rfl,rfl,rfl,HAY.out.le (HBD.out _ (by exact .inl rfl)),HLY.out.le (by omega),HLY0.out.le (by omega),by have:=HCZ.out;omega⟩,by simp[intOf];omega⟩
   ·as_aux_lemma=>
    have e0:((pk:Int) == 0)=false:=by(rw[beq_eq_false_iff_ne];omega)
    have e1:((pk:Int) == 1)=false:=by(rw[beq_eq_false_iff_ne];omega)
    have e2:((pk:Int) == 2)=false:=by(rw[beq_eq_false_iff_ne];omega)
    have e3:((pk:Int) == 3)=false:=by(rw[beq_eq_false_iff_ne];omega)
    have e4:((pk:Int) == 4)=true:=by simp[hpk]
    clear hpk;have HCM:=η (Bx2 HAZ.out (by have:=HB2.out;omega) (by have:=HCZ.out;omega));go_wp2_with fail
    refine HCM.out.mono ?_;rintro e w8 ⟨rfl,hg8,hk8,hu8⟩;have HBG:=η (Bu1 hg8 hu8 HJL.out);have HK8:=η hk8;clear hg8 hk8 hu8;go_wp2_with fail
    refine HBG.out.mono ?_;rintro e w9 ⟨g2,rfl,ha9,hk9⟩;have HA9:=η ha9;have HL9:=η (HLZ.out.keep (HK8.out.trans hk9));clear ha9 hk9;have HLN:=η (Bu2 HA9.out (by have:=HL9.out.n;have:=HQL.out;omega));go_wp2_with fail
    refine HLN.out.mono ?_;rintro e wy ⟨rfl,hay,hky⟩;have HAY:=η hay;have HLY:=η (HL9.out.keep hky);have HLY0:=η (HL9.out.keep hky);clear hay hky;go_wp2_with fail
    exact⟨⟨q+1,g2,(λ _=>none),r,L,S,r,L,S,by omega,by go_num,rfl,rfl,rfl,HAY.out.le (HBD.out _ (by exact .inr rfl)),HLY.out.le (by omega),HLY0.out.le (by omega),by have:=HCZ.out;rw[Ae8];omega⟩,by simp[intOf];omega⟩
   ·as_aux_lemma=>
    have e0:((pk:Int) == 0)=false:=by(rw[beq_eq_false_iff_ne];omega)
    have e1:((pk:Int) == 1)=false:=by(rw[beq_eq_false_iff_ne];omega)
    have e2:((pk:Int) == 2)=false:=by(rw[beq_eq_false_iff_ne];omega)
    have e3:((pk:Int) == 3)=false:=by(rw[beq_eq_false_iff_ne];omega)
    have e4:((pk:Int) == 4)=false:=by(rw[beq_eq_false_iff_ne];omega)
    clear hpk;have HAB:=η (Cm9 HAZ.out);go_wp2_with fail
    refine HAB.out.mono ?_;rintro e w8 ⟨rfl,hg8,hk8,hu8⟩;have HBG:=η (Bu1 hg8 hu8 HJL.out);have HK8:=η hk8;clear hg8 hk8 hu8;go_wp2_with fail
    refine HBG.out.mono ?_;rintro e w9 ⟨g2,rfl,ha9,hk9⟩;have HA9:=η ha9;have HL9:=η (HLZ0.out.keep (HK8.out.trans hk9));clear ha9 hk9;have HLN:=η (Bu2 HA9.out (by have:=HL9.out.n;have:=HQL.out;omega));go_wp2_with fail
    refine HLN.out.mono ?_;rintro e wy ⟨rfl,hay,hky⟩;have HAY:=η hay;have HLY:=η (HL9.out.keep hky);have HLY0:=η (HL9.out.keep hky);clear hay hky;go_wp2_with fail
    exact⟨⟨q+1,g2,(λ _=>none),r0',L0',S0',r0',L0',S0',by omega,by go_num,rfl,rfl,rfl,HAY.out.le (HBD.out _ (by exact .inl rfl)),HLY.out.le (by omega),HLY0.out.le (by omega),by have:=HCZ.out;rw[Ae8];omega⟩,by simp[intOf];omega⟩
  ·have hqb:decide ((q:Int)<(ops.length:Int))=false:=decide_eq_false (by omega);have hqc:decide (q<ops.length)=false:=decide_eq_false (by omega);obtain⟨D,hW,hD⟩:=Ct2 ha (by have:=hl.n;omega);have HW:=η (hW _ ha);have HD:=η hD;have HL:=η hl;clear ha hl hl0 hW hD hcn;go_wp2_with fail
   refine HW.out.mono ?_;rintro e w4 ⟨a4,c4,rfl,hp4,ha4,hk4⟩;have HL4:=η (HL.out.keep hk4);have HP4:=η (hp4.row HL.out.len);have HD4:=η (HD.out _ ha4);clear hp4 ha4 hk4;go_wp2_with fail
   refine HD4.out.mono ?_;rintro e w5 ⟨rfl,ha5,hk5⟩;have HU5:=η ha5.u;have HAL:=η (Ba7 (w:=w5) (by have:=HL.out.n;omega) HL.out.len (hk5.row HP4.out) (HL4.out.keep hk5).row);clear ha5 hk5;go_wp2_with fail
   refine HAL.out.mono ?_;rintro e w6 ⟨rfl,hu6⟩;have HU6:=η (HU5.out.trans hu6);clear hu6;go_wp2_with fail
   go_ret;exact⟨rfl,HU6.out⟩
end
end Go.Proofs.YtgfbepakonjbnaaGreat
end
