/-
  tree.join of two leaves. (Written by tools/mkjoin.py.)
-/
import Derived.Test.YtgfbepakonjbnaaGreatZ19
set_option maxRecDepth 100000
set_option maxHeartbeats 16000000
section
set_option linter.unusedSimpArgs false
set_option linter.unusedVariables false
namespace Go.Proofs.YtgfbepakonjbnaaGreat
open Go.RowKit Go.MapKept Go.ChangeMaps
section
attribute [-go_sem] loadCells storeCells Instr.build Instr.buildSlice
attribute [local go_sem] L6
theorem Cr6{w:World}{g:Sg}{M:Nat->Option Sec}(h:B7 w g M)(hh1:1<g.h)(hh2:g.h<=4096){B i gk ck gd cd p1 q1 r1 e1 p2 q2 r2 e2:Nat}{ks k1 k2:List Bs}{ds:List Nat}{v1 v2:List Bs}
  (hKx:C3 w B (.slice (some ⟨gk,0,none⟩) ks.length ck) ks) (hDx:D8 w B (.slice (some ⟨gd,0,none⟩) ds.length cd) ds) (hok:G0 ks ds)
  (hK1:C3 w B (.slice (some ⟨p1,0,none⟩) k1.length q1) k1) (hR1:F7 w B (.slice (some ⟨r1,0,none⟩) v1.length e1) v1) (hK2:C3 w B (.slice (some ⟨p2,0,none⟩) k2.length q2) k2) (hR2:F7 w B (.slice (some ⟨r2,0,none⟩) v2.length e2) v2)
  (ok1:K5 k1 v1) (ok2:K5 k2 v2) (h01:0<k1.length) (h02:0<k2.length) {K V:List Bs} (hKe:k1++k2=K) (hVe:v1++v2=V)
  (hi:i<ks.length) {s1 s2:Nat} (hs1:ds[i]?=some s1) (hs2:ds[i+1]?=some s2) (hs1h:s1<g.h) (hs2h:s2<g.h) (hs14:4<=s1) (hs24:4<=s2) (hs2T:g.T M s2=true) (at_:Nat) (hat:at_<g.h) (hat2:at_<4294967296) (hres:F2 M g.h+c1M M+3<=40) :
  Calls Tryz.prog 197 #[.agg #[.int .i64 2,.slice (some ⟨gk,0,none⟩) ks.length ck,.slice none 0 0,.slice (some ⟨gd,0,none⟩) ds.length cd],.pointer (some ⟨g.x.tb,0,none⟩),.int .u32 (at_:Int),.int .i64 (i:Int),.agg #[.int .i64 1,.slice (some ⟨p1,0,none⟩) k1.length q1,.slice (some ⟨r1,0,none⟩) v1.length e1,.slice none 0 0],.agg #[.int .i64 1,.slice (some ⟨p2,0,none⟩) k2.length q2,.slice (some ⟨r2,0,none⟩) v2.length e2,.slice none 0 0]] w
   (T0 g M 0 B s1 s2 at_ i ks ds K (V) [] w):=by
 obtain⟨wA,hwA⟩:∃wA,wA=(((w.alloc (.cells #[.int .i64 2,.slice (some ⟨gk,0,none⟩) ks.length ck,.slice none 0 0,.slice (some ⟨gd,0,none⟩) ds.length cd] 220)).alloc (.cells #[.int .i64 1,.slice (some ⟨p1,0,none⟩) k1.length q1,.slice (some ⟨r1,0,none⟩) v1.length e1,.slice none 0 0] 220)).alloc (.cells #[.int .i64 1,.slice (some ⟨p2,0,none⟩) k2.length q2,.slice (some ⟨r2,0,none⟩) v2.length e2,.slice none 0 0] 220)).alloc (.cells #[.int .i64 0,.slice none 0 0,.slice none 0 0,.slice none 0 0] 220):=⟨_,rfl⟩;have huA:Upd [] w wA:=by rw[hwA];exact((((Upd.refl _ _).alloc _).alloc _).alloc _).alloc _
 obtain⟨b6,hb6⟩:∃b,b=w.heap.size:=⟨_,rfl⟩;obtain⟨b10,hb10⟩:∃b,b=w.heap.size+1:=⟨_,rfl⟩;obtain⟨b11,hb11⟩:∃b,b=w.heap.size+1+1:=⟨_,rfl⟩;obtain⟨b12,hb12⟩:∃b,b=w.heap.size+1+1+1:=⟨_,rfl⟩;obtain⟨h6,h10,h11,h12⟩:=Bp7 w #[.int .i64 2,.slice (some ⟨gk,0,none⟩) ks.length ck,.slice none 0 0,.slice (some ⟨gd,0,none⟩) ds.length cd] #[.int .i64 1,.slice (some ⟨p1,0,none⟩) k1.length q1,.slice (some ⟨r1,0,none⟩) v1.length e1,.slice none 0 0] #[.int .i64 1,.slice (some ⟨p2,0,none⟩) k2.length q2,.slice (some ⟨r2,0,none⟩) v2.length e2,.slice none 0 0] #[.int .i64 0,.slice none 0 0,.slice none 0 0,.slice none 0 0];rw[← hwA,← hb6] at h6;rw[← hwA,← hb10] at h10;rw[← hwA,← hb11] at h11;rw[← hwA,← hb12] at h12;have H6:=η h6;have H10:=η h10;have H11:=η h11;have H12:=η h12;have HUA:=η huA;have HA:=η (h.below huA);have HKx:=η (C3.below hKx huA);have HDx:=η (D8.below hDx huA);have HK1:=η (C3.below hK1 huA);have HK2:=η (C3.below hK2 huA);have HR1:=η (F7.below hR1 huA);have HR2:=η (F7.below hR2 huA);have HOK:=η (And.intro hok (And.intro ok1 ok2));have HP0:=η (And.intro h01 h02);have HBw:=η (And.intro hb6 (And.intro hb10 (And.intro hb11 hb12)));have HW:=η hwA;have HSI:=η (And.intro hs1 hs2);have HKE:=η hKe;have HRE:=η hVe;have HMM:=η (And.intro hs2T hres);have HLT:Hid (gk<w.heap.size/\gd<w.heap.size/\b6<wA.heap.size/\b10<wA.heap.size/\b11<wA.heap.size/\b12<wA.heap.size):=η ⟨(Ae5 hKx _ _ _ rfl).1,(Ae5 hDx _ _ _ rfl).1,A2 h6,A2 h10,A2 h11,A2 h12⟩;clear h hKx hDx hok hK1 hK2 hR1 hR2 ok1 ok2 h01 h02 hwA huA hb6 hb10 hb11 hb12 h6 h10 h11 h12 hs1 hs2 hKe hVe hs2T hres;go_enter Tryz.func197,Tryz.ntmps197
 go_wp2_with fail
 have hwA:=HW.out;obtain⟨hb6,hb10,hb11,hb12⟩:=HBw.out;rw[← hwA,← hb12,← hb11,← hb10,← hb6];clear hwA hb6 hb10 hb11 hb12;have bn:=At8;have HCL:Hid (∀w',Upd [] wA w'->Calls Tryz.prog 206 #[.slice (some ⟨p1,0,none⟩) k1.length q1] w' λ e w''=>∃a c,e=.returned (.slice a k1.length c)/\C3 w'' wA.heap.size (.slice a k1.length c) k1/\Upd [] w' w''):=by
  show ∀w',_
  exact λ w' hu=>(Al0 (B':=wA.heap.size) (HK1.out.below hu) HOK.out.2.1.k 0 k1.length 0 q1 (by omega) rfl HP0.out.1 (by have:=HOK.out.2.1.most;omega) hu.size).mono λ e w'' hp=>by simpa using hp
 go_upto_region 3 with(fail)
 go_cut [14] (λ s14 wz=>∃b14 a4 c4,s14=.pointer (some ⟨b14,0,none⟩)/\wA.heap.size<=b14/\wz.heap[b14]?=some (.cells #[.int .i64 1,.slice a4 k1.length c4,.slice none 0 0,.slice none 0 0] 220 (0,0))/\C3 wz wA.heap.size (.slice a4 k1.length c4) k1/\Upd [] wA wz)
 case first=>
  refine B6 (λ w'=>Upd [] wA w') [] (by kernel_rfl) (Upd.refl _ _).drew (λ hHeld=>?_);generalize wA.drew=wd at hHeld ⊢;refine κt 0 ?_ hHeld ?_ ?_;rotate_left
  ·(intro w hSw;go_simp<;>with_reducible rfl)
  try simp only[Act.put,αs,αz,αc]
  refine κt 2 ?_ hHeld ?_ ?_;rotate_left
  ·(intro w hSw;go_simp<;>with_reducible rfl)
  try simp only[Act.put,αs,αz,αc]
  refine κt 1 ?_ hHeld ?_ ?_;rotate_left
  ·(intro w hSw;have hc:=(hSw.block _ (A2 H10.out) (by simp)).trans H10.out;have m0:=A4 hc 0;have m1:=A4 hc 1;go_simp<;>with_reducible rfl)
  try simp only[Act.put,αs,αz,αc]
  refine κt 3 ?_ hHeld ?_ ?_;rotate_left
  ·(intro w hSw;have hc:=(hSw.block _ (A2 H10.out) (by simp)).trans H10.out;have m0:=A4 hc 0;have m1:=A4 hc 1;go_simp<;>with_reducible rfl)
  try simp only[Act.put,αs,αz,αc]
  refine A3 (rs:=[4,6]) (by kernel_rfl) (by simp) (A5.cons (A5.one rfl (λ K hK=>?_)) (A5.one rfl (λ K hK=>?_)))
  ·go_simp;go_at_call 206
   (with_reducible refine(HCL.out _ hHeld).mono ?_)
   rintro e w4 ⟨a4,c4,rfl,hk4,hu4⟩;have HK4:=η hk4;clear hk4;go_wp2_with fail
   have hS4:=hHeld.trans hu4;refine hK.out _ _ (λ _=>hS4) ?_;clear hK K hu4;try simp only[Act.put,αs,αz,αc]
   refine κt 5 ?_ hS4 ?_ ?_;rotate_left
   ·(intro w hSw;go_simp<;>with_reducible rfl)
   try simp only[Act.put,αs,αz,αc]
   refine κr 6 (λ K hK=>?_);go_simp;refine hK.out _ _ (λ _=>hS4.alloc _) ?_;clear hK K;try simp only[Act.put,αs,αz,αc]
   refine κr 7 (λ K hK=>?_);go_simp;refine hK.out _ _ (λ _=>hS4.alloc _) ?_;clear hK K;try simp only[Act.put,αs,αz,αc]
   refine B1 (by kernel_rfl) ?_ _;go_wp2_with fail
   go_meet
   exact⟨_,a4,c4,rfl,hS4.size,A6 _,HK4.out.below ((Upd.refl _ _).alloc _),hS4.alloc _⟩
  ·go_simp;refine hK.out _ _ (λ _=>hHeld.alloc _) ?_;clear hK K;obtain⟨w3,hw3⟩:∃x,x=wd.alloc (.cells #[.int .i64 0,.slice none 0 0,.slice none 0 0,.slice none 0 0] 220):=⟨_,rfl⟩;obtain⟨b14,hb14⟩:∃x,x=wd.heap.size:=⟨_,rfl⟩;have hc14:=A6 (w:=wd) (.cells #[.int .i64 0,.slice none 0 0,.slice none 0 0,.slice none 0 0] 220);rw[← hw3,← hb14] at hc14 ⊢;have hS3:Upd [] wA w3:=by rw[hw3];exact hHeld.alloc _
   have HB14:Hid (wA.heap.size<=b14):=η (by rw[hb14];exact hHeld.size);clear hw3 hb14;try simp only[Act.put,αs,αz,αc]
   refine κr 4 (λ K hK=>?_);go_simp;go_at_call 206
   (with_reducible refine(HCL.out _ hS3).mono ?_)
   rintro e w4 ⟨a4,c4,rfl,hk4,hu4⟩;have HK4:=η hk4;clear hk4;go_wp2_with fail
   have hS4:=hS3.trans hu4;have h14:=(hu4.block _ (A2 hc14) (by simp)).trans hc14;have st:=C7 h14 (l:=[.int .i64 1,.slice a4 k1.length c4,.slice none 0 0,.slice none 0 0]) rfl (by simp;exact⟨rfl,rfl,rfl⟩);clear hu4;refine hK.out _ _ (λ _=>hS4) ?_;clear hK K;try simp only[Act.put,αs,αz,αc]
   refine κt 5 ?_ hS4 ?_ ?_;rotate_left
   ·(intro w hSw;go_simp<;>with_reducible rfl)
   try simp only[Act.put,αs,αz,αc]
   refine κr 7 (λ K hK=>?_);go_simp;refine hK.out _ _ (λ _=>hS4.late (D5 (S:=[b14]) (Upd.refl _ _) _ (.inl (by simp))) (λ k hk=> .inr (by simp at hk;subst hk;exact HB14.out))) ?_;clear hK K;try simp only[Act.put,αs,αz,αc]
   refine B1 (by kernel_rfl) ?_ _;go_wp2_with fail
   go_meet
   exact⟨b14,a4,c4,rfl,HB14.out,setRow_heap _ _ _ _ _ _ h14,C3.node _ _ _ _ HK4.out h14 (D5 (Upd.refl _ _) _ (.inl (by simp))),hS4.late (D5 (S:=[b14]) (Upd.refl _ _) _ (.inl (by simp))) (λ k hk=> .inr (by simp at hk;subst hk;exact HB14.out))⟩
 case rest=>
  obtain⟨b14,a4,c4,rfl,hB14,hc14,hk4,hu4⟩:=hcut;obtain⟨w4,rfl⟩:∃x,x=wc:=⟨_,rfl⟩;obtain⟨nK,hnK⟩:∃n,K.length=n:=⟨_,rfl⟩;obtain⟨nR,hnR⟩:∃n,V.length=n:=⟨_,rfl⟩;have HNK:=η hnK;have HNR:=η hnR;clear hnK hnR;have HB14:=η hB14;have H14:=η hc14;have HK4:=η hk4;have HU4:=η hu4;clear hB14 hc14 hk4;have x10:=(hu4.block _ (A2 H10.out) (by simp)).trans H10.out;have x11:=(hu4.block _ (A2 H11.out) (by simp)).trans H11.out;have m0:=A4 x10 0;have m11:=A4 x11 1;clear hu4 x10 x11;skip
  skip
  have h149:=H14.out;have hu9:=HU4.out;have hk9:=HK4.out;have m1:=A4 h149 1;have hk9o:w4.ownsRow wA.heap.size 35 32 (.slice a4 k1.length c4) k1.length ((k1).map bts).flatten:=by
   have:=hk9;unfold C3 at this;rw[show(k1).length=k1.length from by simp] at this;exact this
  obtain⟨a11,c11,w11,S11,hrun11,hown11,hu11,hS11⟩:=V0 (T:=216) Tryz.underlying216 Aa8 rfl (by decide) (by decide) hk9o (by have:=HOK.out.2.1.most;omega) hu9.size (ad:=⟨p2,0,none⟩) (m:=k2.length) (c:=q2) (by have:=HOK.out.2.2.most;omega) (by have:=HP0.out.2;omega) (k2.map bts).flatten (by rw[M5 (M9 (n:=32) HOK.out.2.2.k),List.length_map]) (Ab9 (HK2.out.below hu9) HP0.out.2) (V6 k2);have ht11:Y2 wA.heap.size 35 w4 w11:=⟨S11,hu11,hS11⟩;have hS11':Upd [] wA w11:=ht11.upd hu9 (Nat.le_refl _);have h1411:=ht11.blk h149 (.inl (by decide));have hnk:(k1).length+k2.length=nK:=by rw[← HNK.out,← HKE.out];simp
  have hnk':k1.length+k2.length=nK:=by exact hnk
  have hk11:C3 w11 wA.heap.size (.slice a11 nK c11) K:=by
   have:=Bb1 (k1:=k1) (k2:=k2) hown11 (by simp);rw[hnk'] at this;rw[← HKE.out];simpa using this
  rw[hnk'] at hrun11;have st11:=D9 h1411 1 (v:=.slice a11 nK c11) (by simp) rfl;clear hown11 hu11 hS11 ht11 h149 hu9 hk9 hk9o hnk hnk';go_wp2_with (first | (at_builtin;refine B4 rfl _ _ _ rfl rfl rfl hrun11 ?_))
  obtain⟨w12,hw12⟩:∃x,x=w11.setCell ⟨b14,1,none⟩ (.slice a11 nK c11):=⟨_,rfl⟩;rw[← hw12];have hst12:Upd [b14] w11 w12:=by rw[hw12];exact(Upd.refl [b14] w11).set (.slice a11 nK c11) (b:=b14) (o:=1) (.inl (by simp))
  have H1412:Hid (w12.heap[b14]?=some (.cells #[.int .i64 1,.slice a11 nK c11,.slice none 0 0,.slice none 0 0] 220 (0,0))):=by show w12.heap[b14]?=_;rw[hw12];exact B3 h1411 1 _
  have HU12:Hid (Upd [] wA w12):=η (hS11'.late hst12 (λ k hk=> .inr (by simp at hk;subst hk;exact HB14.out)));have HK12:=η (C3.node _ _ _ _ hk11 h1411 hst12);clear hw12 hst12 hk11 h1411 hS11' st11 hrun11 m0 m1 m11;have HCAT:Hid (∀w' b,Upd [] wA w'->w'.heap[b]?=some (.cells #[.slice (some ⟨r1,0,none⟩) v1.length e1,.slice (some ⟨r2,0,none⟩) v2.length e2] 217 (0,0))->Calls Tryz.prog 230 #[.slice (some ⟨b,0,none⟩) 2 2] w' λ e w''=>∃a c,e=.returned (.slice a nR c)/\F7 w'' wA.heap.size (.slice a nR c) V/\Upd [] w' w''):=by
   show ∀w' b,_
   intro w' b hu hb;have o1:=HOK.out.2.1;have o2:=HOK.out.2.2;have z1:=HP0.out.1;have z2:=HP0.out.2;have n1:=o1.n;have n2:=o2.n;have y1:=o1.most;have y2:=o2.most;refine(Cs8 hb (by omega) (by omega) (by omega) (x1:=(v1.map bts).flatten) (x2:=(v2.map bts).flatten) (by rw[M5 (M9 (n:=16) o1.v),List.length_map]) (by rw[M5 (M9 (n:=16) o2.v),List.length_map]) (Ab9 (HR1.out.below hu) (by omega)) (Ab9 (HR2.out.below hu) (by omega)) (V6 _) (V6 _)).mono λ e w'' hp=>?_;obtain⟨a,c,e1,h1,h2⟩:=hp;have hl:v1.length+v2.length=nR:=by rw[← HNR.out,← HRE.out,List.length_append]
   rw[hl] at e1 h1;refine⟨a,c,e1,?_,h2⟩;unfold F7;rw[HNR.out,← HRE.out,List.map_append,List.flatten_append];exact L3 h1 hu.size
  have bV:=Ba9;have bD:=Bb0;go_upto_region 7 with(fail)
  go_cut [] (λ wz=>∃a13 c13,wz.heap[b14]?=some (.cells #[.int .i64 1,.slice a11 nK c11,.slice a13 nR c13,.slice none 0 0] 220 (0,0))/\F7 wz wA.heap.size (.slice a13 nR c13) V/\C3 wz wA.heap.size (.slice a11 nK c11) K/\Upd [] wA wz)
  case first=>
   refine B6 (λ w'=>Upd [] w12 w') [13] (by kernel_rfl) (Upd.refl _ _).drew (λ hHeld=>?_);generalize w12.drew=w0 at hHeld ⊢;refine κt 0 ?_ hHeld ?_ ?_;rotate_left
   ·(intro w hSw;go_simp<;>with_reducible rfl)
   try simp only[Act.put,αs,αz,αc]
   refine κt 2 ?_ hHeld ?_ ?_;rotate_left
   ·(intro w hSw;go_simp<;>with_reducible rfl)
   try simp only[Act.put,αs,αz,αc]
   refine κt 6 ?_ hHeld ?_ ?_;rotate_left
   ·(intro w hSw;go_simp<;>with_reducible rfl)
   try simp only[Act.put,αs,αz,αc]
   refine κt 8 ?_ hHeld ?_ ?_;rotate_left
   ·(intro w hSw;go_simp<;>with_reducible rfl)
   try simp only[Act.put,αs,αz,αc]
   refine κt 1 ?_ hHeld ?_ ?_;rotate_left
   ·(intro w hSw;have hc:=((HU12.out.trans hSw).block _ (A2 H10.out) (by simp)).trans H10.out;have mm:=A4 hc 2;go_simp<;>with_reducible rfl)
   try simp only[Act.put,αs,αz,αc]
   refine κt 3 ?_ hHeld ?_ ?_;rotate_left
   ·(intro w hSw;have hc:=((HU12.out.trans hSw).block _ (A2 H11.out) (by simp)).trans H11.out;have mm:=A4 hc 2;go_simp<;>with_reducible rfl)
   try simp only[Act.put,αs,αz,αc]
   refine κt 7 ?_ hHeld ?_ ?_;rotate_left
   ·(intro w hSw;have hc:=((HU12.out.trans hSw).block _ (A2 H10.out) (by simp)).trans H10.out;have mm:=A4 hc 3;go_simp<;>with_reducible rfl)
   try simp only[Act.put,αs,αz,αc]
   refine κt 9 ?_ hHeld ?_ ?_;rotate_left
   ·(intro w hSw;have hc:=((HU12.out.trans hSw).block _ (A2 H11.out) (by simp)).trans H11.out;have mm:=A4 hc 3;go_simp<;>with_reducible rfl)
   try simp only[Act.put,αs,αz,αc]
   refine A3 (rs:=[4,10]) (by kernel_rfl) (by simp) (A5.cons (A5.one rfl (λ K hK=>?_)) (A5.one rfl (λ K hK=>?_)))
   ·go_simp;refine hK.out _ _ (λ _=>hHeld.alloc _) ?_;clear hK K;obtain⟨wa,hwwa⟩:∃x,x=w0.alloc (.cells #[.slice (some ⟨r1,0,none⟩) v1.length e1,.slice (some ⟨r2,0,none⟩) v2.length e2] 217):=⟨_,rfl⟩;obtain⟨ba,hbba⟩:∃x,x=w0.heap.size:=⟨_,rfl⟩;have hcba:=A6 (w:=w0) (.cells #[.slice (some ⟨r1,0,none⟩) v1.length e1,.slice (some ⟨r2,0,none⟩) v2.length e2] 217);rw[← hwwa,← hbba] at hcba ⊢;have hSwa:Upd [] w12 wa:=by rw[hwwa];exact hHeld.alloc _
    have hvwa:Upd [] w0 wa:=by rw[hwwa];exact(Upd.refl [] _).alloc _
    clear hwwa hbba;try simp only[Act.put,αs,αz,αc]
    refine A3 (rs:=[5,10]) (by kernel_rfl) (by simp) (A5.cons (A5.one rfl (λ K hK=>?_)) (A5.one rfl (λ K hK=>?_)))
    ·go_simp;go_at_call 230
     (with_reducible refine(HCAT.out _ _ (HU12.out.trans hSwa) hcba).mono ?_)
     rintro e wb ⟨a13,c13,rfl,hr13,hvwb⟩;have HR13:=η hr13;clear hr13;go_wp2_with fail
     have hSwb:=hSwa.trans hvwb;refine hK.out _ _ (λ _=>hSwb) ?_;clear hK K;try simp only[Act.put,αs,αz,αc]
     refine κt 12 ?_ hSwb ?_ ?_;rotate_left
     ·(intro w hSw;go_simp<;>with_reducible rfl)
     try simp only[Act.put,αs,αz,αc]
     refine κr 10 (λ K hK=>?_);go_simp;refine hK.out _ _ (λ _=>hSwb.alloc _) ?_;clear hK K;obtain⟨we,hwwe⟩:∃x,x=wb.alloc (.cells #[.slice none 0 0,.slice none 0 0] 218):=⟨_,rfl⟩;obtain⟨be,hbbe⟩:∃x,x=wb.heap.size:=⟨_,rfl⟩;have hcbe:=A6 (w:=wb) (.cells #[.slice none 0 0,.slice none 0 0] 218);rw[← hwwe,← hbbe] at hcbe ⊢;have hSwe:Upd [] w12 we:=by rw[hwwe];exact hSwb.alloc _
     have hvwe:Upd [] wb we:=by rw[hwwe];exact(Upd.refl [] _).alloc _
     clear hwwe hbbe;try simp only[Act.put,αs,αz,αc]
     refine κr 11 (λ K hK=>?_);go_simp;go_at_call 231
     (with_reducible refine(Ci2 hcbe).mono ?_)
     rintro e wf ⟨rfl,hvwf⟩;go_wp2_with fail
     have hSwf:=hSwe.trans hvwf;refine hK.out _ _ (λ _=>hSwf) ?_;clear hK K;try simp only[Act.put,αs,αz,αc]
     have hz14:=(hSwf.block _ (A2 H1412.out) (by simp)).trans H1412.out;have st1:=D9 hz14 2 (v:=.slice a13 nR c13) (by simp) rfl;have st2:=D9 (B3 hz14 2 (.slice a13 nR c13)) 3 (v:=.slice none 0 0) (by simp) rfl;have hr13:=((HR13.out.below hvwe).below hvwf);refine κr 13 (λ K hK=>?_);go_simp;refine hK.out _ _ (B9 (by kernel_rfl)) ?_;clear hK K;try simp only[Act.put,αs,αz,αc]
     refine E0 (by kernel_rfl) ?_;refine κt 14 ?_ trivial ?_ ?_;rotate_left
     ·(intro w hSw;go_simp<;>with_reducible rfl)
     try simp only[Act.put,αs,αz,αc]
     refine κr 15 (λ K hK=>?_);go_simp;refine hK.out _ _ (λ _=>trivial) ?_;clear hK K;try simp only[Act.put,αs,αz,αc]
     refine B1 (by kernel_rfl) ?_ _;go_wp2_with fail
     go_meet
     have hb:=B3 (B3 hz14 2 (.slice a13 nR c13)) 3 (.slice none 0 0);have hst:Upd [b14] wf _:=((Upd.refl [b14] wf).set (.slice a13 nR c13) (b:=b14) (o:=2) (.inl (by simp))).set (.slice none 0 0) (b:=b14) (o:=3) (.inl (by simp));exact⟨a13,c13,hb,F7.node _ _ _ _ hr13 hz14 hst,C3.node _ _ _ _ (HK12.out.below hSwf) hz14 hst,(HU12.out.trans hSwf).late hst (λ k hk=> .inr (by simp at hk;subst hk;exact HB14.out))⟩
    ·go_simp;refine hK.out _ _ (λ _=>hSwa.alloc _) ?_;clear hK K;obtain⟨wb,hwwb⟩:∃x,x=wa.alloc (.cells #[.slice none 0 0,.slice none 0 0] 218):=⟨_,rfl⟩;obtain⟨be,hbbe⟩:∃x,x=wa.heap.size:=⟨_,rfl⟩;have hcbe:=A6 (w:=wa) (.cells #[.slice none 0 0,.slice none 0 0] 218);rw[← hwwb,← hbbe] at hcbe ⊢;have hSwb:Upd [] w12 wb:=by rw[hwwb];exact hSwa.alloc _
     have hvwb:Upd [] wa wb:=by rw[hwwb];exact(Upd.refl [] _).alloc _
     clear hwwb hbbe;try simp only[Act.put,αs,αz,αc]
     have hcba2:=(hvwb.block _ (A2 hcba) (by simp)).trans hcba;refine κr 5 (λ K hK=>?_);go_simp;go_at_call 230
     (with_reducible refine(HCAT.out _ _ (HU12.out.trans hSwb) hcba2).mono ?_)
     rintro e we ⟨a13,c13,rfl,hr13,hvwe⟩;have HR13:=η hr13;clear hr13;go_wp2_with fail
     have hSwe:=hSwb.trans hvwe;refine hK.out _ _ (λ _=>hSwe) ?_;clear hK K;try simp only[Act.put,αs,αz,αc]
     refine κt 12 ?_ hSwe ?_ ?_;rotate_left
     ·(intro w hSw;go_simp<;>with_reducible rfl)
     try simp only[Act.put,αs,αz,αc]
     have hcbe2:=(hvwe.block _ (A2 hcbe) (by simp)).trans hcbe;refine κr 11 (λ K hK=>?_);go_simp;go_at_call 231
     (with_reducible refine(Ci2 hcbe2).mono ?_)
     rintro e wf ⟨rfl,hvwf⟩;go_wp2_with fail
     have hSwf:=hSwe.trans hvwf;refine hK.out _ _ (λ _=>hSwf) ?_;clear hK K;try simp only[Act.put,αs,αz,αc]
     have hz14:=(hSwf.block _ (A2 H1412.out) (by simp)).trans H1412.out;have st1:=D9 hz14 2 (v:=.slice a13 nR c13) (by simp) rfl;have st2:=D9 (B3 hz14 2 (.slice a13 nR c13)) 3 (v:=.slice none 0 0) (by simp) rfl;have hr13:=(HR13.out.below hvwf);refine κr 13 (λ K hK=>?_);go_simp;refine hK.out _ _ (B9 (by kernel_rfl)) ?_;clear hK K;try simp only[Act.put,αs,αz,αc]
     refine E0 (by kernel_rfl) ?_;refine κt 14 ?_ trivial ?_ ?_;rotate_left
     ·(intro w hSw;go_simp<;>with_reducible rfl)
     try simp only[Act.put,αs,αz,αc]
     refine κr 15 (λ K hK=>?_);go_simp;refine hK.out _ _ (λ _=>trivial) ?_;clear hK K;try simp only[Act.put,αs,αz,αc]
     refine B1 (by kernel_rfl) ?_ _;go_wp2_with fail
     go_meet
     have hb:=B3 (B3 hz14 2 (.slice a13 nR c13)) 3 (.slice none 0 0);have hst:Upd [b14] wf _:=((Upd.refl [b14] wf).set (.slice a13 nR c13) (b:=b14) (o:=2) (.inl (by simp))).set (.slice none 0 0) (b:=b14) (o:=3) (.inl (by simp));exact⟨a13,c13,hb,F7.node _ _ _ _ hr13 hz14 hst,C3.node _ _ _ _ (HK12.out.below hSwf) hz14 hst,(HU12.out.trans hSwf).late hst (λ k hk=> .inr (by simp at hk;subst hk;exact HB14.out))⟩
   ·go_simp;refine hK.out _ _ (λ _=>hHeld.alloc _) ?_;clear hK K;obtain⟨wa,hwwa⟩:∃x,x=w0.alloc (.cells #[.slice none 0 0,.slice none 0 0] 218):=⟨_,rfl⟩;obtain⟨be,hbbe⟩:∃x,x=w0.heap.size:=⟨_,rfl⟩;have hcbe:=A6 (w:=w0) (.cells #[.slice none 0 0,.slice none 0 0] 218);rw[← hwwa,← hbbe] at hcbe ⊢;have hSwa:Upd [] w12 wa:=by rw[hwwa];exact hHeld.alloc _
    have hvwa:Upd [] w0 wa:=by rw[hwwa];exact(Upd.refl [] _).alloc _
    clear hwwa hbbe;try simp only[Act.put,αs,αz,αc]
    refine κr 4 (λ K hK=>?_);go_simp;refine hK.out _ _ (λ _=>hSwa.alloc _) ?_;clear hK K;obtain⟨wb,hwwb⟩:∃x,x=wa.alloc (.cells #[.slice (some ⟨r1,0,none⟩) v1.length e1,.slice (some ⟨r2,0,none⟩) v2.length e2] 217):=⟨_,rfl⟩;obtain⟨ba,hbba⟩:∃x,x=wa.heap.size:=⟨_,rfl⟩;have hcba:=A6 (w:=wa) (.cells #[.slice (some ⟨r1,0,none⟩) v1.length e1,.slice (some ⟨r2,0,none⟩) v2.length e2] 217);rw[← hwwb,← hbba] at hcba ⊢;have hSwb:Upd [] w12 wb:=by rw[hwwb];exact hSwa.alloc _
    have hvwb:Upd [] wa wb:=by rw[hwwb];exact(Upd.refl [] _).alloc _
    clear hwwb hbba;try simp only[Act.put,αs,αz,αc]
    refine κr 5 (λ K hK=>?_);go_simp;go_at_call 230
    (with_reducible refine(HCAT.out _ _ (HU12.out.trans hSwb) hcba).mono ?_)
    rintro e we ⟨a13,c13,rfl,hr13,hvwe⟩;have HR13:=η hr13;clear hr13;go_wp2_with fail
    have hSwe:=hSwb.trans hvwe;refine hK.out _ _ (λ _=>hSwe) ?_;clear hK K;try simp only[Act.put,αs,αz,αc]
    refine κt 12 ?_ hSwe ?_ ?_;rotate_left
    ·(intro w hSw;go_simp<;>with_reducible rfl)
    try simp only[Act.put,αs,αz,αc]
    have hcbe2:=((hvwb.trans hvwe).block _ (A2 hcbe) (by simp)).trans hcbe;refine κr 11 (λ K hK=>?_);go_simp;go_at_call 231
    (with_reducible refine(Ci2 hcbe2).mono ?_)
    rintro e wf ⟨rfl,hvwf⟩;go_wp2_with fail
    have hSwf:=hSwe.trans hvwf;refine hK.out _ _ (λ _=>hSwf) ?_;clear hK K;try simp only[Act.put,αs,αz,αc]
    have hz14:=(hSwf.block _ (A2 H1412.out) (by simp)).trans H1412.out;have st1:=D9 hz14 2 (v:=.slice a13 nR c13) (by simp) rfl;have st2:=D9 (B3 hz14 2 (.slice a13 nR c13)) 3 (v:=.slice none 0 0) (by simp) rfl;have hr13:=(HR13.out.below hvwf);refine κr 13 (λ K hK=>?_);go_simp;refine hK.out _ _ (B9 (by kernel_rfl)) ?_;clear hK K;try simp only[Act.put,αs,αz,αc]
    refine E0 (by kernel_rfl) ?_;refine κt 14 ?_ trivial ?_ ?_;rotate_left
    ·(intro w hSw;go_simp<;>with_reducible rfl)
    try simp only[Act.put,αs,αz,αc]
    refine κr 15 (λ K hK=>?_);go_simp;refine hK.out _ _ (λ _=>trivial) ?_;clear hK K;try simp only[Act.put,αs,αz,αc]
    refine B1 (by kernel_rfl) ?_ _;go_wp2_with fail
    go_meet
    have hb:=B3 (B3 hz14 2 (.slice a13 nR c13)) 3 (.slice none 0 0);have hst:Upd [b14] wf _:=((Upd.refl [b14] wf).set (.slice a13 nR c13) (b:=b14) (o:=2) (.inl (by simp))).set (.slice none 0 0) (b:=b14) (o:=3) (.inl (by simp));exact⟨a13,c13,hb,F7.node _ _ _ _ hr13 hz14 hst,C3.node _ _ _ _ (HK12.out.below hSwf) hz14 hst,(HU12.out.trans hSwf).late hst (λ k hk=> .inr (by simp at hk;subst hk;exact HB14.out))⟩
  case rest=>
   obtain⟨a13,c13,hc14,hr13,hk13,hu13⟩:=hcut;obtain⟨w20,rfl⟩:∃x,x=wc:=⟨_,rfl⟩;have HNN:Hid (nR=nK):=by show nR=_;rw[← HNR.out,← HNK.out,← HKE.out,← HRE.out];simp[HOK.out.2.1.n,HOK.out.2.2.n]
   have HKL:Hid (∀x,x∈K->x.length=32):=by
    show ∀x,_
    intro x hx;rw[← HKE.out] at hx;simp only[List.mem_append,List.mem_cons] at hx;rcases hx with q | q
    ·exact HOK.out.2.1.k x q
    ·exact HOK.out.2.2.k x q
   have HRL:Hid (∀x,x∈V->x.length=16):=by
    show ∀x,_
    intro x hx;rw[← HRE.out] at hx;rcases List.mem_append.1 hx with q | q
    ·exact HOK.out.2.1.v x q
    ·exact HOK.out.2.2.v x q
   have HA20:=η (HA.out.below hu13);have HKx20:=η (HKx.out.below hu13);have HDx20:=η (HDx.out.below hu13);have H6c:=η ((hu13.block _ (A2 H6.out) (by simp)).trans H6.out);have H10c:=η ((hu13.block _ (A2 H10.out) (by simp)).trans H10.out);have H11c:=η ((hu13.block _ (A2 H11.out) (by simp)).trans H11.out);have H12c:=η ((hu13.block _ (A2 H12.out) (by simp)).trans H12.out);have H14c:=η hc14;have HR20:=η hr13;have HK20:=η hk13;have HU20:=η (HUA.out.trans hu13);have HG:Hid (b6∉g.S/\b10∉g.S/\b11∉g.S/\b12∉g.S/\b14∉g.S):=η ⟨HA20.out.other9 H6c.out (.inr (.inl rfl)),HA20.out.other9 H10c.out (.inr (.inl rfl)),HA20.out.other9 H11c.out (.inr (.inl rfl)),HA20.out.other9 H12c.out (.inr (.inl rfl)),HA20.out.other9 H14c.out (.inr (.inl rfl))⟩;have HGX:Hid (gk∉g.S/\gd∉g.S):=η ⟨I7 HA20.out HKx20.out (.inr (.inr (.inl rfl))) _ _ _ rfl,I7 HA20.out HDx20.out (.inr (.inr (.inr (.inr rfl)))) _ _ _ rfl⟩;have HBB:Hid (B<=gk/\B<=gd/\w.heap.size<=b6/\w.heap.size<=b10/\w.heap.size<=b11/\w.heap.size<=b12):=by
    show _/\_
    refine⟨(Ae5 HKx20.out _ _ _ rfl).2,(Ae5 HDx20.out _ _ _ rfl).2,?_⟩;obtain⟨e6,e10,e11,e12⟩:=HBw.out;omega
   have m1:=A4 H14c.out 1;have m0:=A4 H10c.out 0;obtain⟨iA,hiA⟩:∃n,n=i+1:=⟨_,rfl⟩;obtain⟨iB,hiB⟩:∃n,n=i+2:=⟨_,rfl⟩;have hdl:ds.length=ks.length+1:=HOK.out.1.n;have hkm:ks.length<=13:=HOK.out.1.most;have j1:(0:Int)<=(i:Int):=by omega
   have j2:(i:Int)<(ds.length:Int):=by omega
   have j3:(0:Int)<=(iA:Int):=by omega
   have j4:(iA:Int)<(ds.length:Int):=by omega
   have j5:i<ds.length:=by omega
   have j6:iA<ds.length:=by omega
   have HWI:=η (And.intro (Bi9 hiA (by omega)) (Bx1 hiB (by omega)));have HI1:=η (And.intro hiA hiB);have HDL:=η (And.intro hdl hkm);clear hc14 hr13 hk13 hu13 hiA hiB hdl hkm;by_cases hm:nK<=10
   ·have dm:decide ((nK:Int)<=10)=true:=decide_eq_true (by omega);have HND:Hid (L7 g.S w20 1 (.slice a11 nK c11) (.slice a13 nR c13) (.slice none 0 0) (C8 K V)):=by
     show L7 _ _ _ _ _ _ _
     exact Ci3 HA20.out HK20.out HR20.out ⟨HKL.out,HRL.out,by rw[HNR.out,HNK.out,HNN.out],by rw[HNK.out];exact hm⟩
    have HWR:Hid (∀w',Upd [] w20 w'->Calls Tryz.prog 127 #[.agg #[.int .i64 1,.slice a11 nK c11,.slice a13 nR c13,.slice none 0 0],.pointer (some ⟨g.x.tb,0,none⟩),.int .u32 (s1:Int)] w' λ e w''=>e=.returned (.int .i64 0)/\B7 w'' g (F1 M s1 (C8 K V))/\Upd [g.x.wb] w' w''):=by
     show ∀w',_
     exact λ w' hu=>N6 (HA20.out.below hu) (HND.out.below hu) s1 hs1h (by omega) (.inr (by have:=HMM.out.2;omega))
    have HM:=η hm;clear hm;go_wp2_with fail
    refine B6 (λ w'=>Upd [] w20 w') [7] (by kernel_rfl) (Upd.refl _ _).drew (λ hHeld=>?_);generalize w20.drew=w0 at hHeld ⊢;refine κt 1 ?_ hHeld ?_ ?_;rotate_left
    ·(intro w hSw;go_simp<;>with_reducible rfl)
    try simp only[Act.put,αs,αz,αc]
    refine κt 2 ?_ hHeld ?_ ?_;rotate_left
    ·(intro w hSw;go_simp<;>with_reducible rfl)
    try simp only[Act.put,αs,αz,αc]
    refine κt 4 ?_ hHeld ?_ ?_;rotate_left
    ·(intro w hSw;go_simp<;>with_reducible rfl)
    try simp only[Act.put,αs,αz,αc]
    refine κt 0 ?_ hHeld ?_ ?_;rotate_left
    ·(intro w hSw;have hc:=(hSw.block _ (A2 H14c.out) (by simp)).trans H14c.out;have l0:=A7 (n:=4) (cs:=[.int .i64 1,.slice a11 nK c11,.slice a13 nR c13,.slice none 0 0]) hc rfl;go_simp<;>with_reducible rfl)
    try simp only[Act.put,αs,αz,αc]
    refine κt 3 ?_ hHeld ?_ ?_;rotate_left
    ·(intro w hSw;have hc:=(hSw.block _ (A2 H6c.out) (by simp)).trans H6c.out;have mm:=A4 hc 3;go_simp<;>with_reducible rfl)
    try simp only[Act.put,αs,αz,αc]
    refine κt 5 ?_ hHeld ?_ ?_;rotate_left
    ·(intro w hSw;go_simp<;>with_reducible rfl)
    try simp only[Act.put,αs,αz,αc]
    refine κt 6 ?_ hHeld ?_ ?_;rotate_left
    ·(intro w hSw;have mm:=S7 (HDx20.out.below hSw) HSI.out.1;go_simp<;>with_reducible rfl)
    try simp only[Act.put,αs,αz,αc]
    refine κr 7 (λ K hK=>?_);go_simp;go_at_call 127
    (with_reducible refine(HWR.out _ hHeld).mono ?_)
    rintro e w5 ⟨rfl,h5,hu5⟩;go_wp2_with fail
    refine hK.out _ _ (B9 (by kernel_rfl)) ?_;clear hK K;try simp only[Act.put,αs,αz,αc]
    refine E0 (by kernel_rfl) ?_;refine κr 8 (λ K hK=>?_);go_simp;refine hK.out _ _ (λ _=>trivial) ?_;clear hK K;try simp only[Act.put,αs,αz,αc]
    refine B1 (by kernel_rfl) ?_ _;have hu05:Upd g.S w20 w5:=(hHeld.mono (by simp)).trans (hu5.mono g.memw);have H65:=η ((hu05.block _ (A2 H6c.out) HG.out.1).trans H6c.out);have HDx5:Hid (D8 w5 B (.slice (some ⟨gd,0,none⟩) ds.length cd) ds):=η (F5 HDx20.out hu05 (λ a l c e=>by cases e;exact HGX.out.2));have m65:=A4 H65.out 3;have mk5:=S7 HDx5.out HSI.out.2;rw[← HI1.out.1] at mk5;have HWS:=η (Aj9 (s:=s2) (by omega));have HFR:=η (Bb2 h5 hh1 hh2 (by
     have:=HMM.out.2;have hc:=T4 (x:=(C8 K V)) HA20.out.ok hs1h;have h1c:=Ar0 (M:=M) (C8 K V) (show s1≠1 by omega);unfold c1M at h1c this;cases q:(F1 M s1 (C8 K V) 1).isSome
     ·rw[q] at h1c;right;simp at h1c;split at this<;>simp_all<;>omega
     ·left;rfl) s2 hs24 hs2h (by rw[Az8 _ (by omega)];exact HMM.out.1))
    have HU05:=η hu05;clear hu05 h5 hu5 hHeld m0 m1;obtain⟨ws1,ws2⟩:=HWS.out;obtain⟨wi1,wi2⟩:=HWI.out.1;go_wp2_with fail
    clear ws1 ws2 wi1 wi2;refine HFR.out.mono ?_;rintro e w6 ⟨rfl,h6,hu6⟩;have hu06:Upd g.S w20 w6:=HU05.out.trans hu6;have H66:=η ((hu06.block _ (A2 H6c.out) HG.out.1).trans H6c.out);have H126:=η ((hu06.block _ (A2 H12c.out) HG.out.2.2.2.1).trans H12c.out);have HKx6:Hid (C3 w6 B (.slice (some ⟨gk,0,none⟩) ks.length ck) ks):=η (F5 HKx20.out hu06 (λ a l c e=>by cases e;exact HGX.out.1));have HDx6:Hid (D8 w6 B (.slice (some ⟨gd,0,none⟩) ds.length cd) ds):=η (F5 HDx20.out hu06 (λ a l c e=>by cases e;exact HGX.out.2));have HA6:=η h6;have HU6:=η hu06;obtain⟨nk',hnk'⟩:∃n,(ks.eraseIdx i).length=n:=⟨_,rfl⟩;obtain⟨nd',hnd'⟩:∃n,(ds.eraseIdx iA).length=n:=⟨_,rfl⟩;have HDK:=η (λ w' (hu:Upd [] w6 w')=>Ar8 (HKx6.out.below hu) HOK.out.1.k (by have:=HDL.out.2;omega) rfl hi HI1.out.1 hnk');have HDD:=η (λ w' (hu:D8 w' B (.slice (some ⟨gd,0,none⟩) ds.length cd) ds)=>Bf1 hu (by have:=HDL.out;omega) rfl j6 (by have:=HI1.out;omega:iB=iA+1) hnd');have HNk:=η (And.intro hnk' hnd');clear hu06 h6 hu6 hnk' hnd' m65 mk5;go_wp2_with fail
    refine B6 (λ w'=>w'.heap[b6]?=some (.cells #[.int .i64 2,.slice (some ⟨gk,0,none⟩) ks.length ck,.slice none 0 0,.slice (some ⟨gd,0,none⟩) ds.length cd] 220 (0,0))) [14,16] (by kernel_rfl) H66.out (λ hHeld=>?_);refine κt 0 ?_ hHeld ?_ ?_;rotate_left
    ·(intro w hSw;go_simp<;>with_reducible rfl)
    try simp only[Act.put,αs,αz,αc]
    refine κt 2 ?_ hHeld ?_ ?_;rotate_left
    ·(intro w hSw;go_simp<;>with_reducible rfl)
    try simp only[Act.put,αs,αz,αc]
    refine κt 3 ?_ hHeld ?_ ?_;rotate_left
    ·(intro w hSw;go_simp<;>with_reducible rfl)
    try simp only[Act.put,αs,αz,αc]
    refine κt 6 ?_ hHeld ?_ ?_;rotate_left
    ·(intro w hSw;go_simp<;>with_reducible rfl)
    try simp only[Act.put,αs,αz,αc]
    refine κt 8 ?_ hHeld ?_ ?_;rotate_left
    ·(intro w hSw;go_simp<;>with_reducible rfl)
    try simp only[Act.put,αs,αz,αc]
    refine κt 10 ?_ hHeld ?_ ?_;rotate_left
    ·(intro w hSw;go_simp<;>with_reducible rfl)
    try simp only[Act.put,αs,αz,αc]
    refine κt 4 ?_ hHeld ?_ ?_;rotate_left
    ·(intro w hSw;obtain⟨wi1,wi2⟩:=HWI.out.1;have wi3:=HWI.out.2;go_simp<;>with_reducible rfl)
    try simp only[Act.put,αs,αz,αc]
    refine κt 9 ?_ hHeld ?_ ?_;rotate_left
    ·(intro w hSw;obtain⟨wi1,wi2⟩:=HWI.out.1;have wi3:=HWI.out.2;go_simp<;>with_reducible rfl)
    try simp only[Act.put,αs,αz,αc]
    refine κt 11 ?_ hHeld ?_ ?_;rotate_left
    ·(intro w hSw;obtain⟨wi1,wi2⟩:=HWI.out.1;have wi3:=HWI.out.2;go_simp<;>with_reducible rfl)
    try simp only[Act.put,αs,αz,αc]
    refine κt 1 ?_ hHeld ?_ ?_;rotate_left
    ·(intro w hSw;have mm:=A4 hSw 1;go_simp<;>with_reducible rfl)
    try simp only[Act.put,αs,αz,αc]
    refine κt 7 ?_ hHeld ?_ ?_;rotate_left
    ·(intro w hSw;have mm:=A4 hSw 3;go_simp<;>with_reducible rfl)
    try simp only[Act.put,αs,αz,αc]
    refine κr 5 (λ K hK=>?_);go_simp;go_at_call 194
    (with_reducible refine(HDK.out _ (Upd.refl [] _).drew).mono ?_)
    rintro e w8 ⟨cur8,rfl,hk8,hc8,hu8⟩;have n8:b6≠gk:=by rintro rfl;have:=H66.out;rw[show w6.heap[b6]?=_ from hc8] at this;simp at this
    have hc68:=(hu8.block _ (A2 hHeld) (by simpa using n8)).trans hHeld;have hd8:D8 w8 B (.slice (some ⟨gd,0,none⟩) ds.length cd) ds:=B8 (HDx6.out.below (Upd.refl [] _).drew) hu8 (λ k c hk _ e=>by simp at hk;subst hk;rw[hc8] at e;simp at e);go_wp2_with fail
    refine hK.out _ _ (λ _=>hc68) ?_;clear hK K;try simp only[Act.put,αs,αz,αc]
    refine κt 13 ?_ hc68 ?_ ?_;rotate_left
    ·(intro w hSw;go_simp<;>with_reducible rfl)
    try simp only[Act.put,αs,αz,αc]
    refine κr 12 (λ K hK=>?_);go_simp;go_at_call 232
    (with_reducible refine(HDD.out _ hd8).mono ?_)
    rintro e w9 ⟨cur9,rfl,hd9,hc9,hu9⟩;have n9:b6≠gd:=by rintro rfl;rw[hc68] at hc9;simp at hc9
    have hc69:=(hu9.block _ (A2 hc68) (by simpa using n9)).trans hc68;have hk9:C3 w9 B (.slice (some ⟨gk,0,none⟩) nk' ck) (ks.eraseIdx i):=B8 hk8 hu9 (λ k c hk _ e=>by simp at hk;subst hk;rw[hc9] at e;simp at e);have st1:=D9 hc69 1 (v:=.slice (some ⟨gk,0,none⟩) nk' ck) (by simp) rfl;have st2:=D9 (B3 hc69 1 (.slice (some ⟨gk,0,none⟩) nk' ck)) 3 (v:=.slice (some ⟨gd,0,none⟩) nd' cd) (by simp) rfl;go_wp2_with fail
    refine hK.out _ _ (λ _=>hc69) ?_;clear hK K;try simp only[Act.put,αs,αz,αc]
    refine κr 14 (λ K hK=>?_);go_simp;refine hK.out _ _ (B9 (by kernel_rfl)) ?_;clear hK K;try simp only[Act.put,αs,αz,αc]
    refine E0 (by kernel_rfl) ?_;refine κt 15 ?_ trivial ?_ ?_;rotate_left
    ·(intro w hSw;go_simp<;>with_reducible rfl)
    try simp only[Act.put,αs,αz,αc]
    refine κr 16 (λ K hK=>?_);go_simp;refine hK.out _ _ (λ _=>trivial) ?_;clear hK K;try simp only[Act.put,αs,αz,αc]
    refine B1 (by kernel_rfl) ?_ _;obtain⟨w10,hw10⟩:∃x,x=(w9.setCell ⟨b6,1,none⟩ (.slice (some ⟨gk,0,none⟩) nk' ck)).setCell ⟨b6,3,none⟩ (.slice (some ⟨gd,0,none⟩) nd' cd):=⟨_,rfl⟩;rw[← hw10];have hst:Upd [b6] w9 w10:=by rw[hw10];exact((Upd.refl [b6] w9).set (.slice (some ⟨gk,0,none⟩) nk' ck) (b:=b6) (o:=1) (.inl (by simp))).set (.slice (some ⟨gd,0,none⟩) nd' cd) (b:=b6) (o:=3) (.inl (by simp))
    have h610:w10.heap[b6]?=some (.cells #[.int .i64 2,.slice (some ⟨gk,0,none⟩) nk' ck,.slice none 0 0,.slice (some ⟨gd,0,none⟩) nd' cd] 220 (0,0)):=by rw[hw10];exact B3 (B3 hc69 1 _) 3 _
    have HK10:=η (C3.node _ _ _ _ hk9 hc69 hst);have HD10:=η (D8.node _ _ _ _ hd9 hc69 hst);have hA10:=(((HA6.out.below (Upd.refl [] _).drew).turned9 (S:=[gk]) (λ b hb=>by simp at hb;subst hb;exact⟨_,_,_,hc8,.inr (.inr (.inl rfl))⟩) hu8).turned9 (S:=[gd]) (λ b hb=>by simp at hb;subst hb;exact⟨_,_,_,hc9,.inr (.inr (.inr (.inr rfl)))⟩) hu9).turned9 (S:=[b6]) (λ b hb=>by simp at hb;subst hb;exact⟨_,_,_,hc69,.inr (.inl rfl)⟩) hst;have n12:b12≠gk/\b12≠gd/\b12≠b6:=by
     have:=HLT.out;have:=HBB.out;obtain⟨e6,e10,e11,e12⟩:=HBw.out;omega
    have H1210:Hid (w10.heap[b12]?=some (.cells #[.int .i64 0,.slice none 0 0,.slice none 0 0,.slice none 0 0] 220 (0,0))):=η ((hst.block _ (Nat.lt_of_lt_of_le (Nat.lt_of_lt_of_le (A2 H126.out) hu8.size) hu9.size) (by simpa using n12.2.2)).trans ((hu9.block _ (Nat.lt_of_lt_of_le (A2 H126.out) hu8.size) (by simpa using n12.2.1)).trans ((hu8.block _ (A2 H126.out) (by simpa using n12.1)).trans H126.out)));have HUE:Hid (Upd (gk :: gd :: g.S) w w10):=by
     show Upd _ _ _
     have a1:Upd (gk :: gd :: g.S) w w6:=(HU20.out.mono (by simp)).trans (HU6.out.mono (λ k hk=>by simp[hk]));have a2:=(a1.drew.trans (hu8.mono (T:=gk :: gd :: g.S) (by simp))).trans (hu9.mono (T:=gk :: gd :: g.S) (by simp));exact a2.late hst (λ k hk=> .inr (by simp at hk;subst hk;exact HBB.out.2.2.1))
    have HIE:=η (Al8 HOK.out.1 hi);have l610:=A7 (n:=4) (cs:=[.int .i64 2,.slice (some ⟨gk,0,none⟩) nk' ck,.slice none 0 0,.slice (some ⟨gd,0,none⟩) nd' cd]) h610 rfl;have HA10:=η hA10;have HKP:Hid (∀w',Upd [] w10 w'->Calls Tryz.prog 196 #[.pointer (some ⟨g.x.tb,0,none⟩),.int .u32 (at_:Int),.agg #[.int .i64 2,.slice (some ⟨gk,0,none⟩) nk' ck,.slice none 0 0,.slice (some ⟨gd,0,none⟩) nd' cd]] w' λ e w''=>e=.returned (.int .i64 0)/\B7 w'' g (if O9 2<=nk' then F1 (Aa6 g (F1 M s1 (C8 K V)) s2) at_ (B5 (ks.eraseIdx i) (ds.eraseIdx (i+1))) else(Aa6 g (F1 M s1 (C8 K V)) s2))/\Upd [g.x.wb] w' w''):=by
     show ∀w',_
     intro w' hu;refine Ar6 (HA10.out.below hu) (.inr rfl) at_ hat hat2 (λ _=>?_) (λ _=> .inr ?_)
     ·have hd:=HD10.out;rw[HI1.out.1] at hd;exact Bf2 (HA10.out.below hu) (HK10.out.below hu) (hd.below hu) HIE.out
     ·have h1:=HMM.out.2;have h2:=T4 (x:=(C8 K V)) HA20.out.ok hs1h;have h3:=Bi7 (g:=g) (M:=F1 M s1 (C8 K V)) s2 (Ah4 HA20.out.ok hs1h (by exact K6 ⟨HKL.out,HRL.out,by rw[HNR.out,HNK.out,HNN.out],by rw[HNK.out];exact HM.out⟩ (Nat.le_refl _))) hh1;have h4:=Ar0 (M:=M) (C8 K V) (show s1≠1 by omega);omega
    have H610:=η h610;clear hw10 hst h610 hA10 n12 hk8 hc8 hu8 hd8 hc68 hc69 hk9 hd9 hc9 hu9 st1 st2 n8 n9 hHeld;go_wp2_with fail
    refine B6 (λ w'=>w'.heap[b6]?=some (.cells #[.int .i64 2,.slice (some ⟨gk,0,none⟩) nk' ck,.slice none 0 0,.slice (some ⟨gd,0,none⟩) nd' cd] 220 (0,0))) [5] (by kernel_rfl) H610.out (λ hHeld=>?_);have HDR:Hid (Upd [] w10 w10.drew):=η (Upd.refl [] _).drew;refine κt 1 ?_ hHeld ?_ ?_;rotate_left
    ·(intro w hSw;go_simp<;>with_reducible rfl)
    try simp only[Act.put,αs,αz,αc]
    refine κt 2 ?_ hHeld ?_ ?_;rotate_left
    ·(intro w hSw;go_simp<;>with_reducible rfl)
    try simp only[Act.put,αs,αz,αc]
    refine κt 0 ?_ hHeld ?_ ?_;rotate_left
    ·(intro w hSw;have l0:=A7 (n:=4) (cs:=[.int .i64 2,.slice (some ⟨gk,0,none⟩) nk' ck,.slice none 0 0,.slice (some ⟨gd,0,none⟩) nd' cd]) hSw rfl;go_simp<;>with_reducible rfl)
    try simp only[Act.put,αs,αz,αc]
    refine κt 3 ?_ hHeld ?_ ?_;rotate_left
    ·(intro w hSw;have l0:=A7 (n:=4) (cs:=[.int .i64 2,.slice (some ⟨gk,0,none⟩) nk' ck,.slice none 0 0,.slice (some ⟨gd,0,none⟩) nd' cd]) hSw rfl;go_simp<;>with_reducible rfl)
    try simp only[Act.put,αs,αz,αc]
    refine κr 4 (λ K hK=>?_);go_simp;go_at_call 196
    (with_reducible refine(HKP.out _ HDR.out).mono ?_)
    rintro e w11 ⟨rfl,h11,hu11⟩;have h1211:=(hu11.block _ (Nat.lt_of_lt_of_le (A2 H1210.out) HDR.out.size) (Sg.notw HG.out.2.2.2.1)).trans ((HDR.out.block _ (A2 H1210.out) (by simp)).trans H1210.out);have st:=C7 h1211 (l:=[.int .i64 2,.slice (some ⟨gk,0,none⟩) nk' ck,.slice none 0 0,.slice (some ⟨gd,0,none⟩) nd' cd]) rfl (by simp;exact⟨rfl,rfl,rfl,rfl⟩);have h611:=(hu11.block _ (A2 hHeld) (Sg.notw HG.out.1)).trans hHeld;go_wp2_with fail
    refine hK.out _ _ (λ _=>h611) ?_;clear hK K;try simp only[Act.put,αs,αz,αc]
    refine κr 5 (λ K hK=>?_);go_simp;refine hK.out _ _ (B9 (by kernel_rfl)) ?_;clear hK K;try simp only[Act.put,αs,αz,αc]
    refine E0 (by kernel_rfl) ?_;refine κr 6 (λ K hK=>?_);go_simp;refine hK.out _ _ (λ _=>trivial) ?_;clear hK K;try simp only[Act.put,αs,αz,αc]
    refine B1 (by kernel_rfl) ?_ _;obtain⟨w13,hw13⟩:∃x,x=w11.setRow b12 [.int .i64 2,.slice (some ⟨gk,0,none⟩) nk' ck,.slice none 0 0,.slice (some ⟨gd,0,none⟩) nd' cd].toArray:=⟨_,rfl⟩;rw[← hw13];have hst:Upd [b12] w11 w13:=by rw[hw13];exact D5 (Upd.refl _ _) _ (.inl (by simp))
    have h1213:w13.heap[b12]?=some (.cells #[.int .i64 2,.slice (some ⟨gk,0,none⟩) nk' ck,.slice none 0 0,.slice (some ⟨gd,0,none⟩) nd' cd] 220 (0,0)):=by rw[hw13];exact setRow_heap _ _ _ _ _ _ h1211
    have HF:Hid (T0 g M 0 B s1 s2 at_ i ks ds K (V) [] w (.returned (.tuple #[.agg #[.int .i64 2,.slice (some ⟨gk,0,none⟩) nk' ck,.slice none 0 0,.slice (some ⟨gd,0,none⟩) nd' cd],.int .i64 0])) w13):=by
     show T0 _ _ _ _ _ _ _ _ _ _ _ _ _ _ _ _
     obtain⟨e1,e2⟩:=HNk.out;have e3:=HI1.out.1;subst e3;have u1:Upd [g.x.wb] w10 w11:=(HDR.out.mono (by simp)).trans hu11;have hk11:C3 w11 B (.slice (some ⟨gk,0,none⟩) nk' ck) (ks.eraseIdx i):=F5 HK10.out u1 (λ a l c e=>by cases e;exact Sg.notw HGX.out.1);have hd11:D8 w11 B (.slice (some ⟨gd,0,none⟩) nd' cd) (ds.eraseIdx (i+1)):=F5 HD10.out u1 (λ a l c e=>by cases e;exact Sg.notw HGX.out.2);have hk13:=C3.node _ _ _ _ hk11 h1211 hst;have hd13:=D8.node _ _ _ _ hd11 h1211 hst;subst e1 e2;refine⟨_,ck,_,cd,ks.eraseIdx i,ds.eraseIdx (i+1),_,rfl,hk13,hd13,h11.turned9 (S:=[b12]) (λ b hb=>by simp at hb;subst hb;exact⟨_,_,_,h1211,.inr (.inl rfl)⟩) hst,⟨gk :: gd :: g.S,(HUE.out.trans (u1.mono (T:=gk :: gd :: g.S) (λ k hk=>by have:=g.memw k hk;simp[this]))).late hst (λ k hk=> .inr (by simp at hk;subst hk;exact HBB.out.2.2.2.2.2)),λ k hk=>?_⟩,.inl ⟨by rw[HNK.out];exact HM.out,rfl,rfl,rfl⟩⟩;simp only[List.mem_cons] at hk;rcases hk with rfl | rfl | q
     ·exact .inr HBB.out.1
     ·exact .inr HBB.out.2.1
     ·exact .inl q
    clear hw13 hst st h11 hu11 hHeld h1211 l610;go_wp2_with fail
    refine bodyPost_ret (C5 (p:=12) (u:=13) (ty:=220) (by rfl) _ _ b12 _ (by rfl) (run_loadVar_row _ b12 _ _ _ _ _ h1213 Tryz.underlying220 rfl (by kernel_rfl))) (by rfl) ?_;exact HF.out
   ·have hkb:nK<=20:=by rw[← HNK.out,← HKE.out];have:=HOK.out.2.1.most;have:=HOK.out.2.2.most;simp;omega
    obtain⟨hf,hhf⟩:∃n,n=nK / 2:=⟨_,rfl⟩;have hfl:hf<nK:=by omega
    obtain⟨k',hk'⟩:∃k',K[hf]?=some k':=⟨_,List.getElem?_eq_getElem (by rw[HNK.out];exact hfl)⟩;have hk'l:=HKL.out _ (List.mem_of_getElem? hk');have hnn:=HNN.out;obtain⟨gK,cK,eK,hbK,hcK,_,_⟩:=F3 HK20.out (by rw[HNK.out];omega);obtain⟨gR,cR,eR,hbR,hcR,_,_⟩:=F3 HR20.out (by rw[HNR.out];omega);rw[HNK.out] at hcK;rw[HNR.out] at hcR;injection eK with eK1 eK2 eK3;injection eR with eR1 eR2 eR3;clear eK2 eR2;subst eK1 eK3 eR1 eR3;have dm:decide ((nK:Int)<=10)=false:=decide_eq_false (by omega);have dq:Int.tdiv (nK:Int) 2=(hf:Int):=by rw[Int.tdiv_eq_ediv_of_nonneg (by omega)];omega
    have q1:(0:Int)<=(hf:Int):=by omega
    have q2:(hf:Int)<=(c11:Int):=by omega
    have q3:(hf:Int)<=(nK:Int):=by omega
    have q4:hf<=c11:=by omega
    have q5:hf<=nK:=by omega
    have q6:¬(c11=hf):=by omega
    have q7:(hf:Int)<=(c13:Int):=by omega
    have q8:(hf:Int)<=(nR:Int):=by omega
    have q9:hf<=c13:=by omega
    have q10:hf<=nR:=by omega
    have q11:¬(c13=hf):=by omega
    have HOK1:Hid (K5 (K.take hf) (V.take hf)):=by
     show K5 (K.take hf) (V.take hf)
     have a1:=HNK.out;have a2:=HNR.out;exact⟨λ x q=>HKL.out x (List.mem_of_mem_take q),λ x q=>HRL.out x (List.mem_of_mem_take q),by rw[List.length_take,List.length_take,a1,a2];omega,by rw[List.length_take,a1];omega⟩
    have HOK2:Hid (K5 (K.drop hf) (V.drop hf)):=by
     show K5 (K.drop hf) (V.drop hf)
     have a1:=HNK.out;have a2:=HNR.out;exact⟨λ x q=>HKL.out x (List.mem_of_mem_drop q),λ x q=>HRL.out x (List.mem_of_mem_drop q),by rw[List.length_drop,List.length_drop,a1,a2];omega,by rw[List.length_drop,a1];omega⟩
    have HMX:=η (And.intro hm (And.intro hhf (And.intro hkb hk')));have HK'l:=η hk'l;have HBK:=η (And.intro hbK hbR);have bn1:=Ap5;have dw:=(Ah6 (n:=hf) (by omega)).1;clear hm hhf hkb hk' hk'l hbK hbR hnn;go_wp2_with fail
    clear dm dq dw;have hd20:Upd [] w20 w20.drew:=(Upd.refl [] _).drew;have st1:=C7 (w:=w20.drew) H10c.out (l:=[.int .i64 1,.slice (some ⟨gK,0,none⟩) hf c11,.slice none 0 0,.slice none 0 0]) rfl (by simp;exact⟨rfl,rfl,rfl⟩);have h11a:(w20.drew.setRow b10 [.int .i64 1,.slice (some ⟨gK,0,none⟩) hf c11,.slice none 0 0,.slice none 0 0].toArray).heap[b11]?=_:=(setRow_other _ _ _ _ (by have:=HBw.out;omega)).trans H11c.out;have st2:=C7 h11a (l:=[.int .i64 1,.slice none 0 0,.slice none 0 0,.slice none 0 0]) rfl (by simp;exact⟨rfl,rfl⟩);refine B6 (λ w'=>w'.heap[b14]?=some (.cells #[.int .i64 1,.slice (some ⟨gK,0,none⟩) nK c11,.slice (some ⟨gR,0,none⟩) nR c13,.slice none 0 0] 220 (0,0))) [] (by kernel_rfl) H14c.out (λ hHeld=>?_);refine κt 0 ?_ hHeld ?_ ?_;rotate_left
    ·(intro w hSw;go_simp<;>with_reducible rfl)
    try simp only[Act.put,αs,αz,αc]
    refine κt 2 ?_ hHeld ?_ ?_;rotate_left
    ·(intro w hSw;go_simp<;>with_reducible rfl)
    try simp only[Act.put,αs,αz,αc]
    refine κt 4 ?_ hHeld ?_ ?_;rotate_left
    ·(intro w hSw;go_simp<;>with_reducible rfl)
    try simp only[Act.put,αs,αz,αc]
    refine κt 7 ?_ hHeld ?_ ?_;rotate_left
    ·(intro w hSw;go_simp<;>with_reducible rfl)
    try simp only[Act.put,αs,αz,αc]
    refine κt 1 ?_ hHeld ?_ ?_;rotate_left
    ·(intro w hSw;have mm:=A4 hSw 0;go_simp<;>with_reducible rfl)
    try simp only[Act.put,αs,αz,αc]
    refine κt 8 ?_ hHeld ?_ ?_;rotate_left
    ·(intro w hSw;have mm:=A4 hSw 0;go_simp<;>with_reducible rfl)
    try simp only[Act.put,αs,αz,αc]
    refine κt 3 ?_ hHeld ?_ ?_;rotate_left
    ·(intro w hSw;have mm:=A4 hSw 1;go_simp<;>with_reducible rfl)
    try simp only[Act.put,αs,αz,αc]
    refine κt 5 ?_ hHeld ?_ ?_;rotate_left
    ·(intro w hSw;go_simp<;>with_reducible rfl)
    try simp only[Act.put,αs,αz,αc]
    refine κt 6 ?_ hHeld ?_ ?_;rotate_left
    ·(intro w hSw;go_simp<;>with_reducible rfl)
    try simp only[Act.put,αs,αz,αc]
    refine κt 9 ?_ hHeld ?_ ?_;rotate_left
    ·(intro w hSw;go_simp<;>with_reducible rfl)
    try simp only[Act.put,αs,αz,αc]
    have hS1:(w20.drew.setRow b10 [.int .i64 1,.slice (some ⟨gK,0,none⟩) hf c11,.slice none 0 0,.slice none 0 0].toArray).heap[b14]?=_:=(setRow_other _ _ _ _ (by have:=HB14.out;have:=HLT.out;omega)).trans H14c.out;have hS2:((w20.drew.setRow b10 [.int .i64 1,.slice (some ⟨gK,0,none⟩) hf c11,.slice none 0 0,.slice none 0 0].toArray).setRow b11 [.int .i64 1,.slice none 0 0,.slice none 0 0,.slice none 0 0].toArray).heap[b14]?=_:=(setRow_other _ _ _ _ (by have:=HB14.out;have:=HLT.out;omega)).trans hS1;refine κr 10 (λ K hK=>?_);go_simp;refine hK.out _ _ (λ _=>hS1) ?_;clear hK K;try simp only[Act.put,αs,αz,αc]
    refine κr 11 (λ K hK=>?_);go_simp;refine hK.out _ _ (λ _=>hS2) ?_;clear hK K;try simp only[Act.put,αs,αz,αc]
    refine B1 (by kernel_rfl) ?_ _;obtain⟨w23,hw23⟩:∃x,x=(w20.drew.setRow b10 [.int .i64 1,.slice (some ⟨gK,0,none⟩) hf c11,.slice none 0 0,.slice none 0 0].toArray).setRow b11 [.int .i64 1,.slice none 0 0,.slice none 0 0,.slice none 0 0].toArray:=⟨_,rfl⟩;rw[← hw23] at hS2 ⊢;have h10':w23.heap[b10]?=some (.cells #[.int .i64 1,.slice (some ⟨gK,0,none⟩) hf c11,.slice none 0 0,.slice none 0 0] 220 (0,0)):=by rw[hw23];exact(setRow_other _ _ _ _ (by have:=HBw.out;omega)).trans (setRow_heap _ _ _ _ _ _ (show w20.drew.heap[b10]?=_ from H10c.out))
    have h11':w23.heap[b11]?=some (.cells #[.int .i64 1,.slice none 0 0,.slice none 0 0,.slice none 0 0] 220 (0,0)):=by rw[hw23];exact setRow_heap _ _ _ _ _ _ h11a
    have hu23:Upd [b10,b11] w20 w23:=by rw[hw23];exact D5 (D5 (hd20.mono (by simp)) _ (.inl (by simp))) _ (.inl (by simp))
    have H1423:Hid (w23.heap[b14]?=some (.cells #[.int .i64 1,.slice (some ⟨gK,0,none⟩) nK c11,.slice (some ⟨gR,0,none⟩) nR c13,.slice none 0 0] 220 (0,0))):=η hS2;have m0:=A4 hS2 0;clear hw23 st1 st2 h11a hS1 hS2 hHeld hd20 m1;go_wp2_with fail
    obtain⟨w0,hw0⟩:∃x,x=w23.drew:=⟨_,rfl⟩;have HW0:Hid (Upd [] w23 w0):=η (by rw[hw0];exact(Upd.refl [] _).drew);have h10':=(show w0.heap[b10]?=w23.heap[b10]? from by rw[hw0];rfl).trans h10';have h11':=(show w0.heap[b11]?=w23.heap[b11]? from by rw[hw0];rfl).trans h11';have h14':=(show w0.heap[b14]?=w23.heap[b14]? from by rw[hw0];rfl).trans H1423.out;have n1011:b10≠b11/\b14≠b10/\b14≠b11:=by have:=HBw.out;have:=HB14.out;have:=HLT.out;omega
    have u1:Upd [b11] w0 (w0.setCell ⟨b11,1,none⟩ (.slice (some ⟨gK,hf*32,none⟩) (nK-hf) (c11-hf))):=(Upd.refl [b11] _).set (.slice (some ⟨gK,hf*32,none⟩) (nK-hf) (c11-hf)) (b:=b11) (o:=1) (.inl (by simp));have st1:=D9 h11' 1 (v:=.slice (some ⟨gK,hf*32,none⟩) (nK-hf) (c11-hf)) (by simp) rfl;have h10a:(w0.setCell ⟨b11,1,none⟩ (.slice (some ⟨gK,hf*32,none⟩) (nK-hf) (c11-hf))).heap[b10]?=_:=(u1.block _ (A2 h10') (by simpa using n1011.1)).trans h10';have h11a:=B3 h11' 1 (.slice (some ⟨gK,hf*32,none⟩) (nK-hf) (c11-hf));have st2:=D9 h10a 2 (v:=.slice (some ⟨gR,0,none⟩) hf c13) (by simp) rfl;have u2:Upd [b10] (w0.setCell ⟨b11,1,none⟩ (.slice (some ⟨gK,hf*32,none⟩) (nK-hf) (c11-hf))) ((w0.setCell ⟨b11,1,none⟩ (.slice (some ⟨gK,hf*32,none⟩) (nK-hf) (c11-hf))).setCell ⟨b10,2,none⟩ (.slice (some ⟨gR,0,none⟩) hf c13)):=(Upd.refl [b10] _).set (.slice (some ⟨gR,0,none⟩) hf c13) (b:=b10) (o:=2) (.inl (by simp));have h11b:=(u2.block _ (A2 h11a) (by simpa using n1011.1.symm)).trans h11a;have h10b:=B3 h10a 2 (.slice (some ⟨gR,0,none⟩) hf c13);have st3:=D9 h11b 2 (v:=.slice (some ⟨gR,hf*16,none⟩) (nR-hf) (c13-hf)) (by simp) rfl;refine B6 (λ w'=>w'.heap[b14]?=some (.cells #[.int .i64 1,.slice (some ⟨gK,0,none⟩) nK c11,.slice (some ⟨gR,0,none⟩) nR c13,.slice none 0 0] 220 (0,0))) [] (by kernel_rfl) H1423.out (λ hHeld=>?_);rw[← hw0] at hHeld ⊢;clear hw0;have hS1:=(u1.block _ (A2 hHeld) (by simpa using n1011.2.2)).trans hHeld;have hS2:=(u2.block _ (A2 hS1) (by simpa using n1011.2.1)).trans hS1;have u3:Upd [b11] ((w0.setCell ⟨b11,1,none⟩ (.slice (some ⟨gK,hf*32,none⟩) (nK-hf) (c11-hf))).setCell ⟨b10,2,none⟩ (.slice (some ⟨gR,0,none⟩) hf c13)) (((w0.setCell ⟨b11,1,none⟩ (.slice (some ⟨gK,hf*32,none⟩) (nK-hf) (c11-hf))).setCell ⟨b10,2,none⟩ (.slice (some ⟨gR,0,none⟩) hf c13)).setCell ⟨b11,2,none⟩ (.slice (some ⟨gR,hf*16,none⟩) (nR-hf) (c13-hf))):=(Upd.refl [b11] _).set (.slice (some ⟨gR,hf*16,none⟩) (nR-hf) (c13-hf)) (b:=b11) (o:=2) (.inl (by simp))
    have hS3:=(u3.block _ (A2 hS2) (by simpa using n1011.2.2)).trans hS2;have U1:=η u1;have U2:=η u2;have U3:=η u3;clear u1 u2 u3;refine κt 0 ?_ hHeld ?_ ?_;rotate_left
    ·(intro w hSw;go_simp<;>with_reducible rfl)
    try simp only[Act.put,αs,αz,αc]
    refine κt 4 ?_ hHeld ?_ ?_;rotate_left
    ·(intro w hSw;go_simp<;>with_reducible rfl)
    try simp only[Act.put,αs,αz,αc]
    refine κt 8 ?_ hHeld ?_ ?_;rotate_left
    ·(intro w hSw;go_simp<;>with_reducible rfl)
    try simp only[Act.put,αs,αz,αc]
    refine κt 2 ?_ hHeld ?_ ?_;rotate_left
    ·(intro w hSw;go_simp<;>with_reducible rfl)
    try simp only[Act.put,αs,αz,αc]
    refine κt 6 ?_ hHeld ?_ ?_;rotate_left
    ·(intro w hSw;go_simp<;>with_reducible rfl)
    try simp only[Act.put,αs,αz,αc]
    refine κt 10 ?_ hHeld ?_ ?_;rotate_left
    ·(intro w hSw;go_simp<;>with_reducible rfl)
    try simp only[Act.put,αs,αz,αc]
    refine κt 1 ?_ hHeld ?_ ?_;rotate_left
    ·(intro w hSw;have mm:=A4 hSw 1;go_simp<;>with_reducible rfl)
    try simp only[Act.put,αs,αz,αc]
    refine κt 5 ?_ hHeld ?_ ?_;rotate_left
    ·(intro w hSw;have mm:=A4 hSw 2;go_simp<;>with_reducible rfl)
    try simp only[Act.put,αs,αz,αc]
    refine κt 9 ?_ hHeld ?_ ?_;rotate_left
    ·(intro w hSw;have mm:=A4 hSw 2;go_simp<;>with_reducible rfl)
    try simp only[Act.put,αs,αz,αc]
    refine κt 3 ?_ hHeld ?_ ?_;rotate_left
    ·(intro w hSw;go_simp<;>with_reducible rfl)
    try simp only[Act.put,αs,αz,αc]
    refine κt 7 ?_ hHeld ?_ ?_;rotate_left
    ·(intro w hSw;go_simp<;>with_reducible rfl)
    try simp only[Act.put,αs,αz,αc]
    refine κt 11 ?_ hHeld ?_ ?_;rotate_left
    ·(intro w hSw;go_simp<;>with_reducible rfl)
    try simp only[Act.put,αs,αz,αc]
    refine κt 12 ?_ hHeld ?_ ?_;rotate_left
    ·(intro w hSw;go_simp<;>with_reducible rfl)
    try simp only[Act.put,αs,αz,αc]
    refine κr 13 (λ K hK=>?_);go_simp;refine hK.out _ _ (λ _=>hS1) ?_;clear hK K;try simp only[Act.put,αs,αz,αc]
    refine κt 14 ?_ hS1 ?_ ?_;rotate_left
    ·(intro w hSw;go_simp<;>with_reducible rfl)
    try simp only[Act.put,αs,αz,αc]
    refine κr 15 (λ K hK=>?_);go_simp;refine hK.out _ _ (λ _=>hS2) ?_;clear hK K;try simp only[Act.put,αs,αz,αc]
    refine κt 16 ?_ hS2 ?_ ?_;rotate_left
    ·(intro w hSw;go_simp<;>with_reducible rfl)
    try simp only[Act.put,αs,αz,αc]
    refine κr 17 (λ K hK=>?_);go_simp;refine hK.out _ _ (λ _=>hS3) ?_;clear hK K;try simp only[Act.put,αs,αz,αc]
    refine B1 (by kernel_rfl) ?_ _;obtain⟨w24,hw24⟩:∃x,x=((w0.setCell ⟨b11,1,none⟩ (.slice (some ⟨gK,hf*32,none⟩) (nK-hf) (c11-hf))).setCell ⟨b10,2,none⟩ (.slice (some ⟨gR,0,none⟩) hf c13)).setCell ⟨b11,2,none⟩ (.slice (some ⟨gR,hf*16,none⟩) (nR-hf) (c13-hf)):=⟨_,rfl⟩;have u3:=U3.out;have h11c:=B3 h11b 2 (.slice (some ⟨gR,hf*16,none⟩) (nR-hf) (c13-hf));rw[← hw24] at hS3 h11c u3 ⊢;have h10c:=(u3.block _ (A2 h10b) (by simpa using n1011.1)).trans h10b;have hu24:Upd [b10,b11] w20 w24:=((((hu23.trans (HW0.out.mono (by simp))).trans (U1.out.mono (T:=[b10,b11]) (by simp))).trans (U2.out.mono (T:=[b10,b11]) (by simp))).trans (u3.mono (T:=[b10,b11]) (by simp)));have H1424:Hid (w24.heap[b14]?=some (.cells #[.int .i64 1,.slice (some ⟨gK,0,none⟩) nK c11,.slice (some ⟨gR,0,none⟩) nR c13,.slice none 0 0] 220 (0,0))):=η hS3;have H1024:Hid (w24.heap[b10]?=some (.cells #[.int .i64 1,.slice (some ⟨gK,0,none⟩) hf c11,.slice (some ⟨gR,0,none⟩) hf c13,.slice none 0 0] 220 (0,0))):=η h10c;have H1124:Hid (w24.heap[b11]?=some (.cells #[.int .i64 1,.slice (some ⟨gK,hf*32,none⟩) (nK-hf) (c11-hf),.slice (some ⟨gR,hf*16,none⟩) (nR-hf) (c13-hf),.slice none 0 0] 220 (0,0))):=η h11c;clear hw24 hS3 h11c h10c u3 U1 U2 U3 st1 st2 st3 h10a h11a h10b h11b hS1 hS2 hHeld h10' h11' hu23 m0;have nb6:b6∉[b10,b11]/\b12∉[b10,b11]/\gk∉[b10,b11]/\gd∉[b10,b11]/\gK∉[b10,b11]/\gR∉[b10,b11]:=by
     have:=HBw.out;have:=HLT.out;have:=HBK.out;simp only[List.mem_cons,List.not_mem_nil,or_false,not_or];omega
    have H624:=η ((hu24.block _ (A2 H6c.out) nb6.1).trans H6c.out);have H1224:=η ((hu24.block _ (A2 H12c.out) nb6.2.1).trans H12c.out);have HKx24:Hid (C3 w24 B (.slice (some ⟨gk,0,none⟩) ks.length ck) ks):=η (F5 HKx20.out hu24 (λ a l c e=>by cases e;exact nb6.2.2.1));have HDx24:Hid (D8 w24 B (.slice (some ⟨gd,0,none⟩) ds.length cd) ds):=η (F5 HDx20.out hu24 (λ a l c e=>by cases e;exact nb6.2.2.2.1));have HK24:Hid (C3 w24 wA.heap.size (.slice (some ⟨gK,0,none⟩) nK c11) K):=η (F5 HK20.out hu24 (λ a l c e=>by cases e;exact nb6.2.2.2.2.1));have HR24:Hid (F7 w24 wA.heap.size (.slice (some ⟨gR,0,none⟩) nR c13) V):=η (F5 HR20.out hu24 (λ a l c e=>by cases e;exact nb6.2.2.2.2.2));have hA24:=HA20.out.turned9 (S:=[b10,b11]) (λ b hb=>by simp at hb;rcases hb with rfl | rfl;exact⟨_,_,_,H10c.out,.inr (.inl rfl)⟩;exact⟨_,_,_,H11c.out,.inr (.inl rfl)⟩) hu24;have HA24:=η hA24;have HU24:Hid (Upd [] w w24):=η (HU20.out.late hu24 (λ k hk=> .inr (by have:=HBB.out;simp at hk;omega)));obtain⟨cur25,r25,hc25,hst25,hk25⟩:=Bp8 (HKx24.out.below (Upd.refl [] _).drew) HOK.out.1.k rfl hi HK'l.out;have i1:(0:Int)<=(i:Int):=by omega
    have i2:(i:Int)<(ks.length:Int):=by omega
    have i3:(hf:Int)<(nK:Int):=by omega
    have i4:hf<nK:=by omega
    clear hu24 hA24 nb6;go_wp2_with fail
    refine B6 (λ w'=>Upd [] w24 w') [9] (by kernel_rfl) (Upd.refl _ _).drew (λ hHeld=>?_);refine κt 0 ?_ hHeld ?_ ?_;rotate_left
    ·(intro w hSw;go_simp<;>with_reducible rfl)
    try simp only[Act.put,αs,αz,αc]
    refine κt 3 ?_ hHeld ?_ ?_;rotate_left
    ·(intro w hSw;go_simp<;>with_reducible rfl)
    try simp only[Act.put,αs,αz,αc]
    refine κt 2 ?_ hHeld ?_ ?_;rotate_left
    ·(intro w hSw;go_simp<;>with_reducible rfl)
    try simp only[Act.put,αs,αz,αc]
    refine κt 5 ?_ hHeld ?_ ?_;rotate_left
    ·(intro w hSw;go_simp<;>with_reducible rfl)
    try simp only[Act.put,αs,αz,αc]
    refine κt 1 ?_ hHeld ?_ ?_;rotate_left
    ·(intro w hSw;have hc:=(hSw.block _ (A2 H624.out) (by simp)).trans H624.out;have mm:=A4 hc 1;go_simp<;>with_reducible rfl)
    try simp only[Act.put,αs,αz,αc]
    refine κt 4 ?_ hHeld ?_ ?_;rotate_left
    ·(intro w hSw;have hc:=(hSw.block _ (A2 H1424.out) (by simp)).trans H1424.out;have mm:=A4 hc 1;go_simp<;>with_reducible rfl)
    try simp only[Act.put,αs,αz,αc]
    refine κt 6 ?_ hHeld ?_ ?_;rotate_left
    ·(intro w hSw;go_simp<;>with_reducible rfl)
    try simp only[Act.put,αs,αz,αc]
    refine κt 7 ?_ hHeld ?_ ?_;rotate_left
    ·(intro w hSw;have l0:=Ar7 (HK24.out.below hSw) HKL.out HMX.out.2.2.2;go_simp<;>with_reducible rfl)
    try simp only[Act.put,αs,αz,αc]
    refine κt 8 ?_ hHeld ?_ ?_;rotate_left
    ·(intro w hSw;go_simp<;>with_reducible rfl)
    try simp only[Act.put,αs,αz,αc]
    have hk'l:=HK'l.out;refine κr 9 (λ K hK=>?_);go_simp;refine hK.out _ _ (B9 (by kernel_rfl)) ?_;clear hK K;try simp only[Act.put,αs,αz,αc]
    refine B1 (by kernel_rfl) ?_ _;clear hk'l;obtain⟨w25,hw25⟩:∃x,x=w24.drew.setRow gk r25:=⟨_,rfl⟩;rw[← hw25] at hk25 ⊢;have hu25:Upd [gk] w24 w25:=by rw[hw25];exact D5 (Upd.refl _ _).drew _ (.inl (by simp))
    have ng:gd≠gk/\gK≠gk/\b6≠gk/\b10≠gk/\b11≠gk/\b12≠gk:=by
     have a1:=HBw.out;have a2:=HLT.out;have a3:=HBK.out;refine⟨?_,by omega,by omega,by omega,by omega,by omega⟩;rintro rfl;have a4:=HDx24.out.2;rcases a4 with⟨e,_⟩ | ⟨g',c',cur',e,_,hg',_⟩
     ·cases e
     ·cases e
      rw[show w24.heap[gd]?=_ from hc25] at hg';simp at hg'
    have H625:=η ((hu25.block _ (A2 H624.out) (by simpa using ng.2.2.1)).trans H624.out);have H1025:=η ((hu25.block _ (A2 H1024.out) (by simpa using ng.2.2.2.1)).trans H1024.out);have H1125:=η ((hu25.block _ (A2 H1124.out) (by simpa using ng.2.2.2.2.1)).trans H1124.out);have H1225:=η ((hu25.block _ (A2 H1224.out) (by simpa using ng.2.2.2.2.2)).trans H1224.out);have HKx25:=η hk25;have HDx25:Hid (D8 w25 B (.slice (some ⟨gd,0,none⟩) ds.length cd) ds):=η (F5 HDx24.out hu25 (λ a l c e=>by cases e;simpa using ng.1));have HK25:Hid (C3 w25 wA.heap.size (.slice (some ⟨gK,0,none⟩) nK c11) K):=η (F5 HK24.out hu25 (λ a l c e=>by cases e;simpa using ng.2.1));have HR25:Hid (F7 w25 wA.heap.size (.slice (some ⟨gR,0,none⟩) nR c13) V):=η (F5 HR24.out hu25 (λ a l c e=>by cases e;have:=HLT.out;have:=HBK.out;have:=HBw.out;simp;omega));have hA25:=HA24.out.turned9 (S:=[gk]) (λ b hb=>by simp at hb;subst hb;exact⟨_,_,_,hc25,.inr (.inr (.inl rfl))⟩) hu25;have HA25:=η hA25;have HU25:Hid (Upd (gk :: g.S) w w25):=η ((HU24.out.mono (by simp)).trans (hu25.mono (T:=gk :: g.S) (by simp)));have HNO:Hid (gK∉g.S/\gR∉g.S):=η ⟨I7 hA25 HK25.out (.inr (.inr (.inl rfl))) _ _ _ rfl,I7 hA25 HR25.out (.inr (.inr (.inr (.inl rfl)))) _ _ _ rfl⟩;clear hw25 hu25 ng hA25 hHeld hst25 hc25 hk25;have HYZ:Hid (L7 g.S w25 1 (.slice (some ⟨gK,0,none⟩) hf c11) (.slice (some ⟨gR,0,none⟩) hf c13) (.slice none 0 0) ((C8 (K.take hf) (V.take hf)))/\L7 g.S w25 1 (.slice (some ⟨gK,hf*32,none⟩) (nK-hf) (c11-hf)) (.slice (some ⟨gR,hf*16,none⟩) (nR-hf) (c13-hf)) (.slice none 0 0) ((C8 (K.drop hf) (V.drop hf)))):=by
     show _/\_
     have rk1:RRd w25 (.slice (some ⟨gK,0,none⟩) hf c11) 32 ((K.take hf).map bts):=by rw[List.map_take];exact(C3.rd HK25.out HKL.out).take (by rw[List.length_map,HNK.out];omega)
     have rk2:RRd w25 (.slice (some ⟨gK,hf*32,none⟩) (nK-hf) (c11-hf)) 32 ((K.drop hf).map bts):=by rw[List.map_drop];have:=HK25.out;unfold C3 at this;rw[HNK.out] at this;exact RRd.from this (by rw[List.length_map,HNK.out]) (M9 HKL.out) (by omega)
     have rr1:RRd w25 (.slice (some ⟨gR,0,none⟩) hf c13) 16 ((V.take hf).map bts):=by rw[List.map_take];exact(F7.rd HR25.out HRL.out).take (by rw[List.length_map,HNR.out];omega)
     have rr2:RRd w25 (.slice (some ⟨gR,hf*16,none⟩) (nR-hf) (c13-hf)) 16 ((V.drop hf).map bts):=by rw[List.map_drop];have:=HR25.out;unfold F7 at this;rw[HNR.out] at this;exact RRd.from this (by rw[List.length_map,HNR.out]) (M9 HRL.out) (by omega)
     exact⟨⟨(λ a l c e=>by cases e;exact HNO.out.1),(λ a l c e=>by cases e;exact HNO.out.2),(λ a l c e=>by cases e),.inl ⟨_,_,rfl,rk1,rr1,HOK1.out,rfl⟩⟩,⟨(λ a l c e=>by cases e;exact HNO.out.1),(λ a l c e=>by cases e;exact HNO.out.2),(λ a l c e=>by cases e),.inl ⟨_,_,rfl,rk2,rr2,HOK2.out,rfl⟩⟩⟩
    have HWY:Hid (∀w',Upd [] w25 w'->Calls Tryz.prog 127 #[.agg #[.int .i64 1,.slice (some ⟨gK,0,none⟩) hf c11,.slice (some ⟨gR,0,none⟩) hf c13,.slice none 0 0],.pointer (some ⟨g.x.tb,0,none⟩),.int .u32 (s1:Int)] w' λ e w''=>e=.returned (.int .i64 0)/\B7 w'' g (F1 (M) s1 (C8 (K.take hf) (V.take hf)))/\Upd [g.x.wb] w' w''):=by
     show ∀w',_
     exact λ w' hu=>N6 (HA25.out.below hu) (HYZ.out.1.below hu) s1 (by omega) (by omega) (.inr (by have:=HMM.out.2;omega))
    go_wp2_with fail
    refine B6 (λ w'=>Upd [] w25 w') [7] (by kernel_rfl) (Upd.refl _ _).drew (λ hHeld=>?_);refine κt 1 ?_ hHeld ?_ ?_;rotate_left
    ·(intro w hSw;go_simp<;>with_reducible rfl)
    try simp only[Act.put,αs,αz,αc]
    refine κt 2 ?_ hHeld ?_ ?_;rotate_left
    ·(intro w hSw;go_simp<;>with_reducible rfl)
    try simp only[Act.put,αs,αz,αc]
    refine κt 4 ?_ hHeld ?_ ?_;rotate_left
    ·(intro w hSw;go_simp<;>with_reducible rfl)
    try simp only[Act.put,αs,αz,αc]
    refine κt 0 ?_ hHeld ?_ ?_;rotate_left
    ·(intro w hSw;have hc:=(hSw.block _ (A2 H1025.out) (by simp)).trans H1025.out;have l0:=A7 (n:=4) (cs:=[.int .i64 1,.slice (some ⟨gK,0,none⟩) hf c11,.slice (some ⟨gR,0,none⟩) hf c13,.slice none 0 0]) hc rfl;go_simp<;>with_reducible rfl)
    try simp only[Act.put,αs,αz,αc]
    refine κt 3 ?_ hHeld ?_ ?_;rotate_left
    ·(intro w hSw;have hc:=(hSw.block _ (A2 H625.out) (by simp)).trans H625.out;have mm:=A4 hc 3;go_simp<;>with_reducible rfl)
    try simp only[Act.put,αs,αz,αc]
    refine κt 5 ?_ hHeld ?_ ?_;rotate_left
    ·(intro w hSw;go_simp<;>with_reducible rfl)
    try simp only[Act.put,αs,αz,αc]
    refine κt 6 ?_ hHeld ?_ ?_;rotate_left
    ·(intro w hSw;have mm:=S7 (HDx25.out.below hSw) HSI.out.1;go_simp<;>with_reducible rfl)
    try simp only[Act.put,αs,αz,αc]
    refine κr 7 (λ K hK=>?_);go_simp;go_at_call 127
    (with_reducible refine(HWY.out _ hHeld).mono ?_)
    rintro e w26 ⟨rfl,h26,hu26⟩;go_wp2_with fail
    refine hK.out _ _ (B9 (by kernel_rfl)) ?_;clear hK K;try simp only[Act.put,αs,αz,αc]
    refine E0 (by kernel_rfl) ?_;refine κr 8 (λ K hK=>?_);go_simp;refine hK.out _ _ (λ _=>trivial) ?_;clear hK K;try simp only[Act.put,αs,αz,αc]
    refine B1 (by kernel_rfl) ?_ _;have hu256:Upd [g.x.wb] w25 w26:=(hHeld.mono (by simp)).trans hu26;have H626:=η ((hu256.block _ (A2 H625.out) (Sg.notw HG.out.1)).trans H625.out);have H1126:=η ((hu256.block _ (A2 H1125.out) (Sg.notw HG.out.2.2.1)).trans H1125.out);have H1226:=η ((hu256.block _ (A2 H1225.out) (Sg.notw HG.out.2.2.2.1)).trans H1225.out);have HKx26:Hid (C3 w26 B (.slice (some ⟨gk,0,none⟩) ks.length ck) (ks.set i k')):=η (F5 HKx25.out hu256 (λ a l c e=>by cases e;exact Sg.notw HGX.out.1));have HDx26:Hid (D8 w26 B (.slice (some ⟨gd,0,none⟩) ds.length cd) ds):=η (F5 HDx25.out hu256 (λ a l c e=>by cases e;exact Sg.notw HGX.out.2));have HZ26:=η (HYZ.out.2.keep (hu256.mono g.memw));have HA26:=η h26;have HU26:Hid (Upd (gk :: g.S) w w26):=η (HU25.out.trans (hu256.mono (T:=gk :: g.S) (λ k hk=>by have:=g.memw k hk;simp[this])));clear hu26 h26 hHeld;clear hu256;have HWZ:Hid (∀w',Upd [] w26 w'->Calls Tryz.prog 127 #[.agg #[.int .i64 1,.slice (some ⟨gK,hf*32,none⟩) (nK-hf) (c11-hf),.slice (some ⟨gR,hf*16,none⟩) (nR-hf) (c13-hf),.slice none 0 0],.pointer (some ⟨g.x.tb,0,none⟩),.int .u32 (s2:Int)] w' λ e w''=>e=.returned (.int .i64 0)/\B7 w'' g (F1 (F1 (M) s1 (C8 (K.take hf) (V.take hf))) s2 (C8 (K.drop hf) (V.drop hf)))/\Upd [g.x.wb] w' w''):=by
     show ∀w',_
     exact λ w' hu=>N6 (HA26.out.below hu) (HZ26.out.below hu) s2 (by omega) (by omega) (.inr (by have h1:=HMM.out.2;have h2:=T4 (x:=(C8 (K.take hf) (V.take hf))) HA20.out.ok hs1h;omega))
    go_wp2_with fail
    refine B6 (λ w'=>Upd [] w26 w') [8] (by kernel_rfl) (Upd.refl _ _).drew (λ hHeld=>?_);refine κt 1 ?_ hHeld ?_ ?_;rotate_left
    ·(intro w hSw;go_simp<;>with_reducible rfl)
    try simp only[Act.put,αs,αz,αc]
    refine κt 2 ?_ hHeld ?_ ?_;rotate_left
    ·(intro w hSw;go_simp<;>with_reducible rfl)
    try simp only[Act.put,αs,αz,αc]
    refine κt 4 ?_ hHeld ?_ ?_;rotate_left
    ·(intro w hSw;go_simp<;>with_reducible rfl)
    try simp only[Act.put,αs,αz,αc]
    refine κt 5 ?_ hHeld ?_ ?_;rotate_left
    ·(intro w hSw;obtain⟨wi1,wi2⟩:=HWI.out.1;go_simp<;>with_reducible rfl)
    try simp only[Act.put,αs,αz,αc]
    refine κt 0 ?_ hHeld ?_ ?_;rotate_left
    ·(intro w hSw;have hc:=(hSw.block _ (A2 H1126.out) (by simp)).trans H1126.out;have l0:=A7 (n:=4) (cs:=[.int .i64 1,.slice (some ⟨gK,hf*32,none⟩) (nK-hf) (c11-hf),.slice (some ⟨gR,hf*16,none⟩) (nR-hf) (c13-hf),.slice none 0 0]) hc rfl;go_simp<;>with_reducible rfl)
    try simp only[Act.put,αs,αz,αc]
    refine κt 3 ?_ hHeld ?_ ?_;rotate_left
    ·(intro w hSw;have hc:=(hSw.block _ (A2 H626.out) (by simp)).trans H626.out;have mm:=A4 hc 3;go_simp<;>with_reducible rfl)
    try simp only[Act.put,αs,αz,αc]
    refine κt 6 ?_ hHeld ?_ ?_;rotate_left
    ·(intro w hSw;go_simp<;>with_reducible rfl)
    try simp only[Act.put,αs,αz,αc]
    refine κt 7 ?_ hHeld ?_ ?_;rotate_left
    ·(intro w hSw;have mm:=S7 (HDx26.out.below hSw) HSI.out.2;rw[← HI1.out.1] at mm;go_simp<;>with_reducible rfl)
    try simp only[Act.put,αs,αz,αc]
    refine κr 8 (λ K hK=>?_);go_simp;go_at_call 127
    (with_reducible refine(HWZ.out _ hHeld).mono ?_)
    rintro e w29 ⟨rfl,h29,hu29⟩;go_wp2_with fail
    refine hK.out _ _ (B9 (by kernel_rfl)) ?_;clear hK K;try simp only[Act.put,αs,αz,αc]
    refine E0 (by kernel_rfl) ?_;refine κr 9 (λ K hK=>?_);go_simp;refine hK.out _ _ (λ _=>trivial) ?_;clear hK K;try simp only[Act.put,αs,αz,αc]
    refine B1 (by kernel_rfl) ?_ _;have hu269:Upd [g.x.wb] w26 w29:=(hHeld.mono (by simp)).trans hu29;have H629:=η ((hu269.block _ (A2 H626.out) (Sg.notw HG.out.1)).trans H626.out);have H1229:=η ((hu269.block _ (A2 H1226.out) (Sg.notw HG.out.2.2.2.1)).trans H1226.out);have HKx29:Hid (C3 w29 B (.slice (some ⟨gk,0,none⟩) ks.length ck) (ks.set i k')):=η (F5 HKx26.out hu269 (λ a l c e=>by cases e;exact Sg.notw HGX.out.1));have HDx29:Hid (D8 w29 B (.slice (some ⟨gd,0,none⟩) ds.length cd) ds):=η (F5 HDx26.out hu269 (λ a l c e=>by cases e;exact Sg.notw HGX.out.2));have HA29:=η h29;have HU29:Hid (Upd (gk :: g.S) w w29):=η (HU26.out.trans (hu269.mono (T:=gk :: g.S) (λ k hk=>by have:=g.memw k hk;simp[this])));clear hu29 h29 hHeld;clear hu269;have HIS:Hid (G0 (ks.set i k') ds):=by
     show G0 _ _
     refine⟨λ x q=>?_,HOK.out.1.d,by rw[List.length_set];exact HOK.out.1.n,by rw[List.length_set];exact HOK.out.1.most⟩;rcases List.mem_or_eq_of_mem_set q with q | rfl
     ·exact HOK.out.1.k x q
     ·exact HK'l.out
    have HXR:Hid (L7 g.S w29 2 (.slice (some ⟨gk,0,none⟩) ks.length ck) (.slice none 0 0) (.slice (some ⟨gd,0,none⟩) ds.length cd) (B5 (ks.set i k') ds)):=η (Bf2 HA29.out HKx29.out HDx29.out HIS.out);have hnx:=hat;have hnx2:=hat2;have HWX:Hid (∀w',Upd [] w29 w'->Calls Tryz.prog 127 #[.agg #[.int .i64 2,.slice (some ⟨gk,0,none⟩) ks.length ck,.slice none 0 0,.slice (some ⟨gd,0,none⟩) ds.length cd],.pointer (some ⟨g.x.tb,0,none⟩),.int .u32 (at_:Int)] w' λ e w''=>e=.returned (.int .i64 0)/\B7 w'' g (F1 (F1 (F1 (M) s1 (C8 (K.take hf) (V.take hf))) s2 (C8 (K.drop hf) (V.drop hf))) at_ (B5 (ks.set i k') ds))/\Upd [g.x.wb] w' w''):=by
     show ∀w',_
     exact λ w' hu=>N6 (HA29.out.below hu) (HXR.out.below hu) at_ (by omega) (by omega) (.inr (by have h1:=HMM.out.2;have h2:=T4 (x:=(C8 (K.take hf) (V.take hf))) HA20.out.ok hs1h;have h3:=T4 (x:=(C8 (K.drop hf) (V.drop hf))) HA26.out.ok hs2h;omega))
    go_wp2_with fail
    refine B6 (λ w'=>w'.heap[b6]?=some (.cells #[.int .i64 2,.slice (some ⟨gk,0,none⟩) ks.length ck,.slice none 0 0,.slice (some ⟨gd,0,none⟩) ds.length cd] 220 (0,0))) [5] (by kernel_rfl) H629.out (λ hHeld=>?_);have HDR:Hid (Upd [] w29 w29.drew):=η (Upd.refl [] _).drew;refine κt 2 ?_ hHeld ?_ ?_;rotate_left
    ·(intro w hSw;go_simp<;>with_reducible rfl)
    try simp only[Act.put,αs,αz,αc]
    refine κt 3 ?_ hHeld ?_ ?_;rotate_left
    ·(intro w hSw;go_simp<;>with_reducible rfl)
    try simp only[Act.put,αs,αz,αc]
    refine κt 0 ?_ hHeld ?_ ?_;rotate_left
    ·(intro w hSw;have l0:=A7 (n:=4) (cs:=[.int .i64 2,.slice (some ⟨gk,0,none⟩) ks.length ck,.slice none 0 0,.slice (some ⟨gd,0,none⟩) ds.length cd]) hSw rfl;go_simp<;>with_reducible rfl)
    try simp only[Act.put,αs,αz,αc]
    refine κt 1 ?_ hHeld ?_ ?_;rotate_left
    ·(intro w hSw;have l0:=A7 (n:=4) (cs:=[.int .i64 2,.slice (some ⟨gk,0,none⟩) ks.length ck,.slice none 0 0,.slice (some ⟨gd,0,none⟩) ds.length cd]) hSw rfl;go_simp<;>with_reducible rfl)
    try simp only[Act.put,αs,αz,αc]
    refine κr 4 (λ K hK=>?_);go_simp;go_at_call 127
    (with_reducible refine(HWX.out _ HDR.out).mono ?_)
    rintro e w11 ⟨rfl,h11,hu11⟩;have h1211:=(hu11.block _ (Nat.lt_of_lt_of_le (A2 H1229.out) HDR.out.size) (Sg.notw HG.out.2.2.2.1)).trans ((HDR.out.block _ (A2 H1229.out) (by simp)).trans H1229.out);have st:=C7 h1211 (l:=[.int .i64 2,.slice (some ⟨gk,0,none⟩) ks.length ck,.slice none 0 0,.slice (some ⟨gd,0,none⟩) ds.length cd]) rfl (by simp;exact⟨rfl,rfl,rfl,rfl⟩);have h611:=(hu11.block _ (A2 hHeld) (Sg.notw HG.out.1)).trans hHeld;go_wp2_with fail
    refine hK.out _ _ (λ _=>h611) ?_;clear hK K;try simp only[Act.put,αs,αz,αc]
    refine κr 5 (λ K hK=>?_);go_simp;refine hK.out _ _ (B9 (by kernel_rfl)) ?_;clear hK K;try simp only[Act.put,αs,αz,αc]
    refine E0 (by kernel_rfl) ?_;refine κr 6 (λ K hK=>?_);go_simp;refine hK.out _ _ (λ _=>trivial) ?_;clear hK K;try simp only[Act.put,αs,αz,αc]
    refine B1 (by kernel_rfl) ?_ _;obtain⟨w13,hw13⟩:∃x,x=w11.setRow b12 [.int .i64 2,.slice (some ⟨gk,0,none⟩) ks.length ck,.slice none 0 0,.slice (some ⟨gd,0,none⟩) ds.length cd].toArray:=⟨_,rfl⟩;rw[← hw13];have hst:Upd [b12] w11 w13:=by rw[hw13];exact D5 (Upd.refl _ _) _ (.inl (by simp))
    have h1213:w13.heap[b12]?=some (.cells #[.int .i64 2,.slice (some ⟨gk,0,none⟩) ks.length ck,.slice none 0 0,.slice (some ⟨gd,0,none⟩) ds.length cd] 220 (0,0)):=by rw[hw13];exact setRow_heap _ _ _ _ _ _ h1211
    have HF:Hid (T0 g M 0 B s1 s2 at_ i ks ds K (V) [] w (.returned (.tuple #[.agg #[.int .i64 2,.slice (some ⟨gk,0,none⟩) ks.length ck,.slice none 0 0,.slice (some ⟨gd,0,none⟩) ds.length cd],.int .i64 0])) w13):=by
     show T0 _ _ _ _ _ _ _ _ _ _ _ _ _ _ _ _
     have u1:Upd [g.x.wb] w29 w11:=(HDR.out.mono (by simp)).trans hu11;have hk11:C3 w11 B (.slice (some ⟨gk,0,none⟩) ks.length ck) (ks.set i k'):=F5 HKx29.out u1 (λ a l c e=>by cases e;exact Sg.notw HGX.out.1);have hd11:D8 w11 B (.slice (some ⟨gd,0,none⟩) ds.length cd) ds:=F5 HDx29.out u1 (λ a l c e=>by cases e;exact Sg.notw HGX.out.2);have hk13:=C3.node _ _ _ _ hk11 h1211 hst;have hd13:=D8.node _ _ _ _ hd11 h1211 hst;have el:(ks.set i k').length=ks.length:=List.length_set;obtain⟨hm,hhf,_,hk'⟩:=HMX.out;have eh:K.length / 2=hf:=by rw[HNK.out];exact hhf.symm
     refine⟨some ⟨gk,0,none⟩,ck,some ⟨gd,0,none⟩,cd,ks.set i k',ds,_,by rw[el],by rw[el];exact hk13,hd13,h11.turned9 (S:=[b12]) (λ b hb=>by simp at hb;subst hb;exact⟨_,_,_,h1211,.inr (.inl rfl)⟩) hst,⟨gk :: g.S,(HU29.out.trans (u1.mono (T:=gk :: g.S) (λ k hk=>by have:=g.memw k hk;simp[this]))).late hst (λ k hk=> .inr (by simp at hk;subst hk;exact HBB.out.2.2.2.2.2)),λ k hk=>?_⟩,.inr ⟨by rw[HNK.out];show 10<nK;omega,k',by rw[eh];exact hk',rfl,rfl,?_⟩⟩
     ·rcases List.mem_cons.1 hk with rfl | q
      ·exact .inr HBB.out.1
      ·exact .inl q
     ·rw[eh];rfl
    clear hw13 hst st h11 hu11 hHeld h1211;go_wp2_with fail
    refine bodyPost_ret (C5 (p:=12) (u:=13) (ty:=220) (by rfl) _ _ b12 _ (by rfl) (run_loadVar_row _ b12 _ _ _ _ _ h1213 Tryz.underlying220 rfl (by kernel_rfl))) (by rfl) ?_;exact HF.out
end
end Go.Proofs.YtgfbepakonjbnaaGreat
end
