/-
  PackRoom, walked.
-/
import Derived.Test.YtceakcejchbbjaaGreatPnA
set_option linter.unusedSimpArgs false
set_option linter.unusedVariables false
namespace Go.Proofs.YtceakcejchbbjaaGreat
open Go.RowKit Go.MapKept Go.ChangeMaps

def roD : List (Nat × Nat) := [(0, 47), (1, 48), (2, 49), (3, 50), (4, 51), (5, 52), (6, 53), (7, 54), (8, 55), (9, 56), (10, 57), (11, 46), (12, 58), (13, 59), (14, 11), (16, 12)]
def roO : Nat → Nat
  | 0 => 0
  | 1 => 1
  | 2 => 2
  | 3 => 3
  | 4 => 20
  | 5 => 21
  | 6 => 22
  | 7 => 23
  | 8 => 24
  | 9 => 4
  | 10 => 5
  | 11 => 6
  | 12 => 7
  | 13 => 8
  | 14 => 9
  | 16 => 8
  | _ => 99
def roX (I : Nat) (sv : Value) (vb vo : Nat) (a : Int) : Nat → Value
  | 20 => .int .i64 (I : Int)
  | 21 => sv
  | 22 => .int .i64 (I : Int)
  | 23 => .pointer (some ⟨vb, vo, none⟩)
  | 24 => .int .i64 a
  | _ => undef
def rcV (g n c k hz : Nat) (a : Nat) (v1 v2 : Value) : List (Nat × Nat × Value) := [(0, 109, .slice (some ⟨hz, 0, none⟩) 0 0), (1, 110, .slice (some ⟨g, 0, none⟩) n c), (2, 111, .int .i64 (k : Int)), (3, 112, .slice (some ⟨g, 0, none⟩) k c), (4, 113, v1), (5, 114, .slice (some ⟨g, 0, none⟩) n c), (6, 115, .int .i64 (k : Int)), (7, 116, .int .i64 ((k : Int) + 1)), (8, 117, .slice (some ⟨g, a, none⟩) (n - (k + 1)) (c - (k + 1))), (9, 118, v2), (10, 9, v2)]
theorem leftN_congr {T T' : Nat → Bool} (h : ∀ i, T i = T' i) (n : Nat) : leftN T n = leftN T' n := by
  have : T = T' := funext h
  rw [this]
set_option maxRecDepth 100000 in
set_option maxHeartbeats 8000000 in
theorem room11_spec (ks gs : List Int) (v v1 : Value) (w : World) (hrd : RdL w [] v (ks.map fun i => .int .i64 i)) (hrd1 : RdL w [] v1 (gs.map fun i => .int .i64 i)) : Calls Tryz.prog 8 #[v, v1] w fun e w' => e = .returned (.bool true) ∧ Upd [] w w' := by
  obtain ⟨av, cv, rfl, hcv⟩ := hrd.shape
  obtain ⟨av1, cv1, rfl, hcv1⟩ := hrd1.shape
  rw [List.length_map] at hcv hrd hcv1 hrd1 ⊢
  rw [List.length_map]
  have HV := Lib.hid hrd
  have HV1 := Lib.hid hrd1
  have HCV := Lib.hid hcv
  have HCV1 := Lib.hid hcv1
  have HB := Lib.hid begun800
  clear hrd hrd1 hcv hcv1
  by_cases hS : 30 < ks.length
  · have c1 : decide ((30 : Int) < (ks.length : Int)) = true := decide_eq_true (by omega)
    have c1' : decide (30 < ks.length) = true := decide_eq_true hS
    go_enter Tryz.func8, Tryz.ntmps8
    go_wp2_with fail
    refine (begun11_spec w).mono ?_
    rintro e w1 ⟨rfl, hu1⟩
    go_wp2_with fail
    go_ret
    exact ⟨rfl, hu1⟩
  have c1 : decide ((30 : Int) < (ks.length : Int)) = false := decide_eq_false (by omega)
  have c1' : decide (30 < ks.length) = false := decide_eq_false hS
  by_cases hG : 60 < gs.length
  · have c2 : decide ((60 : Int) < (gs.length : Int)) = true := decide_eq_true (by omega)
    have c2' : decide (60 < gs.length) = true := decide_eq_true hG
    go_enter Tryz.func8, Tryz.ntmps8
    go_wp2_with fail
    refine (begun11_spec w).mono ?_
    rintro e w1 ⟨rfl, hu1⟩
    go_wp2_with fail
    go_ret
    exact ⟨rfl, hu1⟩
  have c2 : decide ((60 : Int) < (gs.length : Int)) = false := decide_eq_false (by omega)
  have c2' : decide (60 < gs.length) = false := decide_eq_false hG
  go_enter Tryz.func8, Tryz.ntmps8
  go_wp2_with fail
  refine (begun11_spec w).mono ?_
  rintro e w1 ⟨rfl, hu1⟩
  have HU1 := Lib.hid hu1
  clear hu1
  go_wp2_with fail
  refine (HB.out _).mono ?_
  rintro e w2 ⟨g0, rfl, hg, hu2⟩
  have hj : ∀ k, k ∈ g0.j.all → w.heap.size ≤ k := fun k hk => Nat.le_trans HU1.out.size (hg.late k (by simp [Sg.S, hk]))
  have hpa2 : PkAt w w2 g0.j 800 60 2 g0 (fun _ => Option.none) := ⟨⟨w1, hg.js, HU1.out.size⟩, hg.sp, hg.packs, HU1.out.trans hu2⟩
  have hgh0 : g0.h = 738 := hpa2.h
  have hrow : RowOf 0 (fun _ => Option.none) (g0.T fun _ => none) := RowOf.zero noPk hg.T
  have HLE := Lib.hid (left_spec hg.sp (by omega) (by omega))
  have HJ := Lib.hid hj
  have HPA2 := Lib.hid hpa2
  have HRO := Lib.hid hrow
  have HGT0 : Hid (∀ i, g0.T (fun _ => none) i = decide (i < 4)) := by show ∀ i, _; exact hg.T
  have HGH0 := Lib.hid hgh0
  clear hg hu2 hj hpa2 hrow hgh0
  go_wp2_with fail
  refine HLE.out.mono ?_
  rintro e w3 ⟨rfl, hsp3, hu3⟩
  have hSS0 := HPA2.out.S HJ.out
  have hpa : PkAt w w3 g0.j 800 60 2 g0 (fun _ => Option.none) := ⟨HPA2.out.tx, hsp3, HPA2.out.pk, HPA2.out.upd.late hu3 (fun i hi => .inr (hSS0.1 i hi))⟩
  have HPA := Lib.hid hpa
  obtain ⟨lf, hlf⟩ : ∃ x : Nat, x = leftN (g0.T fun _ => none) g0.h := ⟨_, rfl⟩
  rw [← hlf]
  have HLF := Lib.hid hlf
  clear hlf hsp3 hu3 hSS0 hpa HLE HPA2
  go_wp2_with fail
  go_loopw [9, 10, 6] (fun l i t wr => ∃ (I m : Nat) (g : Sg) (K : Nat → Option Pk) (Rs : List Rc), i = .int .i64 (I : Int) ∧ t = .pointer (some ⟨g.x.tb, 0, none⟩) ∧ I ≤ ks.length ∧ m ≤ I ∧ Hid (Rs.length = I) ∧ Hid (PkAt w wr g0.j 800 60 (2 + I) g K) ∧ Hid (RecsAt K Rs.reverse) ∧ Hid (RowOf m K (g.T fun _ => none)) ∧ Hid (PlB wr w.heap.size l (Rs.map plOf))) (fun _ i _ _ => 40 - (intOf i).toNat)
  case atStart =>
    exact ⟨0, 0, g0, _, [], rfl, rfl, by omega, by omega, Lib.hid rfl, HPA, Lib.hid (RecsAt.zero noPk), HRO, Lib.hid (PlB.nil _ _)⟩
  case round =>
    obtain ⟨I, m, g, K, Rs, rfl, rfl, hI, hm, HRL, HPK2, HRC, HRW, HPL⟩ := hrel
    rcases Nat.lt_or_ge I ks.length with h4 | h4
    · have cj : decide ((I : Int) < (ks.length : Int)) = true := decide_eq_true (by omega)
      obtain ⟨a, ha⟩ : ∃ a, ks[I]? = some a := ⟨_, List.getElem?_eq_getElem h4⟩
      obtain ⟨al, cl, hlsh⟩ := HPL.out.shape
      rw [List.length_map, HRL.out] at hlsh
      subst hlsh
      obtain ⟨sb, so, hsb, rfl, hcw⟩ := HV.out.cellZ (i := I) (x := .int .i64 a) (by rw [List.getElem?_map, ha]; rfl)
      have hc0 := cell_updP hcw HPK2.out.upd (by simp)
      have hSS := HPK2.out.S HJ.out
      have hns : sb ∉ g.S := fun q => by have := hSS.1 sb q; omega
      obtain ⟨bb, hbb⟩ : ∃ b, b = bodyB I (placeN a 4201) := ⟨_, rfl⟩
      have hbl : bb.length ≤ 4200 := by rw [hbb, bodyB_length]; have := placeN_lt (k := a) (n := 4201) (by omega); omega
      obtain ⟨ky, hky⟩ : ∃ k, k = keyP (I % 256) := ⟨_, rfl⟩
      have hkl : ky.length = 32 := by rw [hky]; exact keyP_length _
      obtain ⟨R, hR⟩ : ∃ R, R = Rs.reverse := ⟨_, rfl⟩
      have hrc := HRC.out
      rw [← hR] at hrc
      obtain ⟨xx, hadd⟩ := told_add HPK2.out hrc HRW.out (by omega) (by omega) (by omega) ky bb hkl hbl
      obtain ⟨P, hP⟩ : ∃ P : Nat × Nat × Nat, P = (xx.1, xx.2, 46 + bb.length) := ⟨_, rfl⟩
      obtain ⟨er, her⟩ : ∃ e : Nat, e = 0 := ⟨_, rfl⟩
      have HADD : Hid (∀ W vb, Upd [] wr W → Rd W vb bb → Calls Tryz.prog 16 #[.pointer (some ⟨g.x.tb, 0, none⟩), .agg (bts ky).toArray, vb] W fun e w' => e = .returned (.tuple #[plV P, .int .i64 (er : Int)]) ∧ ToldOut g K R m xx ky bb w' ∧ Upd g.S W w') := by
        show ∀ W vb, _
        intro W vb hu hr
        rw [hP, her]
        exact hadd W vb hu hr
      have HKY : Hid (∀ W, Calls Tryz.prog 17 #[.int .u8 (IntKind.u8.wrap (I : Int))] W fun e w'' => e = .returned (.agg (bts ky).toArray) ∧ Upd [] W w'') := by
        show ∀ W, _
        intro W
        rw [hky]
        exact key11_spec (I % 256) _ (by rw [IntKind.wrap_u8]; omega) (by omega) W
      have HBD : Hid (∀ W, Calls Tryz.prog 30 #[.int .i64 (I : Int), .int .i64 a] W fun e w'' => ∃ v, e = .returned v ∧ Rd w'' v bb ∧ Upd [] W w'') := by
        show ∀ W, _
        intro W
        rw [hbb]
        exact body_spec I (by omega) a W
      have hlt0 := HPK2.out.sp.lt
      have HSW : Hid (∀ k, k ∈ g.S → k < wr.heap.size) := by show ∀ k, _; exact hlt0.1
      have HPQ : Hid (∀ W W', ToldOut g K R m xx ky bb W → Upd [] W W' → ToldOut g K R m xx ky bb W') := by show ∀ W W', _; exact fun W W' h hu => h.below hu
      have HPS : Hid (∀ W W' pb, ToldOut g K R m xx ky bb W → wr.heap.size ≤ pb → W.heap[pb]? = some (.cells #[.int .i64 0, .int .i64 0, .int .i64 0] 30 (0, 0)) → Upd [pb] W W' → ToldOut g K R m xx ky bb W') := by
        show ∀ W W' pb, _
        exact fun W W' pb h hp hb hu => h.res hlt0 hp hb hu
      have HNS := Lib.hid hns
      have HPP := Lib.hid hP
      have HER := Lib.hid her
      have HRR := Lib.hid hR
      have HBB := Lib.hid hbb
      have HKK := Lib.hid hky
      have HKL := Lib.hid hkl
      have HA := Lib.hid ha
      have HSB := Lib.hid hsb
      clear hky hkl hP her hR hbb ha hadd hrc hlt0 hcw hSS hns hsb
      go_upto_region 13 with (fail)
      refine wp_region_p roD (fun L k w v => adPr wr g.x.tb (I : Int) (IntKind.u8.wrap (I : Int)) ky bb P er (roX I (.slice (some ⟨sb, so, none⟩) ks.length cv) sb (so + I) a) 10 15 L (roO k) w v) (adG wr g.S (ToldOut g K R m xx ky bb) 10 15 14) (by kernel_rfl) (by kernel_rfl) 140 rfl rfl ⟨(Upd.refl _ _).drew, fun _ => (Upd.refl _ _).drew, fun h => (by cases h), fun h => (by cases h)⟩ ?_ ?_
      · intro i o L tmps w' ho hI hL hd
        have hi : i < 17 := (Array.getElem?_eq_some_iff.1 ho).1
        have t6 : tmps[6]?.getD undef = .pointer (some ⟨g.x.tb, 0, none⟩) := (hI.old 6 (by rfl)).trans rfl
        have t10 : tmps[10]?.getD undef = .int .i64 (I : Int) := (hI.old 10 (by rfl)).trans rfl
        have t0 : tmps[0]?.getD undef = .slice (some ⟨sb, so, none⟩) ks.length cv := (hI.old 0 (by rfl)).trans rfl
        have mc := cell_updP hc0 hI.gw.1 HNS.out
        obtain rfl | rfl | rfl | rfl | rfl | rfl | rfl | rfl | rfl | rfl | rfl | rfl | rfl | rfl | rfl | rfl | rfl : i = 0 ∨ i = 1 ∨ i = 2 ∨ i = 3 ∨ i = 4 ∨ i = 5 ∨ i = 6 ∨ i = 7 ∨ i = 8 ∨ i = 9 ∨ i = 10 ∨ i = 11 ∨ i = 12 ∨ i = 13 ∨ i = 14 ∨ i = 15 ∨ i = 16 := by omega
        · cases ho
          refine wpOp_step rfl (fun K hK => ?_)
          go_simp
          exact hK _ _ (hI.step 0 47 (.pointer (some ⟨g.x.tb, 0, none⟩)) (by decide) (by kernel_rfl) (fun _ _ h9 => adPr_upd (i := 0) (by decide) (Upd.refl [] _) (by simp) (fun q => ⟨up_false q, Upd.refl _ _⟩) _ _ h9) rfl (hI.gw.quiet (by decide) (by decide) (Upd.refl _ _) id))
        · cases ho
          refine wpOp_step rfl (fun K hK => ?_)
          go_simp
          exact hK _ _ (hI.step 1 48 (.int .i64 (I : Int)) (by decide) (by kernel_rfl) (fun _ _ h9 => adPr_upd (i := 1) (by decide) (Upd.refl [] _) (by simp) (fun q => ⟨up_false q, Upd.refl _ _⟩) _ _ h9) rfl (hI.gw.quiet (by decide) (by decide) (Upd.refl _ _) id))
        · cases ho
          have t48 : tmps[48]?.getD undef = .int .i64 (I : Int) := hI.val (1, 48) (by simp [roD]) (hd ⟨1, .data⟩ (by simp) rfl)
          refine wpOp_step rfl (fun K hK => ?_)
          go_simp
          exact hK _ _ (hI.step 2 49 (.int .u8 (IntKind.u8.wrap (I : Int))) (by decide) (by kernel_rfl) (fun _ _ h9 => adPr_upd (i := 2) (by decide) (Upd.refl [] _) (by simp) (fun q => ⟨up_false q, Upd.refl _ _⟩) _ _ h9) rfl (hI.gw.quiet (by decide) (by decide) (Upd.refl _ _) id))
        · cases ho
          have t49 : tmps[49]?.getD undef = .int .u8 (IntKind.u8.wrap (I : Int)) := hI.val (2, 49) (by simp [roD]) (hd ⟨2, .data⟩ (by simp) rfl)
          refine wpOp_step rfl (fun K hK => ?_)
          go_simp
          go_at_call 17
          refine (HKY.out w').mono ?_
          rintro e w2 ⟨rfl, hu⟩
          exact hK _ _ (hI.step 3 50 (.agg (bts ky).toArray) (by decide) (by kernel_rfl) (fun _ _ h9 => adPr_upd (i := 3) (by decide) hu (by simp) (fun q => ⟨up_false q, hu⟩) _ _ h9) (rfl) (hI.gw.quiet (by decide) (by decide) hu (fun q => HPQ.out _ _ q hu)))
        · cases ho
          refine wpOp_step rfl (fun K hK => ?_)
          go_simp
          exact hK _ _ (hI.step 4 51 (.int .i64 (I : Int)) (by decide) (by kernel_rfl) (fun _ _ h9 => adPr_upd (i := 4) (by decide) (Upd.refl [] _) (by simp) (fun q => ⟨up_false q, Upd.refl _ _⟩) _ _ h9) rfl (hI.gw.quiet (by decide) (by decide) (Upd.refl _ _) id))
        · cases ho
          refine wpOp_step rfl (fun K hK => ?_)
          go_simp
          exact hK _ _ (hI.step 5 52 (.slice (some ⟨sb, so, none⟩) ks.length cv) (by decide) (by kernel_rfl) (fun _ _ h9 => adPr_upd (i := 5) (by decide) (Upd.refl [] _) (by simp) (fun q => ⟨up_false q, Upd.refl _ _⟩) _ _ h9) rfl (hI.gw.quiet (by decide) (by decide) (Upd.refl _ _) id))
        · cases ho
          refine wpOp_step rfl (fun K hK => ?_)
          go_simp
          exact hK _ _ (hI.step 6 53 (.int .i64 (I : Int)) (by decide) (by kernel_rfl) (fun _ _ h9 => adPr_upd (i := 6) (by decide) (Upd.refl [] _) (by simp) (fun q => ⟨up_false q, Upd.refl _ _⟩) _ _ h9) rfl (hI.gw.quiet (by decide) (by decide) (Upd.refl _ _) id))
        · cases ho
          have t52 : tmps[52]?.getD undef = .slice (some ⟨sb, so, none⟩) ks.length cv := hI.val (5, 52) (by simp [roD]) (hd ⟨5, .data⟩ (by simp) rfl)
          have t53 : tmps[53]?.getD undef = .int .i64 (I : Int) := hI.val (6, 53) (by simp [roD]) (hd ⟨6, .data⟩ (by simp) rfl)
          refine wpOp_step rfl (fun K hK => ?_)
          go_simp
          exact hK _ _ (hI.step 7 54 (.pointer (some ⟨sb, so + I, none⟩)) (by decide) (by kernel_rfl) (fun _ _ h9 => adPr_upd (i := 7) (by decide) (Upd.refl [] _) (by simp) (fun q => ⟨up_false q, Upd.refl _ _⟩) _ _ h9) rfl (hI.gw.quiet (by decide) (by decide) (Upd.refl _ _) id))
        · cases ho
          have t54 : tmps[54]?.getD undef = .pointer (some ⟨sb, so + I, none⟩) := hI.val (7, 54) (by simp [roD]) (hd ⟨7, .data⟩ (by simp) rfl)
          refine wpOp_step rfl (fun K hK => ?_)
          go_simp
          exact hK _ _ (hI.step 8 55 (.int .i64 a) (by decide) (by kernel_rfl) (fun _ _ h9 => adPr_upd (i := 8) (by decide) (Upd.refl [] _) (by simp) (fun q => ⟨up_false q, Upd.refl _ _⟩) _ _ h9) rfl (hI.gw.quiet (by decide) (by decide) (Upd.refl _ _) id))
        · cases ho
          have t51 : tmps[51]?.getD undef = .int .i64 (I : Int) := hI.val (4, 51) (by simp [roD]) (hd ⟨4, .data⟩ (by simp) rfl)
          have t55 : tmps[55]?.getD undef = .int .i64 a := hI.val (8, 55) (by simp [roD]) (hd ⟨8, .data⟩ (by simp) rfl)
          refine wpOp_step rfl (fun K hK => ?_)
          go_simp
          go_at_call 30
          refine (HBD.out w').mono ?_
          rintro e w2 ⟨vb2, rfl, hr2, hu⟩
          exact hK _ _ (hI.step 9 56 (vb2) (by decide) (by kernel_rfl) (fun _ _ h9 => adPr_upd (i := 9) (by decide) hu (by simp) (fun q => ⟨up_false q, hu⟩) _ _ h9) (fun _ => hr2) (hI.gw.quiet (by decide) (by decide) hu (fun q => HPQ.out _ _ q hu)))
        · cases ho
          have t47 : tmps[47]?.getD undef = .pointer (some ⟨g.x.tb, 0, none⟩) := hI.val (0, 47) (by simp [roD]) (hd ⟨0, .data⟩ (by simp) rfl)
          have t50 : tmps[50]?.getD undef = .agg (bts ky).toArray := hI.val (3, 50) (by simp [roD]) (hd ⟨3, .data⟩ (by simp) rfl)
          have hrd : Rd w' (tmps[56]?.getD undef) bb := hI.val (9, 56) (by simp [roD]) (hd ⟨9, .data⟩ (by simp) rfl) hL
          obtain ⟨vb, t56⟩ : ∃ v, tmps[56]?.getD undef = v := ⟨_, rfl⟩
          rw [t56] at hrd
          refine wpOp_step rfl (fun K hK => ?_)
          go_simp
          go_at_call 16
          refine (HADD.out w' vb (hI.gw.2.1 hL) hrd).mono ?_
          rintro e w2 ⟨rfl, hpay, hu⟩
          exact hK _ _ (hI.step 10 57 (.tuple #[plV P, .int .i64 (er : Int)]) (by decide) (by kernel_rfl) (fun _ _ h9 => adPr_upd (i := 10) (by decide) hu HSW.out (fun q => by rw [upL_same] at q; cases q) _ _ h9) rfl ⟨hI.gw.1.trans hu, fun q => (by rw [upL_same] at q; cases q), fun _ => hpay, up_imp (by decide) hI.gw.2.2.2⟩)
        · cases ho
          have t57 : tmps[57]?.getD undef = .tuple #[plV P, .int .i64 (er : Int)] := hI.val (10, 57) (by simp [roD]) (hd ⟨10, .data⟩ (by simp) rfl)
          refine wpOp_step rfl (fun K hK => ?_)
          go_simp
          exact hK _ _ (hI.step 11 46 (.tuple #[plV P, .int .i64 (er : Int)]) (by decide) (by kernel_rfl) (fun _ _ h9 => adPr_upd (i := 11) (by decide) (Upd.refl [] _) (by simp) (fun q => ⟨up_false q, Upd.refl _ _⟩) _ _ h9) rfl (hI.gw.quiet (by decide) (by decide) (Upd.refl _ _) id))
        · cases ho
          have t46 : tmps[46]?.getD undef = .tuple #[plV P, .int .i64 (er : Int)] := hI.val (11, 46) (by simp [roD]) (hd ⟨11, .data⟩ (by simp) rfl)
          refine wpOp_step rfl (fun K hK => ?_)
          go_simp
          exact hK _ _ (hI.step 12 58 (plV P) (by decide) (by kernel_rfl) (fun _ _ h9 => adPr_upd (i := 12) (by decide) (Upd.refl [] _) (by simp) (fun q => ⟨up_false q, Upd.refl _ _⟩) _ _ h9) rfl (hI.gw.quiet (by decide) (by decide) (Upd.refl _ _) id))
        · cases ho
          have t46 : tmps[46]?.getD undef = .tuple #[plV P, .int .i64 (er : Int)] := hI.val (11, 46) (by simp [roD]) (hd ⟨11, .data⟩ (by simp) rfl)
          refine wpOp_step rfl (fun K hK => ?_)
          go_simp
          exact hK _ _ (hI.step 13 59 (.int .i64 (er : Int)) (by decide) (by kernel_rfl) (fun _ _ h9 => adPr_upd (i := 13) (by decide) (Upd.refl [] _) (by simp) (fun q => ⟨up_false q, Upd.refl _ _⟩) _ _ h9) rfl (hI.gw.quiet (by decide) (by decide) (Upd.refl _ _) id))
        · cases ho
          refine wpOp_step rfl (fun K hK => ?_)
          go_simp
          exact hK _ _ (hI.step 14 11 (.pointer (some ⟨w'.heap.size, 0, none⟩)) (by decide) (by kernel_rfl) (fun _ _ h9 => adPr_upd (i := 14) (by decide) ((Upd.refl [] _).alloc _) (by simp) (fun q => ⟨up_false q, (Upd.refl _ _).alloc _⟩) _ _ h9) ⟨w'.heap.size, rfl, hI.gw.1.size, by rw [show upL L 14 15 = false from by rw [upL_ne _ (by decide)]; exact hI.gw.notyet hL]; exact blk_alloc _⟩ (hI.gw.quiet (by decide) (by decide) ((Upd.refl _ _).alloc _) (fun q => HPQ.out _ _ q ((Upd.refl _ _).alloc _))))
        · cases ho
          obtain ⟨pb, t110, hpb, hb⟩ := hI.val (14, 11) (by simp [roD]) (hd ⟨14, .data⟩ (by simp) rfl)
          have t11 : tmps[11]?.getD undef = .pointer (some ⟨pb, 0, none⟩) := t110
          rw [hL] at hb
          replace hb : w'.heap[pb]? = some (.cells #[.int .i64 0, .int .i64 0, .int .i64 0] 30 (0, 0)) := hb
          have t58 : tmps[58]?.getD undef = plV P := hI.val (12, 58) (by simp [roD]) (hd ⟨12, .data⟩ (by simp) rfl)
          have m0 : w'.cell? ⟨pb, 0, none⟩ = some (.int .i64 0) := by rw [blk_cell hb]; rfl
          have m1 : w'.cell? ⟨pb, 1, none⟩ = some (.int .i64 0) := by rw [blk_cell hb]; rfl
          have m2 : w'.cell? ⟨pb, 2, none⟩ = some (.int .i64 0) := by rw [blk_cell hb]; rfl
          have f0 := blk_free hb 0
          have f1 := blk_free hb 1
          have f2 := blk_free hb 2
          replace t58 : tmps[58]?.getD undef = .agg #[.int .i64 (P.1 : Int), .int .i64 (P.2.1 : Int), .int .i64 (P.2.2 : Int)] := t58
          have hB : L 14 = true := hd ⟨14, .data⟩ (by simp) rfl
          have hA : L 10 = true := hd ⟨10, .chain⟩ (by simp) rfl
          refine wpOp_step rfl (fun K hK => ?_)
          go_simp
          exact hK _ _ (hI.none_step 15 (by kernel_rfl) (fun t ht _ h9 => adPr_store (c := #[]) (by decide) hA hpb hb _ _ (fun e9 => (by simp [roD] at ht; rcases ht with rfl | rfl | rfl | rfl | rfl | rfl | rfl | rfl | rfl | rfl | rfl | rfl | rfl | rfl | rfl | rfl <;> first | exact t11 | (cases e9))) h9) (hI.gw.store (by decide) hA hB hpb ((Upd.refl _ _).three _ _ _ (.inl (List.mem_singleton.2 rfl))) (fun q => HPS.out _ _ pb q hpb hb ((Upd.refl _ _).three _ _ _ (.inl (List.mem_singleton.2 rfl))))))
        · cases ho
          have t59 : tmps[59]?.getD undef = .int .i64 (er : Int) := hI.val (13, 59) (by simp [roD]) (hd ⟨13, .data⟩ (by simp) rfl)
          refine wpOp_step rfl (fun K hK => ?_)
          go_simp
          exact hK _ _ (hI.step 16 12 (.int .i64 (er : Int)) (by decide) (by kernel_rfl) (fun _ _ h9 => adPr_upd (i := 16) (by decide) (Upd.refl [] _) (by simp) (fun q => ⟨up_false q, Upd.refl _ _⟩) _ _ h9) rfl (hI.gw.quiet (by decide) (by decide) (Upd.refl _ _) id))
      · intro L tmps w4 hI hall
        obtain ⟨pb, e10, hpb, hb⟩ := hI.val (14, 11) (by simp [roD]) (hall 14 (by decide))
        rw [hall 15 (by decide)] at hb
        obtain ⟨vb, tvb⟩ : ∃ v, tmps[56]?.getD undef = v := ⟨_, rfl⟩
        have hat := hI.tmps_eq rfl [(47, .pointer (some ⟨g.x.tb, 0, none⟩)), (48, .int .i64 (I : Int)), (49, .int .u8 (IntKind.u8.wrap (I : Int))), (50, .agg (bts ky).toArray), (51, .int .i64 (I : Int)), (52, .slice (some ⟨sb, so, none⟩) ks.length cv), (53, .int .i64 (I : Int)), (54, .pointer (some ⟨sb, so + I, none⟩)), (55, .int .i64 a), (56, vb), (57, .tuple #[plV P, .int .i64 (er : Int)]), (46, .tuple #[plV P, .int .i64 (er : Int)]), (58, plV P), (59, .int .i64 (er : Int)), (11, .pointer (some ⟨pb, 0, none⟩)), (12, .int .i64 (er : Int))] (fun j hj => by simp [roD] at hj ⊢; simp [hj]) (by
          intro p hp
          simp only [List.mem_cons, List.not_mem_nil, or_false] at hp
          rcases hp with rfl | rfl | rfl | rfl | rfl | rfl | rfl | rfl | rfl | rfl | rfl | rfl | rfl | rfl | rfl | rfl
          · exact hI.val (0, 47) (by simp [roD]) (hall 0 (by decide))
          · exact hI.val (1, 48) (by simp [roD]) (hall 1 (by decide))
          · exact hI.val (2, 49) (by simp [roD]) (hall 2 (by decide))
          · exact hI.val (3, 50) (by simp [roD]) (hall 3 (by decide))
          · exact hI.val (4, 51) (by simp [roD]) (hall 4 (by decide))
          · exact hI.val (5, 52) (by simp [roD]) (hall 5 (by decide))
          · exact hI.val (6, 53) (by simp [roD]) (hall 6 (by decide))
          · exact hI.val (7, 54) (by simp [roD]) (hall 7 (by decide))
          · exact hI.val (8, 55) (by simp [roD]) (hall 8 (by decide))
          · exact tvb
          · exact hI.val (10, 57) (by simp [roD]) (hall 10 (by decide))
          · exact hI.val (11, 46) (by simp [roD]) (hall 11 (by decide))
          · exact hI.val (12, 58) (by simp [roD]) (hall 12 (by decide))
          · exact hI.val (13, 59) (by simp [roD]) (hall 13 (by decide))
          · exact e10
          · exact hI.val (16, 12) (by simp [roD]) (hall 16 (by decide)))
        have hpay := hI.gw.2.2.1 (hall 10 (by decide))
        have hUw := hI.gw.1
        clear hI hall
        dsimp only at hat
        simp only [sets, List.setIfInBounds_toArray, List.set_cons_zero, List.set_cons_succ] at hat
        rw [hat]
        clear hat e10 tvb tmps
        replace hb : w4.heap[pb]? = some (.cells #[.int .i64 (P.1 : Int), .int .i64 (P.2.1 : Int), .int .i64 (P.2.2 : Int)] 30 (0, 0)) := hb
        have hgh := HPK2.out.h
        have hSS := HPK2.out.S HJ.out
        have hU4 : Upd [] w w4 := HPK2.out.upd.late hUw (fun i hi => .inr (hSS.1 i hi))
        have hpl4 := HPL.out.sp HPK2.out.sp hUw (fun k hk => List.mem_cons_of_mem _ hk)
        obtain ⟨M', K', m', h5, hk5, hc5, hr5, ho5, hm5, hrow5⟩ := hpay
        have he0 : er = 0 := HER.out
        subst he0
        have hcm := HPK2.out.commit h5 (by omega) (by omega) (by omega) (by omega)
        obtain ⟨wT, hTx, hwT⟩ := HPK2.out.tx
        have hjS : ∀ k, k ∈ g.x.tb :: g0.j.all → k ∈ g.x.tb :: g.S := fun k hk => by
          rcases List.mem_cons.1 hk with e | e
          · rw [e]; exact List.mem_cons_self ..
          · rw [Sg.S, hTx.j]; exact List.mem_cons_of_mem _ (List.mem_cons_of_mem _ e)
        have HCM := Lib.hid hcm
        have HGH := Lib.hid hgh
        have HSS := Lib.hid hSS
        have HU4 := Lib.hid hU4
        have HPL4 := Lib.hid hpl4
        have H5 := Lib.hid h5
        have HK5 := Lib.hid hk5
        have HR5 := Lib.hid hr5
        have HO5 := Lib.hid ho5
        have HRW5 := Lib.hid hrow5
        have HJS := Lib.hid hjS
        have HB4 := Lib.hid hb
        clear hb hgh hSS hU4 hpl4 hUw h5 hk5 hc5 hr5 ho5 hrow5 hcm hTx hwT wT hjS
        go_wp2_with fail
        refine HCM.out.mono ?_
        rintro e w5 ⟨rfl, hjs, hu5⟩
        have hpl5 := HPL4.out.sp H5.out hu5 HJS.out
        have hb5 := (hu5.block _ (blk_lt HB4.out) (fun q => H5.out.otherP HB4.out (HJS.out _ q))).trans HB4.out
        have hU5 : Upd [] w w5 := HU4.out.late hu5 (fun k hk => .inr (by
          rcases List.mem_cons.1 hk with e | e
          · rw [e]; exact HSS.out.2
          · exact HJ.out k e))
        have HPL5 := Lib.hid hpl5
        have HB5 := Lib.hid hb5
        have HU5 := Lib.hid hU5
        have HJ5 := Lib.hid hjs
        obtain ⟨xn, hxn⟩ : ∃ q, q = xx.1 := ⟨_, rfl⟩
        obtain ⟨xa, hxa⟩ : ∃ q, q = xx.2 := ⟨_, rfl⟩
        obtain ⟨xl, hxl⟩ : ∃ q, q = 46 + bb.length := ⟨_, rfl⟩
        have hPx : P = (xn, xa, xl) := by rw [hxn, hxa, hxl]; exact HPP.out
        subst hPx
        have HXN := Lib.hid hxn
        have HXA := Lib.hid hxa
        have HXL := Lib.hid hxl
        clear hjs hu5 hpl5 hb5 hU5 hxn hxa hxl
        have x0 : w5.cell? ⟨pb, 0, none⟩ = some (.int .i64 (xn : Int)) := by rw [blk_cell HB5.out]; rfl
        have x1 : w5.cell? ⟨pb, 1, none⟩ = some (.int .i64 (xa : Int)) := by rw [blk_cell HB5.out]; rfl
        have x2 : w5.cell? ⟨pb, 2, none⟩ = some (.int .i64 (xl : Int)) := by rw [blk_cell HB5.out]; rfl
        obtain ⟨ap, lp, cp, wp, Sp, hrun, hplp, hup, hSp⟩ := pl_push HPL5.out (by rw [List.length_map, HRL.out]; omega) HU5.out.size (xn, xa, xl)
        have hbld := run_build_pl (xn, xa, xl)
        dsimp only at hrun hbld
        have HPLP := Lib.hid hplp
        have HUP := Lib.hid hup
        have HSP := Lib.hid hSp
        clear hplp hup hSp
        go_wp2_with (at_builtin; refine wpList_append_run rfl _ _ _ rfl rfl rfl hrun ?_)
        have hjp : JsAt wp g0.j 800 60 (2 + (I : Int) + 1) (g.cur M') := HJ5.out.own HUP.out (fun q hq => by
          obtain ⟨_, c, e⟩ := HSP.out q hq
          exact ⟨c, e⟩)
        have hup : Upd [] w wp := HU5.out.late HUP.out (fun i hi => .inr (HSP.out i hi).1)
        have hk5' := HK5.out
        rw [HGH.out] at hk5'
        refine (JsAt.beginU hjp HJ.out hup (fun i => rfl) hk5').mono ?_
        rintro e w7 ⟨g1, rfl, hpa, hgT, hu7⟩
        have hpl7 := HPLP.out.js hjp hu7
        have HP7 := Lib.hid hpa
        have HG7 := Lib.hid hgT
        have HPL7 := Lib.hid hpl7
        clear hjp hup hk5' hpa hgT hu7 hpl7 hrun hbld x0 x1 x2
        go_wp2_with fail
        have hpq : PkAt w w7 g0.j 800 60 (2 + ((I + 1 : Nat) : Int)) g1 K' := by
          rw [show (2 + ((I + 1 : Nat) : Int)) = 2 + (I : Int) + 1 by omega]
          exact HP7.out
        have hg7 : (g1.T fun _ => none) = g.T M' := HG7.out
        refine ⟨⟨I + 1, m', g1, K', Rs ++ [⟨xx.1, xx.2, ky, bb⟩], by go_num, rfl, by omega, by omega, Lib.hid (by rw [List.length_append, HRL.out]; rfl), Lib.hid hpq, Lib.hid ?_, Lib.hid (by rw [hg7]; exact HRW5.out), Lib.hid ?_⟩, by simp [intOf]; omega⟩
        · have := HR5.out
          rw [HRR.out] at this
          rw [List.reverse_append]
          exact this
        · have h9 := HPL7.out
          rw [List.map_append]
          have e1 : (xn, xa, xl) = plOf ⟨xx.1, xx.2, ky, bb⟩ := by
            rw [HXN.out, HXA.out, HXL.out]; rfl
          rw [e1] at h9
          exact h9
    · --ARM2
      obtain rfl : I = ks.length := by omega
      have cj : decide ((ks.length : Int) < (ks.length : Int)) = false := decide_eq_false (by omega)
      have HTO := Lib.hid HRW.out.only
      have HRQ := Lib.hid (HRC.out.perm (List.reverse_perm Rs))
      have hn : Rs.length ≤ 30 := by rw [HRL.out]; omega
      have HB0 : Hid ((2 : Int) + ks.length ≤ 40) := by show _ ≤ _; omega
      obtain ⟨b0, hb0⟩ : ∃ b : Int, b = 2 + ks.length := ⟨_, rfl⟩
      have hb1 : b0 ≤ 40 := by omega
      rw [← hb0] at HPK2
      clear hb0 HB0 HRW HRC HRL
      go_wp2_with fail
      go_loopw [9, 13, 6] (fun l i t wr => ∃ (q : Nat) (g : Sg) (K : Nat → Option Pk) (b : Int) (Rs : List Rc), i = .int .i64 (q : Int) ∧ t = .pointer (some ⟨g.x.tb, 0, none⟩) ∧ Rs.length + q ≤ 40 ∧ b ≤ 40 + q ∧ Hid (PkAt w wr g0.j 800 60 b g K) ∧ Hid (RecsAt K Rs) ∧ Hid (TOnly K (g.T fun _ => none)) ∧ Hid (PlB wr w.heap.size l (Rs.map plOf))) (fun _ i _ _ => 41 - (intOf i).toNat)
      case atStart =>
        exact ⟨0, g, K, b0, Rs, rfl, rfl, by omega, by omega, HPK2, HRQ, HTO, HPL⟩
      case round =>
        obtain ⟨q, g2, K2, b2, Rs, rfl, rfl, hq, hb2, HP2, HR2, HT2, HPL2⟩ := hrel
        obtain ⟨al, cl, hlsh⟩ := HPL2.out.shape
        rw [List.length_map] at hlsh
        subst hlsh
        rcases Nat.lt_or_ge 0 Rs.length with hpos | hpos
        · have c4 : decide ((0 : Int) < (Rs.length : Int)) = true := decide_eq_true (by omega)
          have c4' : decide (0 < Rs.length) = true := decide_eq_true hpos
          obtain ⟨bq, c3, c3', c5⟩ : ∃ b, decide ((q : Int) < (gs.length : Int)) = b ∧ decide (q < gs.length) = b ∧ (b = true → q < gs.length) := ⟨_, rfl, decide_eq_decide.2 (by omega), fun h => by simpa using h⟩
          have C5 := Lib.hid c5
          clear c5
          go_upto_if 84 with (fail)
          go_cut [14] (fun s14 wy => ∃ kk : Nat, s14 = .int .i64 (kk : Int) ∧ kk < Rs.length ∧ Upd [] wr wy)
          case first =>
            cases bq with
            | true =>
              have h9 : q < gs.length := C5.out rfl
              obtain ⟨a2, ha2⟩ : ∃ a, gs[q]? = some a := ⟨_, List.getElem?_eq_getElem h9⟩
              obtain ⟨sb2, so2, hsb2, rfl, hcw2⟩ := HV1.out.cellZ (i := q) (x := .int .i64 a2) (by rw [List.getElem?_map, ha2]; rfl)
              have hc2 := cell_updP hcw2 HP2.out.upd (by simp)
              have hKp := placeN_lt (k := a2) (n := Rs.length) (by omega)
              have HKP := Lib.hid (fun w => place_spec a2 Rs.length w (by omega) (by omega))
              obtain ⟨kk, hkk⟩ : ∃ kk, kk = placeN a2 Rs.length := ⟨_, rfl⟩
              rw [← hkk] at hKp HKP
              clear hkk hcw2 ha2 hsb2
              go_wp2_with fail
              refine (HKP.out _).mono ?_
              rintro e w' ⟨rfl, rfl⟩
              go_wp2_with fail
              go_meet
              exact ⟨kk, rfl, hKp, Upd.refl _ _⟩
            | false =>
              go_wp2_with fail
              go_meet
              exact ⟨0, rfl, hpos, Upd.refl _ _⟩
          case rest =>
            obtain ⟨kk, rfl, hkk, huy⟩ := hcut
            obtain ⟨r, hr⟩ : ∃ r, Rs[kk]? = some r := ⟨_, List.getElem?_eq_getElem hkk⟩
            have hmem : r ∈ Rs := List.mem_of_getElem? hr
            obtain ⟨hrk, hrb, p, hp, hal, hfr⟩ := HR2.out.rec_ r hmem
            have hlv := HR2.out.live_le hmem hp
            have hgh2 := HP2.out.h
            obtain ⟨wq, rfl⟩ : ∃ x : World, x = wc := ⟨_, rfl⟩
            have hs1 := HP2.out.sp.below huy
            have hpl1 := HPL2.out.upd huy (by simp)
            obtain ⟨gl, rfl, q0, q1, q2⟩ := hpl1.cellQ (k := kk) (p := plOf r) (by rw [List.getElem?_map, hr]; rfl)
            unfold plOf at q0 q1 q2
            dsimp only at q0 q1 q2
            have hdr := drop_pk hs1 HP2.out.pk (by omega) (by omega) (by rw [cntM_none]; omega) hp r.at_ r.len (by unfold Rc.len; omega) hal hlv
            unfold plV at hdr
            dsimp only at hdr
            have hap := HP2.out.pk.apart
            have hlw := HP2.out.pk.low
            have HAP : Hid (∀ n p m q, K2 n = some p → K2 m = some q → n ≠ m → p.start + 16 ≤ q.start ∨ q.start + 16 ≤ p.start) := by show ∀ n p m q, _; exact hap
            have HLW : Hid (∀ n p, K2 n = some p → 4 ≤ p.start) := by show ∀ n p, _; exact fun n p h => (hlw n p h).1
            have HDR := Lib.hid hdr
            have HS1 := Lib.hid hs1
            have HPL1 := Lib.hid hpl1
            have HR := Lib.hid hr
            have HGH2 := Lib.hid hgh2
            have HUY := Lib.hid huy
            clear hdr hs1 hpl1 hr hgh2 hmem hrk hrb hp hal hfr hlv huy hap hlw
            go_wp2_with fail
            refine HDR.out.mono ?_
            rintro e w4 ⟨M', K', rfl, h4, hk4, hd4, hc4, hu4⟩
            rw [cntM_none] at hc4
            have hpl4 := HPL1.out.sp HS1.out hu4 (fun k hk => List.mem_cons_of_mem _ hk)
            have hSS := HP2.out.S HJ.out
            have hU4 : Upd [] w w4 := (HP2.out.upd.trans HUY.out).late hu4 (fun i hi => .inr (hSS.1 i hi))
            have HCM := Lib.hid (HP2.out.commit h4 (by omega) (by omega) (by have := HGH2.out; omega) (by omega))
            obtain ⟨wT, hTx, hwT⟩ := HP2.out.tx
            have hjS : ∀ k, k ∈ g2.x.tb :: g0.j.all → k ∈ g2.x.tb :: g2.S := fun k hk => by
              rcases List.mem_cons.1 hk with e | e
              · rw [e]; exact List.mem_cons_self ..
              · rw [Sg.S, hTx.j]; exact List.mem_cons_of_mem _ (List.mem_cons_of_mem _ e)
            have HJS := Lib.hid hjS
            have HPL4 := Lib.hid hpl4
            have HU4 := Lib.hid hU4
            have HSS := Lib.hid hSS
            have H4 := Lib.hid h4
            have HK4 := Lib.hid hk4
            have HD4 := Lib.hid hd4
            clear h4 hk4 hd4 hc4 hu4 hpl4 hSS hU4 hTx hwT wT hjS q0 q1 q2
            go_wp2_with fail
            refine HCM.out.mono ?_
            rintro e w5 ⟨rfl, hjs, hu5⟩
            have hpl5 := HPL4.out.sp H4.out hu5 HJS.out
            have hU5 : Upd [] w w5 := HU4.out.late hu5 (fun k hk => .inr (by
              rcases List.mem_cons.1 hk with e | e
              · rw [e]; exact HSS.out.2
              · exact HJ.out k e))
            have hk5 := HK4.out
            rw [HGH2.out] at hk5
            have HBN := Lib.hid (JsAt.beginU hjs HJ.out hU5 (fun i => rfl) hk5)
            have HJS5 := Lib.hid hjs
            have HPL5 := Lib.hid hpl5
            clear hjs hu5 hpl5 hU5 hk5
            go_wp2_with fail
            refine HBN.out.mono ?_
            rintro e wr5 ⟨g3, rfl, hpa, hgT, hu7⟩
            have hpl7 := HPL5.out.js HJS5.out hu7
            obtain ⟨e1, hcc, hglt, hgB, _⟩ := hpl7.read
            obtain ⟨ao, hao, hbk⟩ := pl_back gl kk Rs.length cl (by omega) (by rw [List.length_map] at e1; omega)
            have hfrt := pl_front gl kk Rs.length cl (by omega)
            obtain ⟨v1, w1, a2, c2, w2, hr1, hr2, hplc, hupc⟩ := pl_cut (hpl7.upd ((Upd.refl [] _).drew) (by simp)) (by omega) (Nat.le_trans hpa.upd.size (by simp)) (k := kk) hkk (a := ao) hao
            obtain ⟨wA, hwA⟩ : ∃ wA, wA = wr5.drew.alloc (.cells #[] 30) := ⟨_, rfl⟩
            rw [← hwA] at hr1
            have HWA := Lib.hid hwA
            have HR1 : Hid (∀ ty, (Builtin.append_ #[60, 60] ty #[.slice (some ⟨wr5.heap.size, 0, none⟩) 0 0, .slice (some ⟨gl, 0, none⟩) kk cl]).run Tryz.prog wA = .ok v1 w1) := Lib.hid hr1
            have HRB := Lib.hid hr2
            have HBK : Hid (∀ w, (Instr.slice 60 (.slice (some ⟨gl, 0, none⟩) Rs.length cl) (some (.int .i64 ((kk : Int) + 1))) none none).run Tryz.prog w = .ok (.slice (some ⟨gl, ao, none⟩) (Rs.length - (kk + 1)) (cl - (kk + 1))) w) := by show ∀ w, _; exact hbk
            have HFR : Hid (∀ w, (Instr.slice 60 (.slice (some ⟨gl, 0, none⟩) Rs.length cl) none (some (.int .i64 (kk : Int))) none).run Tryz.prog w = .ok (.slice (some ⟨gl, 0, none⟩) kk cl) w) := by show ∀ w, _; exact hfrt
            have HPC := Lib.hid hplc
            have HUC := Lib.hid ((Upd.refl [] wr5).drew.trans hupc)
            have HP7 := Lib.hid hpa
            have HGT7 := Lib.hid hgT
            have iw : IntKind.i64.wrap ((kk : Int) + 1) = (kk : Int) + 1 := IntWalk.i64_in _ (by omega)
            have iw0 : (0 : Int) ≤ (kk : Int) + 1 := by omega
            have iwn : ((kk : Int) + 1).toNat = kk + 1 := by omega
            clear hr1 hr2 hbk hfrt hplc hupc hpa hgT hu7 hpl7 e1 hcc hglt hgB hwA hao
            go_upto_region 27 with (fail)
            refine wp_region_w (fun L => (if L 0 = true then (if L 4 = true then (if L 9 = true then w2 else w1) else wA) else wr5.drew)) (rcV gl Rs.length cl kk wr5.heap.size ao v1 (.slice a2 (Rs.length - 1) c2)) (by kernel_rfl) (by kernel_rfl) 140 rfl rfl rfl ?_ ?_
            · intro i o L tmps w' ho hI hL hd hcl
              have hi : i < 11 := (Array.getElem?_eq_some_iff.1 ho).1
              have t14 : tmps[14]?.getD undef = .int .i64 (kk : Int) := (hI.old 14 (by rfl)).trans rfl
              obtain rfl | rfl | rfl | rfl | rfl | rfl | rfl | rfl | rfl | rfl | rfl : i = 0 ∨ i = 1 ∨ i = 2 ∨ i = 3 ∨ i = 4 ∨ i = 5 ∨ i = 6 ∨ i = 7 ∨ i = 8 ∨ i = 9 ∨ i = 10 := by omega
              · cases ho
                have g0 : L 0 = false := hcl.not_up (i := 0) (s := 0) 11 (by kernel_rfl) hL
                have g4 : L 4 = false := hcl.not_up (i := 0) (s := 4) 11 (by kernel_rfl) hL
                have g9 : L 9 = false := hcl.not_up (i := 0) (s := 9) 11 (by kernel_rfl) hL
                have hw0 : w' = wr5.drew := by rw [hI.wd]; simp [g0, g4, g9]
                have HW0 := Lib.hid hw0
                clear hw0
                refine wpOp_step rfl (fun K hK => ?_)
                go_simp
                rw [HW0.out, ← HWA.out]
                exact hK _ _ (hI.val_step 0 109 (.slice (some ⟨wr5.heap.size, 0, none⟩) 0 0) (by decide) (by simp [upL, g0, g4, g9]) (by simp [rcV]) (by kernel_rfl))
              · cases ho
                have t9 : tmps[9]?.getD undef = .slice (some ⟨gl, 0, none⟩) Rs.length cl := (hI.yet (10, 9, .slice a2 (Rs.length - 1) c2) (by simp [rcV]) (hcl.not_up (i := 1) (s := 10) 11 (by kernel_rfl) hL)).trans rfl
                refine wpOp_step rfl (fun K hK => ?_)
                go_simp
                exact hK _ _ (hI.val_step 1 110 (.slice (some ⟨gl, 0, none⟩) Rs.length cl) (by decide) (by rw [hI.wd]; rfl) (by simp [rcV]) (by kernel_rfl))
              · cases ho
                refine wpOp_step rfl (fun K hK => ?_)
                go_simp
                exact hK _ _ (hI.val_step 2 111 (.int .i64 (kk : Int)) (by decide) (by rw [hI.wd]; rfl) (by simp [rcV]) (by kernel_rfl))
              · cases ho
                have t110 : tmps[110]?.getD undef = .slice (some ⟨gl, 0, none⟩) Rs.length cl := hI.val (1, 110, _) (by simp [rcV]) (hd ⟨1, .data⟩ (by simp) rfl)
                have t111 : tmps[111]?.getD undef = .int .i64 (kk : Int) := hI.val (2, 111, _) (by simp [rcV]) (hd ⟨2, .data⟩ (by simp) rfl)
                have cr := HFR.out w'
                refine wpOp_step rfl (fun K hK => ?_)
                go_simp
                exact hK _ _ (hI.val_step 3 112 (.slice (some ⟨gl, 0, none⟩) kk cl) (by decide) (by rw [hI.wd]; rfl) (by simp [rcV]) (by kernel_rfl))
              · cases ho
                have t109 : tmps[109]?.getD undef = .slice (some ⟨wr5.heap.size, 0, none⟩) 0 0 := hI.val (0, 109, _) (by simp [rcV]) (hd ⟨0, .data⟩ (by simp) rfl)
                have t112 : tmps[112]?.getD undef = .slice (some ⟨gl, 0, none⟩) kk cl := hI.val (3, 112, _) (by simp [rcV]) (hd ⟨3, .data⟩ (by simp) rfl)
                have g0 : L 0 = true := hcl.dep_up (i := 4) (s := 0) rfl hd 11 (by kernel_rfl) (by decide)
                have g4 : L 4 = false := hcl.not_up (i := 4) (s := 4) 11 (by kernel_rfl) hL
                have g9 : L 9 = false := hcl.not_up (i := 4) (s := 9) 11 (by kernel_rfl) hL
                have hw0 : w' = wA := by rw [hI.wd]; simp [g0, g4, g9]
                have HW0 := Lib.hid hw0
                clear hw0
                refine wpOp_step rfl (fun K hK => ?_)
                rw [HW0.out]
                refine step_append_run (by rfl) _ _ _ (by rfl) (by simpa [Act.eval] using t109) (by simpa [Act.eval] using t112) HR1.out ?_
                exact hK _ _ (hI.val_step 4 113 (v1) (by decide) (by simp [upL, g0, g4, g9]) (by simp [rcV]) (by kernel_rfl))
              · cases ho
                have t9 : tmps[9]?.getD undef = .slice (some ⟨gl, 0, none⟩) Rs.length cl := (hI.yet (10, 9, .slice a2 (Rs.length - 1) c2) (by simp [rcV]) (hcl.not_up (i := 5) (s := 10) 11 (by kernel_rfl) hL)).trans rfl
                refine wpOp_step rfl (fun K hK => ?_)
                go_simp
                exact hK _ _ (hI.val_step 5 114 (.slice (some ⟨gl, 0, none⟩) Rs.length cl) (by decide) (by rw [hI.wd]; rfl) (by simp [rcV]) (by kernel_rfl))
              · cases ho
                refine wpOp_step rfl (fun K hK => ?_)
                go_simp
                exact hK _ _ (hI.val_step 6 115 (.int .i64 (kk : Int)) (by decide) (by rw [hI.wd]; rfl) (by simp [rcV]) (by kernel_rfl))
              · cases ho
                have t115 : tmps[115]?.getD undef = .int .i64 (kk : Int) := hI.val (6, 115, _) (by simp [rcV]) (hd ⟨6, .data⟩ (by simp) rfl)
                refine wpOp_step rfl (fun K hK => ?_)
                go_simp
                exact hK _ _ (hI.val_step 7 116 (.int .i64 ((kk : Int) + 1)) (by decide) (by rw [hI.wd]; rfl) (by simp [rcV]) (by kernel_rfl))
              · cases ho
                have t114 : tmps[114]?.getD undef = .slice (some ⟨gl, 0, none⟩) Rs.length cl := hI.val (5, 114, _) (by simp [rcV]) (hd ⟨5, .data⟩ (by simp) rfl)
                have t116 : tmps[116]?.getD undef = .int .i64 ((kk : Int) + 1) := hI.val (7, 116, _) (by simp [rcV]) (hd ⟨7, .data⟩ (by simp) rfl)
                have cr := HBK.out w'
                refine wpOp_step rfl (fun K hK => ?_)
                go_simp
                exact hK _ _ (hI.val_step 8 117 (.slice (some ⟨gl, ao, none⟩) (Rs.length - (kk + 1)) (cl - (kk + 1))) (by decide) (by rw [hI.wd]; rfl) (by simp [rcV]) (by kernel_rfl))
              · cases ho
                have t113 : tmps[113]?.getD undef = v1 := hI.val (4, 113, _) (by simp [rcV]) (hd ⟨4, .data⟩ (by simp) rfl)
                have t117 : tmps[117]?.getD undef = .slice (some ⟨gl, ao, none⟩) (Rs.length - (kk + 1)) (cl - (kk + 1)) := hI.val (8, 117, _) (by simp [rcV]) (hd ⟨8, .data⟩ (by simp) rfl)
                have g0 : L 0 = true := hcl.dep_up (i := 9) (s := 0) rfl hd 11 (by kernel_rfl) (by decide)
                have g4 : L 4 = true := hcl.dep_up (i := 9) (s := 4) rfl hd 11 (by kernel_rfl) (by decide)
                have g9 : L 9 = false := hcl.not_up (i := 9) (s := 9) 11 (by kernel_rfl) hL
                have hw0 : w' = w1 := by rw [hI.wd]; simp [g0, g4, g9]
                have HW0 := Lib.hid hw0
                clear hw0
                refine wpOp_step rfl (fun K hK => ?_)
                rw [HW0.out]
                refine step_append_run (by rfl) _ _ _ (by rfl) (by simpa [Act.eval] using t113) (by simpa [Act.eval] using t117) HRB.out ?_
                exact hK _ _ (hI.val_step 9 118 (.slice a2 (Rs.length - 1) c2) (by decide) (by simp [upL, g0, g4, g9]) (by simp [rcV]) (by kernel_rfl))
              · cases ho
                have t118 : tmps[118]?.getD undef = .slice a2 (Rs.length - 1) c2 := hI.val (9, 118, _) (by simp [rcV]) (hd ⟨9, .data⟩ (by simp) rfl)
                refine wpOp_step rfl (fun K hK => ?_)
                go_simp
                exact hK _ _ (hI.val_step 10 9 (.slice a2 (Rs.length - 1) c2) (by decide) (by rw [hI.wd]; rfl) (by simp [rcV]) (by kernel_rfl))
            · intro Lu tmps w9 hI hall
              have hat := hI.fin rfl (fun t ht => hall _ (by have h9 := List.all_eq_true.1 (show ((rcV gl Rs.length cl kk wr5.heap.size ao v1 (.slice a2 (Rs.length - 1) c2)).all fun t => decide (t.1 < 11)) = true from rfl) t ht; simpa using h9))
              have hw9 : w9 = w2 := by rw [hI.wd]; simp [hall 0 (by decide), hall 4 (by decide), hall 9 (by decide)]
              clear hI hall
              simp only [rcV, List.map_cons, List.map_nil, sets, List.setIfInBounds_toArray, List.set_cons_zero, List.set_cons_succ] at hat
              rw [hat]
              clear hat tmps
              clear iw iw0 iwn
              rw [hw9]
              clear hw9
              go_wp2_with fail
              have hgT3 : (g3.T fun _ => none) = g2.T M' := HGT7.out
              refine ⟨⟨q + 1, g3, K', b2 + 1, Rs.eraseIdx kk, by go_num, rfl, by rw [List.length_eraseIdx, if_pos hkk]; omega, by omega, Lib.hid (HP7.out.below HUC.out), Lib.hid (HR2.out.drop (r := r) ?_ HD4.out), Lib.hid ?_, Lib.hid ?_⟩, by simp [intOf]; omega⟩
              · exact perm_cut HR.out
              · rw [hgT3]
                exact HT2.out.drop HAP.out HLW.out HD4.out
              · rw [eraseIdx_map]
                exact HPC.out
        · obtain rfl : Rs = [] := List.length_eq_zero_iff.1 (by omega)
          have hgh2 := HP2.out.h
          have hk0 := HR2.out.nil
          have hT2 := HT2.out.nil hk0
          have hlf : leftN (g2.T fun _ => none) g2.h = lf := by
            have e1 : g2.h = g0.h := by rw [hgh2, HGH0.out]
            rw [HLF.out, e1]
            exact leftN_congr (fun i => (hT2 i).trans (HGT0.out i).symm) _
          have hle := left_spec HP2.out.sp (by omega) (by omega)
          rw [hlf] at hle
          have HLE2 := Lib.hid hle
          have HK0 := Lib.hid (hk0 0)
          have HGH2 := Lib.hid hgh2
          clear hgh2 hk0 hT2 hlf hle
          go_wp2_with fail
          refine HLE2.out.mono ?_
          rintro e w3 ⟨rfl, hsp3, hu3⟩
          have HLN := Lib.hid (list_no hsp3 HP2.out.pk (by have := HGH2.out; omega) (by have := HGH2.out; omega) (n := 0) (ni := 0) rfl (by omega) HK0.out)
          have hSS := HP2.out.S HJ.out
          have HU3 := Lib.hid (HP2.out.upd.late hu3 (fun i hi => .inr (hSS.1 i hi)))
          have HJB : Hid (w.heap.size ≤ g2.j.jb) := by show _ ≤ _; exact hSS.1 _ (g2.mem _ (by simp))
          clear hsp3 hu3 hSS
          go_wp2_with fail
          refine HLN.out.mono ?_
          rintro e w4 ⟨rfl, h4, hu4⟩
          have HU4 := Lib.hid (HU3.out.late hu4 (fun i hi => .inr (by simp at hi; subst hi; exact HJB.out)))
          clear h4 hu4
          go_wp2_with fail
          go_ret
          exact ⟨rfl, HU4.out⟩
end Go.Proofs.YtceakcejchbbjaaGreat
