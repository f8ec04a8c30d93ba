/-
  PackTold, walked.
-/
import Derived.Test.YtceakcejchbbjaaGreatPnA
set_option linter.unusedSimpArgs false
set_option linter.unusedVariables false
namespace Go.Proofs.YtceakcejchbbjaaGreat
open Go.RowKit Go.MapKept Go.ChangeMaps

--DEFV
def t36G (ub n3 nS : Nat) : List (Nat × Nat × Value) := [(0, 177, .slice (some ⟨ub, 0, none⟩) nS nS), (1, 178, .int .i64 (n3 : Int)), (2, 179, .pointer (some ⟨ub, n3, none⟩)), (3, 180, .bool true), (4, 181, .bool false), (5, 182, .bool false), (6, 183, .tuple #[]), (7, 184, .tuple #[]), (8, 185, .tuple #[]), (9, 186, .tuple #[]), (10, 187, .tuple #[]), (11, 188, .tuple #[]), (12, 189, .tuple #[]), (13, 190, .tuple #[]), (14, 191, .tuple #[]), (15, 192, .tuple #[]), (16, 193, .tuple #[]), (17, 194, .tuple #[]), (18, 195, .tuple #[]), (19, 196, .tuple #[]), (20, 197, .bool false)]
def t36LD : List (Nat × Nat) := [(0, 177), (1, 178), (2, 179), (3, 180), (4, 181), (5, 182), (6, 183), (7, 184), (8, 185), (9, 186), (10, 187), (11, 188), (12, 189), (13, 190), (14, 191), (15, 192), (16, 193), (17, 194), (18, 195), (19, 196), (20, 197)]
def t36LK (ub n3 nS sb so nK cv : Nat) (a : Int) (x : Value) (b : List UInt8) : Nat → Kd
  | 0 => .c (.slice (some ⟨ub, 0, none⟩) nS nS)
  | 1 => .c (.int .i64 (n3 : Int))
  | 2 => .c (.pointer (some ⟨ub, n3, none⟩))
  | 3 => .c (.bool false)
  | 4 => .c (.bool true)
  | 5 => .c (.bool true)
  | 6 => .c (.int .i64 0)
  | 7 => .c (.bool false)
  | 8 => .c (.bool false)
  | 9 => .c (x)
  | 10 => .c (.string (str b))
  | 11 => .c (.int .i64 (n3 : Int))
  | 12 => .c (.slice (some ⟨sb, so, none⟩) nK cv)
  | 13 => .c (.int .i64 (n3 : Int))
  | 14 => .c (.pointer (some ⟨sb, so + n3, none⟩))
  | 15 => .c (.int .i64 a)
  | 16 => .f fun w v => Rd w v b
  | 17 => .c (.string (str b))
  | 18 => .c (.bool false)
  | 19 => .c (.bool false)
  | 20 => .c (.bool false)
  | _ => .c undef
theorem t36LL (ub n3 nS sb so nK cv : Nat) (a : Int) (x : Value) (b : List UInt8) : ∀ k, (t36LK ub n3 nS sb so nK cv a x b k).lasts := by
  intro k; unfold t36LK; split <;> first | trivial | exact Kd.lasts_rd _
--ENDT36
def t8A (gl pb k I cl rn ra rl xn xa xl : Nat) : List (Nat × Nat × Value) := [(0, 67, .slice (some ⟨gl, 0, none⟩) I cl), (1, 68, .int .i64 (k : Int)), (2, 69, .pointer (some ⟨gl, k * 3, none⟩)), (3, 70, .pointer (some ⟨gl, k * 3, none⟩)), (4, 71, .int .i64 (rn : Int)), (5, 72, .pointer (some ⟨pb, 0, none⟩)), (6, 73, .int .i64 (xn : Int)), (7, 74, .bool false), (8, 75, .bool false), (9, 76, .tuple #[]), (10, 77, .tuple #[]), (11, 78, .tuple #[]), (12, 79, .tuple #[]), (13, 80, .tuple #[]), (14, 81, .tuple #[]), (15, 82, .tuple #[]), (16, 83, .tuple #[]), (17, 84, .tuple #[]), (18, 85, .tuple #[]), (19, 86, .tuple #[]), (20, 87, .bool false), (21, 88, .bool false), (22, 89, .tuple #[]), (23, 90, .tuple #[]), (24, 91, .tuple #[]), (25, 92, .tuple #[]), (26, 93, .tuple #[]), (27, 94, .tuple #[]), (28, 95, .tuple #[]), (29, 96, .tuple #[]), (30, 97, .tuple #[]), (31, 98, .tuple #[]), (32, 99, .tuple #[]), (33, 100, .tuple #[]), (34, 101, .tuple #[]), (35, 102, .tuple #[]), (36, 103, .bool false)]
def t8B (gl pb k I cl rn ra rl xn xa xl : Nat) : List (Nat × Nat × Value) := [(0, 67, .slice (some ⟨gl, 0, none⟩) I cl), (1, 68, .int .i64 (k : Int)), (2, 69, .pointer (some ⟨gl, k * 3, none⟩)), (3, 70, .pointer (some ⟨gl, k * 3, none⟩)), (4, 71, .int .i64 (rn : Int)), (5, 72, .pointer (some ⟨pb, 0, none⟩)), (6, 73, .int .i64 (xn : Int)), (7, 74, .bool true), (8, 75, .bool true), (9, 76, .slice (some ⟨gl, 0, none⟩) I cl), (10, 77, .int .i64 (k : Int)), (11, 78, .pointer (some ⟨gl, k * 3, none⟩)), (12, 79, .pointer (some ⟨gl, k * 3 + 1, none⟩)), (13, 80, .int .i64 (ra : Int)), (14, 81, .pointer (some ⟨pb, 1, none⟩)), (15, 82, .int .i64 (xa : Int)), (16, 83, .pointer (some ⟨pb, 2, none⟩)), (17, 84, .int .i64 (xl : Int)), (18, 85, .int .i64 ((xa : Int) + (xl : Int))), (19, 86, .bool false), (20, 87, .bool false), (21, 88, .bool false), (22, 89, .tuple #[]), (23, 90, .tuple #[]), (24, 91, .tuple #[]), (25, 92, .tuple #[]), (26, 93, .tuple #[]), (27, 94, .tuple #[]), (28, 95, .tuple #[]), (29, 96, .tuple #[]), (30, 97, .tuple #[]), (31, 98, .tuple #[]), (32, 99, .tuple #[]), (33, 100, .tuple #[]), (34, 101, .tuple #[]), (35, 102, .tuple #[]), (36, 103, .bool false)]
def t8C (gl pb k I cl rn ra rl xn xa xl : Nat) : List (Nat × Nat × Value) := [(0, 67, .slice (some ⟨gl, 0, none⟩) I cl), (1, 68, .int .i64 (k : Int)), (2, 69, .pointer (some ⟨gl, k * 3, none⟩)), (3, 70, .pointer (some ⟨gl, k * 3, none⟩)), (4, 71, .int .i64 (rn : Int)), (5, 72, .pointer (some ⟨pb, 0, none⟩)), (6, 73, .int .i64 (xn : Int)), (7, 74, .bool true), (8, 75, .bool true), (9, 76, .slice (some ⟨gl, 0, none⟩) I cl), (10, 77, .int .i64 (k : Int)), (11, 78, .pointer (some ⟨gl, k * 3, none⟩)), (12, 79, .pointer (some ⟨gl, k * 3 + 1, none⟩)), (13, 80, .int .i64 (ra : Int)), (14, 81, .pointer (some ⟨pb, 1, none⟩)), (15, 82, .int .i64 (xa : Int)), (16, 83, .pointer (some ⟨pb, 2, none⟩)), (17, 84, .int .i64 (xl : Int)), (18, 85, .int .i64 ((xa : Int) + (xl : Int))), (19, 86, .bool true), (20, 87, .bool true), (21, 88, .bool true), (22, 89, .pointer (some ⟨pb, 1, none⟩)), (23, 90, .int .i64 (xa : Int)), (24, 91, .slice (some ⟨gl, 0, none⟩) I cl), (25, 92, .int .i64 (k : Int)), (26, 93, .pointer (some ⟨gl, k * 3, none⟩)), (27, 94, .pointer (some ⟨gl, k * 3 + 1, none⟩)), (28, 95, .int .i64 (ra : Int)), (29, 96, .slice (some ⟨gl, 0, none⟩) I cl), (30, 97, .int .i64 (k : Int)), (31, 98, .pointer (some ⟨gl, k * 3, none⟩)), (32, 99, .pointer (some ⟨gl, k * 3 + 2, none⟩)), (33, 100, .int .i64 (rl : Int)), (34, 101, .int .i64 ((ra : Int) + (rl : Int))), (35, 102, .bool false), (36, 103, .bool false)]
def toAD : List (Nat × Nat) := [(0, 41), (1, 42), (2, 43), (3, 44), (4, 45), (5, 46), (6, 47), (7, 48), (8, 49), (9, 50), (10, 51), (11, 40), (12, 52), (13, 53), (14, 9), (16, 10)]
def toAO : Nat → Nat
  | 0 => 0
  | 1 => 1
  | 2 => 2
  | 3 => 3
  | 4 => 20
  | 5 => 21
  | 6 => 22
  | 7 => 23
  | 8 => 24
  | 9 => 4
  | 10 => 5
  | 11 => 6
  | 12 => 7
  | 13 => 8
  | 14 => 9
  | 16 => 8
  | _ => 99
def toAX (I : Nat) (sv : Value) (vb vo : Nat) (a : Int) : Nat → Value
  | 20 => .int .i64 (I : Int)
  | 21 => sv
  | 22 => .int .i64 (I : Int)
  | 23 => .pointer (some ⟨vb, vo, none⟩)
  | 24 => .int .i64 a
  | _ => undef
set_option maxRecDepth 100000 in
set_option maxHeartbeats 8000000 in
theorem told11_spec (ks gs : List Int) (v v1 : Value) (w : World) (hrd : RdL w [] v (ks.map fun i => .int .i64 i)) (hrd1 : RdL w [] v1 (gs.map fun i => .int .i64 i)) : Calls Tryz.prog 6 #[v, v1] w fun e w' => e = .returned (.bool true) ∧ Upd [] w w' := by
  obtain ⟨av, cv, rfl, hcv⟩ := hrd.shape
  obtain ⟨av1, cv1, rfl, hcv1⟩ := hrd1.shape
  rw [List.length_map] at hcv hrd hcv1 hrd1 ⊢
  rw [List.length_map]
  have HV := Lib.hid hrd
  have HV1 := Lib.hid hrd1
  have HCV := Lib.hid hcv
  have HCV1 := Lib.hid hcv1
  have HB := Lib.hid begun800
  clear hrd hrd1 hcv hcv1
  by_cases hS : 40 < ks.length
  · have c1 : decide ((40 : Int) < (ks.length : Int)) = true := decide_eq_true (by omega)
    have c1' : decide (40 < ks.length) = true := decide_eq_true hS
    go_enter Tryz.func6, Tryz.ntmps6
    go_wp2_with fail
    refine (begun11_spec w).mono ?_
    rintro e w1 ⟨rfl, hu1⟩
    go_wp2_with fail
    go_ret
    exact ⟨rfl, hu1⟩
  have c1 : decide ((40 : Int) < (ks.length : Int)) = false := decide_eq_false (by omega)
  have c1' : decide (40 < ks.length) = false := decide_eq_false hS
  by_cases hG : 40 < gs.length
  · have c2 : decide ((40 : Int) < (gs.length : Int)) = true := decide_eq_true (by omega)
    have c2' : decide (40 < gs.length) = true := decide_eq_true hG
    go_enter Tryz.func6, Tryz.ntmps6
    go_wp2_with fail
    refine (begun11_spec w).mono ?_
    rintro e w1 ⟨rfl, hu1⟩
    go_wp2_with fail
    go_ret
    exact ⟨rfl, hu1⟩
  have c2 : decide ((40 : Int) < (gs.length : Int)) = false := decide_eq_false (by omega)
  have c2' : decide (40 < gs.length) = false := decide_eq_false hG
  go_enter Tryz.func6, Tryz.ntmps6
  go_wp2_with fail
  refine (begun11_spec w).mono ?_
  rintro e w1 ⟨rfl, hu1⟩
  have HU1 := Lib.hid hu1
  clear hu1
  go_wp2_with fail
  refine (HB.out _).mono ?_
  rintro e w2 ⟨g0, rfl, hg, hu2⟩
  have hj : ∀ k, k ∈ g0.j.all → w.heap.size ≤ k := fun k hk => Nat.le_trans HU1.out.size (hg.late k (by simp [Sg.S, hk]))
  have hpa : PkAt w w2 g0.j 800 60 2 g0 (fun _ => Option.none) := ⟨⟨w1, hg.js, HU1.out.size⟩, hg.sp, hg.packs, HU1.out.trans hu2⟩
  have hrow : RowOf 0 (fun _ => Option.none) (g0.T fun _ => none) := RowOf.zero noPk hg.T
  have HJ := Lib.hid hj
  have HPA := Lib.hid hpa
  have HRO := Lib.hid hrow
  clear hg hu2 hj hpa hrow
  go_wp2_with fail
  go_loopw [7, 8, 6] (fun l i t wr => ∃ (I m : Nat) (g : Sg) (K : Nat → Option Pk) (Rs : List Rc), i = .int .i64 (I : Int) ∧ t = .pointer (some ⟨g.x.tb, 0, none⟩) ∧ I ≤ ks.length ∧ m ≤ I ∧ Hid (Rs.length = I) ∧ Hid (PkAt w wr g0.j 800 60 (2 + I) g K) ∧ Hid (RecsAt K Rs.reverse) ∧ Hid (RowOf m K (g.T fun _ => none)) ∧ Hid (RcsOf ks Rs) ∧ Hid (PlB wr w.heap.size l (Rs.map plOf))) (fun _ i _ _ => 40 - (intOf i).toNat)
  case atStart =>
    exact ⟨0, 0, g0, _, [], rfl, rfl, by omega, by omega, Lib.hid rfl, HPA, Lib.hid (RecsAt.zero noPk), HRO, Lib.hid (fun i r h => by simp at h), Lib.hid (PlB.nil _ _)⟩
  case round =>
    obtain ⟨I, m, g, K, Rs, rfl, rfl, hI, hm, HRL, HPK2, HRC, HRW, HRS, HPL⟩ := hrel
    rcases Nat.lt_or_ge I ks.length with h4 | h4
    · have cj : decide ((I : Int) < (ks.length : Int)) = true := decide_eq_true (by omega)
      obtain ⟨a, ha⟩ : ∃ a, ks[I]? = some a := ⟨_, List.getElem?_eq_getElem h4⟩
      obtain ⟨al, cl, hlsh⟩ := HPL.out.shape
      rw [List.length_map, HRL.out] at hlsh
      subst hlsh
      obtain ⟨sb, so, hsb, rfl, hcw⟩ := HV.out.cellZ (i := I) (x := .int .i64 a) (by rw [List.getElem?_map, ha]; rfl)
      have hc0 := cell_updP hcw HPK2.out.upd (by simp)
      have hSS := HPK2.out.S HJ.out
      have hns : sb ∉ g.S := fun q => by have := hSS.1 sb q; omega
      obtain ⟨bb, hbb⟩ : ∃ b, b = bodyB I (placeN a 4201) := ⟨_, rfl⟩
      have hbl : bb.length ≤ 4200 := by rw [hbb, bodyB_length]; have := placeN_lt (k := a) (n := 4201) (by omega); omega
      obtain ⟨ky, hky⟩ : ∃ k, k = keyP (I % 256) := ⟨_, rfl⟩
      have hkl : ky.length = 32 := by rw [hky]; exact keyP_length _
      obtain ⟨R, hR⟩ : ∃ R, R = Rs.reverse := ⟨_, rfl⟩
      have hrc := HRC.out
      rw [← hR] at hrc
      obtain ⟨xx, hadd⟩ := told_add HPK2.out hrc HRW.out (by omega) (by omega) (by omega) ky bb hkl hbl
      obtain ⟨P, hP⟩ : ∃ P : Nat × Nat × Nat, P = (xx.1, xx.2, 46 + bb.length) := ⟨_, rfl⟩
      obtain ⟨er, her⟩ : ∃ e : Nat, e = 0 := ⟨_, rfl⟩
      have HADD : Hid (∀ W vb, Upd [] wr W → Rd W vb bb → Calls Tryz.prog 16 #[.pointer (some ⟨g.x.tb, 0, none⟩), .agg (bts ky).toArray, vb] W fun e w' => e = .returned (.tuple #[plV P, .int .i64 (er : Int)]) ∧ ToldOut g K R m xx ky bb w' ∧ Upd g.S W w') := by
        show ∀ W vb, _
        intro W vb hu hr
        rw [hP, her]
        exact hadd W vb hu hr
      have HKY : Hid (∀ W, Calls Tryz.prog 17 #[.int .u8 (IntKind.u8.wrap (I : Int))] W fun e w'' => e = .returned (.agg (bts ky).toArray) ∧ Upd [] W w'') := by
        show ∀ W, _
        intro W
        rw [hky]
        exact key11_spec (I % 256) _ (by rw [IntKind.wrap_u8]; omega) (by omega) W
      have HBD : Hid (∀ W, Calls Tryz.prog 30 #[.int .i64 (I : Int), .int .i64 a] W fun e w'' => ∃ v, e = .returned v ∧ Rd w'' v bb ∧ Upd [] W w'') := by
        show ∀ W, _
        intro W
        rw [hbb]
        exact body_spec I (by omega) a W
      have hlt0 := HPK2.out.sp.lt
      have HSW : Hid (∀ k, k ∈ g.S → k < wr.heap.size) := by show ∀ k, _; exact hlt0.1
      have HPQ : Hid (∀ W W', ToldOut g K R m xx ky bb W → Upd [] W W' → ToldOut g K R m xx ky bb W') := by show ∀ W W', _; exact fun W W' h hu => h.below hu
      have HPS : Hid (∀ W W' pb, ToldOut g K R m xx ky bb W → wr.heap.size ≤ pb → W.heap[pb]? = some (.cells #[.int .i64 0, .int .i64 0, .int .i64 0] 30 (0, 0)) → Upd [pb] W W' → ToldOut g K R m xx ky bb W') := by
        show ∀ W W' pb, _
        exact fun W W' pb h hp hb hu => h.res hlt0 hp hb hu
      have HNS := Lib.hid hns
      have HPP := Lib.hid hP
      have HER := Lib.hid her
      have HRR := Lib.hid hR
      have HBB := Lib.hid hbb
      have HKK := Lib.hid hky
      have HKL := Lib.hid hkl
      have HA := Lib.hid ha
      have HSB := Lib.hid hsb
      clear hky hkl hP her hR hbb ha hadd hrc hlt0 hcw hSS hns hsb
      go_upto_region 12 with (fail)
      refine wp_region_p toAD (fun L k w v => adPr wr g.x.tb (I : Int) (IntKind.u8.wrap (I : Int)) ky bb P er (toAX I (.slice (some ⟨sb, so, none⟩) ks.length cv) sb (so + I) a) 10 15 L (toAO k) w v) (adG wr g.S (ToldOut g K R m xx ky bb) 10 15 14) (by kernel_rfl) (by kernel_rfl) 198 rfl rfl ⟨(Upd.refl _ _).drew, fun _ => (Upd.refl _ _).drew, fun h => (by cases h), fun h => (by cases h)⟩ ?_ ?_
      · intro i o L tmps w' ho hI hL hd
        have hi : i < 17 := (Array.getElem?_eq_some_iff.1 ho).1
        have t6 : tmps[6]?.getD undef = .pointer (some ⟨g.x.tb, 0, none⟩) := (hI.old 6 (by rfl)).trans rfl
        have t8 : tmps[8]?.getD undef = .int .i64 (I : Int) := (hI.old 8 (by rfl)).trans rfl
        have t0 : tmps[0]?.getD undef = .slice (some ⟨sb, so, none⟩) ks.length cv := (hI.old 0 (by rfl)).trans rfl
        have mc := cell_updP hc0 hI.gw.1 HNS.out
        obtain rfl | rfl | rfl | rfl | rfl | rfl | rfl | rfl | rfl | rfl | rfl | rfl | rfl | rfl | rfl | rfl | rfl : i = 0 ∨ i = 1 ∨ i = 2 ∨ i = 3 ∨ i = 4 ∨ i = 5 ∨ i = 6 ∨ i = 7 ∨ i = 8 ∨ i = 9 ∨ i = 10 ∨ i = 11 ∨ i = 12 ∨ i = 13 ∨ i = 14 ∨ i = 15 ∨ i = 16 := by omega
        · cases ho
          refine wpOp_step rfl (fun K hK => ?_)
          go_simp
          exact hK _ _ (hI.step 0 41 (.pointer (some ⟨g.x.tb, 0, none⟩)) (by decide) (by kernel_rfl) (fun _ _ h9 => adPr_upd (i := 0) (by decide) (Upd.refl [] _) (by simp) (fun q => ⟨up_false q, Upd.refl _ _⟩) _ _ h9) rfl (hI.gw.quiet (by decide) (by decide) (Upd.refl _ _) id))
        · cases ho
          refine wpOp_step rfl (fun K hK => ?_)
          go_simp
          exact hK _ _ (hI.step 1 42 (.int .i64 (I : Int)) (by decide) (by kernel_rfl) (fun _ _ h9 => adPr_upd (i := 1) (by decide) (Upd.refl [] _) (by simp) (fun q => ⟨up_false q, Upd.refl _ _⟩) _ _ h9) rfl (hI.gw.quiet (by decide) (by decide) (Upd.refl _ _) id))
        · cases ho
          have t42 : tmps[42]?.getD undef = .int .i64 (I : Int) := hI.val (1, 42) (by simp [toAD]) (hd ⟨1, .data⟩ (by simp) rfl)
          refine wpOp_step rfl (fun K hK => ?_)
          go_simp
          exact hK _ _ (hI.step 2 43 (.int .u8 (IntKind.u8.wrap (I : Int))) (by decide) (by kernel_rfl) (fun _ _ h9 => adPr_upd (i := 2) (by decide) (Upd.refl [] _) (by simp) (fun q => ⟨up_false q, Upd.refl _ _⟩) _ _ h9) rfl (hI.gw.quiet (by decide) (by decide) (Upd.refl _ _) id))
        · cases ho
          have t43 : tmps[43]?.getD undef = .int .u8 (IntKind.u8.wrap (I : Int)) := hI.val (2, 43) (by simp [toAD]) (hd ⟨2, .data⟩ (by simp) rfl)
          refine wpOp_step rfl (fun K hK => ?_)
          go_simp
          go_at_call 17
          refine (HKY.out w').mono ?_
          rintro e w2 ⟨rfl, hu⟩
          exact hK _ _ (hI.step 3 44 (.agg (bts ky).toArray) (by decide) (by kernel_rfl) (fun _ _ h9 => adPr_upd (i := 3) (by decide) hu (by simp) (fun q => ⟨up_false q, hu⟩) _ _ h9) (rfl) (hI.gw.quiet (by decide) (by decide) hu (fun q => HPQ.out _ _ q hu)))
        · cases ho
          refine wpOp_step rfl (fun K hK => ?_)
          go_simp
          exact hK _ _ (hI.step 4 45 (.int .i64 (I : Int)) (by decide) (by kernel_rfl) (fun _ _ h9 => adPr_upd (i := 4) (by decide) (Upd.refl [] _) (by simp) (fun q => ⟨up_false q, Upd.refl _ _⟩) _ _ h9) rfl (hI.gw.quiet (by decide) (by decide) (Upd.refl _ _) id))
        · cases ho
          refine wpOp_step rfl (fun K hK => ?_)
          go_simp
          exact hK _ _ (hI.step 5 46 (.slice (some ⟨sb, so, none⟩) ks.length cv) (by decide) (by kernel_rfl) (fun _ _ h9 => adPr_upd (i := 5) (by decide) (Upd.refl [] _) (by simp) (fun q => ⟨up_false q, Upd.refl _ _⟩) _ _ h9) rfl (hI.gw.quiet (by decide) (by decide) (Upd.refl _ _) id))
        · cases ho
          refine wpOp_step rfl (fun K hK => ?_)
          go_simp
          exact hK _ _ (hI.step 6 47 (.int .i64 (I : Int)) (by decide) (by kernel_rfl) (fun _ _ h9 => adPr_upd (i := 6) (by decide) (Upd.refl [] _) (by simp) (fun q => ⟨up_false q, Upd.refl _ _⟩) _ _ h9) rfl (hI.gw.quiet (by decide) (by decide) (Upd.refl _ _) id))
        · cases ho
          have t46 : tmps[46]?.getD undef = .slice (some ⟨sb, so, none⟩) ks.length cv := hI.val (5, 46) (by simp [toAD]) (hd ⟨5, .data⟩ (by simp) rfl)
          have t47 : tmps[47]?.getD undef = .int .i64 (I : Int) := hI.val (6, 47) (by simp [toAD]) (hd ⟨6, .data⟩ (by simp) rfl)
          refine wpOp_step rfl (fun K hK => ?_)
          go_simp
          exact hK _ _ (hI.step 7 48 (.pointer (some ⟨sb, so + I, none⟩)) (by decide) (by kernel_rfl) (fun _ _ h9 => adPr_upd (i := 7) (by decide) (Upd.refl [] _) (by simp) (fun q => ⟨up_false q, Upd.refl _ _⟩) _ _ h9) rfl (hI.gw.quiet (by decide) (by decide) (Upd.refl _ _) id))
        · cases ho
          have t48 : tmps[48]?.getD undef = .pointer (some ⟨sb, so + I, none⟩) := hI.val (7, 48) (by simp [toAD]) (hd ⟨7, .data⟩ (by simp) rfl)
          refine wpOp_step rfl (fun K hK => ?_)
          go_simp
          exact hK _ _ (hI.step 8 49 (.int .i64 a) (by decide) (by kernel_rfl) (fun _ _ h9 => adPr_upd (i := 8) (by decide) (Upd.refl [] _) (by simp) (fun q => ⟨up_false q, Upd.refl _ _⟩) _ _ h9) rfl (hI.gw.quiet (by decide) (by decide) (Upd.refl _ _) id))
        · cases ho
          have t45 : tmps[45]?.getD undef = .int .i64 (I : Int) := hI.val (4, 45) (by simp [toAD]) (hd ⟨4, .data⟩ (by simp) rfl)
          have t49 : tmps[49]?.getD undef = .int .i64 a := hI.val (8, 49) (by simp [toAD]) (hd ⟨8, .data⟩ (by simp) rfl)
          refine wpOp_step rfl (fun K hK => ?_)
          go_simp
          go_at_call 30
          refine (HBD.out w').mono ?_
          rintro e w2 ⟨vb2, rfl, hr2, hu⟩
          exact hK _ _ (hI.step 9 50 (vb2) (by decide) (by kernel_rfl) (fun _ _ h9 => adPr_upd (i := 9) (by decide) hu (by simp) (fun q => ⟨up_false q, hu⟩) _ _ h9) (fun _ => hr2) (hI.gw.quiet (by decide) (by decide) hu (fun q => HPQ.out _ _ q hu)))
        · cases ho
          have t41 : tmps[41]?.getD undef = .pointer (some ⟨g.x.tb, 0, none⟩) := hI.val (0, 41) (by simp [toAD]) (hd ⟨0, .data⟩ (by simp) rfl)
          have t44 : tmps[44]?.getD undef = .agg (bts ky).toArray := hI.val (3, 44) (by simp [toAD]) (hd ⟨3, .data⟩ (by simp) rfl)
          have hrd : Rd w' (tmps[50]?.getD undef) bb := hI.val (9, 50) (by simp [toAD]) (hd ⟨9, .data⟩ (by simp) rfl) hL
          obtain ⟨vb, t50⟩ : ∃ v, tmps[50]?.getD undef = v := ⟨_, rfl⟩
          rw [t50] at hrd
          refine wpOp_step rfl (fun K hK => ?_)
          go_simp
          go_at_call 16
          refine (HADD.out w' vb (hI.gw.2.1 hL) hrd).mono ?_
          rintro e w2 ⟨rfl, hpay, hu⟩
          exact hK _ _ (hI.step 10 51 (.tuple #[plV P, .int .i64 (er : Int)]) (by decide) (by kernel_rfl) (fun _ _ h9 => adPr_upd (i := 10) (by decide) hu HSW.out (fun q => by rw [upL_same] at q; cases q) _ _ h9) rfl ⟨hI.gw.1.trans hu, fun q => (by rw [upL_same] at q; cases q), fun _ => hpay, up_imp (by decide) hI.gw.2.2.2⟩)
        · cases ho
          have t51 : tmps[51]?.getD undef = .tuple #[plV P, .int .i64 (er : Int)] := hI.val (10, 51) (by simp [toAD]) (hd ⟨10, .data⟩ (by simp) rfl)
          refine wpOp_step rfl (fun K hK => ?_)
          go_simp
          exact hK _ _ (hI.step 11 40 (.tuple #[plV P, .int .i64 (er : Int)]) (by decide) (by kernel_rfl) (fun _ _ h9 => adPr_upd (i := 11) (by decide) (Upd.refl [] _) (by simp) (fun q => ⟨up_false q, Upd.refl _ _⟩) _ _ h9) rfl (hI.gw.quiet (by decide) (by decide) (Upd.refl _ _) id))
        · cases ho
          have t40 : tmps[40]?.getD undef = .tuple #[plV P, .int .i64 (er : Int)] := hI.val (11, 40) (by simp [toAD]) (hd ⟨11, .data⟩ (by simp) rfl)
          refine wpOp_step rfl (fun K hK => ?_)
          go_simp
          exact hK _ _ (hI.step 12 52 (plV P) (by decide) (by kernel_rfl) (fun _ _ h9 => adPr_upd (i := 12) (by decide) (Upd.refl [] _) (by simp) (fun q => ⟨up_false q, Upd.refl _ _⟩) _ _ h9) rfl (hI.gw.quiet (by decide) (by decide) (Upd.refl _ _) id))
        · cases ho
          have t40 : tmps[40]?.getD undef = .tuple #[plV P, .int .i64 (er : Int)] := hI.val (11, 40) (by simp [toAD]) (hd ⟨11, .data⟩ (by simp) rfl)
          refine wpOp_step rfl (fun K hK => ?_)
          go_simp
          exact hK _ _ (hI.step 13 53 (.int .i64 (er : Int)) (by decide) (by kernel_rfl) (fun _ _ h9 => adPr_upd (i := 13) (by decide) (Upd.refl [] _) (by simp) (fun q => ⟨up_false q, Upd.refl _ _⟩) _ _ h9) rfl (hI.gw.quiet (by decide) (by decide) (Upd.refl _ _) id))
        · cases ho
          refine wpOp_step rfl (fun K hK => ?_)
          go_simp
          exact hK _ _ (hI.step 14 9 (.pointer (some ⟨w'.heap.size, 0, none⟩)) (by decide) (by kernel_rfl) (fun _ _ h9 => adPr_upd (i := 14) (by decide) ((Upd.refl [] _).alloc _) (by simp) (fun q => ⟨up_false q, (Upd.refl _ _).alloc _⟩) _ _ h9) ⟨w'.heap.size, rfl, hI.gw.1.size, by rw [show upL L 14 15 = false from by rw [upL_ne _ (by decide)]; exact hI.gw.notyet hL]; exact blk_alloc _⟩ (hI.gw.quiet (by decide) (by decide) ((Upd.refl _ _).alloc _) (fun q => HPQ.out _ _ q ((Upd.refl _ _).alloc _))))
        · cases ho
          obtain ⟨pb, t90, hpb, hb⟩ := hI.val (14, 9) (by simp [toAD]) (hd ⟨14, .data⟩ (by simp) rfl)
          have t9 : tmps[9]?.getD undef = .pointer (some ⟨pb, 0, none⟩) := t90
          rw [hL] at hb
          replace hb : w'.heap[pb]? = some (.cells #[.int .i64 0, .int .i64 0, .int .i64 0] 30 (0, 0)) := hb
          have t52 : tmps[52]?.getD undef = plV P := hI.val (12, 52) (by simp [toAD]) (hd ⟨12, .data⟩ (by simp) rfl)
          have m0 : w'.cell? ⟨pb, 0, none⟩ = some (.int .i64 0) := by rw [blk_cell hb]; rfl
          have m1 : w'.cell? ⟨pb, 1, none⟩ = some (.int .i64 0) := by rw [blk_cell hb]; rfl
          have m2 : w'.cell? ⟨pb, 2, none⟩ = some (.int .i64 0) := by rw [blk_cell hb]; rfl
          have f0 := blk_free hb 0
          have f1 := blk_free hb 1
          have f2 := blk_free hb 2
          replace t52 : tmps[52]?.getD undef = .agg #[.int .i64 (P.1 : Int), .int .i64 (P.2.1 : Int), .int .i64 (P.2.2 : Int)] := t52
          have hB : L 14 = true := hd ⟨14, .data⟩ (by simp) rfl
          have hA : L 10 = true := hd ⟨10, .chain⟩ (by simp) rfl
          refine wpOp_step rfl (fun K hK => ?_)
          go_simp
          exact hK _ _ (hI.none_step 15 (by kernel_rfl) (fun t ht _ h9 => adPr_store (c := #[]) (by decide) hA hpb hb _ _ (fun e9 => (by simp [toAD] at ht; rcases ht with rfl | rfl | rfl | rfl | rfl | rfl | rfl | rfl | rfl | rfl | rfl | rfl | rfl | rfl | rfl | rfl <;> first | exact t9 | (cases e9))) h9) (hI.gw.store (by decide) hA hB hpb ((Upd.refl _ _).three _ _ _ (.inl (List.mem_singleton.2 rfl))) (fun q => HPS.out _ _ pb q hpb hb ((Upd.refl _ _).three _ _ _ (.inl (List.mem_singleton.2 rfl))))))
        · cases ho
          have t53 : tmps[53]?.getD undef = .int .i64 (er : Int) := hI.val (13, 53) (by simp [toAD]) (hd ⟨13, .data⟩ (by simp) rfl)
          refine wpOp_step rfl (fun K hK => ?_)
          go_simp
          exact hK _ _ (hI.step 16 10 (.int .i64 (er : Int)) (by decide) (by kernel_rfl) (fun _ _ h9 => adPr_upd (i := 16) (by decide) (Upd.refl [] _) (by simp) (fun q => ⟨up_false q, Upd.refl _ _⟩) _ _ h9) rfl (hI.gw.quiet (by decide) (by decide) (Upd.refl _ _) id))
      · intro L tmps w4 hI hall
        obtain ⟨pb, e10, hpb, hb⟩ := hI.val (14, 9) (by simp [toAD]) (hall 14 (by decide))
        rw [hall 15 (by decide)] at hb
        obtain ⟨vb, tvb⟩ : ∃ v, tmps[50]?.getD undef = v := ⟨_, rfl⟩
        have hat := hI.tmps_eq rfl [(41, .pointer (some ⟨g.x.tb, 0, none⟩)), (42, .int .i64 (I : Int)), (43, .int .u8 (IntKind.u8.wrap (I : Int))), (44, .agg (bts ky).toArray), (45, .int .i64 (I : Int)), (46, .slice (some ⟨sb, so, none⟩) ks.length cv), (47, .int .i64 (I : Int)), (48, .pointer (some ⟨sb, so + I, none⟩)), (49, .int .i64 a), (50, vb), (51, .tuple #[plV P, .int .i64 (er : Int)]), (40, .tuple #[plV P, .int .i64 (er : Int)]), (52, plV P), (53, .int .i64 (er : Int)), (9, .pointer (some ⟨pb, 0, none⟩)), (10, .int .i64 (er : Int))] (fun j hj => by simp [toAD] at hj ⊢; simp [hj]) (by
          intro p hp
          simp only [List.mem_cons, List.not_mem_nil, or_false] at hp
          rcases hp with rfl | rfl | rfl | rfl | rfl | rfl | rfl | rfl | rfl | rfl | rfl | rfl | rfl | rfl | rfl | rfl
          · exact hI.val (0, 41) (by simp [toAD]) (hall 0 (by decide))
          · exact hI.val (1, 42) (by simp [toAD]) (hall 1 (by decide))
          · exact hI.val (2, 43) (by simp [toAD]) (hall 2 (by decide))
          · exact hI.val (3, 44) (by simp [toAD]) (hall 3 (by decide))
          · exact hI.val (4, 45) (by simp [toAD]) (hall 4 (by decide))
          · exact hI.val (5, 46) (by simp [toAD]) (hall 5 (by decide))
          · exact hI.val (6, 47) (by simp [toAD]) (hall 6 (by decide))
          · exact hI.val (7, 48) (by simp [toAD]) (hall 7 (by decide))
          · exact hI.val (8, 49) (by simp [toAD]) (hall 8 (by decide))
          · exact tvb
          · exact hI.val (10, 51) (by simp [toAD]) (hall 10 (by decide))
          · exact hI.val (11, 40) (by simp [toAD]) (hall 11 (by decide))
          · exact hI.val (12, 52) (by simp [toAD]) (hall 12 (by decide))
          · exact hI.val (13, 53) (by simp [toAD]) (hall 13 (by decide))
          · exact e10
          · exact hI.val (16, 10) (by simp [toAD]) (hall 16 (by decide)))
        have hpay := hI.gw.2.2.1 (hall 10 (by decide))
        have hUw := hI.gw.1
        clear hI hall
        dsimp only at hat
        simp only [sets, List.setIfInBounds_toArray, List.set_cons_zero, List.set_cons_succ] at hat
        rw [hat]
        clear hat e10 tvb tmps
        replace hb : w4.heap[pb]? = some (.cells #[.int .i64 (P.1 : Int), .int .i64 (P.2.1 : Int), .int .i64 (P.2.2 : Int)] 30 (0, 0)) := hb
        have hgh := HPK2.out.h
        have hSS := HPK2.out.S HJ.out
        have hU4 : Upd [] w w4 := HPK2.out.upd.late hUw (fun i hi => .inr (hSS.1 i hi))
        have hpl4 := HPL.out.sp HPK2.out.sp hUw (fun k hk => List.mem_cons_of_mem _ hk)
        obtain ⟨M', K', m', h5, hk5, hc5, hr5, ho5, hm5, hrow5⟩ := hpay
        have he0 : er = 0 := HER.out
        subst he0
        have hcm := HPK2.out.commit h5 (by omega) (by omega) (by omega) (by omega)
        obtain ⟨wT, hTx, hwT⟩ := HPK2.out.tx
        have hjS : ∀ k, k ∈ g.x.tb :: g0.j.all → k ∈ g.x.tb :: g.S := fun k hk => by
          rcases List.mem_cons.1 hk with e | e
          · rw [e]; exact List.mem_cons_self ..
          · rw [Sg.S, hTx.j]; exact List.mem_cons_of_mem _ (List.mem_cons_of_mem _ e)
        have HCM := Lib.hid hcm
        have HGH := Lib.hid hgh
        have HSS := Lib.hid hSS
        have HU4 := Lib.hid hU4
        have HPL4 := Lib.hid hpl4
        have H5 := Lib.hid h5
        have HK5 := Lib.hid hk5
        have HR5 := Lib.hid hr5
        have HO5 := Lib.hid ho5
        have HRW5 := Lib.hid hrow5
        have HJS := Lib.hid hjS
        have HB4 := Lib.hid hb
        clear hb hgh hSS hU4 hpl4 hUw h5 hk5 hc5 hr5 ho5 hrow5 hcm hTx hwT wT hjS
        go_wp2_with fail
        refine HCM.out.mono ?_
        rintro e w5 ⟨rfl, hjs, hu5⟩
        have hpl5 := HPL4.out.sp H5.out hu5 HJS.out
        have hb5 := (hu5.block _ (blk_lt HB4.out) (fun q => H5.out.otherP HB4.out (HJS.out _ q))).trans HB4.out
        have hU5 : Upd [] w w5 := HU4.out.late hu5 (fun k hk => .inr (by
          rcases List.mem_cons.1 hk with e | e
          · rw [e]; exact HSS.out.2
          · exact HJ.out k e))
        have HPL5 := Lib.hid hpl5
        have HB5 := Lib.hid hb5
        have HU5 := Lib.hid hU5
        have HJ5 := Lib.hid hjs
        obtain ⟨xn, hxn⟩ : ∃ q, q = xx.1 := ⟨_, rfl⟩
        obtain ⟨xa, hxa⟩ : ∃ q, q = xx.2 := ⟨_, rfl⟩
        obtain ⟨xl, hxl⟩ : ∃ q, q = 46 + bb.length := ⟨_, rfl⟩
        have hPx : P = (xn, xa, xl) := by rw [hxn, hxa, hxl]; exact HPP.out
        have hO6 := HO5.out
        rw [← hxn, ← hxa, ← hxl] at hO6
        subst hPx
        have HO6 := Lib.hid hO6
        have HXN := Lib.hid hxn
        have HXA := Lib.hid hxa
        have HXL := Lib.hid hxl
        clear hjs hu5 hpl5 hb5 hU5 hO6 hxn hxa hxl
        go_wp2_with fail
        go_loopw [11] (fun ki wq => ∃ k : Nat, k ≤ I ∧ ki = .int .i64 (k : Int) ∧ Upd [] w5 wq) (fun ki _ => I - (intOf ki).toNat)
        case atStart => exact ⟨0, by omega, rfl, Upd.refl _ _⟩
        case round =>
          obtain ⟨k, hk, rfl, huq⟩ := hrel
          obtain ⟨wq, rfl⟩ : ∃ wq : World, wq = wr := ⟨_, rfl⟩
          rcases Nat.lt_or_ge k I with h6 | h6
          · have ck : decide ((k : Int) < (I : Int)) = true := decide_eq_true (by omega)
            obtain ⟨r, hr⟩ : ∃ r, Rs[k]? = some r := ⟨_, List.getElem?_eq_getElem (by rw [HRL.out]; exact h6)⟩
            obtain ⟨gl, rfl, q0, q1, q2⟩ := (HPL5.out.upd huq (by simp)).cellQ (k := k) (p := plOf r) (by rw [List.getElem?_map, hr]; rfl)
            unfold plOf at q0 q1 q2
            dsimp only at q0 q1 q2
            have hbq := (huq.block _ (blk_lt HB5.out) (by simp)).trans HB5.out
            have x0 : wq.cell? ⟨pb, 0, none⟩ = some (.int .i64 (xn : Int)) := by rw [blk_cell hbq]; rfl
            have x1 : wq.cell? ⟨pb, 1, none⟩ = some (.int .i64 (xa : Int)) := by rw [blk_cell hbq]; rfl
            have x2 : wq.cell? ⟨pb, 2, none⟩ = some (.int .i64 (xl : Int)) := by rw [blk_cell hbq]; rfl
            have hmem : r ∈ R := by rw [HRR.out]; exact List.mem_reverse.2 (List.mem_of_getElem? hr)
            have hoff := HO6.out r hmem
            have hrc := HRC.out
            rw [← HRR.out] at hrc
            have hb1 := hrc.bound HPK2.out.pk hmem
            have hb2 := HR5.out.bound HK5.out (List.mem_cons_self ..)
            replace hb2 : xa + xl ≤ 8192 := by
              have e1 := HXA.out
              have e2 := HXL.out
              rw [e1, e2]; exact hb2
            unfold Rc.off at hoff
            obtain ⟨rn, hrn⟩ : ∃ q, q = r.n := ⟨_, rfl⟩
            obtain ⟨ra, hra⟩ : ∃ q, q = r.at_ := ⟨_, rfl⟩
            obtain ⟨rl, hrl⟩ : ∃ q, q = r.len := ⟨_, rfl⟩
            rw [← hra, ← hrl] at hoff hb1
            rw [← hrn] at hoff q0
            rw [← hra] at q1
            rw [← hrl] at q2
            have t5 : IntKind.i64.wrap ((xa : Int) + (xl : Int)) = (xa : Int) + (xl : Int) := by rw [IntKind.wrap_i64]; omega
            have t6 : IntKind.i64.wrap ((ra : Int) + (rl : Int)) = (ra : Int) + (rl : Int) := by rw [IntKind.wrap_i64]; omega
            have HUQ := Lib.hid huq
            clear hr huq hbq hmem hrc hrn hra hrl
            go_upto_region 18 with (fail)
            by_cases hA : rn = xn
            · by_cases hB : ra < xa + xl
              · have d0 : ((rn : Int) == (xn : Int)) = true := by simp [hA]
                have d1 : decide ((ra : Int) < (xa : Int) + (xl : Int)) = true := decide_eq_true (by omega)
                have d2 : decide ((xa : Int) < (ra : Int) + (rl : Int)) = false := decide_eq_false (by omega)
                clear hA hB
                refine wp_region_reg (t8C gl pb k I cl rn ra rl xn xa xl) [] (by kernel_rfl) (by kernel_rfl) 198 rfl rfl ?_ ?_
                · intro i o L tmps w' ho hI hL hd
                  have hi : i < 37 := (Array.getElem?_eq_some_iff.1 ho).1
                  have hwq := (Upd.refl [] wq).drew.trans hI.upd
                  have u0 := cell_updP q0 hwq (by simp)
                  have u1 := cell_updP q1 hwq (by simp)
                  have u2 := cell_updP q2 hwq (by simp)
                  have v0 := cell_updP x0 hwq (by simp)
                  have v1 := cell_updP x1 hwq (by simp)
                  have v2 := cell_updP x2 hwq (by simp)
                  have t7 : tmps[7]?.getD undef = .slice (some ⟨gl, 0, none⟩) I cl := (hI.old 7 (by rfl)).trans rfl
                  have t11 : tmps[11]?.getD undef = .int .i64 (k : Int) := (hI.old 11 (by rfl)).trans rfl
                  have t9 : tmps[9]?.getD undef = .pointer (some ⟨pb, 0, none⟩) := (hI.old 9 (by rfl)).trans rfl
                  obtain rfl | rfl | rfl | rfl | rfl | rfl | rfl | rfl | rfl | rfl | rfl | rfl | rfl | rfl | rfl | rfl | rfl | rfl | rfl | rfl | rfl | rfl | rfl | rfl | rfl | rfl | rfl | rfl | rfl | rfl | rfl | rfl | rfl | rfl | rfl | rfl | rfl : i = 0 ∨ i = 1 ∨ i = 2 ∨ i = 3 ∨ i = 4 ∨ i = 5 ∨ i = 6 ∨ i = 7 ∨ i = 8 ∨ i = 9 ∨ i = 10 ∨ i = 11 ∨ i = 12 ∨ i = 13 ∨ i = 14 ∨ i = 15 ∨ i = 16 ∨ i = 17 ∨ i = 18 ∨ i = 19 ∨ i = 20 ∨ i = 21 ∨ i = 22 ∨ i = 23 ∨ i = 24 ∨ i = 25 ∨ i = 26 ∨ i = 27 ∨ i = 28 ∨ i = 29 ∨ i = 30 ∨ i = 31 ∨ i = 32 ∨ i = 33 ∨ i = 34 ∨ i = 35 ∨ i = 36 := by omega
                  · cases ho
                    refine wpOp_step rfl (fun K hK => ?_)
                    go_simp
                    exact hK _ _ (hI.val_step 0 67 (.slice (some ⟨gl, 0, none⟩) I cl) (by decide) (Upd.refl _ _) (by simp [t8C]) (by kernel_rfl))
                  · cases ho
                    refine wpOp_step rfl (fun K hK => ?_)
                    go_simp
                    exact hK _ _ (hI.val_step 1 68 (.int .i64 (k : Int)) (by decide) (Upd.refl _ _) (by simp [t8C]) (by kernel_rfl))
                  · cases ho
                    have t67 : tmps[67]?.getD undef = .slice (some ⟨gl, 0, none⟩) I cl := hI.val (0, 67, _) (by simp [t8C]) (hd ⟨0, .data⟩ (by simp) rfl)
                    have t68 : tmps[68]?.getD undef = .int .i64 (k : Int) := hI.val (1, 68, _) (by simp [t8C]) (hd ⟨1, .data⟩ (by simp) rfl)
                    refine wpOp_step rfl (fun K hK => ?_)
                    go_simp
                    exact hK _ _ (hI.val_step 2 69 (.pointer (some ⟨gl, k * 3, none⟩)) (by decide) (Upd.refl _ _) (by simp [t8C]) (by kernel_rfl))
                  · cases ho
                    have t69 : tmps[69]?.getD undef = .pointer (some ⟨gl, k * 3, none⟩) := hI.val (2, 69, _) (by simp [t8C]) (hd ⟨2, .data⟩ (by simp) rfl)
                    refine wpOp_step rfl (fun K hK => ?_)
                    go_simp
                    exact hK _ _ (hI.val_step 3 70 (.pointer (some ⟨gl, k * 3, none⟩)) (by decide) (Upd.refl _ _) (by simp [t8C]) (by kernel_rfl))
                  · cases ho
                    have t70 : tmps[70]?.getD undef = .pointer (some ⟨gl, k * 3, none⟩) := hI.val (3, 70, _) (by simp [t8C]) (hd ⟨3, .data⟩ (by simp) rfl)
                    refine wpOp_step rfl (fun K hK => ?_)
                    go_simp
                    exact hK _ _ (hI.val_step 4 71 (.int .i64 (rn : Int)) (by decide) (Upd.refl _ _) (by simp [t8C]) (by kernel_rfl))
                  · cases ho
                    refine wpOp_step rfl (fun K hK => ?_)
                    go_simp
                    exact hK _ _ (hI.val_step 5 72 (.pointer (some ⟨pb, 0, none⟩)) (by decide) (Upd.refl _ _) (by simp [t8C]) (by kernel_rfl))
                  · cases ho
                    have t72 : tmps[72]?.getD undef = .pointer (some ⟨pb, 0, none⟩) := hI.val (5, 72, _) (by simp [t8C]) (hd ⟨5, .data⟩ (by simp) rfl)
                    refine wpOp_step rfl (fun K hK => ?_)
                    go_simp
                    exact hK _ _ (hI.val_step 6 73 (.int .i64 (xn : Int)) (by decide) (Upd.refl _ _) (by simp [t8C]) (by kernel_rfl))
                  · cases ho
                    have t71 : tmps[71]?.getD undef = .int .i64 (rn : Int) := hI.val (4, 71, _) (by simp [t8C]) (hd ⟨4, .data⟩ (by simp) rfl)
                    have t73 : tmps[73]?.getD undef = .int .i64 (xn : Int) := hI.val (6, 73, _) (by simp [t8C]) (hd ⟨6, .data⟩ (by simp) rfl)
                    refine wpOp_step rfl (fun K hK => ?_)
                    go_simp
                    exact hK _ _ (hI.val_step 7 74 (.bool true) (by decide) (Upd.refl _ _) (by simp [t8C]) (by kernel_rfl))
                  · cases ho
                    have t74 : tmps[74]?.getD undef = .bool true := hI.val (7, 74, _) (by simp [t8C]) (hd ⟨7, .data⟩ (by simp) rfl)
                    refine wpOp_step rfl (fun K hK => ?_)
                    go_simp
                    exact hK _ _ (hI.val_step 8 75 (.bool true) (by decide) (Upd.refl _ _) (by simp [t8C]) (by kernel_rfl))
                  · cases ho
                    have t75 : tmps[75]?.getD undef = .bool true := hI.val (8, 75, _) (by simp [t8C]) (hd ⟨8, .guard⟩ (by simp) rfl)
                    have tg := tm_some t75
                    clear t75
                    refine wpOp_step rfl (fun K hK => ?_)
                    go_simp
                    exact hK _ _ (hI.val_step 9 76 (.slice (some ⟨gl, 0, none⟩) I cl) (by decide) (Upd.refl _ _) (by simp [t8C]) (by kernel_rfl))
                  · cases ho
                    have t75 : tmps[75]?.getD undef = .bool true := hI.val (8, 75, _) (by simp [t8C]) (hd ⟨8, .guard⟩ (by simp) rfl)
                    have tg := tm_some t75
                    clear t75
                    refine wpOp_step rfl (fun K hK => ?_)
                    go_simp
                    exact hK _ _ (hI.val_step 10 77 (.int .i64 (k : Int)) (by decide) (Upd.refl _ _) (by simp [t8C]) (by kernel_rfl))
                  · cases ho
                    have t76 : tmps[76]?.getD undef = .slice (some ⟨gl, 0, none⟩) I cl := hI.val (9, 76, _) (by simp [t8C]) (hd ⟨9, .data⟩ (by simp) rfl)
                    have t77 : tmps[77]?.getD undef = .int .i64 (k : Int) := hI.val (10, 77, _) (by simp [t8C]) (hd ⟨10, .data⟩ (by simp) rfl)
                    have t75 : tmps[75]?.getD undef = .bool true := hI.val (8, 75, _) (by simp [t8C]) (hd ⟨8, .guard⟩ (by simp) rfl)
                    have tg := tm_some t75
                    clear t75
                    refine wpOp_step rfl (fun K hK => ?_)
                    go_simp
                    exact hK _ _ (hI.val_step 11 78 (.pointer (some ⟨gl, k * 3, none⟩)) (by decide) (Upd.refl _ _) (by simp [t8C]) (by kernel_rfl))
                  · cases ho
                    have t78 : tmps[78]?.getD undef = .pointer (some ⟨gl, k * 3, none⟩) := hI.val (11, 78, _) (by simp [t8C]) (hd ⟨11, .data⟩ (by simp) rfl)
                    have t75 : tmps[75]?.getD undef = .bool true := hI.val (8, 75, _) (by simp [t8C]) (hd ⟨8, .guard⟩ (by simp) rfl)
                    have tg := tm_some t75
                    clear t75
                    refine wpOp_step rfl (fun K hK => ?_)
                    go_simp
                    exact hK _ _ (hI.val_step 12 79 (.pointer (some ⟨gl, k * 3 + 1, none⟩)) (by decide) (Upd.refl _ _) (by simp [t8C]) (by kernel_rfl))
                  · cases ho
                    have t79 : tmps[79]?.getD undef = .pointer (some ⟨gl, k * 3 + 1, none⟩) := hI.val (12, 79, _) (by simp [t8C]) (hd ⟨12, .data⟩ (by simp) rfl)
                    have t75 : tmps[75]?.getD undef = .bool true := hI.val (8, 75, _) (by simp [t8C]) (hd ⟨8, .guard⟩ (by simp) rfl)
                    have tg := tm_some t75
                    clear t75
                    refine wpOp_step rfl (fun K hK => ?_)
                    go_simp
                    exact hK _ _ (hI.val_step 13 80 (.int .i64 (ra : Int)) (by decide) (Upd.refl _ _) (by simp [t8C]) (by kernel_rfl))
                  · cases ho
                    have t75 : tmps[75]?.getD undef = .bool true := hI.val (8, 75, _) (by simp [t8C]) (hd ⟨8, .guard⟩ (by simp) rfl)
                    have tg := tm_some t75
                    clear t75
                    refine wpOp_step rfl (fun K hK => ?_)
                    go_simp
                    exact hK _ _ (hI.val_step 14 81 (.pointer (some ⟨pb, 1, none⟩)) (by decide) (Upd.refl _ _) (by simp [t8C]) (by kernel_rfl))
                  · cases ho
                    have t81 : tmps[81]?.getD undef = .pointer (some ⟨pb, 1, none⟩) := hI.val (14, 81, _) (by simp [t8C]) (hd ⟨14, .data⟩ (by simp) rfl)
                    have t75 : tmps[75]?.getD undef = .bool true := hI.val (8, 75, _) (by simp [t8C]) (hd ⟨8, .guard⟩ (by simp) rfl)
                    have tg := tm_some t75
                    clear t75
                    refine wpOp_step rfl (fun K hK => ?_)
                    go_simp
                    exact hK _ _ (hI.val_step 15 82 (.int .i64 (xa : Int)) (by decide) (Upd.refl _ _) (by simp [t8C]) (by kernel_rfl))
                  · cases ho
                    have t75 : tmps[75]?.getD undef = .bool true := hI.val (8, 75, _) (by simp [t8C]) (hd ⟨8, .guard⟩ (by simp) rfl)
                    have tg := tm_some t75
                    clear t75
                    refine wpOp_step rfl (fun K hK => ?_)
                    go_simp
                    exact hK _ _ (hI.val_step 16 83 (.pointer (some ⟨pb, 2, none⟩)) (by decide) (Upd.refl _ _) (by simp [t8C]) (by kernel_rfl))
                  · cases ho
                    have t83 : tmps[83]?.getD undef = .pointer (some ⟨pb, 2, none⟩) := hI.val (16, 83, _) (by simp [t8C]) (hd ⟨16, .data⟩ (by simp) rfl)
                    have t75 : tmps[75]?.getD undef = .bool true := hI.val (8, 75, _) (by simp [t8C]) (hd ⟨8, .guard⟩ (by simp) rfl)
                    have tg := tm_some t75
                    clear t75
                    refine wpOp_step rfl (fun K hK => ?_)
                    go_simp
                    exact hK _ _ (hI.val_step 17 84 (.int .i64 (xl : Int)) (by decide) (Upd.refl _ _) (by simp [t8C]) (by kernel_rfl))
                  · cases ho
                    have t82 : tmps[82]?.getD undef = .int .i64 (xa : Int) := hI.val (15, 82, _) (by simp [t8C]) (hd ⟨15, .data⟩ (by simp) rfl)
                    have t84 : tmps[84]?.getD undef = .int .i64 (xl : Int) := hI.val (17, 84, _) (by simp [t8C]) (hd ⟨17, .data⟩ (by simp) rfl)
                    have t75 : tmps[75]?.getD undef = .bool true := hI.val (8, 75, _) (by simp [t8C]) (hd ⟨8, .guard⟩ (by simp) rfl)
                    have tg := tm_some t75
                    clear t75
                    refine wpOp_step rfl (fun K hK => ?_)
                    go_simp
                    exact hK _ _ (hI.val_step 18 85 (.int .i64 ((xa : Int) + (xl : Int))) (by decide) (Upd.refl _ _) (by simp [t8C]) (by kernel_rfl))
                  · cases ho
                    have t80 : tmps[80]?.getD undef = .int .i64 (ra : Int) := hI.val (13, 80, _) (by simp [t8C]) (hd ⟨13, .data⟩ (by simp) rfl)
                    have t85 : tmps[85]?.getD undef = .int .i64 ((xa : Int) + (xl : Int)) := hI.val (18, 85, _) (by simp [t8C]) (hd ⟨18, .data⟩ (by simp) rfl)
                    have t75 : tmps[75]?.getD undef = .bool true := hI.val (8, 75, _) (by simp [t8C]) (hd ⟨8, .guard⟩ (by simp) rfl)
                    have tg := tm_some t75
                    clear t75
                    refine wpOp_step rfl (fun K hK => ?_)
                    go_simp
                    exact hK _ _ (hI.val_step 19 86 (.bool true) (by decide) (Upd.refl _ _) (by simp [t8C]) (by kernel_rfl))
                  · cases ho
                    have t75 : tmps[75]?.getD undef = .bool true := hI.val (8, 75, _) (by simp [t8C]) (hd ⟨8, .data⟩ (by simp) rfl)
                    have t86 : tmps[86]?.getD undef = .bool true := hI.val (19, 86, _) (by simp [t8C]) (hd ⟨19, .data⟩ (by simp) rfl)
                    refine wpOp_step rfl (fun K hK => ?_)
                    go_simp
                    exact hK _ _ (hI.val_step 20 87 (.bool true) (by decide) (Upd.refl _ _) (by simp [t8C]) (by kernel_rfl))
                  · cases ho
                    have t87 : tmps[87]?.getD undef = .bool true := hI.val (20, 87, _) (by simp [t8C]) (hd ⟨20, .data⟩ (by simp) rfl)
                    refine wpOp_step rfl (fun K hK => ?_)
                    go_simp
                    exact hK _ _ (hI.val_step 21 88 (.bool true) (by decide) (Upd.refl _ _) (by simp [t8C]) (by kernel_rfl))
                  · cases ho
                    have t88 : tmps[88]?.getD undef = .bool true := hI.val (21, 88, _) (by simp [t8C]) (hd ⟨21, .guard⟩ (by simp) rfl)
                    have tg := tm_some t88
                    clear t88
                    refine wpOp_step rfl (fun K hK => ?_)
                    go_simp
                    exact hK _ _ (hI.val_step 22 89 (.pointer (some ⟨pb, 1, none⟩)) (by decide) (Upd.refl _ _) (by simp [t8C]) (by kernel_rfl))
                  · cases ho
                    have t89 : tmps[89]?.getD undef = .pointer (some ⟨pb, 1, none⟩) := hI.val (22, 89, _) (by simp [t8C]) (hd ⟨22, .data⟩ (by simp) rfl)
                    have t88 : tmps[88]?.getD undef = .bool true := hI.val (21, 88, _) (by simp [t8C]) (hd ⟨21, .guard⟩ (by simp) rfl)
                    have tg := tm_some t88
                    clear t88
                    refine wpOp_step rfl (fun K hK => ?_)
                    go_simp
                    exact hK _ _ (hI.val_step 23 90 (.int .i64 (xa : Int)) (by decide) (Upd.refl _ _) (by simp [t8C]) (by kernel_rfl))
                  · cases ho
                    have t88 : tmps[88]?.getD undef = .bool true := hI.val (21, 88, _) (by simp [t8C]) (hd ⟨21, .guard⟩ (by simp) rfl)
                    have tg := tm_some t88
                    clear t88
                    refine wpOp_step rfl (fun K hK => ?_)
                    go_simp
                    exact hK _ _ (hI.val_step 24 91 (.slice (some ⟨gl, 0, none⟩) I cl) (by decide) (Upd.refl _ _) (by simp [t8C]) (by kernel_rfl))
                  · cases ho
                    have t88 : tmps[88]?.getD undef = .bool true := hI.val (21, 88, _) (by simp [t8C]) (hd ⟨21, .guard⟩ (by simp) rfl)
                    have tg := tm_some t88
                    clear t88
                    refine wpOp_step rfl (fun K hK => ?_)
                    go_simp
                    exact hK _ _ (hI.val_step 25 92 (.int .i64 (k : Int)) (by decide) (Upd.refl _ _) (by simp [t8C]) (by kernel_rfl))
                  · cases ho
                    have t91 : tmps[91]?.getD undef = .slice (some ⟨gl, 0, none⟩) I cl := hI.val (24, 91, _) (by simp [t8C]) (hd ⟨24, .data⟩ (by simp) rfl)
                    have t92 : tmps[92]?.getD undef = .int .i64 (k : Int) := hI.val (25, 92, _) (by simp [t8C]) (hd ⟨25, .data⟩ (by simp) rfl)
                    have t88 : tmps[88]?.getD undef = .bool true := hI.val (21, 88, _) (by simp [t8C]) (hd ⟨21, .guard⟩ (by simp) rfl)
                    have tg := tm_some t88
                    clear t88
                    refine wpOp_step rfl (fun K hK => ?_)
                    go_simp
                    exact hK _ _ (hI.val_step 26 93 (.pointer (some ⟨gl, k * 3, none⟩)) (by decide) (Upd.refl _ _) (by simp [t8C]) (by kernel_rfl))
                  · cases ho
                    have t93 : tmps[93]?.getD undef = .pointer (some ⟨gl, k * 3, none⟩) := hI.val (26, 93, _) (by simp [t8C]) (hd ⟨26, .data⟩ (by simp) rfl)
                    have t88 : tmps[88]?.getD undef = .bool true := hI.val (21, 88, _) (by simp [t8C]) (hd ⟨21, .guard⟩ (by simp) rfl)
                    have tg := tm_some t88
                    clear t88
                    refine wpOp_step rfl (fun K hK => ?_)
                    go_simp
                    exact hK _ _ (hI.val_step 27 94 (.pointer (some ⟨gl, k * 3 + 1, none⟩)) (by decide) (Upd.refl _ _) (by simp [t8C]) (by kernel_rfl))
                  · cases ho
                    have t94 : tmps[94]?.getD undef = .pointer (some ⟨gl, k * 3 + 1, none⟩) := hI.val (27, 94, _) (by simp [t8C]) (hd ⟨27, .data⟩ (by simp) rfl)
                    have t88 : tmps[88]?.getD undef = .bool true := hI.val (21, 88, _) (by simp [t8C]) (hd ⟨21, .guard⟩ (by simp) rfl)
                    have tg := tm_some t88
                    clear t88
                    refine wpOp_step rfl (fun K hK => ?_)
                    go_simp
                    exact hK _ _ (hI.val_step 28 95 (.int .i64 (ra : Int)) (by decide) (Upd.refl _ _) (by simp [t8C]) (by kernel_rfl))
                  · cases ho
                    have t88 : tmps[88]?.getD undef = .bool true := hI.val (21, 88, _) (by simp [t8C]) (hd ⟨21, .guard⟩ (by simp) rfl)
                    have tg := tm_some t88
                    clear t88
                    refine wpOp_step rfl (fun K hK => ?_)
                    go_simp
                    exact hK _ _ (hI.val_step 29 96 (.slice (some ⟨gl, 0, none⟩) I cl) (by decide) (Upd.refl _ _) (by simp [t8C]) (by kernel_rfl))
                  · cases ho
                    have t88 : tmps[88]?.getD undef = .bool true := hI.val (21, 88, _) (by simp [t8C]) (hd ⟨21, .guard⟩ (by simp) rfl)
                    have tg := tm_some t88
                    clear t88
                    refine wpOp_step rfl (fun K hK => ?_)
                    go_simp
                    exact hK _ _ (hI.val_step 30 97 (.int .i64 (k : Int)) (by decide) (Upd.refl _ _) (by simp [t8C]) (by kernel_rfl))
                  · cases ho
                    have t96 : tmps[96]?.getD undef = .slice (some ⟨gl, 0, none⟩) I cl := hI.val (29, 96, _) (by simp [t8C]) (hd ⟨29, .data⟩ (by simp) rfl)
                    have t97 : tmps[97]?.getD undef = .int .i64 (k : Int) := hI.val (30, 97, _) (by simp [t8C]) (hd ⟨30, .data⟩ (by simp) rfl)
                    have t88 : tmps[88]?.getD undef = .bool true := hI.val (21, 88, _) (by simp [t8C]) (hd ⟨21, .guard⟩ (by simp) rfl)
                    have tg := tm_some t88
                    clear t88
                    refine wpOp_step rfl (fun K hK => ?_)
                    go_simp
                    exact hK _ _ (hI.val_step 31 98 (.pointer (some ⟨gl, k * 3, none⟩)) (by decide) (Upd.refl _ _) (by simp [t8C]) (by kernel_rfl))
                  · cases ho
                    have t98 : tmps[98]?.getD undef = .pointer (some ⟨gl, k * 3, none⟩) := hI.val (31, 98, _) (by simp [t8C]) (hd ⟨31, .data⟩ (by simp) rfl)
                    have t88 : tmps[88]?.getD undef = .bool true := hI.val (21, 88, _) (by simp [t8C]) (hd ⟨21, .guard⟩ (by simp) rfl)
                    have tg := tm_some t88
                    clear t88
                    refine wpOp_step rfl (fun K hK => ?_)
                    go_simp
                    exact hK _ _ (hI.val_step 32 99 (.pointer (some ⟨gl, k * 3 + 2, none⟩)) (by decide) (Upd.refl _ _) (by simp [t8C]) (by kernel_rfl))
                  · cases ho
                    have t99 : tmps[99]?.getD undef = .pointer (some ⟨gl, k * 3 + 2, none⟩) := hI.val (32, 99, _) (by simp [t8C]) (hd ⟨32, .data⟩ (by simp) rfl)
                    have t88 : tmps[88]?.getD undef = .bool true := hI.val (21, 88, _) (by simp [t8C]) (hd ⟨21, .guard⟩ (by simp) rfl)
                    have tg := tm_some t88
                    clear t88
                    refine wpOp_step rfl (fun K hK => ?_)
                    go_simp
                    exact hK _ _ (hI.val_step 33 100 (.int .i64 (rl : Int)) (by decide) (Upd.refl _ _) (by simp [t8C]) (by kernel_rfl))
                  · cases ho
                    have t95 : tmps[95]?.getD undef = .int .i64 (ra : Int) := hI.val (28, 95, _) (by simp [t8C]) (hd ⟨28, .data⟩ (by simp) rfl)
                    have t100 : tmps[100]?.getD undef = .int .i64 (rl : Int) := hI.val (33, 100, _) (by simp [t8C]) (hd ⟨33, .data⟩ (by simp) rfl)
                    have t88 : tmps[88]?.getD undef = .bool true := hI.val (21, 88, _) (by simp [t8C]) (hd ⟨21, .guard⟩ (by simp) rfl)
                    have tg := tm_some t88
                    clear t88
                    refine wpOp_step rfl (fun K hK => ?_)
                    go_simp
                    exact hK _ _ (hI.val_step 34 101 (.int .i64 ((ra : Int) + (rl : Int))) (by decide) (Upd.refl _ _) (by simp [t8C]) (by kernel_rfl))
                  · cases ho
                    have t90 : tmps[90]?.getD undef = .int .i64 (xa : Int) := hI.val (23, 90, _) (by simp [t8C]) (hd ⟨23, .data⟩ (by simp) rfl)
                    have t101 : tmps[101]?.getD undef = .int .i64 ((ra : Int) + (rl : Int)) := hI.val (34, 101, _) (by simp [t8C]) (hd ⟨34, .data⟩ (by simp) rfl)
                    have t88 : tmps[88]?.getD undef = .bool true := hI.val (21, 88, _) (by simp [t8C]) (hd ⟨21, .guard⟩ (by simp) rfl)
                    have tg := tm_some t88
                    clear t88
                    refine wpOp_step rfl (fun K hK => ?_)
                    go_simp
                    exact hK _ _ (hI.val_step 35 102 (.bool false) (by decide) (Upd.refl _ _) (by simp [t8C]) (by kernel_rfl))
                  · cases ho
                    have t88 : tmps[88]?.getD undef = .bool true := hI.val (21, 88, _) (by simp [t8C]) (hd ⟨21, .data⟩ (by simp) rfl)
                    have t102 : tmps[102]?.getD undef = .bool false := hI.val (35, 102, _) (by simp [t8C]) (hd ⟨35, .data⟩ (by simp) rfl)
                    refine wpOp_step rfl (fun K hK => ?_)
                    go_simp
                    exact hK _ _ (hI.val_step 36 103 (.bool false) (by decide) (Upd.refl _ _) (by simp [t8C]) (by kernel_rfl))
                · intro L tmps w4 hI hall
                  have hat := hI.fin rfl (fun t ht => hall _ (by have h9 := List.all_eq_true.1 (show ((t8C gl pb k I cl rn ra rl xn xa xl).all fun t => decide (t.1 < 37)) = true from rfl) t ht; simpa using h9))
                  have hu4 := hI.upd
                  clear hI hall
                  simp only [t8C, List.map_cons, List.map_nil, sets, List.setIfInBounds_toArray, List.set_cons_zero, List.set_cons_succ] at hat
                  rw [hat]
                  clear hat tmps
                  have HU8 := Lib.hid (HUQ.out.trans ((Upd.refl [] wq).drew.trans hu4))
                  clear hu4
                  go_wp2_with fail
                  exact ⟨⟨k + 1, by omega, by go_num, HU8.out⟩, by simp [intOf]; omega⟩
              · have d0 : ((rn : Int) == (xn : Int)) = true := by simp [hA]
                have d1 : decide ((ra : Int) < (xa : Int) + (xl : Int)) = false := decide_eq_false (by omega)
                clear hA hB
                refine wp_region_reg (t8B gl pb k I cl rn ra rl xn xa xl) [] (by kernel_rfl) (by kernel_rfl) 198 rfl rfl ?_ ?_
                · intro i o L tmps w' ho hI hL hd
                  have hi : i < 37 := (Array.getElem?_eq_some_iff.1 ho).1
                  have hwq := (Upd.refl [] wq).drew.trans hI.upd
                  have u0 := cell_updP q0 hwq (by simp)
                  have u1 := cell_updP q1 hwq (by simp)
                  have u2 := cell_updP q2 hwq (by simp)
                  have v0 := cell_updP x0 hwq (by simp)
                  have v1 := cell_updP x1 hwq (by simp)
                  have v2 := cell_updP x2 hwq (by simp)
                  have t7 : tmps[7]?.getD undef = .slice (some ⟨gl, 0, none⟩) I cl := (hI.old 7 (by rfl)).trans rfl
                  have t11 : tmps[11]?.getD undef = .int .i64 (k : Int) := (hI.old 11 (by rfl)).trans rfl
                  have t9 : tmps[9]?.getD undef = .pointer (some ⟨pb, 0, none⟩) := (hI.old 9 (by rfl)).trans rfl
                  obtain rfl | rfl | rfl | rfl | rfl | rfl | rfl | rfl | rfl | rfl | rfl | rfl | rfl | rfl | rfl | rfl | rfl | rfl | rfl | rfl | rfl | rfl | rfl | rfl | rfl | rfl | rfl | rfl | rfl | rfl | rfl | rfl | rfl | rfl | rfl | rfl | rfl : i = 0 ∨ i = 1 ∨ i = 2 ∨ i = 3 ∨ i = 4 ∨ i = 5 ∨ i = 6 ∨ i = 7 ∨ i = 8 ∨ i = 9 ∨ i = 10 ∨ i = 11 ∨ i = 12 ∨ i = 13 ∨ i = 14 ∨ i = 15 ∨ i = 16 ∨ i = 17 ∨ i = 18 ∨ i = 19 ∨ i = 20 ∨ i = 21 ∨ i = 22 ∨ i = 23 ∨ i = 24 ∨ i = 25 ∨ i = 26 ∨ i = 27 ∨ i = 28 ∨ i = 29 ∨ i = 30 ∨ i = 31 ∨ i = 32 ∨ i = 33 ∨ i = 34 ∨ i = 35 ∨ i = 36 := by omega
                  · cases ho
                    refine wpOp_step rfl (fun K hK => ?_)
                    go_simp
                    exact hK _ _ (hI.val_step 0 67 (.slice (some ⟨gl, 0, none⟩) I cl) (by decide) (Upd.refl _ _) (by simp [t8B]) (by kernel_rfl))
                  · cases ho
                    refine wpOp_step rfl (fun K hK => ?_)
                    go_simp
                    exact hK _ _ (hI.val_step 1 68 (.int .i64 (k : Int)) (by decide) (Upd.refl _ _) (by simp [t8B]) (by kernel_rfl))
                  · cases ho
                    have t67 : tmps[67]?.getD undef = .slice (some ⟨gl, 0, none⟩) I cl := hI.val (0, 67, _) (by simp [t8B]) (hd ⟨0, .data⟩ (by simp) rfl)
                    have t68 : tmps[68]?.getD undef = .int .i64 (k : Int) := hI.val (1, 68, _) (by simp [t8B]) (hd ⟨1, .data⟩ (by simp) rfl)
                    refine wpOp_step rfl (fun K hK => ?_)
                    go_simp
                    exact hK _ _ (hI.val_step 2 69 (.pointer (some ⟨gl, k * 3, none⟩)) (by decide) (Upd.refl _ _) (by simp [t8B]) (by kernel_rfl))
                  · cases ho
                    have t69 : tmps[69]?.getD undef = .pointer (some ⟨gl, k * 3, none⟩) := hI.val (2, 69, _) (by simp [t8B]) (hd ⟨2, .data⟩ (by simp) rfl)
                    refine wpOp_step rfl (fun K hK => ?_)
                    go_simp
                    exact hK _ _ (hI.val_step 3 70 (.pointer (some ⟨gl, k * 3, none⟩)) (by decide) (Upd.refl _ _) (by simp [t8B]) (by kernel_rfl))
                  · cases ho
                    have t70 : tmps[70]?.getD undef = .pointer (some ⟨gl, k * 3, none⟩) := hI.val (3, 70, _) (by simp [t8B]) (hd ⟨3, .data⟩ (by simp) rfl)
                    refine wpOp_step rfl (fun K hK => ?_)
                    go_simp
                    exact hK _ _ (hI.val_step 4 71 (.int .i64 (rn : Int)) (by decide) (Upd.refl _ _) (by simp [t8B]) (by kernel_rfl))
                  · cases ho
                    refine wpOp_step rfl (fun K hK => ?_)
                    go_simp
                    exact hK _ _ (hI.val_step 5 72 (.pointer (some ⟨pb, 0, none⟩)) (by decide) (Upd.refl _ _) (by simp [t8B]) (by kernel_rfl))
                  · cases ho
                    have t72 : tmps[72]?.getD undef = .pointer (some ⟨pb, 0, none⟩) := hI.val (5, 72, _) (by simp [t8B]) (hd ⟨5, .data⟩ (by simp) rfl)
                    refine wpOp_step rfl (fun K hK => ?_)
                    go_simp
                    exact hK _ _ (hI.val_step 6 73 (.int .i64 (xn : Int)) (by decide) (Upd.refl _ _) (by simp [t8B]) (by kernel_rfl))
                  · cases ho
                    have t71 : tmps[71]?.getD undef = .int .i64 (rn : Int) := hI.val (4, 71, _) (by simp [t8B]) (hd ⟨4, .data⟩ (by simp) rfl)
                    have t73 : tmps[73]?.getD undef = .int .i64 (xn : Int) := hI.val (6, 73, _) (by simp [t8B]) (hd ⟨6, .data⟩ (by simp) rfl)
                    refine wpOp_step rfl (fun K hK => ?_)
                    go_simp
                    exact hK _ _ (hI.val_step 7 74 (.bool true) (by decide) (Upd.refl _ _) (by simp [t8B]) (by kernel_rfl))
                  · cases ho
                    have t74 : tmps[74]?.getD undef = .bool true := hI.val (7, 74, _) (by simp [t8B]) (hd ⟨7, .data⟩ (by simp) rfl)
                    refine wpOp_step rfl (fun K hK => ?_)
                    go_simp
                    exact hK _ _ (hI.val_step 8 75 (.bool true) (by decide) (Upd.refl _ _) (by simp [t8B]) (by kernel_rfl))
                  · cases ho
                    have t75 : tmps[75]?.getD undef = .bool true := hI.val (8, 75, _) (by simp [t8B]) (hd ⟨8, .guard⟩ (by simp) rfl)
                    have tg := tm_some t75
                    clear t75
                    refine wpOp_step rfl (fun K hK => ?_)
                    go_simp
                    exact hK _ _ (hI.val_step 9 76 (.slice (some ⟨gl, 0, none⟩) I cl) (by decide) (Upd.refl _ _) (by simp [t8B]) (by kernel_rfl))
                  · cases ho
                    have t75 : tmps[75]?.getD undef = .bool true := hI.val (8, 75, _) (by simp [t8B]) (hd ⟨8, .guard⟩ (by simp) rfl)
                    have tg := tm_some t75
                    clear t75
                    refine wpOp_step rfl (fun K hK => ?_)
                    go_simp
                    exact hK _ _ (hI.val_step 10 77 (.int .i64 (k : Int)) (by decide) (Upd.refl _ _) (by simp [t8B]) (by kernel_rfl))
                  · cases ho
                    have t76 : tmps[76]?.getD undef = .slice (some ⟨gl, 0, none⟩) I cl := hI.val (9, 76, _) (by simp [t8B]) (hd ⟨9, .data⟩ (by simp) rfl)
                    have t77 : tmps[77]?.getD undef = .int .i64 (k : Int) := hI.val (10, 77, _) (by simp [t8B]) (hd ⟨10, .data⟩ (by simp) rfl)
                    have t75 : tmps[75]?.getD undef = .bool true := hI.val (8, 75, _) (by simp [t8B]) (hd ⟨8, .guard⟩ (by simp) rfl)
                    have tg := tm_some t75
                    clear t75
                    refine wpOp_step rfl (fun K hK => ?_)
                    go_simp
                    exact hK _ _ (hI.val_step 11 78 (.pointer (some ⟨gl, k * 3, none⟩)) (by decide) (Upd.refl _ _) (by simp [t8B]) (by kernel_rfl))
                  · cases ho
                    have t78 : tmps[78]?.getD undef = .pointer (some ⟨gl, k * 3, none⟩) := hI.val (11, 78, _) (by simp [t8B]) (hd ⟨11, .data⟩ (by simp) rfl)
                    have t75 : tmps[75]?.getD undef = .bool true := hI.val (8, 75, _) (by simp [t8B]) (hd ⟨8, .guard⟩ (by simp) rfl)
                    have tg := tm_some t75
                    clear t75
                    refine wpOp_step rfl (fun K hK => ?_)
                    go_simp
                    exact hK _ _ (hI.val_step 12 79 (.pointer (some ⟨gl, k * 3 + 1, none⟩)) (by decide) (Upd.refl _ _) (by simp [t8B]) (by kernel_rfl))
                  · cases ho
                    have t79 : tmps[79]?.getD undef = .pointer (some ⟨gl, k * 3 + 1, none⟩) := hI.val (12, 79, _) (by simp [t8B]) (hd ⟨12, .data⟩ (by simp) rfl)
                    have t75 : tmps[75]?.getD undef = .bool true := hI.val (8, 75, _) (by simp [t8B]) (hd ⟨8, .guard⟩ (by simp) rfl)
                    have tg := tm_some t75
                    clear t75
                    refine wpOp_step rfl (fun K hK => ?_)
                    go_simp
                    exact hK _ _ (hI.val_step 13 80 (.int .i64 (ra : Int)) (by decide) (Upd.refl _ _) (by simp [t8B]) (by kernel_rfl))
                  · cases ho
                    have t75 : tmps[75]?.getD undef = .bool true := hI.val (8, 75, _) (by simp [t8B]) (hd ⟨8, .guard⟩ (by simp) rfl)
                    have tg := tm_some t75
                    clear t75
                    refine wpOp_step rfl (fun K hK => ?_)
                    go_simp
                    exact hK _ _ (hI.val_step 14 81 (.pointer (some ⟨pb, 1, none⟩)) (by decide) (Upd.refl _ _) (by simp [t8B]) (by kernel_rfl))
                  · cases ho
                    have t81 : tmps[81]?.getD undef = .pointer (some ⟨pb, 1, none⟩) := hI.val (14, 81, _) (by simp [t8B]) (hd ⟨14, .data⟩ (by simp) rfl)
                    have t75 : tmps[75]?.getD undef = .bool true := hI.val (8, 75, _) (by simp [t8B]) (hd ⟨8, .guard⟩ (by simp) rfl)
                    have tg := tm_some t75
                    clear t75
                    refine wpOp_step rfl (fun K hK => ?_)
                    go_simp
                    exact hK _ _ (hI.val_step 15 82 (.int .i64 (xa : Int)) (by decide) (Upd.refl _ _) (by simp [t8B]) (by kernel_rfl))
                  · cases ho
                    have t75 : tmps[75]?.getD undef = .bool true := hI.val (8, 75, _) (by simp [t8B]) (hd ⟨8, .guard⟩ (by simp) rfl)
                    have tg := tm_some t75
                    clear t75
                    refine wpOp_step rfl (fun K hK => ?_)
                    go_simp
                    exact hK _ _ (hI.val_step 16 83 (.pointer (some ⟨pb, 2, none⟩)) (by decide) (Upd.refl _ _) (by simp [t8B]) (by kernel_rfl))
                  · cases ho
                    have t83 : tmps[83]?.getD undef = .pointer (some ⟨pb, 2, none⟩) := hI.val (16, 83, _) (by simp [t8B]) (hd ⟨16, .data⟩ (by simp) rfl)
                    have t75 : tmps[75]?.getD undef = .bool true := hI.val (8, 75, _) (by simp [t8B]) (hd ⟨8, .guard⟩ (by simp) rfl)
                    have tg := tm_some t75
                    clear t75
                    refine wpOp_step rfl (fun K hK => ?_)
                    go_simp
                    exact hK _ _ (hI.val_step 17 84 (.int .i64 (xl : Int)) (by decide) (Upd.refl _ _) (by simp [t8B]) (by kernel_rfl))
                  · cases ho
                    have t82 : tmps[82]?.getD undef = .int .i64 (xa : Int) := hI.val (15, 82, _) (by simp [t8B]) (hd ⟨15, .data⟩ (by simp) rfl)
                    have t84 : tmps[84]?.getD undef = .int .i64 (xl : Int) := hI.val (17, 84, _) (by simp [t8B]) (hd ⟨17, .data⟩ (by simp) rfl)
                    have t75 : tmps[75]?.getD undef = .bool true := hI.val (8, 75, _) (by simp [t8B]) (hd ⟨8, .guard⟩ (by simp) rfl)
                    have tg := tm_some t75
                    clear t75
                    refine wpOp_step rfl (fun K hK => ?_)
                    go_simp
                    exact hK _ _ (hI.val_step 18 85 (.int .i64 ((xa : Int) + (xl : Int))) (by decide) (Upd.refl _ _) (by simp [t8B]) (by kernel_rfl))
                  · cases ho
                    have t80 : tmps[80]?.getD undef = .int .i64 (ra : Int) := hI.val (13, 80, _) (by simp [t8B]) (hd ⟨13, .data⟩ (by simp) rfl)
                    have t85 : tmps[85]?.getD undef = .int .i64 ((xa : Int) + (xl : Int)) := hI.val (18, 85, _) (by simp [t8B]) (hd ⟨18, .data⟩ (by simp) rfl)
                    have t75 : tmps[75]?.getD undef = .bool true := hI.val (8, 75, _) (by simp [t8B]) (hd ⟨8, .guard⟩ (by simp) rfl)
                    have tg := tm_some t75
                    clear t75
                    refine wpOp_step rfl (fun K hK => ?_)
                    go_simp
                    exact hK _ _ (hI.val_step 19 86 (.bool false) (by decide) (Upd.refl _ _) (by simp [t8B]) (by kernel_rfl))
                  · cases ho
                    have t75 : tmps[75]?.getD undef = .bool true := hI.val (8, 75, _) (by simp [t8B]) (hd ⟨8, .data⟩ (by simp) rfl)
                    have t86 : tmps[86]?.getD undef = .bool false := hI.val (19, 86, _) (by simp [t8B]) (hd ⟨19, .data⟩ (by simp) rfl)
                    refine wpOp_step rfl (fun K hK => ?_)
                    go_simp
                    exact hK _ _ (hI.val_step 20 87 (.bool false) (by decide) (Upd.refl _ _) (by simp [t8B]) (by kernel_rfl))
                  · cases ho
                    have t87 : tmps[87]?.getD undef = .bool false := hI.val (20, 87, _) (by simp [t8B]) (hd ⟨20, .data⟩ (by simp) rfl)
                    refine wpOp_step rfl (fun K hK => ?_)
                    go_simp
                    exact hK _ _ (hI.val_step 21 88 (.bool false) (by decide) (Upd.refl _ _) (by simp [t8B]) (by kernel_rfl))
                  · cases ho
                    have t88 : tmps[88]?.getD undef = .bool false := hI.val (21, 88, _) (by simp [t8B]) (hd ⟨21, .guard⟩ (by simp) rfl)
                    have tg := tm_some t88
                    clear t88
                    refine wpOp_step rfl (fun K hK => ?_)
                    go_simp
                    exact hK _ _ (hI.val_step 22 89 (.tuple #[]) (by decide) (Upd.refl _ _) (by simp [t8B]) (by kernel_rfl))
                  · cases ho
                    have t89 : tmps[89]?.getD undef = .tuple #[] := hI.val (22, 89, _) (by simp [t8B]) (hd ⟨22, .data⟩ (by simp) rfl)
                    have t88 : tmps[88]?.getD undef = .bool false := hI.val (21, 88, _) (by simp [t8B]) (hd ⟨21, .guard⟩ (by simp) rfl)
                    have tg := tm_some t88
                    clear t88
                    refine wpOp_step rfl (fun K hK => ?_)
                    go_simp
                    exact hK _ _ (hI.val_step 23 90 (.tuple #[]) (by decide) (Upd.refl _ _) (by simp [t8B]) (by kernel_rfl))
                  · cases ho
                    have t88 : tmps[88]?.getD undef = .bool false := hI.val (21, 88, _) (by simp [t8B]) (hd ⟨21, .guard⟩ (by simp) rfl)
                    have tg := tm_some t88
                    clear t88
                    refine wpOp_step rfl (fun K hK => ?_)
                    go_simp
                    exact hK _ _ (hI.val_step 24 91 (.tuple #[]) (by decide) (Upd.refl _ _) (by simp [t8B]) (by kernel_rfl))
                  · cases ho
                    have t88 : tmps[88]?.getD undef = .bool false := hI.val (21, 88, _) (by simp [t8B]) (hd ⟨21, .guard⟩ (by simp) rfl)
                    have tg := tm_some t88
                    clear t88
                    refine wpOp_step rfl (fun K hK => ?_)
                    go_simp
                    exact hK _ _ (hI.val_step 25 92 (.tuple #[]) (by decide) (Upd.refl _ _) (by simp [t8B]) (by kernel_rfl))
                  · cases ho
                    have t91 : tmps[91]?.getD undef = .tuple #[] := hI.val (24, 91, _) (by simp [t8B]) (hd ⟨24, .data⟩ (by simp) rfl)
                    have t92 : tmps[92]?.getD undef = .tuple #[] := hI.val (25, 92, _) (by simp [t8B]) (hd ⟨25, .data⟩ (by simp) rfl)
                    have t88 : tmps[88]?.getD undef = .bool false := hI.val (21, 88, _) (by simp [t8B]) (hd ⟨21, .guard⟩ (by simp) rfl)
                    have tg := tm_some t88
                    clear t88
                    refine wpOp_step rfl (fun K hK => ?_)
                    go_simp
                    exact hK _ _ (hI.val_step 26 93 (.tuple #[]) (by decide) (Upd.refl _ _) (by simp [t8B]) (by kernel_rfl))
                  · cases ho
                    have t93 : tmps[93]?.getD undef = .tuple #[] := hI.val (26, 93, _) (by simp [t8B]) (hd ⟨26, .data⟩ (by simp) rfl)
                    have t88 : tmps[88]?.getD undef = .bool false := hI.val (21, 88, _) (by simp [t8B]) (hd ⟨21, .guard⟩ (by simp) rfl)
                    have tg := tm_some t88
                    clear t88
                    refine wpOp_step rfl (fun K hK => ?_)
                    go_simp
                    exact hK _ _ (hI.val_step 27 94 (.tuple #[]) (by decide) (Upd.refl _ _) (by simp [t8B]) (by kernel_rfl))
                  · cases ho
                    have t94 : tmps[94]?.getD undef = .tuple #[] := hI.val (27, 94, _) (by simp [t8B]) (hd ⟨27, .data⟩ (by simp) rfl)
                    have t88 : tmps[88]?.getD undef = .bool false := hI.val (21, 88, _) (by simp [t8B]) (hd ⟨21, .guard⟩ (by simp) rfl)
                    have tg := tm_some t88
                    clear t88
                    refine wpOp_step rfl (fun K hK => ?_)
                    go_simp
                    exact hK _ _ (hI.val_step 28 95 (.tuple #[]) (by decide) (Upd.refl _ _) (by simp [t8B]) (by kernel_rfl))
                  · cases ho
                    have t88 : tmps[88]?.getD undef = .bool false := hI.val (21, 88, _) (by simp [t8B]) (hd ⟨21, .guard⟩ (by simp) rfl)
                    have tg := tm_some t88
                    clear t88
                    refine wpOp_step rfl (fun K hK => ?_)
                    go_simp
                    exact hK _ _ (hI.val_step 29 96 (.tuple #[]) (by decide) (Upd.refl _ _) (by simp [t8B]) (by kernel_rfl))
                  · cases ho
                    have t88 : tmps[88]?.getD undef = .bool false := hI.val (21, 88, _) (by simp [t8B]) (hd ⟨21, .guard⟩ (by simp) rfl)
                    have tg := tm_some t88
                    clear t88
                    refine wpOp_step rfl (fun K hK => ?_)
                    go_simp
                    exact hK _ _ (hI.val_step 30 97 (.tuple #[]) (by decide) (Upd.refl _ _) (by simp [t8B]) (by kernel_rfl))
                  · cases ho
                    have t96 : tmps[96]?.getD undef = .tuple #[] := hI.val (29, 96, _) (by simp [t8B]) (hd ⟨29, .data⟩ (by simp) rfl)
                    have t97 : tmps[97]?.getD undef = .tuple #[] := hI.val (30, 97, _) (by simp [t8B]) (hd ⟨30, .data⟩ (by simp) rfl)
                    have t88 : tmps[88]?.getD undef = .bool false := hI.val (21, 88, _) (by simp [t8B]) (hd ⟨21, .guard⟩ (by simp) rfl)
                    have tg := tm_some t88
                    clear t88
                    refine wpOp_step rfl (fun K hK => ?_)
                    go_simp
                    exact hK _ _ (hI.val_step 31 98 (.tuple #[]) (by decide) (Upd.refl _ _) (by simp [t8B]) (by kernel_rfl))
                  · cases ho
                    have t98 : tmps[98]?.getD undef = .tuple #[] := hI.val (31, 98, _) (by simp [t8B]) (hd ⟨31, .data⟩ (by simp) rfl)
                    have t88 : tmps[88]?.getD undef = .bool false := hI.val (21, 88, _) (by simp [t8B]) (hd ⟨21, .guard⟩ (by simp) rfl)
                    have tg := tm_some t88
                    clear t88
                    refine wpOp_step rfl (fun K hK => ?_)
                    go_simp
                    exact hK _ _ (hI.val_step 32 99 (.tuple #[]) (by decide) (Upd.refl _ _) (by simp [t8B]) (by kernel_rfl))
                  · cases ho
                    have t99 : tmps[99]?.getD undef = .tuple #[] := hI.val (32, 99, _) (by simp [t8B]) (hd ⟨32, .data⟩ (by simp) rfl)
                    have t88 : tmps[88]?.getD undef = .bool false := hI.val (21, 88, _) (by simp [t8B]) (hd ⟨21, .guard⟩ (by simp) rfl)
                    have tg := tm_some t88
                    clear t88
                    refine wpOp_step rfl (fun K hK => ?_)
                    go_simp
                    exact hK _ _ (hI.val_step 33 100 (.tuple #[]) (by decide) (Upd.refl _ _) (by simp [t8B]) (by kernel_rfl))
                  · cases ho
                    have t95 : tmps[95]?.getD undef = .tuple #[] := hI.val (28, 95, _) (by simp [t8B]) (hd ⟨28, .data⟩ (by simp) rfl)
                    have t100 : tmps[100]?.getD undef = .tuple #[] := hI.val (33, 100, _) (by simp [t8B]) (hd ⟨33, .data⟩ (by simp) rfl)
                    have t88 : tmps[88]?.getD undef = .bool false := hI.val (21, 88, _) (by simp [t8B]) (hd ⟨21, .guard⟩ (by simp) rfl)
                    have tg := tm_some t88
                    clear t88
                    refine wpOp_step rfl (fun K hK => ?_)
                    go_simp
                    exact hK _ _ (hI.val_step 34 101 (.tuple #[]) (by decide) (Upd.refl _ _) (by simp [t8B]) (by kernel_rfl))
                  · cases ho
                    have t90 : tmps[90]?.getD undef = .tuple #[] := hI.val (23, 90, _) (by simp [t8B]) (hd ⟨23, .data⟩ (by simp) rfl)
                    have t101 : tmps[101]?.getD undef = .tuple #[] := hI.val (34, 101, _) (by simp [t8B]) (hd ⟨34, .data⟩ (by simp) rfl)
                    have t88 : tmps[88]?.getD undef = .bool false := hI.val (21, 88, _) (by simp [t8B]) (hd ⟨21, .guard⟩ (by simp) rfl)
                    have tg := tm_some t88
                    clear t88
                    refine wpOp_step rfl (fun K hK => ?_)
                    go_simp
                    exact hK _ _ (hI.val_step 35 102 (.tuple #[]) (by decide) (Upd.refl _ _) (by simp [t8B]) (by kernel_rfl))
                  · cases ho
                    have t88 : tmps[88]?.getD undef = .bool false := hI.val (21, 88, _) (by simp [t8B]) (hd ⟨21, .data⟩ (by simp) rfl)
                    have t102 : tmps[102]?.getD undef = .tuple #[] := hI.val (35, 102, _) (by simp [t8B]) (hd ⟨35, .data⟩ (by simp) rfl)
                    refine wpOp_step rfl (fun K hK => ?_)
                    go_simp
                    exact hK _ _ (hI.val_step 36 103 (.bool false) (by decide) (Upd.refl _ _) (by simp [t8B]) (by kernel_rfl))
                · intro L tmps w4 hI hall
                  have hat := hI.fin rfl (fun t ht => hall _ (by have h9 := List.all_eq_true.1 (show ((t8B gl pb k I cl rn ra rl xn xa xl).all fun t => decide (t.1 < 37)) = true from rfl) t ht; simpa using h9))
                  have hu4 := hI.upd
                  clear hI hall
                  simp only [t8B, List.map_cons, List.map_nil, sets, List.setIfInBounds_toArray, List.set_cons_zero, List.set_cons_succ] at hat
                  rw [hat]
                  clear hat tmps
                  have HU8 := Lib.hid (HUQ.out.trans ((Upd.refl [] wq).drew.trans hu4))
                  clear hu4
                  go_wp2_with fail
                  exact ⟨⟨k + 1, by omega, by go_num, HU8.out⟩, by simp [intOf]; omega⟩
            · have d0 : ((rn : Int) == (xn : Int)) = false := by rw [beq_eq_false_iff_ne]; omega
              refine wp_region_reg (t8A gl pb k I cl rn ra rl xn xa xl) [] (by kernel_rfl) (by kernel_rfl) 198 rfl rfl ?_ ?_
              · intro i o L tmps w' ho hI hL hd
                have hi : i < 37 := (Array.getElem?_eq_some_iff.1 ho).1
                have hwq := (Upd.refl [] wq).drew.trans hI.upd
                have u0 := cell_updP q0 hwq (by simp)
                have u1 := cell_updP q1 hwq (by simp)
                have u2 := cell_updP q2 hwq (by simp)
                have v0 := cell_updP x0 hwq (by simp)
                have v1 := cell_updP x1 hwq (by simp)
                have v2 := cell_updP x2 hwq (by simp)
                have t7 : tmps[7]?.getD undef = .slice (some ⟨gl, 0, none⟩) I cl := (hI.old 7 (by rfl)).trans rfl
                have t11 : tmps[11]?.getD undef = .int .i64 (k : Int) := (hI.old 11 (by rfl)).trans rfl
                have t9 : tmps[9]?.getD undef = .pointer (some ⟨pb, 0, none⟩) := (hI.old 9 (by rfl)).trans rfl
                obtain rfl | rfl | rfl | rfl | rfl | rfl | rfl | rfl | rfl | rfl | rfl | rfl | rfl | rfl | rfl | rfl | rfl | rfl | rfl | rfl | rfl | rfl | rfl | rfl | rfl | rfl | rfl | rfl | rfl | rfl | rfl | rfl | rfl | rfl | rfl | rfl | rfl : i = 0 ∨ i = 1 ∨ i = 2 ∨ i = 3 ∨ i = 4 ∨ i = 5 ∨ i = 6 ∨ i = 7 ∨ i = 8 ∨ i = 9 ∨ i = 10 ∨ i = 11 ∨ i = 12 ∨ i = 13 ∨ i = 14 ∨ i = 15 ∨ i = 16 ∨ i = 17 ∨ i = 18 ∨ i = 19 ∨ i = 20 ∨ i = 21 ∨ i = 22 ∨ i = 23 ∨ i = 24 ∨ i = 25 ∨ i = 26 ∨ i = 27 ∨ i = 28 ∨ i = 29 ∨ i = 30 ∨ i = 31 ∨ i = 32 ∨ i = 33 ∨ i = 34 ∨ i = 35 ∨ i = 36 := by omega
                · cases ho
                  refine wpOp_step rfl (fun K hK => ?_)
                  go_simp
                  exact hK _ _ (hI.val_step 0 67 (.slice (some ⟨gl, 0, none⟩) I cl) (by decide) (Upd.refl _ _) (by simp [t8A]) (by kernel_rfl))
                · cases ho
                  refine wpOp_step rfl (fun K hK => ?_)
                  go_simp
                  exact hK _ _ (hI.val_step 1 68 (.int .i64 (k : Int)) (by decide) (Upd.refl _ _) (by simp [t8A]) (by kernel_rfl))
                · cases ho
                  have t67 : tmps[67]?.getD undef = .slice (some ⟨gl, 0, none⟩) I cl := hI.val (0, 67, _) (by simp [t8A]) (hd ⟨0, .data⟩ (by simp) rfl)
                  have t68 : tmps[68]?.getD undef = .int .i64 (k : Int) := hI.val (1, 68, _) (by simp [t8A]) (hd ⟨1, .data⟩ (by simp) rfl)
                  refine wpOp_step rfl (fun K hK => ?_)
                  go_simp
                  exact hK _ _ (hI.val_step 2 69 (.pointer (some ⟨gl, k * 3, none⟩)) (by decide) (Upd.refl _ _) (by simp [t8A]) (by kernel_rfl))
                · cases ho
                  have t69 : tmps[69]?.getD undef = .pointer (some ⟨gl, k * 3, none⟩) := hI.val (2, 69, _) (by simp [t8A]) (hd ⟨2, .data⟩ (by simp) rfl)
                  refine wpOp_step rfl (fun K hK => ?_)
                  go_simp
                  exact hK _ _ (hI.val_step 3 70 (.pointer (some ⟨gl, k * 3, none⟩)) (by decide) (Upd.refl _ _) (by simp [t8A]) (by kernel_rfl))
                · cases ho
                  have t70 : tmps[70]?.getD undef = .pointer (some ⟨gl, k * 3, none⟩) := hI.val (3, 70, _) (by simp [t8A]) (hd ⟨3, .data⟩ (by simp) rfl)
                  refine wpOp_step rfl (fun K hK => ?_)
                  go_simp
                  exact hK _ _ (hI.val_step 4 71 (.int .i64 (rn : Int)) (by decide) (Upd.refl _ _) (by simp [t8A]) (by kernel_rfl))
                · cases ho
                  refine wpOp_step rfl (fun K hK => ?_)
                  go_simp
                  exact hK _ _ (hI.val_step 5 72 (.pointer (some ⟨pb, 0, none⟩)) (by decide) (Upd.refl _ _) (by simp [t8A]) (by kernel_rfl))
                · cases ho
                  have t72 : tmps[72]?.getD undef = .pointer (some ⟨pb, 0, none⟩) := hI.val (5, 72, _) (by simp [t8A]) (hd ⟨5, .data⟩ (by simp) rfl)
                  refine wpOp_step rfl (fun K hK => ?_)
                  go_simp
                  exact hK _ _ (hI.val_step 6 73 (.int .i64 (xn : Int)) (by decide) (Upd.refl _ _) (by simp [t8A]) (by kernel_rfl))
                · cases ho
                  have t71 : tmps[71]?.getD undef = .int .i64 (rn : Int) := hI.val (4, 71, _) (by simp [t8A]) (hd ⟨4, .data⟩ (by simp) rfl)
                  have t73 : tmps[73]?.getD undef = .int .i64 (xn : Int) := hI.val (6, 73, _) (by simp [t8A]) (hd ⟨6, .data⟩ (by simp) rfl)
                  refine wpOp_step rfl (fun K hK => ?_)
                  go_simp
                  exact hK _ _ (hI.val_step 7 74 (.bool false) (by decide) (Upd.refl _ _) (by simp [t8A]) (by kernel_rfl))
                · cases ho
                  have t74 : tmps[74]?.getD undef = .bool false := hI.val (7, 74, _) (by simp [t8A]) (hd ⟨7, .data⟩ (by simp) rfl)
                  refine wpOp_step rfl (fun K hK => ?_)
                  go_simp
                  exact hK _ _ (hI.val_step 8 75 (.bool false) (by decide) (Upd.refl _ _) (by simp [t8A]) (by kernel_rfl))
                · cases ho
                  have t75 : tmps[75]?.getD undef = .bool false := hI.val (8, 75, _) (by simp [t8A]) (hd ⟨8, .guard⟩ (by simp) rfl)
                  have tg := tm_some t75
                  clear t75
                  refine wpOp_step rfl (fun K hK => ?_)
                  go_simp
                  exact hK _ _ (hI.val_step 9 76 (.tuple #[]) (by decide) (Upd.refl _ _) (by simp [t8A]) (by kernel_rfl))
                · cases ho
                  have t75 : tmps[75]?.getD undef = .bool false := hI.val (8, 75, _) (by simp [t8A]) (hd ⟨8, .guard⟩ (by simp) rfl)
                  have tg := tm_some t75
                  clear t75
                  refine wpOp_step rfl (fun K hK => ?_)
                  go_simp
                  exact hK _ _ (hI.val_step 10 77 (.tuple #[]) (by decide) (Upd.refl _ _) (by simp [t8A]) (by kernel_rfl))
                · cases ho
                  have t76 : tmps[76]?.getD undef = .tuple #[] := hI.val (9, 76, _) (by simp [t8A]) (hd ⟨9, .data⟩ (by simp) rfl)
                  have t77 : tmps[77]?.getD undef = .tuple #[] := hI.val (10, 77, _) (by simp [t8A]) (hd ⟨10, .data⟩ (by simp) rfl)
                  have t75 : tmps[75]?.getD undef = .bool false := hI.val (8, 75, _) (by simp [t8A]) (hd ⟨8, .guard⟩ (by simp) rfl)
                  have tg := tm_some t75
                  clear t75
                  refine wpOp_step rfl (fun K hK => ?_)
                  go_simp
                  exact hK _ _ (hI.val_step 11 78 (.tuple #[]) (by decide) (Upd.refl _ _) (by simp [t8A]) (by kernel_rfl))
                · cases ho
                  have t78 : tmps[78]?.getD undef = .tuple #[] := hI.val (11, 78, _) (by simp [t8A]) (hd ⟨11, .data⟩ (by simp) rfl)
                  have t75 : tmps[75]?.getD undef = .bool false := hI.val (8, 75, _) (by simp [t8A]) (hd ⟨8, .guard⟩ (by simp) rfl)
                  have tg := tm_some t75
                  clear t75
                  refine wpOp_step rfl (fun K hK => ?_)
                  go_simp
                  exact hK _ _ (hI.val_step 12 79 (.tuple #[]) (by decide) (Upd.refl _ _) (by simp [t8A]) (by kernel_rfl))
                · cases ho
                  have t79 : tmps[79]?.getD undef = .tuple #[] := hI.val (12, 79, _) (by simp [t8A]) (hd ⟨12, .data⟩ (by simp) rfl)
                  have t75 : tmps[75]?.getD undef = .bool false := hI.val (8, 75, _) (by simp [t8A]) (hd ⟨8, .guard⟩ (by simp) rfl)
                  have tg := tm_some t75
                  clear t75
                  refine wpOp_step rfl (fun K hK => ?_)
                  go_simp
                  exact hK _ _ (hI.val_step 13 80 (.tuple #[]) (by decide) (Upd.refl _ _) (by simp [t8A]) (by kernel_rfl))
                · cases ho
                  have t75 : tmps[75]?.getD undef = .bool false := hI.val (8, 75, _) (by simp [t8A]) (hd ⟨8, .guard⟩ (by simp) rfl)
                  have tg := tm_some t75
                  clear t75
                  refine wpOp_step rfl (fun K hK => ?_)
                  go_simp
                  exact hK _ _ (hI.val_step 14 81 (.tuple #[]) (by decide) (Upd.refl _ _) (by simp [t8A]) (by kernel_rfl))
                · cases ho
                  have t81 : tmps[81]?.getD undef = .tuple #[] := hI.val (14, 81, _) (by simp [t8A]) (hd ⟨14, .data⟩ (by simp) rfl)
                  have t75 : tmps[75]?.getD undef = .bool false := hI.val (8, 75, _) (by simp [t8A]) (hd ⟨8, .guard⟩ (by simp) rfl)
                  have tg := tm_some t75
                  clear t75
                  refine wpOp_step rfl (fun K hK => ?_)
                  go_simp
                  exact hK _ _ (hI.val_step 15 82 (.tuple #[]) (by decide) (Upd.refl _ _) (by simp [t8A]) (by kernel_rfl))
                · cases ho
                  have t75 : tmps[75]?.getD undef = .bool false := hI.val (8, 75, _) (by simp [t8A]) (hd ⟨8, .guard⟩ (by simp) rfl)
                  have tg := tm_some t75
                  clear t75
                  refine wpOp_step rfl (fun K hK => ?_)
                  go_simp
                  exact hK _ _ (hI.val_step 16 83 (.tuple #[]) (by decide) (Upd.refl _ _) (by simp [t8A]) (by kernel_rfl))
                · cases ho
                  have t83 : tmps[83]?.getD undef = .tuple #[] := hI.val (16, 83, _) (by simp [t8A]) (hd ⟨16, .data⟩ (by simp) rfl)
                  have t75 : tmps[75]?.getD undef = .bool false := hI.val (8, 75, _) (by simp [t8A]) (hd ⟨8, .guard⟩ (by simp) rfl)
                  have tg := tm_some t75
                  clear t75
                  refine wpOp_step rfl (fun K hK => ?_)
                  go_simp
                  exact hK _ _ (hI.val_step 17 84 (.tuple #[]) (by decide) (Upd.refl _ _) (by simp [t8A]) (by kernel_rfl))
                · cases ho
                  have t82 : tmps[82]?.getD undef = .tuple #[] := hI.val (15, 82, _) (by simp [t8A]) (hd ⟨15, .data⟩ (by simp) rfl)
                  have t84 : tmps[84]?.getD undef = .tuple #[] := hI.val (17, 84, _) (by simp [t8A]) (hd ⟨17, .data⟩ (by simp) rfl)
                  have t75 : tmps[75]?.getD undef = .bool false := hI.val (8, 75, _) (by simp [t8A]) (hd ⟨8, .guard⟩ (by simp) rfl)
                  have tg := tm_some t75
                  clear t75
                  refine wpOp_step rfl (fun K hK => ?_)
                  go_simp
                  exact hK _ _ (hI.val_step 18 85 (.tuple #[]) (by decide) (Upd.refl _ _) (by simp [t8A]) (by kernel_rfl))
                · cases ho
                  have t80 : tmps[80]?.getD undef = .tuple #[] := hI.val (13, 80, _) (by simp [t8A]) (hd ⟨13, .data⟩ (by simp) rfl)
                  have t85 : tmps[85]?.getD undef = .tuple #[] := hI.val (18, 85, _) (by simp [t8A]) (hd ⟨18, .data⟩ (by simp) rfl)
                  have t75 : tmps[75]?.getD undef = .bool false := hI.val (8, 75, _) (by simp [t8A]) (hd ⟨8, .guard⟩ (by simp) rfl)
                  have tg := tm_some t75
                  clear t75
                  refine wpOp_step rfl (fun K hK => ?_)
                  go_simp
                  exact hK _ _ (hI.val_step 19 86 (.tuple #[]) (by decide) (Upd.refl _ _) (by simp [t8A]) (by kernel_rfl))
                · cases ho
                  have t75 : tmps[75]?.getD undef = .bool false := hI.val (8, 75, _) (by simp [t8A]) (hd ⟨8, .data⟩ (by simp) rfl)
                  have t86 : tmps[86]?.getD undef = .tuple #[] := hI.val (19, 86, _) (by simp [t8A]) (hd ⟨19, .data⟩ (by simp) rfl)
                  refine wpOp_step rfl (fun K hK => ?_)
                  go_simp
                  exact hK _ _ (hI.val_step 20 87 (.bool false) (by decide) (Upd.refl _ _) (by simp [t8A]) (by kernel_rfl))
                · cases ho
                  have t87 : tmps[87]?.getD undef = .bool false := hI.val (20, 87, _) (by simp [t8A]) (hd ⟨20, .data⟩ (by simp) rfl)
                  refine wpOp_step rfl (fun K hK => ?_)
                  go_simp
                  exact hK _ _ (hI.val_step 21 88 (.bool false) (by decide) (Upd.refl _ _) (by simp [t8A]) (by kernel_rfl))
                · cases ho
                  have t88 : tmps[88]?.getD undef = .bool false := hI.val (21, 88, _) (by simp [t8A]) (hd ⟨21, .guard⟩ (by simp) rfl)
                  have tg := tm_some t88
                  clear t88
                  refine wpOp_step rfl (fun K hK => ?_)
                  go_simp
                  exact hK _ _ (hI.val_step 22 89 (.tuple #[]) (by decide) (Upd.refl _ _) (by simp [t8A]) (by kernel_rfl))
                · cases ho
                  have t89 : tmps[89]?.getD undef = .tuple #[] := hI.val (22, 89, _) (by simp [t8A]) (hd ⟨22, .data⟩ (by simp) rfl)
                  have t88 : tmps[88]?.getD undef = .bool false := hI.val (21, 88, _) (by simp [t8A]) (hd ⟨21, .guard⟩ (by simp) rfl)
                  have tg := tm_some t88
                  clear t88
                  refine wpOp_step rfl (fun K hK => ?_)
                  go_simp
                  exact hK _ _ (hI.val_step 23 90 (.tuple #[]) (by decide) (Upd.refl _ _) (by simp [t8A]) (by kernel_rfl))
                · cases ho
                  have t88 : tmps[88]?.getD undef = .bool false := hI.val (21, 88, _) (by simp [t8A]) (hd ⟨21, .guard⟩ (by simp) rfl)
                  have tg := tm_some t88
                  clear t88
                  refine wpOp_step rfl (fun K hK => ?_)
                  go_simp
                  exact hK _ _ (hI.val_step 24 91 (.tuple #[]) (by decide) (Upd.refl _ _) (by simp [t8A]) (by kernel_rfl))
                · cases ho
                  have t88 : tmps[88]?.getD undef = .bool false := hI.val (21, 88, _) (by simp [t8A]) (hd ⟨21, .guard⟩ (by simp) rfl)
                  have tg := tm_some t88
                  clear t88
                  refine wpOp_step rfl (fun K hK => ?_)
                  go_simp
                  exact hK _ _ (hI.val_step 25 92 (.tuple #[]) (by decide) (Upd.refl _ _) (by simp [t8A]) (by kernel_rfl))
                · cases ho
                  have t91 : tmps[91]?.getD undef = .tuple #[] := hI.val (24, 91, _) (by simp [t8A]) (hd ⟨24, .data⟩ (by simp) rfl)
                  have t92 : tmps[92]?.getD undef = .tuple #[] := hI.val (25, 92, _) (by simp [t8A]) (hd ⟨25, .data⟩ (by simp) rfl)
                  have t88 : tmps[88]?.getD undef = .bool false := hI.val (21, 88, _) (by simp [t8A]) (hd ⟨21, .guard⟩ (by simp) rfl)
                  have tg := tm_some t88
                  clear t88
                  refine wpOp_step rfl (fun K hK => ?_)
                  go_simp
                  exact hK _ _ (hI.val_step 26 93 (.tuple #[]) (by decide) (Upd.refl _ _) (by simp [t8A]) (by kernel_rfl))
                · cases ho
                  have t93 : tmps[93]?.getD undef = .tuple #[] := hI.val (26, 93, _) (by simp [t8A]) (hd ⟨26, .data⟩ (by simp) rfl)
                  have t88 : tmps[88]?.getD undef = .bool false := hI.val (21, 88, _) (by simp [t8A]) (hd ⟨21, .guard⟩ (by simp) rfl)
                  have tg := tm_some t88
                  clear t88
                  refine wpOp_step rfl (fun K hK => ?_)
                  go_simp
                  exact hK _ _ (hI.val_step 27 94 (.tuple #[]) (by decide) (Upd.refl _ _) (by simp [t8A]) (by kernel_rfl))
                · cases ho
                  have t94 : tmps[94]?.getD undef = .tuple #[] := hI.val (27, 94, _) (by simp [t8A]) (hd ⟨27, .data⟩ (by simp) rfl)
                  have t88 : tmps[88]?.getD undef = .bool false := hI.val (21, 88, _) (by simp [t8A]) (hd ⟨21, .guard⟩ (by simp) rfl)
                  have tg := tm_some t88
                  clear t88
                  refine wpOp_step rfl (fun K hK => ?_)
                  go_simp
                  exact hK _ _ (hI.val_step 28 95 (.tuple #[]) (by decide) (Upd.refl _ _) (by simp [t8A]) (by kernel_rfl))
                · cases ho
                  have t88 : tmps[88]?.getD undef = .bool false := hI.val (21, 88, _) (by simp [t8A]) (hd ⟨21, .guard⟩ (by simp) rfl)
                  have tg := tm_some t88
                  clear t88
                  refine wpOp_step rfl (fun K hK => ?_)
                  go_simp
                  exact hK _ _ (hI.val_step 29 96 (.tuple #[]) (by decide) (Upd.refl _ _) (by simp [t8A]) (by kernel_rfl))
                · cases ho
                  have t88 : tmps[88]?.getD undef = .bool false := hI.val (21, 88, _) (by simp [t8A]) (hd ⟨21, .guard⟩ (by simp) rfl)
                  have tg := tm_some t88
                  clear t88
                  refine wpOp_step rfl (fun K hK => ?_)
                  go_simp
                  exact hK _ _ (hI.val_step 30 97 (.tuple #[]) (by decide) (Upd.refl _ _) (by simp [t8A]) (by kernel_rfl))
                · cases ho
                  have t96 : tmps[96]?.getD undef = .tuple #[] := hI.val (29, 96, _) (by simp [t8A]) (hd ⟨29, .data⟩ (by simp) rfl)
                  have t97 : tmps[97]?.getD undef = .tuple #[] := hI.val (30, 97, _) (by simp [t8A]) (hd ⟨30, .data⟩ (by simp) rfl)
                  have t88 : tmps[88]?.getD undef = .bool false := hI.val (21, 88, _) (by simp [t8A]) (hd ⟨21, .guard⟩ (by simp) rfl)
                  have tg := tm_some t88
                  clear t88
                  refine wpOp_step rfl (fun K hK => ?_)
                  go_simp
                  exact hK _ _ (hI.val_step 31 98 (.tuple #[]) (by decide) (Upd.refl _ _) (by simp [t8A]) (by kernel_rfl))
                · cases ho
                  have t98 : tmps[98]?.getD undef = .tuple #[] := hI.val (31, 98, _) (by simp [t8A]) (hd ⟨31, .data⟩ (by simp) rfl)
                  have t88 : tmps[88]?.getD undef = .bool false := hI.val (21, 88, _) (by simp [t8A]) (hd ⟨21, .guard⟩ (by simp) rfl)
                  have tg := tm_some t88
                  clear t88
                  refine wpOp_step rfl (fun K hK => ?_)
                  go_simp
                  exact hK _ _ (hI.val_step 32 99 (.tuple #[]) (by decide) (Upd.refl _ _) (by simp [t8A]) (by kernel_rfl))
                · cases ho
                  have t99 : tmps[99]?.getD undef = .tuple #[] := hI.val (32, 99, _) (by simp [t8A]) (hd ⟨32, .data⟩ (by simp) rfl)
                  have t88 : tmps[88]?.getD undef = .bool false := hI.val (21, 88, _) (by simp [t8A]) (hd ⟨21, .guard⟩ (by simp) rfl)
                  have tg := tm_some t88
                  clear t88
                  refine wpOp_step rfl (fun K hK => ?_)
                  go_simp
                  exact hK _ _ (hI.val_step 33 100 (.tuple #[]) (by decide) (Upd.refl _ _) (by simp [t8A]) (by kernel_rfl))
                · cases ho
                  have t95 : tmps[95]?.getD undef = .tuple #[] := hI.val (28, 95, _) (by simp [t8A]) (hd ⟨28, .data⟩ (by simp) rfl)
                  have t100 : tmps[100]?.getD undef = .tuple #[] := hI.val (33, 100, _) (by simp [t8A]) (hd ⟨33, .data⟩ (by simp) rfl)
                  have t88 : tmps[88]?.getD undef = .bool false := hI.val (21, 88, _) (by simp [t8A]) (hd ⟨21, .guard⟩ (by simp) rfl)
                  have tg := tm_some t88
                  clear t88
                  refine wpOp_step rfl (fun K hK => ?_)
                  go_simp
                  exact hK _ _ (hI.val_step 34 101 (.tuple #[]) (by decide) (Upd.refl _ _) (by simp [t8A]) (by kernel_rfl))
                · cases ho
                  have t90 : tmps[90]?.getD undef = .tuple #[] := hI.val (23, 90, _) (by simp [t8A]) (hd ⟨23, .data⟩ (by simp) rfl)
                  have t101 : tmps[101]?.getD undef = .tuple #[] := hI.val (34, 101, _) (by simp [t8A]) (hd ⟨34, .data⟩ (by simp) rfl)
                  have t88 : tmps[88]?.getD undef = .bool false := hI.val (21, 88, _) (by simp [t8A]) (hd ⟨21, .guard⟩ (by simp) rfl)
                  have tg := tm_some t88
                  clear t88
                  refine wpOp_step rfl (fun K hK => ?_)
                  go_simp
                  exact hK _ _ (hI.val_step 35 102 (.tuple #[]) (by decide) (Upd.refl _ _) (by simp [t8A]) (by kernel_rfl))
                · cases ho
                  have t88 : tmps[88]?.getD undef = .bool false := hI.val (21, 88, _) (by simp [t8A]) (hd ⟨21, .data⟩ (by simp) rfl)
                  have t102 : tmps[102]?.getD undef = .tuple #[] := hI.val (35, 102, _) (by simp [t8A]) (hd ⟨35, .data⟩ (by simp) rfl)
                  refine wpOp_step rfl (fun K hK => ?_)
                  go_simp
                  exact hK _ _ (hI.val_step 36 103 (.bool false) (by decide) (Upd.refl _ _) (by simp [t8A]) (by kernel_rfl))
              · intro L tmps w4 hI hall
                have hat := hI.fin rfl (fun t ht => hall _ (by have h9 := List.all_eq_true.1 (show ((t8A gl pb k I cl rn ra rl xn xa xl).all fun t => decide (t.1 < 37)) = true from rfl) t ht; simpa using h9))
                have hu4 := hI.upd
                clear hI hall
                simp only [t8A, List.map_cons, List.map_nil, sets, List.setIfInBounds_toArray, List.set_cons_zero, List.set_cons_succ] at hat
                rw [hat]
                clear hat tmps
                have HU8 := Lib.hid (HUQ.out.trans ((Upd.refl [] wq).drew.trans hu4))
                clear hu4
                go_wp2_with fail
                exact ⟨⟨k + 1, by omega, by go_num, HU8.out⟩, by simp [intOf]; omega⟩
          · obtain rfl : k = I := by omega
            have ck : decide ((k : Int) < (k : Int)) = false := decide_eq_false (by omega)
            have hbq := (huq.block _ (blk_lt HB5.out) (by simp)).trans HB5.out
            have x0 : wq.cell? ⟨pb, 0, none⟩ = some (.int .i64 (xn : Int)) := by rw [blk_cell hbq]; rfl
            have x1 : wq.cell? ⟨pb, 1, none⟩ = some (.int .i64 (xa : Int)) := by rw [blk_cell hbq]; rfl
            have x2 : wq.cell? ⟨pb, 2, none⟩ = some (.int .i64 (xl : Int)) := by rw [blk_cell hbq]; rfl
            have hplq := HPL5.out.upd huq (by simp)
            obtain ⟨ap, lp, cp, wp, Sp, hrun, hplp, hup, hSp⟩ := pl_push hplq (by rw [List.length_map, HRL.out]; omega) (Nat.le_trans HU5.out.size huq.size) (xn, xa, xl)
            have hbld := run_build_pl (xn, xa, xl)
            dsimp only at hrun hbld
            have HUQ := Lib.hid huq
            have HPLP := Lib.hid hplp
            have HUP := Lib.hid hup
            have HSP := Lib.hid hSp
            clear huq hbq hplq hplp hup hSp
            go_wp2_with (at_builtin; refine wpList_append_run rfl _ _ _ rfl rfl rfl hrun ?_)
            have hjp : JsAt wp g0.j 800 60 (2 + (k : Int) + 1) (g.cur M') := (HJ5.out.below HUQ.out).own HUP.out (fun q hq => by
              obtain ⟨_, c, e⟩ := HSP.out q hq
              exact ⟨c, e⟩)
            have hup : Upd [] w wp := (HU5.out.trans HUQ.out).late HUP.out (fun i hi => .inr (HSP.out i hi).1)
            have hk5' := HK5.out
            rw [HGH.out] at hk5'
            refine (JsAt.beginU hjp HJ.out hup (fun i => rfl) hk5').mono ?_
            rintro e w7 ⟨g1, rfl, hpa, hgT, hu7⟩
            have hpl7 := HPLP.out.js hjp hu7
            have HP7 := Lib.hid hpa
            have HG7 := Lib.hid hgT
            have HPL7 := Lib.hid hpl7
            clear hjp hup hk5' hpa hgT hu7 hpl7 hrun hbld x0 x1 x2
            go_wp2_with fail
            have hpq : PkAt w w7 g0.j 800 60 (2 + ((k + 1 : Nat) : Int)) g1 K' := by
              rw [show (2 + ((k + 1 : Nat) : Int)) = 2 + (k : Int) + 1 by omega]
              exact HP7.out
            have hg7 : (g1.T fun _ => none) = g.T M' := HG7.out
            refine ⟨⟨k + 1, m', g1, K', Rs ++ [⟨xx.1, xx.2, ky, bb⟩], by go_num, rfl, by omega, by omega, Lib.hid (by rw [List.length_append, HRL.out]; rfl), Lib.hid hpq, Lib.hid ?_, Lib.hid (by rw [hg7]; exact HRW5.out), Lib.hid ?_, Lib.hid ?_⟩, by simp [intOf]; omega⟩
            · have := HR5.out
              rw [HRR.out] at this
              rw [List.reverse_append]
              exact this
            · intro i r hir
              rcases Nat.lt_or_ge i Rs.length with h8 | h8
              · rw [List.getElem?_append_left h8] at hir
                exact HRS.out i r hir
              · rw [List.getElem?_append_right h8] at hir
                have h9 : i = Rs.length := by
                  have := (List.getElem?_eq_some_iff.1 hir).1
                  simp at this; omega
                rw [h9, Nat.sub_self, List.getElem?_cons_zero] at hir
                cases hir
                rw [h9, HRL.out]
                exact ⟨HKK.out, a, HA.out, HBB.out⟩
            · have h9 := HPL7.out
              rw [List.map_append]
              have e1 : (xn, xa, xl) = plOf ⟨xx.1, xx.2, ky, bb⟩ := by
                rw [HXN.out, HXA.out, HXL.out]; rfl
              rw [e1] at h9
              exact h9
    · --ARM2
      obtain rfl : I = ks.length := by omega
      have cj : decide ((ks.length : Int) < (ks.length : Int)) = false := decide_eq_false (by omega)
      obtain ⟨al, cl, hlsh⟩ := HPL.out.shape
      rw [List.length_map, HRL.out] at hlsh
      subst hlsh
      obtain ⟨w3, hmk, hbl3, hu3⟩ := run_make_bool ks.length (by omega) (ks.length : Int) rfl wr
      obtain ⟨ub, hub⟩ : ∃ ub, ub = wr.heap.size := ⟨_, rfl⟩
      rw [← hub] at hmk hbl3
      have hp3 := HPK2.out.below hu3
      have hpl3 : PlB w3 w.heap.size (.slice al ks.length cl) (Rs.map plOf) := HPL.out.upd hu3 (by simp)
      have htl : TellAt K Rs := HRC.out.tell (fun r hr => List.mem_reverse.2 hr)
      have hls : RecsAt K ((Rs.map some).filterMap id) := by
        have e1 : (Rs.map some).filterMap id = Rs := by rw [List.filterMap_map]; simp
        rw [e1]
        exact HRC.out.perm (List.reverse_perm Rs)
      have hn64 : ∀ r, r ∈ Rs → r.n < 64 := fun r hr => by
        obtain ⟨_, _, p, hp, _⟩ := HRC.out.rec_ r (List.mem_reverse.2 hr)
        exact HPK2.out.pk.lt hp
      have HN64 := Lib.hid hn64
      clear hn64
      have HBL3 := Lib.hid hbl3
      have HUB := Lib.hid hub
      have HP3 := Lib.hid hp3
      have HPL3 := Lib.hid hpl3
      have HTL := Lib.hid htl
      have HLS := Lib.hid hls
      clear hbl3 hub hp3 hpl3 htl hls hu3
      go_wp2_with fail
      go_loopw [13, 6] (fun i t wr => ∃ (q : Nat) (g : Sg) (K : Nat → Option Pk) (b : Int) (Ls : List (Option Rc)), i = .int .i64 (q : Int) ∧ t = .pointer (some ⟨g.x.tb, 0, none⟩) ∧ q ≤ gs.length ∧ b ≤ 100 + q ∧ Hid (PkAt w wr g0.j 800 60 b g K) ∧ Hid (RecsAt K (Ls.filterMap id)) ∧ Hid (TellAt K Rs) ∧ Hid (Ls.length = ks.length) ∧ Hid (∀ (i : Nat) (r : Rc), Ls[i]? = some (some r) → Rs[i]? = some r) ∧
          Hid (BlF wr ub ks.length (goneB Ls)) ∧ Hid (PlB wr w.heap.size (.slice al ks.length cl) (Rs.map plOf)) ∧ Hid (w.heap.size ≤ ub ∧ ∀ k, k ∈ g0.j.all → k ≠ ub)) (fun i _ _ => gs.length - (intOf i).toNat)
      case atStart =>
        refine ⟨0, g, K, _, Rs.map some, rfl, rfl, by omega, by omega, HP3, HLS, HTL, Lib.hid (by rw [List.length_map, HRL.out]), Lib.hid (fun i r hi => ?_), Lib.hid ?_, HPL3, Lib.hid ?_⟩
        · rw [List.getElem?_map] at hi
          rcases hq : Rs[i]? with _ | r'
          · rw [hq] at hi; cases hi
          · rw [hq] at hi; cases hi; rfl
        · exact HBL3.out.ext fun i hi => goneB_new Rs i
        · refine ⟨by rw [HUB.out]; exact HPK2.out.upd.size, fun k hk e => ?_⟩
          have h1 := HPK2.out.sp.lt.1 k (by
            obtain ⟨wT, hTx, hwT⟩ := HPK2.out.tx
            rw [Sg.S, hTx.j]; exact List.mem_cons_of_mem _ hk)
          rw [e, HUB.out] at h1
          omega
      case round =>
        obtain ⟨q, g2, K2, b2, Ls, rfl, rfl, hq, hb2, HP2, HR2, HT2, HL2, HLR2, HBL2, HPL2, HUB2⟩ := hrel
        by_cases hqq : q < gs.length ∧ 0 < ks.length
        · have c3 : decide ((q : Int) < (gs.length : Int)) = true := decide_eq_true (by omega)
          have c4 : decide ((0 : Int) < (ks.length : Int)) = true := decide_eq_true (by omega)
          obtain ⟨a2, ha2⟩ : ∃ a, gs[q]? = some a := ⟨_, List.getElem?_eq_getElem hqq.1⟩
          obtain ⟨sb2, so2, hsb2, rfl, hcw2⟩ := HV1.out.cellZ (i := q) (x := .int .i64 a2) (by rw [List.getElem?_map, ha2]; rfl)
          have hc2 := cell_updP hcw2 HP2.out.upd (by simp)
          have hKp := placeN_lt (k := a2) (n := ks.length) (by omega)
          have HKP := Lib.hid (fun w => place_spec a2 ks.length w (by omega) (by omega))
          obtain ⟨kk, hkk⟩ : ∃ kk, kk = placeN a2 ks.length := ⟨_, rfl⟩
          rw [← hkk] at hKp HKP
          have hbc := (HBL2.out.cell hKp).1
          have f9 := (HBL2.out.cell hKp).2
          have HUQ2 := Lib.hid hcw2
          clear hkk hcw2 ha2 hsb2
          cases hgk : goneB Ls kk with
          | true =>
            rw [hgk] at hbc
            go_wp2_with fail
            refine (HKP.out _).mono ?_
            rintro e w' ⟨rfl, rfl⟩
            go_wp2_with fail
            exact ⟨⟨q + 1, g2, K2, b2, Ls, by go_num, rfl, by omega, by omega, HP2, HR2, HT2, HL2, HLR2, HBL2, HPL2, HUB2⟩, by simp [intOf]; omega⟩
          | false =>
            rw [hgk] at hbc
            obtain ⟨r, hr⟩ := goneB_false (by rw [HL2.out]; exact hKp) hgk
            have hrs := HLR2.out kk r hr
            have hmem : r ∈ Ls.filterMap id := List.mem_filterMap.2 ⟨some r, List.mem_of_getElem? hr, rfl⟩
            obtain ⟨hrk, hrb, p, hp, hal, hfr⟩ := HR2.out.rec_ r hmem
            have hlv := HR2.out.live_le hmem hp
            have hgh2 := HP2.out.h
            obtain ⟨w1, hw1⟩ : ∃ w1, w1 = wr.setCell ⟨ub, kk, none⟩ (.bool true) := ⟨_, rfl⟩
            have hu1 : Upd [ub] wr w1 := by rw [hw1]; exact (Upd.refl _ _).set _ (.inl (by simp))
            have hbl1 : BlF w1 ub ks.length (goneB (Ls.set kk none)) := by
              rw [hw1]
              exact (HBL2.out.set true).ext fun i hi => goneB_set (by rw [HL2.out]; exact hKp) i
            have hs1 : SpAt w1 g2 (fun _ => none) := HP2.out.sp.own HBL2.out hu1
            have hpl1 := HPL2.out.upd hu1 (fun k c hk e => by
              simp at hk
              subst hk
              have h9 := HBL2.out
              unfold BlF at h9
              rw [h9] at e
              simp at e)
            obtain ⟨gl, rfl, q0, q1, q2⟩ := hpl1.cellQ (k := kk) (p := plOf r) (by rw [List.getElem?_map, hrs]; rfl)
            unfold plOf at q0 q1 q2
            dsimp only at q0 q1 q2
            have hdr := drop_pk hs1 HP2.out.pk (by omega) (by omega) (by rw [cntM_none]; omega) hp r.at_ r.len (by unfold Rc.len; omega) hal hlv
            unfold plV at hdr
            dsimp only at hdr
            have HDR := Lib.hid hdr
            have HW1 := Lib.hid hw1
            have HU1' := Lib.hid hu1
            have HBL1 := Lib.hid hbl1
            have HS1 := Lib.hid hs1
            have HPL1 := Lib.hid hpl1
            have HR := Lib.hid hr
            have HGH2 := Lib.hid hgh2
            clear hdr hw1 hu1 hbl1 hs1 hpl1 hr hgh2 hrs hmem hrk hrb hp hal hfr hlv hgk
            go_wp2_with fail
            refine (HKP.out _).mono ?_
            rintro e w' ⟨rfl, rfl⟩
            go_upto_region 29 with (fail)
            rw [← HW1.out]
            clear hbc f9
            go_wp2_with fail
            refine HDR.out.mono ?_
            rintro e w4 ⟨M', K', rfl, h4, hk4, hd4, hc4, hu4⟩
            rw [cntM_none] at hc4
            have hpl4 := HPL1.out.sp HS1.out hu4 (fun k hk => List.mem_cons_of_mem _ hk)
            have hbl4 := HBL1.out.upd hu4 (HS1.out.bl HBL1.out)
            have hSS := HP2.out.S HJ.out
            have hU4 : Upd [] w w4 := (HP2.out.upd.late HU1'.out (fun i hi => .inr (by simp at hi; rw [hi]; exact HUB2.out.1))).late hu4 (fun i hi => .inr (hSS.1 i hi))
            have HCM := Lib.hid (HP2.out.commit h4 (by omega) (by omega) (by have := HGH2.out; omega) (by omega))
            obtain ⟨wT, hTx, hwT⟩ := HP2.out.tx
            have hjS : ∀ k, k ∈ g2.x.tb :: g0.j.all → k ∈ g2.x.tb :: g2.S := fun k hk => by
              rcases List.mem_cons.1 hk with e | e
              · rw [e]; exact List.mem_cons_self ..
              · rw [Sg.S, hTx.j]; exact List.mem_cons_of_mem _ (List.mem_cons_of_mem _ e)
            have HJS := Lib.hid hjS
            have HPL4 := Lib.hid hpl4
            have HBL4 := Lib.hid hbl4
            have HU4 := Lib.hid hU4
            have HSS := Lib.hid hSS
            have H4 := Lib.hid h4
            have HK4 := Lib.hid hk4
            have HD4 := Lib.hid hd4
            clear h4 hk4 hd4 hc4 hu4 hpl4 hbl4 hSS hU4 hTx hwT wT hjS q0 q1 q2
            go_wp2_with fail
            refine HCM.out.mono ?_
            rintro e w5 ⟨rfl, hjs, hu5⟩
            have hpl5 := HPL4.out.sp H4.out hu5 HJS.out
            have hbl5 := HBL4.out.upd hu5 (fun q => H4.out.otherB HBL4.out (HJS.out _ q))
            have hU5 : Upd [] w w5 := HU4.out.late hu5 (fun k hk => .inr (by
              rcases List.mem_cons.1 hk with e | e
              · rw [e]; exact HSS.out.2
              · exact HJ.out k e))
            have hk5 := HK4.out
            rw [HGH2.out] at hk5
            have HBN := Lib.hid (JsAt.beginU hjs HJ.out hU5 (fun i => rfl) hk5)
            have HJS5 := Lib.hid hjs
            have HPL5 := Lib.hid hpl5
            have HBL5 := Lib.hid hbl5
            clear hjs hu5 hpl5 hbl5 hU5 hk5
            go_wp2_with fail
            refine HBN.out.mono ?_
            rintro e w7 ⟨g3, rfl, hpa, hgT, hu7⟩
            have hpl7 := HPL5.out.js HJS5.out hu7
            have hbl7 := HBL5.out.upd hu7 (fun q => HUB2.out.2 _ q rfl)
            have HP7 := Lib.hid hpa
            have HPL7 := Lib.hid hpl7
            have HBL7 := Lib.hid hbl7
            clear hpa hgT hu7 hpl7 hbl7
            go_wp2_with fail
            refine ⟨⟨q + 1, g3, K', b2 + 1, Ls.set kk none, by go_num, rfl, by omega, by omega, HP7, Lib.hid (HR2.out.drop (filterMap_set HR.out) HD4.out), Lib.hid (HT2.out.drop HD4.out), Lib.hid (by rw [List.length_set]; exact HL2.out), Lib.hid (fun i r' hi => ?_), HBL7, HPL7, HUB2⟩, by simp [intOf]; omega⟩
            by_cases e : i = kk
            · subst e
              rw [List.getElem?_set_self (by rw [HL2.out]; exact hKp)] at hi
              cases hi
            · rw [List.getElem?_set_ne (fun q => e q.symm)] at hi
              exact HLR2.out i r' hi
        · have hc : ((decide ((q : Int) < (gs.length : Int)) = true ∧ decide (q < gs.length) = true) ∧ decide ((0 : Int) < (ks.length : Int)) = false ∧ decide (0 < ks.length) = false) ∨ (decide ((q : Int) < (gs.length : Int)) = false ∧ decide (q < gs.length) = false) := by
            rcases Nat.lt_or_ge q gs.length with h9 | h9
            · exact .inl ⟨⟨decide_eq_true (by omega), decide_eq_true h9⟩, decide_eq_false (by omega), decide_eq_false (by omega)⟩
            · exact .inr ⟨decide_eq_false (by omega), decide_eq_false (by omega)⟩
          have HSP2 := Lib.hid HP2.out.sp
          have HUD2 := Lib.hid HP2.out.upd
          have HGH2 := Lib.hid HP2.out.h
          have hgS := (HP2.out.S HJ.out).1
          have HGS := Lib.hid hgS
          have HJB2 : Hid (w.heap.size ≤ g2.j.jb) := by show _ ≤ _; exact hgS _ (g2.mem _ (by simp))
          have HBJ : Hid (ub ≠ g2.j.jb) := by
            show ub ≠ _
            exact fun e => HP2.out.sp.bl HBL2.out (by rw [e]; exact g2.mem _ (by simp))
          clear hgS hqq
          rcases hc with ⟨⟨c3, c3'⟩, c4, c4'⟩ | ⟨c3, c3'⟩
          all_goals
            go_wp2_with fail
            go_loopw [15] (fun i wr => ∃ (n3 : Nat), i = .int .i64 (n3 : Int) ∧ n3 ≤ ks.length ∧ Hid (SpAt wr g2 fun _ => none) ∧ Hid (Upd [] w wr) ∧ Hid (BlF wr ub ks.length (goneB Ls)) ∧ Hid (PlB wr w.heap.size (.slice al ks.length cl) (Rs.map plOf))) (fun i _ => ks.length - (intOf i).toNat)
            case atStart => exact ⟨0, rfl, by omega, HSP2, HUD2, HBL2, HPL2⟩
            case round =>
              obtain ⟨n3, rfl, hn3, HS3, HU3, HBL3', HPL3'⟩ := hrel
              rcases Nat.lt_or_ge n3 ks.length with h3 | h3
              · have c5 : decide ((n3 : Int) < (ks.length : Int)) = true := decide_eq_true (by omega)
                obtain ⟨r3, hr3⟩ : ∃ r, Rs[n3]? = some r := ⟨_, List.getElem?_eq_getElem (by rw [HRL.out]; exact h3)⟩
                obtain ⟨gl3, hal3, q0, q1, q2⟩ := HPL3'.out.cellQ (k := n3) (p := plOf r3) (by rw [List.getElem?_map, hr3]; rfl)
                subst hal3
                unfold plOf at q0 q1 q2
                dsimp only at q0 q1 q2
                obtain ⟨hky3, a3, ha3, hbb3⟩ := HRS.out n3 r3 hr3
                obtain ⟨ht1, ht2, ht3⟩ := HT2.out r3 (List.mem_of_getElem? hr3)
                have HKY3 : Hid (∀ W, Calls Tryz.prog 17 #[.int .u8 (IntKind.u8.wrap (n3 : Int))] W fun e w'' => e = .returned (.agg (bts r3.key).toArray) ∧ Upd [] W w'') := by
                  show ∀ W, _
                  intro W
                  rw [hky3]
                  exact key11_spec (n3 % 256) _ (by rw [IntKind.wrap_u8]; omega) (by omega) W
                obtain ⟨er3, HGT, herr⟩ : ∃ er3 : Int, Hid (∀ W, SpAt W g2 (fun _ => none) → Calls Tryz.prog 32 #[.pointer (some ⟨g2.x.tb, 0, none⟩), .agg #[.int .i64 (r3.n : Int), .int .i64 (r3.at_ : Int), .int .i64 (r3.len : Int)], .agg (bts r3.key).toArray] W fun e w' => ∃ x, e = .returned (.tuple #[x, .int .i64 er3]) ∧ (er3 = 0 → Rd w' x r3.b) ∧ SpAt w' g2 (fun _ => none) ∧ Upd [g2.j.jb] W w') ∧ (goneB Ls n3 = false → er3 = 0) := by
                  have hgh := HGH2.out
                  have hn6 := HN64.out r3 (List.mem_of_getElem? hr3)
                  rcases hK : K2 r3.n with _ | p
                  · refine ⟨1, Lib.hid ?_, fun hg => ?_⟩
                    · intro W hW
                      refine (get_no hW HP2.out.pk (by omega) (by omega) hn6 hK r3.at_ r3.len r3.key ht1).mono ?_
                      rintro e w' ⟨rfl, h1, h2⟩
                      exact ⟨_, rfl, (fun e => by cases e), h1, h2⟩
                    · exfalso
                      obtain ⟨r', hr'⟩ := goneB_false (by rw [HL2.out]; exact h3) hg
                      have e1 := HLR2.out n3 r' hr'
                      rw [hr3] at e1
                      cases e1
                      exact HR2.out.gone (List.mem_filterMap.2 ⟨some r3, List.mem_of_getElem? hr', rfl⟩) hK
                  · obtain ⟨h1, h2⟩ := ht3 p hK
                    refine ⟨0, Lib.hid ?_, fun _ => rfl⟩
                    intro W hW
                    refine (get_pk hW HP2.out.pk (by omega) (by omega) hK r3.at_ r3.len r3.key r3.b ht1 ht2 rfl h1 h2).mono ?_
                    rintro e w' ⟨x, rfl, hx, h8, h9⟩
                    exact ⟨x, rfl, (fun _ => hx.rd), h8, h9⟩
                have HS3' := HS3
                have HR3 := Lib.hid hr3
                have HKB := Lib.hid ha3
                have HBB3 := Lib.hid hbb3
                have HER3 := Lib.hid herr
                clear hr3 hky3 ha3 hbb3 ht1 ht2 ht3 herr
                go_upto_region 35 with (fail)
                go_region_held3 (fun w' => w'.cell? ⟨gl3, n3 * 3, none⟩ = some (.int .i64 (r3.n : Int)) ∧ w'.cell? ⟨gl3, n3 * 3 + 1, none⟩ = some (.int .i64 (r3.at_ : Int)) ∧ w'.cell? ⟨gl3, n3 * 3 + 2, none⟩ = some (.int .i64 (r3.len : Int))) (first | assumption | exact ⟨q0, q1, q2⟩ | (exact ⟨cell_updP q0 ((Upd.refl [] _).drew) (by simp), cell_updP q1 ((Upd.refl [] _).drew) (by simp), cell_updP q2 ((Upd.refl [] _).drew) (by simp)⟩))
                  (first
                    | (go_at_call 17; (with_reducible refine (HKY3.out _).mono ?_); rintro e w2 ⟨rfl, hu2⟩; have HU2 := Lib.hid ((Upd.refl [] wr).drew.trans hu2); have hs2 : w2.cell? ⟨gl3, n3 * 3, none⟩ = some (.int .i64 (r3.n : Int)) ∧ w2.cell? ⟨gl3, n3 * 3 + 1, none⟩ = some (.int .i64 (r3.at_ : Int)) ∧ w2.cell? ⟨gl3, n3 * 3 + 2, none⟩ = some (.int .i64 (r3.len : Int)) := ⟨cell_updP q0 HU2.out (by simp), cell_updP q1 HU2.out (by simp), cell_updP q2 HU2.out (by simp)⟩; clear hu2)
                    | (go_at_call 32; (with_reducible refine (HGT.out _ (HS3.out.below HU2.out)).mono ?_); rintro e w4 ⟨x3, rfl, hrd4, h4, hu4⟩; have HRD4 := Lib.hid hrd4; have H4 := Lib.hid h4; have HU4 := Lib.hid hu4; have hpl4 := (HPL3'.out.upd HU2.out (by simp)).sp (HS3.out.below HU2.out) hu4 (fun k hk => List.mem_cons_of_mem _ (g2.mem k hk)); obtain ⟨gl4, e4, hs4⟩ := hpl4.cellQ (k := n3) (p := plOf r3) (by rw [List.getElem?_map, HR3.out]; rfl); injection e4 with e4; injection e4 with e4; rw [← e4] at hs4; unfold plOf at hs4; dsimp only at hs4; have HPL4' := Lib.hid hpl4; clear hrd4 h4 hu4 hpl4 e4))
                all_goals
                  clear q0 q1 q2
                  have HS5 := Lib.hid H4.out
                  have HU5 := Lib.hid (((HU3.out.trans HU2.out).late HU4.out (fun i hi => .inr (by simp at hi; subst hi; exact HJB2.out))))
                  have hbl5 := ((HBL3'.out.upd HU2.out (by simp)).upd HU4.out (fun q => by simp at q; exact HBJ.out q))
                  have hsn := (hbl5.cell (i := n3) h3).1
                  have HBL5 := Lib.hid hbl5
                  clear hbl5
                  cases hgn : goneB Ls n3 with
                  | true =>
                    rw [hgn] at hsn
                    have bq := hsn
                    clear hsn hgn
                    go_upto_region 36 with (fail)
                    refine wp_region_reg (t36G ub n3 ks.length) [] (by kernel_rfl) (by kernel_rfl) 198 rfl rfl ?_ ?_
                    · intro i o L tmps w' ho hI hL hd
                      have hi : i < 21 := (Array.getElem?_eq_some_iff.1 ho).1
                      have hwq := (Upd.refl [] w4).drew.trans hI.upd
                      have u0 := cell_updP bq hwq (by simp)
                      have t12 : tmps[12]?.getD undef = .slice (some ⟨ub, 0, none⟩) ks.length ks.length := (hI.old 12 (by rfl)).trans rfl
                      have t15 : tmps[15]?.getD undef = .int .i64 (n3 : Int) := (hI.old 15 (by rfl)).trans rfl
                      obtain rfl | rfl | rfl | rfl | rfl | rfl | rfl | rfl | rfl | rfl | rfl | rfl | rfl | rfl | rfl | rfl | rfl | rfl | rfl | rfl | rfl : i = 0 ∨ i = 1 ∨ i = 2 ∨ i = 3 ∨ i = 4 ∨ i = 5 ∨ i = 6 ∨ i = 7 ∨ i = 8 ∨ i = 9 ∨ i = 10 ∨ i = 11 ∨ i = 12 ∨ i = 13 ∨ i = 14 ∨ i = 15 ∨ i = 16 ∨ i = 17 ∨ i = 18 ∨ i = 19 ∨ i = 20 := by omega
                      · cases ho
                        refine wpOp_step rfl (fun K hK => ?_)
                        go_simp
                        exact hK _ _ (hI.val_step 0 177 (.slice (some ⟨ub, 0, none⟩) ks.length ks.length) (by decide) (Upd.refl _ _) (by simp [t36G]) (by kernel_rfl))
                      · cases ho
                        refine wpOp_step rfl (fun K hK => ?_)
                        go_simp
                        exact hK _ _ (hI.val_step 1 178 (.int .i64 (n3 : Int)) (by decide) (Upd.refl _ _) (by simp [t36G]) (by kernel_rfl))
                      · cases ho
                        have t177 : tmps[177]?.getD undef = .slice (some ⟨ub, 0, none⟩) ks.length ks.length := hI.val (0, 177, _) (by simp [t36G]) (hd ⟨0, .data⟩ (by simp) rfl)
                        have t178 : tmps[178]?.getD undef = .int .i64 (n3 : Int) := hI.val (1, 178, _) (by simp [t36G]) (hd ⟨1, .data⟩ (by simp) rfl)
                        refine wpOp_step rfl (fun K hK => ?_)
                        go_simp
                        exact hK _ _ (hI.val_step 2 179 (.pointer (some ⟨ub, n3, none⟩)) (by decide) (Upd.refl _ _) (by simp [t36G]) (by kernel_rfl))
                      · cases ho
                        have t179 : tmps[179]?.getD undef = .pointer (some ⟨ub, n3, none⟩) := hI.val (2, 179, _) (by simp [t36G]) (hd ⟨2, .data⟩ (by simp) rfl)
                        refine wpOp_step rfl (fun K hK => ?_)
                        go_simp
                        exact hK _ _ (hI.val_step 3 180 (.bool true) (by decide) (Upd.refl _ _) (by simp [t36G]) (by kernel_rfl))
                      · cases ho
                        have t180 : tmps[180]?.getD undef = .bool true := hI.val (3, 180, _) (by simp [t36G]) (hd ⟨3, .data⟩ (by simp) rfl)
                        refine wpOp_step rfl (fun K hK => ?_)
                        go_simp
                        exact hK _ _ (hI.val_step 4 181 (.bool false) (by decide) (Upd.refl _ _) (by simp [t36G]) (by kernel_rfl))
                      · cases ho
                        have t181 : tmps[181]?.getD undef = .bool false := hI.val (4, 181, _) (by simp [t36G]) (hd ⟨4, .data⟩ (by simp) rfl)
                        refine wpOp_step rfl (fun K hK => ?_)
                        go_simp
                        exact hK _ _ (hI.val_step 5 182 (.bool false) (by decide) (Upd.refl _ _) (by simp [t36G]) (by kernel_rfl))
                      · cases ho
                        have t182 : tmps[182]?.getD undef = .bool false := hI.val (5, 182, _) (by simp [t36G]) (hd ⟨5, .guard⟩ (by simp) rfl)
                        have tg := tm_some t182
                        clear t182
                        refine wpOp_step rfl (fun K hK => ?_)
                        go_simp
                        exact hK _ _ (hI.val_step 6 183 (.tuple #[]) (by decide) (Upd.refl _ _) (by simp [t36G]) (by kernel_rfl))
                      · cases ho
                        have t183 : tmps[183]?.getD undef = .tuple #[] := hI.val (6, 183, _) (by simp [t36G]) (hd ⟨6, .data⟩ (by simp) rfl)
                        have t182 : tmps[182]?.getD undef = .bool false := hI.val (5, 182, _) (by simp [t36G]) (hd ⟨5, .guard⟩ (by simp) rfl)
                        have tg := tm_some t182
                        clear t182
                        refine wpOp_step rfl (fun K hK => ?_)
                        go_simp
                        exact hK _ _ (hI.val_step 7 184 (.tuple #[]) (by decide) (Upd.refl _ _) (by simp [t36G]) (by kernel_rfl))
                      · cases ho
                        have t184 : tmps[184]?.getD undef = .tuple #[] := hI.val (7, 184, _) (by simp [t36G]) (hd ⟨7, .data⟩ (by simp) rfl)
                        have t182 : tmps[182]?.getD undef = .bool false := hI.val (5, 182, _) (by simp [t36G]) (hd ⟨5, .chain⟩ (by simp) rfl)
                        have tg := tm_some t182
                        clear t182
                        refine wpOp_step rfl (fun K hK => ?_)
                        go_simp
                        exact hK _ _ (hI.val_step 8 185 (.tuple #[]) (by decide) (Upd.refl _ _) (by simp [t36G]) (by kernel_rfl))
                      · cases ho
                        have t185 : tmps[185]?.getD undef = .tuple #[] := hI.val (8, 185, _) (by simp [t36G]) (hd ⟨8, .guard⟩ (by simp) rfl)
                        have tg := tm_val hI.size (by decide) t185
                        clear t185
                        refine wpOp_step rfl (fun K hK => ?_)
                        go_simp
                        exact hK _ _ (hI.val_step 9 186 (.tuple #[]) (by decide) (Upd.refl _ _) (by simp [t36G]) (by kernel_rfl))
                      · cases ho
                        have t186 : tmps[186]?.getD undef = .tuple #[] := hI.val (9, 186, _) (by simp [t36G]) (hd ⟨9, .data⟩ (by simp) rfl)
                        have t185 : tmps[185]?.getD undef = .tuple #[] := hI.val (8, 185, _) (by simp [t36G]) (hd ⟨8, .guard⟩ (by simp) rfl)
                        have tg := tm_val hI.size (by decide) t185
                        clear t185
                        refine wpOp_step rfl (fun K hK => ?_)
                        go_simp
                        exact hK _ _ (hI.val_step 10 187 (.tuple #[]) (by decide) (Upd.refl _ _) (by simp [t36G]) (by kernel_rfl))
                      · cases ho
                        have t185 : tmps[185]?.getD undef = .tuple #[] := hI.val (8, 185, _) (by simp [t36G]) (hd ⟨8, .guard⟩ (by simp) rfl)
                        have tg := tm_val hI.size (by decide) t185
                        clear t185
                        refine wpOp_step rfl (fun K hK => ?_)
                        go_simp
                        exact hK _ _ (hI.val_step 11 188 (.tuple #[]) (by decide) (Upd.refl _ _) (by simp [t36G]) (by kernel_rfl))
                      · cases ho
                        have t185 : tmps[185]?.getD undef = .tuple #[] := hI.val (8, 185, _) (by simp [t36G]) (hd ⟨8, .guard⟩ (by simp) rfl)
                        have tg := tm_val hI.size (by decide) t185
                        clear t185
                        refine wpOp_step rfl (fun K hK => ?_)
                        go_simp
                        exact hK _ _ (hI.val_step 12 189 (.tuple #[]) (by decide) (Upd.refl _ _) (by simp [t36G]) (by kernel_rfl))
                      · cases ho
                        have t185 : tmps[185]?.getD undef = .tuple #[] := hI.val (8, 185, _) (by simp [t36G]) (hd ⟨8, .guard⟩ (by simp) rfl)
                        have tg := tm_val hI.size (by decide) t185
                        clear t185
                        refine wpOp_step rfl (fun K hK => ?_)
                        go_simp
                        exact hK _ _ (hI.val_step 13 190 (.tuple #[]) (by decide) (Upd.refl _ _) (by simp [t36G]) (by kernel_rfl))
                      · cases ho
                        have t189 : tmps[189]?.getD undef = .tuple #[] := hI.val (12, 189, _) (by simp [t36G]) (hd ⟨12, .data⟩ (by simp) rfl)
                        have t190 : tmps[190]?.getD undef = .tuple #[] := hI.val (13, 190, _) (by simp [t36G]) (hd ⟨13, .data⟩ (by simp) rfl)
                        have t185 : tmps[185]?.getD undef = .tuple #[] := hI.val (8, 185, _) (by simp [t36G]) (hd ⟨8, .guard⟩ (by simp) rfl)
                        have tg := tm_val hI.size (by decide) t185
                        clear t185
                        refine wpOp_step rfl (fun K hK => ?_)
                        go_simp
                        exact hK _ _ (hI.val_step 14 191 (.tuple #[]) (by decide) (Upd.refl _ _) (by simp [t36G]) (by kernel_rfl))
                      · cases ho
                        have t191 : tmps[191]?.getD undef = .tuple #[] := hI.val (14, 191, _) (by simp [t36G]) (hd ⟨14, .data⟩ (by simp) rfl)
                        have t185 : tmps[185]?.getD undef = .tuple #[] := hI.val (8, 185, _) (by simp [t36G]) (hd ⟨8, .guard⟩ (by simp) rfl)
                        have tg := tm_val hI.size (by decide) t185
                        clear t185
                        refine wpOp_step rfl (fun K hK => ?_)
                        go_simp
                        exact hK _ _ (hI.val_step 15 192 (.tuple #[]) (by decide) (Upd.refl _ _) (by simp [t36G]) (by kernel_rfl))
                      · cases ho
                        have t188 : tmps[188]?.getD undef = .tuple #[] := hI.val (11, 188, _) (by simp [t36G]) (hd ⟨11, .data⟩ (by simp) rfl)
                        have t192 : tmps[192]?.getD undef = .tuple #[] := hI.val (15, 192, _) (by simp [t36G]) (hd ⟨15, .data⟩ (by simp) rfl)
                        have t185 : tmps[185]?.getD undef = .tuple #[] := hI.val (8, 185, _) (by simp [t36G]) (hd ⟨8, .chain⟩ (by simp) rfl)
                        have tg := tm_val hI.size (by decide) t185
                        clear t185
                        refine wpOp_step rfl (fun K hK => ?_)
                        go_simp
                        exact hK _ _ (hI.val_step 16 193 (.tuple #[]) (by decide) (Upd.refl _ _) (by simp [t36G]) (by kernel_rfl))
                      · cases ho
                        have t193 : tmps[193]?.getD undef = .tuple #[] := hI.val (16, 193, _) (by simp [t36G]) (hd ⟨16, .data⟩ (by simp) rfl)
                        have t185 : tmps[185]?.getD undef = .tuple #[] := hI.val (8, 185, _) (by simp [t36G]) (hd ⟨8, .guard⟩ (by simp) rfl)
                        have tg := tm_val hI.size (by decide) t185
                        clear t185
                        refine wpOp_step rfl (fun K hK => ?_)
                        go_simp
                        exact hK _ _ (hI.val_step 17 194 (.tuple #[]) (by decide) (Upd.refl _ _) (by simp [t36G]) (by kernel_rfl))
                      · cases ho
                        have t187 : tmps[187]?.getD undef = .tuple #[] := hI.val (10, 187, _) (by simp [t36G]) (hd ⟨10, .data⟩ (by simp) rfl)
                        have t194 : tmps[194]?.getD undef = .tuple #[] := hI.val (17, 194, _) (by simp [t36G]) (hd ⟨17, .data⟩ (by simp) rfl)
                        have t185 : tmps[185]?.getD undef = .tuple #[] := hI.val (8, 185, _) (by simp [t36G]) (hd ⟨8, .guard⟩ (by simp) rfl)
                        have tg := tm_val hI.size (by decide) t185
                        clear t185
                        refine wpOp_step rfl (fun K hK => ?_)
                        go_simp
                        exact hK _ _ (hI.val_step 18 195 (.tuple #[]) (by decide) (Upd.refl _ _) (by simp [t36G]) (by kernel_rfl))
                      · cases ho
                        have t185 : tmps[185]?.getD undef = .tuple #[] := hI.val (8, 185, _) (by simp [t36G]) (hd ⟨8, .data⟩ (by simp) rfl)
                        have t195 : tmps[195]?.getD undef = .tuple #[] := hI.val (18, 195, _) (by simp [t36G]) (hd ⟨18, .data⟩ (by simp) rfl)
                        have t182 : tmps[182]?.getD undef = .bool false := hI.val (5, 182, _) (by simp [t36G]) (hd ⟨5, .guard⟩ (by simp) rfl)
                        have tg := tm_some t182
                        clear t182
                        refine wpOp_step rfl (fun K hK => ?_)
                        go_simp
                        exact hK _ _ (hI.val_step 19 196 (.tuple #[]) (by decide) (Upd.refl _ _) (by simp [t36G]) (by kernel_rfl))
                      · cases ho
                        have t182 : tmps[182]?.getD undef = .bool false := hI.val (5, 182, _) (by simp [t36G]) (hd ⟨5, .data⟩ (by simp) rfl)
                        have t196 : tmps[196]?.getD undef = .tuple #[] := hI.val (19, 196, _) (by simp [t36G]) (hd ⟨19, .data⟩ (by simp) rfl)
                        refine wpOp_step rfl (fun K hK => ?_)
                        go_simp
                        exact hK _ _ (hI.val_step 20 197 (.bool false) (by decide) (Upd.refl _ _) (by simp [t36G]) (by kernel_rfl))
                    · intro L tmps w4 hI hall
                      have hat := hI.fin rfl (fun t ht => hall _ (by have h9 := List.all_eq_true.1 (show ((t36G ub n3 ks.length).all fun t => decide (t.1 < 21)) = true from rfl) t ht; simpa using h9))
                      have hu4 := hI.upd
                      clear hI hall
                      simp only [t36G, List.map_cons, List.map_nil, sets, List.setIfInBounds_toArray, List.set_cons_zero, List.set_cons_succ] at hat
                      rw [hat]
                      clear hat tmps
                      have HU6 := Lib.hid ((Upd.refl [] _).drew.trans hu4)
                      clear hu4
                      go_wp2_with fail
                      exact ⟨⟨n3 + 1, by go_num, by omega, Lib.hid (HS5.out.below HU6.out), Lib.hid (HU5.out.trans HU6.out), Lib.hid (HBL5.out.upd HU6.out (by simp)), Lib.hid (HPL4'.out.upd HU6.out (by simp))⟩, by simp [intOf]; omega⟩
                  | false =>
                    rw [hgn] at hsn
                    have bq := hsn
                    have her3 := HER3.out hgn
                    subst her3
                    have HRX := Lib.hid (HRD4.out rfl)
                    clear hsn hgn
                    obtain ⟨sb3, so3, hsb3, rfl, hcw3⟩ := HV.out.cellZ (i := n3) (x := .int .i64 a3) (by rw [List.getElem?_map, HKB.out]; rfl)
                    have mq := cell_updP hcw3 HU5.out (by simp)
                    clear hcw3 hsb3
                    have HBD3 : Hid (∀ W, Calls Tryz.prog 30 #[.int .i64 (n3 : Int), .int .i64 a3] W fun e w'' => ∃ v, e = .returned v ∧ Rd w'' v r3.b ∧ Upd [] W w'') := by
                      show ∀ W, _
                      intro W
                      rw [HBB3.out]
                      exact body_spec n3 (by omega) a3 W
                    go_upto_region 36 with (fail)
                    refine wp_region_u t36LD (t36LK ub n3 ks.length sb3 so3 ks.length cv a3 x3 r3.b) (by kernel_rfl) (by kernel_rfl) 198 rfl rfl ?_ ?_
                    · intro i o L tmps w' ho hI hL hd
                      have hi : i < 21 := (Array.getElem?_eq_some_iff.1 ho).1
                      have t12 : tmps[12]?.getD undef = .slice (some ⟨ub, 0, none⟩) ks.length ks.length := (hI.old 12 (by rfl)).trans rfl
                      have t15 : tmps[15]?.getD undef = .int .i64 (n3 : Int) := (hI.old 15 (by rfl)).trans rfl
                      have t16 : tmps[16]?.getD undef = x3 := (hI.old 16 (by rfl)).trans rfl
                      have t17 : tmps[17]?.getD undef = .int .i64 0 := (hI.old 17 (by rfl)).trans rfl
                      have t0 : tmps[0]?.getD undef = .slice (some ⟨sb3, so3, none⟩) ks.length cv := (hI.old 0 (by rfl)).trans rfl
                      have hgw := hI.gw
                      have u0 := cell_updP bq hgw (by simp)
                      have mc := cell_updP mq hgw (by simp)
                      obtain rfl | rfl | rfl | rfl | rfl | rfl | rfl | rfl | rfl | rfl | rfl | rfl | rfl | rfl | rfl | rfl | rfl | rfl | rfl | rfl | rfl : i = 0 ∨ i = 1 ∨ i = 2 ∨ i = 3 ∨ i = 4 ∨ i = 5 ∨ i = 6 ∨ i = 7 ∨ i = 8 ∨ i = 9 ∨ i = 10 ∨ i = 11 ∨ i = 12 ∨ i = 13 ∨ i = 14 ∨ i = 15 ∨ i = 16 ∨ i = 17 ∨ i = 18 ∨ i = 19 ∨ i = 20 := by omega
                      · cases ho
                        refine wpOp_step rfl (fun K hK => ?_)
                        go_simp
                        exact hK _ _ (hI.ustep (t36LL ub n3 ks.length sb3 so3 ks.length cv a3 x3 r3.b) 0 177 (.slice (some ⟨ub, 0, none⟩) ks.length ks.length) (by decide) (by kernel_rfl) (Upd.refl _ _) (rfl))
                      · cases ho
                        refine wpOp_step rfl (fun K hK => ?_)
                        go_simp
                        exact hK _ _ (hI.ustep (t36LL ub n3 ks.length sb3 so3 ks.length cv a3 x3 r3.b) 1 178 (.int .i64 (n3 : Int)) (by decide) (by kernel_rfl) (Upd.refl _ _) (rfl))
                      · cases ho
                        have t177 : tmps[177]?.getD undef = .slice (some ⟨ub, 0, none⟩) ks.length ks.length := hI.val (0, 177) (by simp [t36LD]) (hd ⟨0, .data⟩ (by simp) rfl)
                        have t178 : tmps[178]?.getD undef = .int .i64 (n3 : Int) := hI.val (1, 178) (by simp [t36LD]) (hd ⟨1, .data⟩ (by simp) rfl)
                        refine wpOp_step rfl (fun K hK => ?_)
                        go_simp
                        exact hK _ _ (hI.ustep (t36LL ub n3 ks.length sb3 so3 ks.length cv a3 x3 r3.b) 2 179 (.pointer (some ⟨ub, n3, none⟩)) (by decide) (by kernel_rfl) (Upd.refl _ _) (rfl))
                      · cases ho
                        have t179 : tmps[179]?.getD undef = .pointer (some ⟨ub, n3, none⟩) := hI.val (2, 179) (by simp [t36LD]) (hd ⟨2, .data⟩ (by simp) rfl)
                        refine wpOp_step rfl (fun K hK => ?_)
                        go_simp
                        exact hK _ _ (hI.ustep (t36LL ub n3 ks.length sb3 so3 ks.length cv a3 x3 r3.b) 3 180 (.bool false) (by decide) (by kernel_rfl) (Upd.refl _ _) (rfl))
                      · cases ho
                        have t180 : tmps[180]?.getD undef = .bool false := hI.val (3, 180) (by simp [t36LD]) (hd ⟨3, .data⟩ (by simp) rfl)
                        refine wpOp_step rfl (fun K hK => ?_)
                        go_simp
                        exact hK _ _ (hI.ustep (t36LL ub n3 ks.length sb3 so3 ks.length cv a3 x3 r3.b) 4 181 (.bool true) (by decide) (by kernel_rfl) (Upd.refl _ _) (rfl))
                      · cases ho
                        have t181 : tmps[181]?.getD undef = .bool true := hI.val (4, 181) (by simp [t36LD]) (hd ⟨4, .data⟩ (by simp) rfl)
                        refine wpOp_step rfl (fun K hK => ?_)
                        go_simp
                        exact hK _ _ (hI.ustep (t36LL ub n3 ks.length sb3 so3 ks.length cv a3 x3 r3.b) 5 182 (.bool true) (by decide) (by kernel_rfl) (Upd.refl _ _) (rfl))
                      · cases ho
                        have t182 : tmps[182]?.getD undef = .bool true := hI.val (5, 182) (by simp [t36LD]) (hd ⟨5, .guard⟩ (by simp) rfl)
                        have tg := tm_some t182
                        clear t182
                        refine wpOp_step rfl (fun K hK => ?_)
                        go_simp
                        exact hK _ _ (hI.ustep (t36LL ub n3 ks.length sb3 so3 ks.length cv a3 x3 r3.b) 6 183 (.int .i64 0) (by decide) (by kernel_rfl) (Upd.refl _ _) (rfl))
                      · cases ho
                        have t183 : tmps[183]?.getD undef = .int .i64 0 := hI.val (6, 183) (by simp [t36LD]) (hd ⟨6, .data⟩ (by simp) rfl)
                        have t182 : tmps[182]?.getD undef = .bool true := hI.val (5, 182) (by simp [t36LD]) (hd ⟨5, .guard⟩ (by simp) rfl)
                        have tg := tm_some t182
                        clear t182
                        refine wpOp_step rfl (fun K hK => ?_)
                        go_simp
                        exact hK _ _ (hI.ustep (t36LL ub n3 ks.length sb3 so3 ks.length cv a3 x3 r3.b) 7 184 (.bool false) (by decide) (by kernel_rfl) (Upd.refl _ _) (rfl))
                      · cases ho
                        have t184 : tmps[184]?.getD undef = .bool false := hI.val (7, 184) (by simp [t36LD]) (hd ⟨7, .data⟩ (by simp) rfl)
                        have t182 : tmps[182]?.getD undef = .bool true := hI.val (5, 182) (by simp [t36LD]) (hd ⟨5, .chain⟩ (by simp) rfl)
                        have tg := tm_some t182
                        clear t182
                        refine wpOp_step rfl (fun K hK => ?_)
                        go_simp
                        exact hK _ _ (hI.ustep (t36LL ub n3 ks.length sb3 so3 ks.length cv a3 x3 r3.b) 8 185 (.bool false) (by decide) (by kernel_rfl) (Upd.refl _ _) (rfl))
                      · cases ho
                        have t185 : tmps[185]?.getD undef = .bool false := hI.val (8, 185) (by simp [t36LD]) (hd ⟨8, .guard⟩ (by simp) rfl)
                        have tg := tm_some t185
                        clear t185
                        refine wpOp_step rfl (fun K hK => ?_)
                        go_simp
                        exact hK _ _ (hI.ustep (t36LL ub n3 ks.length sb3 so3 ks.length cv a3 x3 r3.b) 9 186 (x3) (by decide) (by kernel_rfl) (Upd.refl _ _) (rfl))
                      · cases ho
                        have t186 : tmps[186]?.getD undef = x3 := hI.val (9, 186) (by simp [t36LD]) (hd ⟨9, .data⟩ (by simp) rfl)
                        have t185 : tmps[185]?.getD undef = .bool false := hI.val (8, 185) (by simp [t36LD]) (hd ⟨8, .guard⟩ (by simp) rfl)
                        have tg := tm_some t185
                        clear t185
                        have cv10 := run_strA (HRX.out.below hgw)
                        refine wpOp_step rfl (fun K hK => ?_)
                        go_simp
                        exact hK _ _ (hI.ustep (t36LL ub n3 ks.length sb3 so3 ks.length cv a3 x3 r3.b) 10 187 (.string (str r3.b)) (by decide) (by kernel_rfl) (Upd.refl _ _) (rfl))
                      · cases ho
                        have t185 : tmps[185]?.getD undef = .bool false := hI.val (8, 185) (by simp [t36LD]) (hd ⟨8, .guard⟩ (by simp) rfl)
                        have tg := tm_some t185
                        clear t185
                        refine wpOp_step rfl (fun K hK => ?_)
                        go_simp
                        exact hK _ _ (hI.ustep (t36LL ub n3 ks.length sb3 so3 ks.length cv a3 x3 r3.b) 11 188 (.int .i64 (n3 : Int)) (by decide) (by kernel_rfl) (Upd.refl _ _) (rfl))
                      · cases ho
                        have t185 : tmps[185]?.getD undef = .bool false := hI.val (8, 185) (by simp [t36LD]) (hd ⟨8, .guard⟩ (by simp) rfl)
                        have tg := tm_some t185
                        clear t185
                        refine wpOp_step rfl (fun K hK => ?_)
                        go_simp
                        exact hK _ _ (hI.ustep (t36LL ub n3 ks.length sb3 so3 ks.length cv a3 x3 r3.b) 12 189 (.slice (some ⟨sb3, so3, none⟩) ks.length cv) (by decide) (by kernel_rfl) (Upd.refl _ _) (rfl))
                      · cases ho
                        have t185 : tmps[185]?.getD undef = .bool false := hI.val (8, 185) (by simp [t36LD]) (hd ⟨8, .guard⟩ (by simp) rfl)
                        have tg := tm_some t185
                        clear t185
                        refine wpOp_step rfl (fun K hK => ?_)
                        go_simp
                        exact hK _ _ (hI.ustep (t36LL ub n3 ks.length sb3 so3 ks.length cv a3 x3 r3.b) 13 190 (.int .i64 (n3 : Int)) (by decide) (by kernel_rfl) (Upd.refl _ _) (rfl))
                      · cases ho
                        have t189 : tmps[189]?.getD undef = .slice (some ⟨sb3, so3, none⟩) ks.length cv := hI.val (12, 189) (by simp [t36LD]) (hd ⟨12, .data⟩ (by simp) rfl)
                        have t190 : tmps[190]?.getD undef = .int .i64 (n3 : Int) := hI.val (13, 190) (by simp [t36LD]) (hd ⟨13, .data⟩ (by simp) rfl)
                        have t185 : tmps[185]?.getD undef = .bool false := hI.val (8, 185) (by simp [t36LD]) (hd ⟨8, .guard⟩ (by simp) rfl)
                        have tg := tm_some t185
                        clear t185
                        refine wpOp_step rfl (fun K hK => ?_)
                        go_simp
                        exact hK _ _ (hI.ustep (t36LL ub n3 ks.length sb3 so3 ks.length cv a3 x3 r3.b) 14 191 (.pointer (some ⟨sb3, so3 + n3, none⟩)) (by decide) (by kernel_rfl) (Upd.refl _ _) (rfl))
                      · cases ho
                        have t191 : tmps[191]?.getD undef = .pointer (some ⟨sb3, so3 + n3, none⟩) := hI.val (14, 191) (by simp [t36LD]) (hd ⟨14, .data⟩ (by simp) rfl)
                        have t185 : tmps[185]?.getD undef = .bool false := hI.val (8, 185) (by simp [t36LD]) (hd ⟨8, .guard⟩ (by simp) rfl)
                        have tg := tm_some t185
                        clear t185
                        refine wpOp_step rfl (fun K hK => ?_)
                        go_simp
                        exact hK _ _ (hI.ustep (t36LL ub n3 ks.length sb3 so3 ks.length cv a3 x3 r3.b) 15 192 (.int .i64 a3) (by decide) (by kernel_rfl) (Upd.refl _ _) (rfl))
                      · cases ho
                        have t188 : tmps[188]?.getD undef = .int .i64 (n3 : Int) := hI.val (11, 188) (by simp [t36LD]) (hd ⟨11, .data⟩ (by simp) rfl)
                        have t192 : tmps[192]?.getD undef = .int .i64 a3 := hI.val (15, 192) (by simp [t36LD]) (hd ⟨15, .data⟩ (by simp) rfl)
                        have t185 : tmps[185]?.getD undef = .bool false := hI.val (8, 185) (by simp [t36LD]) (hd ⟨8, .chain⟩ (by simp) rfl)
                        have tg := tm_some t185
                        clear t185
                        refine wpOp_step rfl (fun K hK => ?_)
                        go_simp
                        go_at_call 30
                        refine (HBD3.out w').mono ?_
                        rintro e w2 ⟨vb2, rfl, hr2, hu⟩
                        exact hK _ _ (hI.ustep (t36LL ub n3 ks.length sb3 so3 ks.length cv a3 x3 r3.b) 16 193 (vb2) (by decide) (by kernel_rfl) hu (hr2))
                      · cases ho
                        obtain ⟨v193, t193⟩ : ∃ v, tmps[193]?.getD undef = v := ⟨_, rfl⟩
                        have p193 : (fun w v => Rd w v r3.b) w' (tmps[193]?.getD undef) := hI.val (16, 193) (by simp [t36LD]) (hd ⟨16, .data⟩ (by simp) rfl)
                        rw [t193] at p193
                        try dsimp only at p193
                        have t185 : tmps[185]?.getD undef = .bool false := hI.val (8, 185) (by simp [t36LD]) (hd ⟨8, .guard⟩ (by simp) rfl)
                        have tg := tm_some t185
                        clear t185
                        have cv17 := run_strA p193
                        refine wpOp_step rfl (fun K hK => ?_)
                        go_simp
                        exact hK _ _ (hI.ustep (t36LL ub n3 ks.length sb3 so3 ks.length cv a3 x3 r3.b) 17 194 (.string (str r3.b)) (by decide) (by kernel_rfl) (Upd.refl _ _) (rfl))
                      · cases ho
                        have t187 : tmps[187]?.getD undef = .string (str r3.b) := hI.val (10, 187) (by simp [t36LD]) (hd ⟨10, .data⟩ (by simp) rfl)
                        have t194 : tmps[194]?.getD undef = .string (str r3.b) := hI.val (17, 194) (by simp [t36LD]) (hd ⟨17, .data⟩ (by simp) rfl)
                        have t185 : tmps[185]?.getD undef = .bool false := hI.val (8, 185) (by simp [t36LD]) (hd ⟨8, .guard⟩ (by simp) rfl)
                        have tg := tm_some t185
                        clear t185
                        refine wpOp_step rfl (fun K hK => ?_)
                        go_simp
                        exact hK _ _ (hI.ustep (t36LL ub n3 ks.length sb3 so3 ks.length cv a3 x3 r3.b) 18 195 (.bool false) (by decide) (by kernel_rfl) (Upd.refl _ _) (rfl))
                      · cases ho
                        have t185 : tmps[185]?.getD undef = .bool false := hI.val (8, 185) (by simp [t36LD]) (hd ⟨8, .data⟩ (by simp) rfl)
                        have t195 : tmps[195]?.getD undef = .bool false := hI.val (18, 195) (by simp [t36LD]) (hd ⟨18, .data⟩ (by simp) rfl)
                        have t182 : tmps[182]?.getD undef = .bool true := hI.val (5, 182) (by simp [t36LD]) (hd ⟨5, .guard⟩ (by simp) rfl)
                        have tg := tm_some t182
                        clear t182
                        refine wpOp_step rfl (fun K hK => ?_)
                        go_simp
                        exact hK _ _ (hI.ustep (t36LL ub n3 ks.length sb3 so3 ks.length cv a3 x3 r3.b) 19 196 (.bool false) (by decide) (by kernel_rfl) (Upd.refl _ _) (rfl))
                      · cases ho
                        have t182 : tmps[182]?.getD undef = .bool true := hI.val (5, 182) (by simp [t36LD]) (hd ⟨5, .data⟩ (by simp) rfl)
                        have t196 : tmps[196]?.getD undef = .bool false := hI.val (19, 196) (by simp [t36LD]) (hd ⟨19, .data⟩ (by simp) rfl)
                        refine wpOp_step rfl (fun K hK => ?_)
                        go_simp
                        exact hK _ _ (hI.ustep (t36LL ub n3 ks.length sb3 so3 ks.length cv a3 x3 r3.b) 20 197 (.bool false) (by decide) (by kernel_rfl) (Upd.refl _ _) (rfl))
                    · intro L tmps w4 hI hall
                      have p193 : (fun w v => Rd w v r3.b) w4 (tmps[193]?.getD undef) := hI.val (16, 193) (by simp [t36LD]) (hall 16 (by decide))
                      obtain ⟨v193, e193⟩ : ∃ v, tmps[193]?.getD undef = v := ⟨_, rfl⟩
                      rw [e193] at p193
                      try dsimp only at p193
                      have hat := hI.tmps_eq rfl [(177, .slice (some ⟨ub, 0, none⟩) ks.length ks.length), (178, .int .i64 (n3 : Int)), (179, .pointer (some ⟨ub, n3, none⟩)), (180, .bool false), (181, .bool true), (182, .bool true), (183, .int .i64 0), (184, .bool false), (185, .bool false), (186, x3), (187, .string (str r3.b)), (188, .int .i64 (n3 : Int)), (189, .slice (some ⟨sb3, so3, none⟩) ks.length cv), (190, .int .i64 (n3 : Int)), (191, .pointer (some ⟨sb3, so3 + n3, none⟩)), (192, .int .i64 a3), (193, v193), (194, .string (str r3.b)), (195, .bool false), (196, .bool false), (197, .bool false)] (fun j hj => by simp [t36LD] at hj ⊢; simp [hj]) (by
                        intro p hp
                        simp only [List.mem_cons, List.not_mem_nil, or_false] at hp
                        rcases hp with rfl | rfl | rfl | rfl | rfl | rfl | rfl | rfl | rfl | rfl | rfl | rfl | rfl | rfl | rfl | rfl | rfl | rfl | rfl | rfl | rfl
                        · exact hI.val (0, 177) (by simp [t36LD]) (hall 0 (by decide))
                        · exact hI.val (1, 178) (by simp [t36LD]) (hall 1 (by decide))
                        · exact hI.val (2, 179) (by simp [t36LD]) (hall 2 (by decide))
                        · exact hI.val (3, 180) (by simp [t36LD]) (hall 3 (by decide))
                        · exact hI.val (4, 181) (by simp [t36LD]) (hall 4 (by decide))
                        · exact hI.val (5, 182) (by simp [t36LD]) (hall 5 (by decide))
                        · exact hI.val (6, 183) (by simp [t36LD]) (hall 6 (by decide))
                        · exact hI.val (7, 184) (by simp [t36LD]) (hall 7 (by decide))
                        · exact hI.val (8, 185) (by simp [t36LD]) (hall 8 (by decide))
                        · exact hI.val (9, 186) (by simp [t36LD]) (hall 9 (by decide))
                        · exact hI.val (10, 187) (by simp [t36LD]) (hall 10 (by decide))
                        · exact hI.val (11, 188) (by simp [t36LD]) (hall 11 (by decide))
                        · exact hI.val (12, 189) (by simp [t36LD]) (hall 12 (by decide))
                        · exact hI.val (13, 190) (by simp [t36LD]) (hall 13 (by decide))
                        · exact hI.val (14, 191) (by simp [t36LD]) (hall 14 (by decide))
                        · exact hI.val (15, 192) (by simp [t36LD]) (hall 15 (by decide))
                        · exact e193
                        · exact hI.val (17, 194) (by simp [t36LD]) (hall 17 (by decide))
                        · exact hI.val (18, 195) (by simp [t36LD]) (hall 18 (by decide))
                        · exact hI.val (19, 196) (by simp [t36LD]) (hall 19 (by decide))
                        · exact hI.val (20, 197) (by simp [t36LD]) (hall 20 (by decide)))
                      have hu4 := hI.gw
                      clear hI hall e193
                      try dsimp only at hat
                      simp only [sets, List.setIfInBounds_toArray, List.set_cons_zero, List.set_cons_succ] at hat
                      rw [hat]
                      clear hat tmps
                      have HU6 := Lib.hid hu4
                      clear hu4
                      go_wp2_with fail
                      exact ⟨⟨n3 + 1, by go_num, by omega, Lib.hid (HS5.out.below HU6.out), Lib.hid (HU5.out.trans HU6.out), Lib.hid (HBL5.out.upd HU6.out (by simp)), Lib.hid (HPL4'.out.upd HU6.out (by simp))⟩, by simp [intOf]; omega⟩
              · have c5 : decide ((n3 : Int) < (ks.length : Int)) = false := decide_eq_false (by omega)
                go_wp2_with fail
                go_ret
                exact ⟨rfl, HU3.out⟩
end Go.Proofs.YtceakcejchbbjaaGreat
