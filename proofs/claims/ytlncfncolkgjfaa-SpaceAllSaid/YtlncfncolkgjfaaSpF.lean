/-
  cofferlaw8.Begun, begun; SpaceGuards, SpaceBack.
-/
import Derived.Test.YtlncfncolkgjfaaSpE
namespace Go.Proofs.Ytlncfncolkgjfaa
open Go.RowKit Go.MapKept Go.ChangeMaps

theorem b15_fix : b15 = fixB zsec := by
  unfold b15 fixB
  congr 1
theorem bitB_b15 (i : Nat) : bitB (fixB b15) i = decide (i < 4) := by
  rw [bitB_fix (by rw [b15_length]; omega), b15_fix, bitB_fix (by rw [zsec_length]; omega), bitB_zsec]
  simp
/-- What stands behind Begun. -/
structure BgAt (w0 w : World) (g : Sg) (n ring : Nat) : Prop where
  sp : SpAt w g (fun _ => none)
  n : g.n = n
  ring : g.ring = ring
  T : ∀ i, g.T (fun _ => none) i = decide (i < 4)
  zero : g.H 0 = zsec
  turn : g.turn = g.t - 1
  t : g.t ≤ 2
  m : g.m ≤ 3
  late : ∀ k, k ∈ g.x.tb :: g.S → w0.heap.size ≤ k

theorem late_all {a b c : World} {S : List Nat} (h : Upd [] a b) (k : Upd S b c) (hS : ∀ i, i ∈ S → a.heap.size ≤ i) : Upd [] a c := h.late k fun i hi => .inr (hS i hi)

set_option maxRecDepth 100000 in
set_option maxHeartbeats 2000000 in
theorem begunS (n ring : Nat) (ni : Int) (hni : ni = (n : Int)) (h0 : 32 ≤ n) (h1 : n ≤ 4096) (r0 : 8 ≤ ring) (r1 : ring ≤ 1024) (r2 : ring + 10 ≤ n) (w : World) :
    Calls Try.prog 10 #[.int .i64 ni, .int .i64 (ring : Int)] w fun e w' => ∃ g : Sg, e = .returned (.tuple #[.pointer (some ⟨g.j.jb, 0, none⟩), .pointer (some ⟨g.x.tb, 0, none⟩)]) ∧ BgAt w w' g n ring ∧ Upd [] w w' := by
  subst hni
  have HN := Lib.hid (made_hi n ring h0 h1 r0 r1 r2 w)
  go_enter Try.func10, Try.ntmps10
  go_wp2_with fail
  refine HN.out.mono ?_
  rintro e w1 ⟨j, rfl, hj, ⟨J1, D1, hr1, _⟩, hu1⟩
  have HJ := Lib.hid hj
  have HB := Lib.hid (begin_hi hr1)
  have HR1 := Lib.hid hr1
  have HU1 := Lib.hid hu1
  clear hj hr1 hu1
  go_wp2_with fail
  refine HB.out.mono ?_
  rintro e w2 ⟨x, rfl, hx1, hx2, hx, hr2, hu2⟩
  have hsp : SpAt w2 ⟨x, j, J1, D1, n, ring, 1 - 1, 1, 2, fun _ => zsec⟩ (fun _ => none) := ⟨hr2, hx, HR1.out.at_.late hx2, MOk.none _, fun _ => zsec_length⟩
  have HXL : Hid (w.heap.size ≤ x.tb ∧ w.heap.size ≤ x.wb) := ⟨Nat.le_trans HU1.out.size hx1, Nat.le_trans HU1.out.size hx2⟩
  have HU2 := Lib.hid (HU1.out.lateJ hu2 HJ.out)
  have HFM := Lib.hid (format_spec hsp (by show 4 ≤ n - 2 - ring; omega))
  clear hx1 hx2 hx hr2 hu2 hsp
  go_wp2_with fail
  refine HFM.out.mono ?_
  rintro e w3 ⟨rfl, h3, hu3⟩
  have hJall : ∀ k, k ∈ j.all → w.heap.size ≤ k := fun k hk => by
    obtain ⟨k1, k2, k3, k4, k5⟩ := HJ.out
    simp [JG.all] at hk
    rcases hk with rfl | rfl | rfl | rfl | rfl
    · exact k1
    · exact k2
    · exact k3
    · exact k4
    · exact k5
  have HJA := Lib.hid hJall
  have HU3 := Lib.hid (late_all HU2.out hu3 (fun k hk => by
    simp [Sg.S] at hk
    rcases hk with rfl | hk
    · exact HXL.out.2
    · exact hJall k hk))
  have HCM := Lib.hid (commit_hi h3.jr h3.tx h3.ne h3.ok (by show n ≤ 5000; omega) (by have := fmtM_cnt (q := 4) (h := n - 2 - ring) (by omega); show cntM (fmtM 4) (n - 2 - ring) ≤ 40; omega) (by have := fmtM_cnt (q := 4) (h := n - 2 - ring) (by omega); show cntM (fmtM 4) (n - 2 - ring) < ring; omega) (by show (1 : Int) < 1000000; omega) (by show (2 : Int) < 1000000; omega))
  clear h3 hu3 hJall
  go_wp2_with fail
  refine HCM.out.mono ?_
  rintro e w4 ⟨rfl, _, ⟨J4, D4, t4, hr4, ht4⟩, hu4⟩
  replace hr4 : JrAt w4 j J4 D4 n ring t4 (2 + 1) (fun i => (fmtM 4 i).getD zsec) := hr4
  have HT4 : Hid (t4 ≤ 2) := by
    show t4 ≤ 2
    rw [ht4]; split
    · show (1 : Int) ≤ 2; omega
    · show (1 : Int) + 1 ≤ 2; omega
  have HU4 := Lib.hid (late_all HU3.out hu4 (fun k hk => by
    simp only [List.mem_cons] at hk
    rcases hk with rfl | hk
    · exact HXL.out.1
    · exact HJA.out k hk))
  have HB4 := Lib.hid (begin_hi hr4)
  have HR4 := Lib.hid hr4
  clear hr4 hu4 ht4
  go_wp2_with fail
  refine HB4.out.mono ?_
  rintro e w5 ⟨y, rfl, hy1, hy2, hy, hr5, hu5⟩
  have hHl : ∀ i, ((fmtM 4 i).getD zsec).length = 512 := fun i => by
    cases hq : fmtM 4 i with
    | none => exact zsec_length
    | some s => exact (fmtM_ok (q := 4) (h := 4) (Nat.le_refl _) i s hq).2
  have hbg : BgAt w w5 ⟨y, j, J4, D4, n, ring, t4 - 1, t4, 2 + 1, fun i => (fmtM 4 i).getD zsec⟩ n ring := by
    refine ⟨⟨hr5, hy, HR4.out.at_.late hy2, MOk.none _, hHl⟩, rfl, rfl, fun i => ?_, rfl, rfl, HT4.out, by show (2 : Int) + 1 ≤ 3; omega, fun k hk => ?_⟩
    · exact bitB_b15 i
    · simp only [List.mem_cons, Sg.S] at hk
      rcases hk with rfl | rfl | hk
      · exact Nat.le_trans HU4.out.size hy1
      · exact Nat.le_trans HU4.out.size hy2
      · exact HJA.out k hk
  have HBG := Lib.hid hbg
  have HU5 := Lib.hid (late_all HU4.out hu5 HJA.out)
  clear hy1 hy2 hy hr5 hu5 hHl hbg
  go_wp2_with fail
  go_ret2
  exact ⟨_, rfl, HBG.out, HU5.out⟩

theorem firstFit_get {T : Nat → Bool} {h k s : Nat} {r : Option Nat} (hr : FirstFit T h k r) (h1 : s + k ≤ h) (h2 : ∀ q, q < k → T (s + q) = false) (h3 : ∀ s', s' < s → ∃ q, q < k ∧ T (s' + q) = true) : r = some s :=
  hr.uniq (b := some s) ⟨h1, h2, fun s' hs hf => by obtain ⟨q, hq, ht⟩ := h3 s' hs; rw [hf q hq] at ht; simp at ht⟩
theorem TakePost.at {w : World} {g : Sg} {M : Nat → Option Sec} {k s : Nat} {e : Ending} {w' : World} (h : TakePost w g M k e w') (h1 : s + k ≤ g.h) (h2 : ∀ q, q < k → g.T M (s + q) = false) (h3 : ∀ s', s' < s → ∃ q, q < k ∧ g.T M (s' + q) = true) :
    e = .returned (.tuple #[.int .i64 (s : Int), .int .i64 0]) ∧ SpAt w' g (put1 M (setR (fixB (g.cur M 1)) s true k)) ∧ Upd g.S w w' := by
  obtain ⟨hu, ⟨s', hf, he, hs⟩ | ⟨hf, _, _⟩⟩ := h
  · have := firstFit_get hf h1 h2 h3
    obtain rfl : s' = s := by simpa using this
    exact ⟨he, hs, hu⟩
  · have := firstFit_get hf h1 h2 h3
    simp at this
theorem put1_some (M : Nat → Option Sec) (s : Sec) : (put1 M s 1).isSome = true := by unfold put1; rw [if_pos rfl]; rfl

set_option maxRecDepth 100000 in
set_option maxHeartbeats 2000000 in
theorem begun8_spec (w : World) : Calls Try.prog 8 #[] w fun e w' => e = .returned (.bool true) ∧ Upd [] w w' := by
  have HB : Hid (Calls Try.prog 10 #[.int .i64 64, .int .i64 16] w fun e w' => ∃ g : Sg, e = .returned (.tuple #[.pointer (some ⟨g.j.jb, 0, none⟩), .pointer (some ⟨g.x.tb, 0, none⟩)]) ∧ BgAt w w' g 64 16 ∧ Upd [] w w') := Lib.hid (begunS 64 16 64 rfl (by omega) (by omega) (by omega) (by omega) (by omega) w)
  go_enter Try.func8, Try.ntmps8
  go_wp2_with fail
  refine HB.out.mono ?_
  rintro e w1 ⟨g, rfl, hg, hu1⟩
  have hgh : g.h = 46 := by unfold Sg.h; rw [hg.n, hg.ring]
  have HLT : Hid (∀ k, k ∈ g.S → w.heap.size ≤ k) := by show ∀ k, _; exact fun k hk => hg.late k (by simp [hk])
  have l1 := hg.sp.cur_len 1
  have T1 := hg.T
  have c1 := take_spec hg.sp (by omega) (by omega) (.inr (by rw [cntM_none]; omega)) 2 (by omega) (by omega)
  have hc1 := c1.mono fun e w' h => h.at (s := 4) (by omega) (fun q hq => by rw [T1]; exact decide_eq_false (by omega)) (fun s' hs => ⟨0, by omega, by rw [T1]; exact decide_eq_true (by omega)⟩)
  have T2 : ∀ i, g.T (put1 (fun _ => none) (setR (fixB (g.cur (fun _ => none) 1)) 4 true 2)) i = decide (i < 6) := fun i => by
    rw [Sg.T_turn l1 true (by omega) (by omega), T1]
    by_cases h : 4 ≤ i ∧ i < 4 + 2
    · rw [if_pos h]; exact (decide_eq_true (by omega)).symm
    · rw [if_neg h, decide_eq_decide]; omega
  have s2 := put1_some (fun _ => none) (setR (fixB (g.cur (fun _ => none) 1)) 4 true 2)
  generalize put1 (fun _ => none) (setR (fixB (g.cur (fun _ => none) 1)) 4 true 2) = M2 at hc1 T2 s2
  have HC1 : Hid (Calls Try.prog 11 #[.pointer (some ⟨g.x.tb, 0, none⟩), .int .i64 2] w1 fun e w' => e = .returned (.tuple #[.int .i64 4, .int .i64 0]) ∧ SpAt w' g M2 ∧ Upd g.S w1 w') := Lib.hid hc1
  have HU1 := Lib.hid hu1
  have HT2 := Lib.hid T2
  have HS2 := Lib.hid s2
  have HGH := Lib.hid hgh
  clear hg hu1 l1 T1 c1 hc1 T2 s2
  go_wp2_with fail
  refine HC1.out.mono ?_
  rintro e w2 ⟨rfl, h2, hu2⟩
  have l2 := h2.cur_len 1
  have T2 := HT2.out
  have c2 := take_spec h2 (by omega) (by omega) (.inl HS2.out) 1 (by omega) (by omega)
  have hc2 := c2.mono fun e w' h => h.at (s := 6) (by omega) (fun q hq => by rw [T2]; exact decide_eq_false (by omega)) (fun s' hs => ⟨0, by omega, by rw [T2]; exact decide_eq_true (by omega)⟩)
  have T3 : ∀ i, g.T (put1 M2 (setR (fixB (g.cur M2 1)) 6 true 1)) i = decide (i < 7) := fun i => by
    rw [Sg.T_turn l2 true (by omega) (by omega), T2]
    by_cases h : 6 ≤ i ∧ i < 6 + 1
    · rw [if_pos h]; exact (decide_eq_true (by omega)).symm
    · rw [if_neg h, decide_eq_decide]; omega
  have s3 := put1_some M2 (setR (fixB (g.cur M2 1)) 6 true 1)
  generalize put1 M2 (setR (fixB (g.cur M2 1)) 6 true 1) = M3 at hc2 T3 s3
  have HC2 : Hid (Calls Try.prog 11 #[.pointer (some ⟨g.x.tb, 0, none⟩), .int .i64 1] w2 fun e w' => e = .returned (.tuple #[.int .i64 6, .int .i64 0]) ∧ SpAt w' g M3 ∧ Upd g.S w2 w') := Lib.hid hc2
  have HU2 := Lib.hid (late_all HU1.out hu2 HLT.out)
  have HT3 := Lib.hid T3
  have HS3 := Lib.hid s3
  clear h2 hu2 l2 T2 c2 hc2 T3 s3
  go_wp2_with fail
  refine HC2.out.mono ?_
  rintro e w3 ⟨rfl, h3, hu3⟩
  have l3 := h3.cur_len 1
  have T3 := HT3.out
  have hc3 := free_ok h3 (by omega) (by omega) (.inl HS3.out) 4 2 (by omega) (by omega) (by omega) (by omega) (fun q hq => by rw [T3]; exact decide_eq_true (by omega))
  have T4 : ∀ i, g.T (put1 M3 (setR (fixB (g.cur M3 1)) 4 false 2)) i = decide (i < 4 ∨ i = 6) := fun i => by
    rw [Sg.T_turn l3 false (by omega) (by omega), T3]
    by_cases h : 4 ≤ i ∧ i < 4 + 2
    · rw [if_pos h]; exact (decide_eq_false (by omega)).symm
    · rw [if_neg h, decide_eq_decide]; omega
  have s4 := put1_some M3 (setR (fixB (g.cur M3 1)) 4 false 2)
  generalize put1 M3 (setR (fixB (g.cur M3 1)) 4 false 2) = M4 at hc3 T4 s4
  have HC3 : Hid (Calls Try.prog 13 #[.pointer (some ⟨g.x.tb, 0, none⟩), .int .i64 4, .int .i64 2] w3 fun e w' => e = .returned (.int .i64 0) ∧ SpAt w' g M4 ∧ Upd g.S w3 w') := Lib.hid hc3
  have HU3 := Lib.hid (late_all HU2.out hu3 HLT.out)
  have HT4 := Lib.hid T4
  have HS4 := Lib.hid s4
  clear h3 hu3 l3 T3 hc3 T4 s4
  go_wp2_with fail
  refine HC3.out.mono ?_
  rintro e w4 ⟨rfl, h4, hu4⟩
  have T4 := HT4.out
  have c4 := take_spec h4 (by omega) (by omega) (.inl HS4.out) 3 (by omega) (by omega)
  have hc4 := c4.mono fun e w' h => h.at (s := 7) (by omega) (fun q hq => by rw [T4]; exact decide_eq_false (by omega)) (fun s' hs => by
    rcases Nat.lt_or_ge s' 4 with q | q
    · exact ⟨0, by omega, by rw [T4]; exact decide_eq_true (by omega)⟩
    · exact ⟨6 - s', by omega, by rw [T4]; exact decide_eq_true (by omega)⟩)
  generalize put1 M4 (setR (fixB (g.cur M4 1)) 7 true 3) = M5 at hc4
  have HC4 : Hid (Calls Try.prog 11 #[.pointer (some ⟨g.x.tb, 0, none⟩), .int .i64 3] w4 fun e w' => e = .returned (.tuple #[.int .i64 7, .int .i64 0]) ∧ SpAt w' g M5 ∧ Upd g.S w4 w') := Lib.hid hc4
  have HU4 := Lib.hid (late_all HU3.out hu4 HLT.out)
  clear h4 hu4 T4 c4 hc4
  go_wp2_with fail
  refine HC4.out.mono ?_
  rintro e w5 ⟨rfl, h5, hu5⟩
  have HU5 := Lib.hid (late_all HU4.out hu5 HLT.out)
  clear h5 hu5
  go_wp2_with fail
  go_ret
  exact ⟨rfl, HU5.out⟩

set_option maxRecDepth 100000 in
set_option maxHeartbeats 2000000 in
theorem guards8_spec (a0 a1 a2 : Int) (w : World) : Calls Try.prog 4 #[.int .i64 a0, .int .i64 a1, .int .i64 a2] w fun e w' => e = .returned (.bool true) ∧ Upd [] w w' := by
  have hN := placeN_lt (k := a0) (n := 337) (by omega)
  have HN := fun w => Lib.hid (place_spec a0 337 w (by omega) (by omega))
  generalize placeN a0 337 = pN at *
  have hS := placeN_lt (k := a1) (n := 4) (by omega)
  have HS := fun w => Lib.hid (place_spec a1 4 w (by omega) (by omega))
  generalize placeN a1 4 = pS at *
  have hK := placeN_lt (k := a2) (n := 8) (by omega)
  have HK := fun w => Lib.hid (place_spec a2 8 w (by omega) (by omega))
  generalize placeN a2 8 = pK at *
  have HB := fun w => Lib.hid (begunS (64 + pN) 16 (64 + (pN : Int)) (by omega) (by omega) (by omega) (by omega) (by omega) (by omega) w)
  go_enter Try.func4, Try.ntmps4
  go_wp2_with fail
  refine (HN _).out.mono ?_
  rintro e w' ⟨rfl, rfl⟩
  go_wp2_with fail
  refine (HB _).out.mono ?_
  rintro e w1 ⟨g, rfl, hg, hu1⟩
  have hgh : g.h = 46 + pN := by unfold Sg.h; rw [hg.n, hg.ring]; omega
  have HLT : Hid (∀ k, k ∈ g.S → w.heap.size ≤ k) := by show ∀ k, _; exact fun k hk => hg.late k (by simp [hk])
  have HG := Lib.hid hg
  have HU1 := Lib.hid hu1
  have HGH := Lib.hid hgh
  clear hg hu1 hgh
  go_wp2_with fail
  refine (begun8_spec w1).mono ?_
  rintro e w2 ⟨rfl, hu2⟩
  have HSP := Lib.hid (HG.out.sp.below hu2)
  have HU2 := Lib.hid (HU1.out.trans hu2)
  clear hu2
  go_wp2_with fail
  refine (HS _).out.mono ?_
  rintro e w' ⟨rfl, rfl⟩
  go_wp2_with fail
  refine (HK _).out.mono ?_
  rintro e w' ⟨rfl, rfl⟩
  have hit := isTaken_ok HSP.out (by have := HGH.out; omega) (by have := HGH.out; omega) pS (by have := HGH.out; omega)
  rw [HG.out.T pS, decide_eq_true (show pS < 4 by omega)] at hit
  have HIT := Lib.hid hit
  clear hit
  go_wp2_with fail
  refine HIT.out.mono ?_
  rintro e w3 ⟨rfl, h3, hu3⟩
  have T1 := HG.out.T
  have c3 := take_spec h3 (by have := HGH.out; omega) (by have := HGH.out; omega) (.inr (by rw [cntM_none]; omega)) (1 + pK) (by omega) (by omega)
  have hc3 := c3.mono fun e w' h => h.at (s := 4) (by have := HGH.out; omega) (fun q hq => by rw [T1]; exact decide_eq_false (by omega)) (fun s' hs => ⟨0, by omega, by rw [T1]; exact decide_eq_true (by omega)⟩)
  have ek : ((1 + pK : Nat) : Int) = 1 + (pK : Int) := by omega
  rw [ek] at hc3
  generalize put1 (fun _ => none) (setR (fixB (g.cur (fun _ => none) 1)) 4 true (1 + pK)) = M3 at hc3
  have HC3 : Hid (Calls Try.prog 11 #[.pointer (some ⟨g.x.tb, 0, none⟩), .int .i64 (1 + (pK : Int))] w3 fun e w' => e = .returned (.tuple #[.int .i64 4, .int .i64 0]) ∧ SpAt w' g M3 ∧ Upd g.S w3 w') := Lib.hid hc3
  have HU3 := Lib.hid (late_all HU2.out hu3 HLT.out)
  clear h3 hu3 T1 c3 hc3 ek
  go_wp2_with fail
  refine HC3.out.mono ?_
  rintro e w4 ⟨rfl, h4, hu4⟩
  have HFR := Lib.hid (free_low h4 (by have := HGH.out; omega) (pS : Int) (1 + (pK : Int)) (by omega) (by omega) (by omega))
  have HU4 := Lib.hid (late_all HU3.out hu4 HLT.out)
  clear h4 hu4
  go_wp2_with fail
  refine HFR.out.mono ?_
  rintro e w5 ⟨rfl, h5, hu5⟩
  have HU5 := Lib.hid (late_all HU4.out hu5 HLT.out)
  clear h5 hu5
  go_wp2_with fail
  go_ret
  exact ⟨rfl, HU5.out⟩

end Go.Proofs.Ytlncfncolkgjfaa
