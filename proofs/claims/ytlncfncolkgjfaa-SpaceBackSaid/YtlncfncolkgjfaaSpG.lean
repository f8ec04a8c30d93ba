/-
  SpaceNone, SpaceBack answer true: the walks.
-/
import Derived.Test.YtlncfncolkgjfaaSpF
namespace Go.Proofs.Ytlncfncolkgjfaa
open Go.RowKit Go.MapKept Go.ChangeMaps

/-! ## a transaction that is over -/

set_option maxHeartbeats 400000 in
theorem takeO {w : World} {v : Value} (h : OverV w v) (k : Int) : Calls Try.prog 11 #[v, .int .i64 k] w fun e w' => e = .returned (.tuple #[.int .i64 0, .int .i64 5]) ∧ ∃ n, w' = w.drewN n := by
  have H := Lib.hid (homesT_over h)
  clear h
  go_enter Try.func11, Try.ntmps11
  go_wp2_with fail
  refine H.out.mono ?_
  rintro e w' ⟨rfl, n, rfl⟩
  go_wp2_with fail
  go_ret2
  exact ⟨rfl, _, rfl⟩
set_option maxHeartbeats 400000 in
theorem leftO {w : World} {v : Value} (h : OverV w v) : Calls Try.prog 14 #[v] w fun e w' => e = .returned (.tuple #[.int .i64 0, .int .i64 5]) ∧ ∃ n, w' = w.drewN n := by
  have H := Lib.hid (homesT_over h)
  clear h
  go_enter Try.func14, Try.ntmps14
  go_wp2_with fail
  refine H.out.mono ?_
  rintro e w' ⟨rfl, n, rfl⟩
  go_wp2_with fail
  go_ret2
  exact ⟨rfl, _, rfl⟩
set_option maxHeartbeats 400000 in
theorem rootO {w : World} {v : Value} (h : OverV w v) (k : Int) : Calls Try.prog 20 #[v, .int .i64 k] w fun e w' => e = .returned (.tuple #[.int .u32 0, .int .i64 5]) ∧ ∃ n, w' = w.drewN n := by
  have H := Lib.hid (homesT_over h)
  clear h
  go_enter Try.func20, Try.ntmps20
  go_wp2_with fail
  refine H.out.mono ?_
  rintro e w' ⟨rfl, n, rfl⟩
  go_wp2_with fail
  go_ret2
  exact ⟨rfl, _, rfl⟩
set_option maxHeartbeats 400000 in
theorem takenO {w : World} {v : Value} (h : OverV w v) (k : Int) : Calls Try.prog 12 #[v, .int .i64 k] w fun e w' => e = .returned (.tuple #[.bool false, .int .i64 5]) ∧ ∃ n, w' = w.drewN n := by
  have H := Lib.hid (homesT_over h)
  clear h
  go_enter Try.func12, Try.ntmps12
  go_wp2_with fail
  refine H.out.mono ?_
  rintro e w' ⟨rfl, n, rfl⟩
  go_wp2_with fail
  go_ret2
  exact ⟨rfl, _, rfl⟩
set_option maxHeartbeats 400000 in
theorem setrootO {w : World} {v : Value} (h : OverV w v) (k x : Int) : Calls Try.prog 19 #[v, .int .i64 k, .int .u32 x] w fun e w' => e = .returned (.int .i64 5) ∧ ∃ n, w' = w.drewN n := by
  have H := Lib.hid (homesT_over h)
  clear h
  go_enter Try.func19, Try.ntmps19
  go_wp2_with fail
  refine H.out.mono ?_
  rintro e w' ⟨rfl, n, rfl⟩
  go_wp2_with fail
  go_ret
  exact ⟨rfl, _, rfl⟩
set_option maxHeartbeats 400000 in
theorem freeO {w : World} {v : Value} (h : OverV w v) (k x : Int) : Calls Try.prog 13 #[v, .int .i64 k, .int .i64 x] w fun e w' => e = .returned (.int .i64 5) ∧ ∃ n, w' = w.drewN n := by
  have H := Lib.hid (homesT_over h)
  clear h
  go_enter Try.func13, Try.ntmps13
  go_wp2_with fail
  refine H.out.mono ?_
  rintro e w' ⟨rfl, n, rfl⟩
  go_wp2_with fail
  go_ret
  exact ⟨rfl, _, rfl⟩
set_option maxHeartbeats 1000000 in
theorem formatO {w : World} {v : Value} (h : OverV w v) : Calls Try.prog 25 #[v] w fun e w' => e = .returned (.int .i64 5) ∧ Upd [] w w' := by
  have hmk := run_make_512
  have hu1 : Upd [] w (w.alloc (.cells (bts zsec).toArray 5)) := (Upd.refl _ _).alloc _
  obtain ⟨w1, hw1⟩ : ∃ w1, w1 = w.alloc (.cells (bts zsec).toArray 5) := ⟨_, rfl⟩
  have hmk1 : (Instr.makeSlice 66 (.int .i64 512) (.int .i64 512)).run Try.prog w = .ok (.slice (some ⟨w.heap.size, 0, none⟩) 512 512) w1 := by rw [hw1]; exact run_make_512 w
  rw [← hw1] at hu1
  have H := Lib.hid h
  have HO := Lib.hid (writeT_over (h.below hu1) 0 (some ⟨w.heap.size, 0, none⟩) 512 512)
  have HU1 := Lib.hid hu1
  clear h hw1 hmk hu1
  go_enter Try.func25, Try.ntmps25
  go_wp2_with fail
  go_loopw [6] (fun i wr => i = .int .i64 0 ∧ wr = w) (fun _ _ => 0)
  case atStart => exact ⟨rfl, rfl⟩
  case round =>
    obtain ⟨rfl, rfl⟩ := hrel
    go_wp2_with fail
    refine HO.out.mono ?_
    rintro e w' ⟨rfl, n, rfl⟩
    go_wp2_with fail
    go_ret
    exact ⟨rfl, HU1.out.drewN _⟩

set_option maxRecDepth 100000 in
set_option maxHeartbeats 2000000 in
theorem none8_spec (w : World) : Calls Try.prog 7 #[] w fun e w' => e = .returned (.bool true) ∧ Upd [] w w' := by
  have HB : Hid (Calls Try.prog 10 #[.int .i64 64, .int .i64 16] w fun e w' => ∃ g : Sg, e = .returned (.tuple #[.pointer (some ⟨g.j.jb, 0, none⟩), .pointer (some ⟨g.x.tb, 0, none⟩)]) ∧ BgAt w w' g 64 16 ∧ Upd [] w w') := Lib.hid (begunS 64 16 64 rfl (by omega) (by omega) (by omega) (by omega) (by omega) w)
  have HT0 : Hid (∀ w : World, OverV w (.pointer none)) := by show ∀ w : World, _; exact fun w => .inl rfl
  go_enter Try.func7, Try.ntmps7
  go_wp2_with fail
  refine HB.out.mono ?_
  rintro e w1 ⟨g, rfl, hg, hu1⟩
  have HG := Lib.hid hg
  have HU1 := Lib.hid hu1
  clear hg hu1
  go_wp2_with fail
  refine (begun8_spec w1).mono ?_
  rintro e w2 ⟨rfl, hu2⟩
  have HSP := Lib.hid (HG.out.sp.below hu2)
  have HU2 := Lib.hid (HU1.out.trans hu2)
  clear hu2
  go_wp2_with fail
  refine (abort_spec HSP.out.tx).mono ?_
  rintro e w3 ⟨rfl, hb3, _, hu3⟩
  have HZ3 : Hid (OverV w3 (.pointer (some ⟨g.x.tb, 0, none⟩))) := .inr ⟨_, _, rfl, hb3⟩
  have HU3 := Lib.hid (late_all HU2.out hu3 (fun k hk => HG.out.late k (by simp at hk; simp [hk])))
  clear hb3 hu3
  go_wp2_with fail
  refine (takeO HZ3.out 1).mono ?_
  rintro e w4 ⟨rfl, n4, hn4⟩
  have hu4 : Upd [] w3 w4 := by rw [hn4]; exact (Upd.refl _ _).drewN _
  have HZ4 := Lib.hid (HZ3.out.below hu4)
  have HU4 := Lib.hid (HU3.out.trans hu4)
  clear hn4 hu4
  go_wp2_with fail
  refine (leftO HZ4.out).mono ?_
  rintro e w5 ⟨rfl, n5, hn5⟩
  have hu5 : Upd [] w4 w5 := by rw [hn5]; exact (Upd.refl _ _).drewN _
  have HZ5 := Lib.hid (HZ4.out.below hu5)
  have HU5 := Lib.hid (HU4.out.trans hu5)
  clear hn5 hu5
  go_wp2_with fail
  refine (rootO HZ5.out 0).mono ?_
  rintro e w6 ⟨rfl, n6, hn6⟩
  have hu6 : Upd [] w5 w6 := by rw [hn6]; exact (Upd.refl _ _).drewN _
  have HZ6 := Lib.hid (HZ5.out.below hu6)
  have HU6 := Lib.hid (HU5.out.trans hu6)
  clear hn6 hu6
  go_wp2_with fail
  refine (takenO (HT0.out w6) 4).mono ?_
  rintro e w7 ⟨rfl, n7, hn7⟩
  have hu7 : Upd [] w6 w7 := by rw [hn7]; exact (Upd.refl _ _).drewN _
  have HZ7 := Lib.hid (HZ6.out.below hu7)
  have HU7 := Lib.hid (HU6.out.trans hu7)
  clear hn7 hu7
  go_wp2_with fail
  refine (formatO HZ7.out).mono ?_
  rintro e w8 ⟨rfl, hu8⟩
  have HZ8 := Lib.hid (HZ7.out.below hu8)
  have HU8 := Lib.hid (HU7.out.trans hu8)
  clear hu8
  go_wp2_with fail
  refine (setrootO HZ8.out 0 1).mono ?_
  rintro e w9 ⟨rfl, n9, hn9⟩
  have hu9 : Upd [] w8 w9 := by rw [hn9]; exact (Upd.refl _ _).drewN _
  have HZ9 := Lib.hid (HZ8.out.below hu9)
  have HU9 := Lib.hid (HU8.out.trans hu9)
  clear hn9 hu9
  go_wp2_with fail
  refine (freeO HZ9.out 4 1).mono ?_
  rintro e w10 ⟨rfl, n10, hn10⟩
  have hu10 : Upd [] w9 w10 := by rw [hn10]; exact (Upd.refl _ _).drewN _
  have HZ10 := Lib.hid (HZ9.out.below hu10)
  have HU10 := Lib.hid (HU9.out.trans hu10)
  clear hn10 hu10
  go_wp2_with fail
  go_ret
  exact ⟨rfl, HU10.out⟩

/-! ## SpaceBack -/

theorem leftN_free {T T' : Nat → Bool} {s n : Nat} (h1 : ∀ i, T' i = if s ≤ i ∧ i < s + n then false else T i) (h2 : ∀ q, q < n → T (s + q) = true) : ∀ h, leftN T' h = leftN T h + (min h (s + n) - min h s)
  | 0 => by simp [leftN]
  | h + 1 => by
    have ih := leftN_free h1 h2 h
    unfold leftN
    rw [h1 h]
    by_cases e : s ≤ h ∧ h < s + n
    · rw [if_pos e]
      have := h2 (h - s) (by omega)
      rw [show s + (h - s) = h from by omega] at this
      rw [this, ih]
      simp only [Bool.false_eq_true, if_false, if_true]
      omega
    · rw [if_neg e, ih]
      cases T h
      · simp only [Bool.false_eq_true, if_false]; omega
      · simp only [if_true]; omega

set_option maxRecDepth 100000 in
set_option maxHeartbeats 4000000 in
theorem back8_spec (a0 a1 a2 : Int) (w : World) : Calls Try.prog 5 #[.int .i64 a0, .int .i64 a1, .int .i64 a2] w fun e w' => e = .returned (.bool true) ∧ Upd [] w w' := by
  have hA := placeN_lt (k := a0) (n := 64) (by omega)
  have HA := fun w => Lib.hid (place_spec a0 64 w (by omega) (by omega))
  generalize placeN a0 64 = pA at *
  have hB := placeN_lt (k := a1) (n := 64) (by omega)
  have HBb := fun w => Lib.hid (place_spec a1 64 w (by omega) (by omega))
  generalize placeN a1 64 = pB at *
  have hC := placeN_lt (k := a2) (n := 64) (by omega)
  have HCc := fun w => Lib.hid (place_spec a2 64 w (by omega) (by omega))
  generalize placeN a2 64 = pC at *
  have HB : Hid (Calls Try.prog 10 #[.int .i64 300, .int .i64 16] w fun e w' => ∃ g : Sg, e = .returned (.tuple #[.pointer (some ⟨g.j.jb, 0, none⟩), .pointer (some ⟨g.x.tb, 0, none⟩)]) ∧ BgAt w w' g 300 16 ∧ Upd [] w w') := Lib.hid (begunS 300 16 300 rfl (by omega) (by omega) (by omega) (by omega) (by omega) w)
  go_enter Try.func5, Try.ntmps5
  go_wp2_with fail
  refine HB.out.mono ?_
  rintro e w1 ⟨g, rfl, hg, hu1⟩
  have hgh : g.h = 282 := by unfold Sg.h; rw [hg.n, hg.ring]
  have HLT : Hid (∀ k, k ∈ g.S → w.heap.size ≤ k) := by show ∀ k, _; exact fun k hk => hg.late k (by simp [hk])
  have HG := Lib.hid hg
  have HU1 := Lib.hid hu1
  have HGH := Lib.hid hgh
  clear hg hu1 hgh
  go_wp2_with fail
  refine (begun8_spec w1).mono ?_
  rintro e w2 ⟨rfl, hu2⟩
  have HSP := Lib.hid (HG.out.sp.below hu2)
  have HU2 := Lib.hid (HU1.out.trans hu2)
  clear hu2
  go_wp2_with fail
  refine (HA _).out.mono ?_
  rintro e w' ⟨rfl, rfl⟩
  go_wp2_with fail
  refine (HBb _).out.mono ?_
  rintro e w' ⟨rfl, rfl⟩
  go_wp2_with fail
  refine (HCc _).out.mono ?_
  rintro e w' ⟨rfl, rfl⟩
  have hgh := HGH.out
  have T1 := HG.out.T
  have l1 := HSP.out.cur_len 1
  have hc3 := (take_spec HSP.out (by omega) (by omega) (.inr (by rw [cntM_none]; omega)) (1 + pA) (by omega) (by omega)).mono fun e w' h => h.at (s := 4) (by omega) (fun q hq => by rw [T1]; exact decide_eq_false (by omega)) (fun s' hs => ⟨0, by omega, by rw [T1]; exact decide_eq_true (by omega)⟩)
  have T2 : ∀ i, g.T (put1 (fun _ => none) (setR (fixB (g.cur (fun _ => none) 1)) 4 true (1 + pA))) i = decide (i < 5 + pA) := fun i => by
    rw [Sg.T_turn l1 true (by omega) (by omega), T1]
    by_cases h : 4 ≤ i ∧ i < 4 + (1 + pA)
    · rw [if_pos h]; exact (decide_eq_true (by omega)).symm
    · rw [if_neg h, decide_eq_decide]; omega
  have s2 := put1_some (fun _ => none) (setR (fixB (g.cur (fun _ => none) 1)) 4 true (1 + pA))
  have ek : ((1 + pA : Nat) : Int) = 1 + (pA : Int) := by omega
  rw [ek] at hc3
  generalize put1 (fun _ => none) (setR (fixB (g.cur (fun _ => none) 1)) 4 true (1 + pA)) = M2 at hc3 T2 s2
  have HC3 : Hid (Calls Try.prog 11 #[.pointer (some ⟨g.x.tb, 0, none⟩), .int .i64 (1 + (pA : Int))] w2 fun e w' => e = .returned (.tuple #[.int .i64 4, .int .i64 0]) ∧ SpAt w' g M2 ∧ Upd g.S w2 w') := Lib.hid hc3
  have HT2 := Lib.hid T2
  have HS2 := Lib.hid s2
  clear hgh T1 l1 hc3 T2 s2 ek
  go_wp2_with fail
  refine HC3.out.mono ?_
  rintro e w3 ⟨rfl, h3, hu3⟩
  have hgh := HGH.out
  have T2 := HT2.out
  have l2 := h3.cur_len 1
  have hc4 := (take_spec h3 (by omega) (by omega) (.inl HS2.out) (1 + pB) (by omega) (by omega)).mono fun e w' h => h.at (s := 5 + pA) (by omega) (fun q hq => by rw [T2]; exact decide_eq_false (by omega)) (fun s' hs => ⟨0, by omega, by rw [T2]; exact decide_eq_true (by omega)⟩)
  have T3 : ∀ i, g.T (put1 M2 (setR (fixB (g.cur M2 1)) (5 + pA) true (1 + pB))) i = decide (i < 6 + pA + pB) := fun i => by
    rw [Sg.T_turn l2 true (by omega) (by omega), T2]
    by_cases h : 5 + pA ≤ i ∧ i < 5 + pA + (1 + pB)
    · rw [if_pos h]; exact (decide_eq_true (by omega)).symm
    · rw [if_neg h, decide_eq_decide]; omega
  have s3 := put1_some M2 (setR (fixB (g.cur M2 1)) (5 + pA) true (1 + pB))
  have ek : ((1 + pB : Nat) : Int) = 1 + (pB : Int) := by omega
  obtain ⟨Y, hY⟩ : ∃ Y : Int, Y = ((5 + pA : Nat) : Int) := ⟨_, rfl⟩
  rw [ek, ← hY] at hc4
  generalize put1 M2 (setR (fixB (g.cur M2 1)) (5 + pA) true (1 + pB)) = M3 at hc4 T3 s3
  have HC4 := Lib.hid hc4
  have HT3 := Lib.hid T3
  have HS3 := Lib.hid s3
  have HY := Lib.hid hY
  have HU3 := Lib.hid (late_all HU2.out hu3 HLT.out)
  have hyx : (Y == 4 + (1 + (pA : Int))) = true := by rw [beq_iff_eq]; omega
  clear hgh T2 l2 hc4 T3 s3 ek hY h3 hu3
  go_wp2_with fail
  refine HC4.out.mono ?_
  rintro e w4 ⟨rfl, h4, hu4⟩
  have hlf := left_spec h4 (by have := HGH.out; omega) (by have := HGH.out; omega)
  rw [HGH.out] at hlf
  have HLN : Hid (leftN (g.T M3) 282 ≤ 282) := leftN_le _ _
  obtain ⟨Nn, hNn⟩ : ∃ Nn : Int, Nn = (leftN (g.T M3) 282 : Int) := ⟨_, rfl⟩
  rw [← hNn] at hlf
  have hN0 : 0 ≤ Nn := by omega
  have hN1 : Nn ≤ 282 := by have := HLN.out; omega
  have HNN := Lib.hid hNn
  have HLF := Lib.hid hlf
  have HU4 := Lib.hid (late_all HU3.out hu4 HLT.out)
  clear hlf h4 hu4 hNn
  go_wp2_with fail
  refine HLF.out.mono ?_
  rintro e w5 ⟨rfl, h5, hu5⟩
  have hgh := HGH.out
  have T3 := HT3.out
  have l3 := h5.cur_len 1
  have htk : ∀ q, q < 1 + pA → g.T M3 (4 + q) = true := fun q hq => by rw [T3]; exact decide_eq_true (by omega)
  have hc6 := free_ok h5 (by omega) (by omega) (.inl HS3.out) 4 (1 + pA) (by omega) (by omega) (by omega) (by omega) htk
  have T4' := fun i => Sg.T_turn (g := g) (M := M3) l3 (s := 4) (n := 1 + pA) false (by omega) (by omega) i
  have s4 := put1_some M3 (setR (fixB (g.cur M3 1)) 4 false (1 + pA))
  have ek : ((1 + pA : Nat) : Int) = 1 + (pA : Int) := by omega
  rw [ek] at hc6
  generalize put1 M3 (setR (fixB (g.cur M3 1)) 4 false (1 + pA)) = M4 at hc6 T4' s4
  have hln := leftN_free T4' htk 282
  have T4 : ∀ i, g.T M4 i = decide (i < 4 ∨ 5 + pA ≤ i ∧ i < 6 + pA + pB) := fun i => by
    rw [T4', T3]
    by_cases h : 4 ≤ i ∧ i < 4 + (1 + pA)
    · rw [if_pos h]; exact (decide_eq_false (by omega)).symm
    · rw [if_neg h, decide_eq_decide]; omega
  have HC6 : Hid (Calls Try.prog 13 #[.pointer (some ⟨g.x.tb, 0, none⟩), .int .i64 4, .int .i64 (1 + (pA : Int))] w5 fun e w' => e = .returned (.int .i64 0) ∧ SpAt w' g M4 ∧ Upd g.S w5 w') := Lib.hid hc6
  have HLNF : Hid (leftN (g.T M4) 282 = leftN (g.T M3) 282 + (1 + pA)) := by show _ = _; rw [hln]; omega
  have HT4 := Lib.hid T4
  have HS4 := Lib.hid s4
  have HU5 := Lib.hid (late_all HU4.out hu5 HLT.out)
  clear hgh T3 l3 htk hc6 T4' s4 ek hln T4 h5 hu5
  go_wp2_with fail
  refine HC6.out.mono ?_
  rintro e w6 ⟨rfl, h6, hu6⟩
  have hlf := left_spec h6 (by have := HGH.out; omega) (by have := HGH.out; omega)
  rw [HGH.out] at hlf
  obtain ⟨Mm, hMm⟩ : ∃ Mm : Int, Mm = (leftN (g.T M4) 282 : Int) := ⟨_, rfl⟩
  rw [← hMm] at hlf
  have hmn : (Mm == Nn + (1 + (pA : Int))) = true := by rw [beq_iff_eq]; have := HLNF.out; have := HNN.out; omega
  have HLF6 := Lib.hid hlf
  have HU6 := Lib.hid (late_all HU5.out hu6 HLT.out)
  clear hlf h6 hu6 hMm
  go_wp2_with fail
  refine HLF6.out.mono ?_
  rintro e w7 ⟨rfl, h7, hu7⟩
  have HU7 := Lib.hid (late_all HU6.out hu7 HLT.out)
  have hgh := HGH.out
  have T4 := HT4.out
  have ek : ((1 + pC : Nat) : Int) = 1 + (pC : Int) := by omega
  by_cases hca : pC ≤ pA
  · have d1 : decide (1 + (pC : Int) ≤ 1 + (pA : Int)) = true := decide_eq_true (by omega)
    have d2 : decide (pC ≤ pA) = true := decide_eq_true hca
    have d3 : decide ((pC : Int) ≤ (pA : Int)) = true := decide_eq_true (by omega)
    have hc8 := (take_spec h7 (by omega) (by omega) (.inl HS4.out) (1 + pC) (by omega) (by omega)).mono fun e w' h => h.at (s := 4) (by omega) (fun q hq => by rw [T4]; exact decide_eq_false (by omega)) (fun s' hs => ⟨0, by omega, by rw [T4]; exact decide_eq_true (by omega)⟩)
    rw [ek] at hc8
    generalize put1 M4 (setR (fixB (g.cur M4 1)) 4 true (1 + pC)) = M5 at hc8
    have HC8 : Hid (Calls Try.prog 11 #[.pointer (some ⟨g.x.tb, 0, none⟩), .int .i64 (1 + (pC : Int))] w7 fun e w' => e = .returned (.tuple #[.int .i64 4, .int .i64 0]) ∧ SpAt w' g M5 ∧ Upd g.S w7 w') := Lib.hid hc8
    clear hgh T4 ek hca hc8 h7 hu7
    go_wp2_with fail
    refine HC8.out.mono ?_
    rintro e w8 ⟨rfl, _, hu8⟩
    have HU8 := Lib.hid (late_all HU7.out hu8 HLT.out)
    clear hu8
    go_wp2_with fail
    go_ret
    exact ⟨rfl, HU8.out⟩
  · have d1 : decide (1 + (pC : Int) ≤ 1 + (pA : Int)) = false := decide_eq_false (by omega)
    have d2 : decide (pC ≤ pA) = false := decide_eq_false hca
    have d3 : decide ((pC : Int) ≤ (pA : Int)) = false := decide_eq_false (by omega)
    have d4 : decide (1 + (pA : Int) < 1 + (pC : Int)) = true := decide_eq_true (by omega)
    have d5 : decide (pA < pC) = true := decide_eq_true (by omega)
    have d6 : decide ((pA : Int) < (pC : Int)) = true := decide_eq_true (by omega)
    have hc8 := (take_spec h7 (by omega) (by omega) (.inl HS4.out) (1 + pC) (by omega) (by omega)).mono fun e w' h => h.at (s := 6 + pA + pB) (by omega) (fun q hq => by rw [T4]; exact decide_eq_false (by omega)) (fun s' hs => by
      by_cases q : s' < 4
      · exact ⟨0, by omega, by rw [T4]; exact decide_eq_true (by omega)⟩
      · by_cases r : s' < 5 + pA
        · exact ⟨5 + pA - s', by omega, by rw [T4]; exact decide_eq_true (by omega)⟩
        · exact ⟨0, by omega, by rw [T4]; exact decide_eq_true (by omega)⟩)
    obtain ⟨Z, hZ⟩ : ∃ Z : Int, Z = ((6 + pA + pB : Nat) : Int) := ⟨_, rfl⟩
    rw [ek, ← hZ] at hc8
    have hzy : (Z == Y + (1 + (pB : Int))) = true := by rw [beq_iff_eq]; have := HY.out; omega
    generalize put1 M4 (setR (fixB (g.cur M4 1)) (6 + pA + pB) true (1 + pC)) = M5 at hc8
    have HC8 := Lib.hid hc8
    have hy0 : 0 ≤ Y := by have := HY.out; omega
    have hy1 : Y ≤ 100 := by have := HY.out; omega
    clear hgh T4 ek hca hc8 h7 hu7 hZ
    go_wp2_with fail
    refine HC8.out.mono ?_
    rintro e w8 ⟨rfl, _, hu8⟩
    have HU8 := Lib.hid (late_all HU7.out hu8 HLT.out)
    clear hu8
    go_wp2_with fail
    go_ret
    exact ⟨rfl, HU8.out⟩

end Go.Proofs.Ytlncfncolkgjfaa
