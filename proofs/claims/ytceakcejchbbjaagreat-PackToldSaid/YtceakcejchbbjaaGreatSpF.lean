/-
  cofferlaw8.Begun, begun; SpaceGuards, SpaceBack.
-/
import Derived.Test.YtceakcejchbbjaaGreatSpE
namespace Go.Proofs.YtceakcejchbbjaaGreat
open Go.RowKit Go.MapKept Go.ChangeMaps

theorem b15_fix : b15 = fixB zsec := by
  unfold b15 fixB
  congr 1
theorem bitB_b15 (i : Nat) : bitB (fixB b15) i = decide (i < 4) := by
  rw [bitB_fix (by rw [b15_length]; omega), b15_fix, bitB_fix (by rw [zsec_length]; omega), bitB_zsec]
  simp
/-- What stands behind Begun. -/
structure BgAt (w0 w : World) (g : Sg) (n ring : Nat) : Prop where
  sp : SpAt w g (fun _ => none)
  n : g.n = n
  ring : g.ring = ring
  T : ∀ i, g.T (fun _ => none) i = decide (i < 4)
  zero : g.H 0 = zsec
  turn : g.turn = g.t - 1
  t : g.t ≤ 2
  m : g.m ≤ 3
  late : ∀ k, k ∈ g.x.tb :: g.S → w0.heap.size ≤ k
  zer : ∀ i, i ≠ 1 → g.H i = zsec

theorem late_all {a b c : World} {S : List Nat} (h : Upd [] a b) (k : Upd S b c) (hS : ∀ i, i ∈ S → a.heap.size ≤ i) : Upd [] a c := h.late k fun i hi => .inr (hS i hi)

set_option maxRecDepth 100000 in
set_option maxHeartbeats 2000000 in
theorem begunS (n ring : Nat) (ni : Int) (hni : ni = (n : Int)) (h0 : 32 ≤ n) (h1 : n ≤ 4096) (r0 : 8 ≤ ring) (r1 : ring ≤ 1024) (r2 : ring + 10 ≤ n) (w : World) :
    Calls Tryz.prog 14 #[.int .i64 ni, .int .i64 (ring : Int)] w fun e w' => ∃ g : Sg, e = .returned (.tuple #[.pointer (some ⟨g.j.jb, 0, none⟩), .pointer (some ⟨g.x.tb, 0, none⟩)]) ∧ BgAt w w' g n ring ∧ Upd [] w w' := by
  subst hni
  have HN := Lib.hid (made_hi n ring h0 h1 r0 r1 r2 w)
  go_enter Tryz.func14, Tryz.ntmps14
  go_wp2_with fail
  refine HN.out.mono ?_
  rintro e w1 ⟨j, rfl, hj, ⟨J1, D1, hr1, _⟩, hu1⟩
  have HJ := Lib.hid hj
  have HB := Lib.hid (begin_hi hr1)
  have HR1 := Lib.hid hr1
  have HU1 := Lib.hid hu1
  clear hj hr1 hu1
  go_wp2_with fail
  refine HB.out.mono ?_
  rintro e w2 ⟨x, rfl, hx1, hx2, hx, hr2, hu2⟩
  have hsp : SpAt w2 ⟨x, j, J1, D1, n, ring, 1 - 1, 1, 2, fun _ => zsec⟩ (fun _ => none) := ⟨hr2, hx, HR1.out.at_.late hx2, MOk.none _, fun _ => zsec_length⟩
  have HXL : Hid (w.heap.size ≤ x.tb ∧ w.heap.size ≤ x.wb) := ⟨Nat.le_trans HU1.out.size hx1, Nat.le_trans HU1.out.size hx2⟩
  have HU2 := Lib.hid (HU1.out.lateJ hu2 HJ.out)
  have HFM := Lib.hid (format_spec hsp (by show 4 ≤ n - 2 - ring; omega))
  clear hx1 hx2 hx hr2 hu2 hsp
  go_wp2_with fail
  refine HFM.out.mono ?_
  rintro e w3 ⟨rfl, h3, hu3⟩
  have hJall : ∀ k, k ∈ j.all → w.heap.size ≤ k := fun k hk => by
    obtain ⟨k1, k2, k3, k4, k5⟩ := HJ.out
    simp [JG.all] at hk
    rcases hk with rfl | rfl | rfl | rfl | rfl
    · exact k1
    · exact k2
    · exact k3
    · exact k4
    · exact k5
  have HJA := Lib.hid hJall
  have HU3 := Lib.hid (late_all HU2.out hu3 (fun k hk => by
    simp [Sg.S] at hk
    rcases hk with rfl | hk
    · exact HXL.out.2
    · exact hJall k hk))
  have HCM := Lib.hid (commit_hi h3.jr h3.tx h3.ne h3.ok (by show n ≤ 5000; omega) (by have := fmtM_cnt (q := 4) (h := n - 2 - ring) (by omega); show cntM (fmtM 4) (n - 2 - ring) ≤ 40; omega) (by have := fmtM_cnt (q := 4) (h := n - 2 - ring) (by omega); show cntM (fmtM 4) (n - 2 - ring) < ring; omega) (by show (1 : Int) < 1000000; omega) (by show (2 : Int) < 1000000; omega))
  clear h3 hu3 hJall
  go_wp2_with fail
  refine HCM.out.mono ?_
  rintro e w4 ⟨rfl, _, ⟨J4, D4, t4, hr4, ht4⟩, hu4⟩
  replace hr4 : JrAt w4 j J4 D4 n ring t4 (2 + 1) (fun i => (fmtM 4 i).getD zsec) := hr4
  have HT4 : Hid (t4 ≤ 2) := by
    show t4 ≤ 2
    rw [ht4]; split
    · show (1 : Int) ≤ 2; omega
    · show (1 : Int) + 1 ≤ 2; omega
  have HU4 := Lib.hid (late_all HU3.out hu4 (fun k hk => by
    simp only [List.mem_cons] at hk
    rcases hk with rfl | hk
    · exact HXL.out.1
    · exact HJA.out k hk))
  have HB4 := Lib.hid (begin_hi hr4)
  have HR4 := Lib.hid hr4
  clear hr4 hu4 ht4
  go_wp2_with fail
  refine HB4.out.mono ?_
  rintro e w5 ⟨y, rfl, hy1, hy2, hy, hr5, hu5⟩
  have hHl : ∀ i, ((fmtM 4 i).getD zsec).length = 512 := fun i => by
    cases hq : fmtM 4 i with
    | none => exact zsec_length
    | some s => exact (fmtM_ok (q := 4) (h := 4) (Nat.le_refl _) i s hq).2
  have hbg : BgAt w w5 ⟨y, j, J4, D4, n, ring, t4 - 1, t4, 2 + 1, fun i => (fmtM 4 i).getD zsec⟩ n ring := by
    refine ⟨⟨hr5, hy, HR4.out.at_.late hy2, MOk.none _, hHl⟩, rfl, rfl, fun i => ?_, rfl, rfl, HT4.out, by show (2 : Int) + 1 ≤ 3; omega, fun k hk => ?_, fun i hi => ?_⟩
    · exact bitB_b15 i
    · simp only [List.mem_cons, Sg.S] at hk
      rcases hk with rfl | rfl | hk
      · exact Nat.le_trans HU4.out.size hy1
      · exact Nat.le_trans HU4.out.size hy2
      · exact HJA.out k hk
    · show (fmtM 4 i).getD zsec = zsec
      unfold fmtM
      by_cases h4 : i < 4
      · rw [if_pos h4, if_neg hi]; rfl
      · rw [if_neg h4]; rfl
  have HBG := Lib.hid hbg
  have HU5 := Lib.hid (late_all HU4.out hu5 HJA.out)
  clear hy1 hy2 hy hr5 hu5 hHl hbg
  go_wp2_with fail
  go_ret2
  exact ⟨_, rfl, HBG.out, HU5.out⟩

theorem firstFit_get {T : Nat → Bool} {h k s : Nat} {r : Option Nat} (hr : FirstFit T h k r) (h1 : s + k ≤ h) (h2 : ∀ q, q < k → T (s + q) = false) (h3 : ∀ s', s' < s → ∃ q, q < k ∧ T (s' + q) = true) : r = some s :=
  hr.uniq (b := some s) ⟨h1, h2, fun s' hs hf => by obtain ⟨q, hq, ht⟩ := h3 s' hs; rw [hf q hq] at ht; simp at ht⟩
theorem TakePost.at {w : World} {g : Sg} {M : Nat → Option Sec} {k s : Nat} {e : Ending} {w' : World} (h : TakePost w g M k e w') (h1 : s + k ≤ g.h) (h2 : ∀ q, q < k → g.T M (s + q) = false) (h3 : ∀ s', s' < s → ∃ q, q < k ∧ g.T M (s' + q) = true) :
    e = .returned (.tuple #[.int .i64 (s : Int), .int .i64 0]) ∧ SpAt w' g (put1 M (setR (fixB (g.cur M 1)) s true k)) ∧ Upd g.S w w' := by
  obtain ⟨hu, ⟨s', hf, he, hs⟩ | ⟨hf, _, _⟩⟩ := h
  · have := firstFit_get hf h1 h2 h3
    obtain rfl : s' = s := by simpa using this
    exact ⟨he, hs, hu⟩
  · have := firstFit_get hf h1 h2 h3
    simp at this
theorem put1_some (M : Nat → Option Sec) (s : Sec) : (put1 M s 1).isSome = true := by unfold put1; rw [if_pos rfl]; rfl

end Go.Proofs.YtceakcejchbbjaaGreat

