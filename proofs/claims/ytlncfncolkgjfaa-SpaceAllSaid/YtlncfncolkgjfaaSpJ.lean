/-
  space.Free's other answers; Take, Taken and Free whole.
-/
import Derived.Test.YtlncfncolkgjfaaSpI
import Derived.Test.YtlncfncolkgjfaaSpM
namespace Go.Proofs.Ytlncfncolkgjfaa
open Go.RowKit Go.MapKept Go.ChangeMaps

set_option maxHeartbeats 1000000 in
theorem free_bad {w : World} {g : Sg} {M : Nat → Option Sec} (h : SpAt w g M) (hh : 1 < g.h) (hh2 : g.h ≤ 4096) (s n : Int) (hb0 : n < 1 ∨ 64 < n ∨ s < 4 ∨ (g.h : Int) - n < s) :
    Calls Try.prog 13 #[.pointer (some ⟨g.x.tb, 0, none⟩), .int .i64 s, .int .i64 n] w fun e w' => e = .returned (.int .i64 1) ∧ SpAt w' g M ∧ Upd g.S w w' := by
  have HH := Lib.hid (homesS h)
  have H := Lib.hid h
  have hb : ((g.h : Int) == 0) = false := by rw [beq_eq_false_iff_ne]; omega
  clear h
  by_cases h1 : n < 1
  · have d1 : decide (n < 1) = true := decide_eq_true h1
    clear hb0
    go_enter Try.func13, Try.ntmps13
    go_wp2_with fail
    refine HH.out.mono ?_
    rintro e w1 ⟨rfl, n1, hn1⟩
    have hu1 : Upd [] w w1 := by rw [hn1]; exact (Upd.refl _ _).drewN _
    clear hn1
    go_wp2_with fail
    go_ret
    exact ⟨rfl, H.out.below hu1, hu1.mono (by simp)⟩
  have d1 : decide (n < 1) = false := decide_eq_false h1
  by_cases h2 : 64 < n
  · have d2 : decide (64 < n) = true := decide_eq_true h2
    clear hb0
    go_enter Try.func13, Try.ntmps13
    go_wp2_with fail
    refine HH.out.mono ?_
    rintro e w1 ⟨rfl, n1, hn1⟩
    have hu1 : Upd [] w w1 := by rw [hn1]; exact (Upd.refl _ _).drewN _
    clear hn1
    go_wp2_with fail
    go_ret
    exact ⟨rfl, H.out.below hu1, hu1.mono (by simp)⟩
  have d2 : decide (64 < n) = false := decide_eq_false h2
  by_cases h3 : s < 4
  · have d3 : decide (s < 4) = true := decide_eq_true h3
    clear hb0
    go_enter Try.func13, Try.ntmps13
    go_wp2_with fail
    refine HH.out.mono ?_
    rintro e w1 ⟨rfl, n1, hn1⟩
    have hu1 : Upd [] w w1 := by rw [hn1]; exact (Upd.refl _ _).drewN _
    clear hn1
    go_wp2_with fail
    go_ret
    exact ⟨rfl, H.out.below hu1, hu1.mono (by simp)⟩
  have d3 : decide (s < 4) = false := decide_eq_false h3
  have d4 : decide ((g.h : Int) - n < s) = true := decide_eq_true (by omega)
  have b0 : 1 ≤ n := by omega
  have b1 : n ≤ 64 := by omega
  clear hb0
  go_enter Try.func13, Try.ntmps13
  go_wp2_with fail
  refine HH.out.mono ?_
  rintro e w1 ⟨rfl, n1, hn1⟩
  have hu1 : Upd [] w w1 := by rw [hn1]; exact (Upd.refl _ _).drewN _
  clear hn1
  go_wp2_with fail
  go_ret
  exact ⟨rfl, H.out.below hu1, hu1.mono (by simp)⟩

set_option maxRecDepth 100000 in
set_option maxHeartbeats 2000000 in
theorem free_hole {w : World} {g : Sg} {M : Nat → Option Sec} (h : SpAt w g M) (hh : 1 < g.h) (hh2 : g.h ≤ 4096) (s n : Nat) (hn : 1 ≤ n) (hn2 : n ≤ 64) (hs : 4 ≤ s) (hs2 : s + n ≤ g.h) (ht : ∃ q, q < n ∧ g.T M (s + q) = false) :
    Calls Try.prog 13 #[.pointer (some ⟨g.x.tb, 0, none⟩), .int .i64 (s : Int), .int .i64 (n : Int)] w fun e w' => e = .returned (.int .i64 1) ∧ SpAt w' g M ∧ Upd g.S w w' := by
  have HH := Lib.hid (homesS h)
  have H := Lib.hid h
  have HTT := Lib.hid ht
  have hb : ((g.h : Int) == 0) = false := by rw [beq_eq_false_iff_ne]; omega
  have d1 : decide ((n : Int) < 1) = false := decide_eq_false (by omega)
  have d2 : decide (64 < (n : Int)) = false := decide_eq_false (by omega)
  have d3 : decide ((s : Int) < 4) = false := decide_eq_false (by omega)
  have d4 : decide ((g.h : Int) - (n : Int) < (s : Int)) = false := decide_eq_false (by omega)
  have hlf : (fixB (g.cur M 1)).length = 512 := by rw [fixB_length]; exact h.cur_len 1
  have HLF := Lib.hid hlf
  have HT : Hid (∀ i, g.T M i = bitB (fixB (g.cur M 1)) i) := by show ∀ i, _; exact fun _ => rfl
  clear h ht hlf
  go_enter Try.func13, Try.ntmps13
  go_wp2_with fail
  refine HH.out.mono ?_
  rintro e w1 ⟨rfl, n1, hn1⟩
  have hu1 : Upd [] w w1 := by rw [hn1]; exact (Upd.refl _ _).drewN _
  have HTK := Lib.hid (taken_spec (H.out.below hu1) hh)
  have HU1 := Lib.hid hu1
  clear hn1 hu1
  go_wp2_with fail
  refine HTK.out.mono ?_
  rintro e w2 ⟨kb, c, rfl, ho2, h2, hu2⟩
  have HU2 := Lib.hid ((HU1.out.mono (by simp)).trans (hu2.mono g.mem))
  have HRD2 := Lib.hid ho2.rd
  have H2 := Lib.hid h2
  clear ho2 h2 hu2
  go_wp2_with fail
  go_loopw [10] (fun i wr => ∃ q : Nat, q ≤ n ∧ (∀ p, p < q → g.T M (s + p) = true) ∧ i = .int .i64 ((s + q : Nat) : Int) ∧ wr = w2) (fun i _ => s + n - (intOf i).toNat)
  case atStart => exact ⟨0, Nat.zero_le _, fun p hp => by omega, rfl, rfl⟩
  case round =>
    obtain ⟨q, hq, hall, rfl, rfl⟩ := hrel
    obtain ⟨I, hI⟩ : ∃ I, I = s + q := ⟨_, rfl⟩
    rw [← hI]
    by_cases hlt : q < n
    · have hlt' : decide ((I : Int) < (s : Int) + (n : Int)) = true := decide_eq_true (by omega)
      have HSET := Lib.hid (set_spec _ _ I wr HRD2.out (by rw [HLF.out]; omega) (by rw [HLF.out]; omega))
      rw [← HT.out I] at HSET
      have HALL := Lib.hid hall
      have HI := Lib.hid hI
      have hI4 : I < 4096 := by omega
      clear hI hall
      cases htq : g.T M I
      · rw [htq] at HSET
        clear htq
        go_wp2_with fail
        refine HSET.out.mono ?_
        rintro e w' ⟨rfl, rfl⟩
        go_wp2_with fail
        go_ret
        exact ⟨rfl, H2.out, HU2.out⟩
      · rw [htq] at HSET
        have HTQ := Lib.hid htq
        clear htq
        go_wp2_with fail
        refine HSET.out.mono ?_
        rintro e w' ⟨rfl, rfl⟩
        go_wp2_with fail
        refine ⟨⟨q + 1, by omega, fun p hp => ?_, by rw [HI.out]; go_num, trivial⟩, by have := HI.out; simp [intOf]; omega⟩
        by_cases e : p = q
        · rw [e, ← HI.out]; exact HTQ.out
        · exact HALL.out p (by omega)
    · obtain rfl : q = n := by omega
      obtain ⟨p, hp, hf⟩ := HTT.out
      rw [hall p hp] at hf
      simp at hf

/-! ## what the calls answer, whole -/

theorem free_no {w : World} {g : Sg} {M : Nat → Option Sec} (h : SpAt w g M) (hh : 1 < g.h) (hh2 : g.h ≤ 4096) (s n : Int) (hn : ¬ FreeOk (g.T M) g.h s n) :
    Calls Try.prog 13 #[.pointer (some ⟨g.x.tb, 0, none⟩), .int .i64 s, .int .i64 n] w fun e w' => e = .returned (.int .i64 1) ∧ SpAt w' g M ∧ Upd g.S w w' := by
  by_cases hb : n < 1 ∨ 64 < n ∨ s < 4 ∨ (g.h : Int) - n < s
  · exact free_bad h hh hh2 s n hb
  · obtain ⟨s', rfl⟩ := Int.eq_ofNat_of_zero_le (show 0 ≤ s by omega)
    obtain ⟨n', rfl⟩ := Int.eq_ofNat_of_zero_le (show 0 ≤ n by omega)
    refine free_hole h hh hh2 s' n' (by omega) (by omega) (by omega) (by omega) ?_
    apply Classical.byContradiction
    intro hx
    refine hn ⟨by omega, by omega, by omega, by omega, fun q hq => ?_⟩
    simp only [Int.toNat_natCast] at hq ⊢
    cases ht : g.T M (s' + q)
    · exact absurd ⟨q, hq, ht⟩ hx
    · rfl
theorem free_yes {w : World} {g : Sg} {M : Nat → Option Sec} (h : SpAt w g M) (hh : 1 < g.h) (hh2 : g.h ≤ 4096) (hc : (M 1).isSome = true ∨ cntM M g.h < 40) (s n : Int) (hn : FreeOk (g.T M) g.h s n) :
    Calls Try.prog 13 #[.pointer (some ⟨g.x.tb, 0, none⟩), .int .i64 s, .int .i64 n] w fun e w' => e = .returned (.int .i64 0) ∧ SpAt w' g (put1 M (setR (fixB (g.cur M 1)) s.toNat false n.toNat)) ∧ Upd g.S w w' := by
  obtain ⟨a, b, c, d, f⟩ := hn
  obtain ⟨s', rfl⟩ := Int.eq_ofNat_of_zero_le (show 0 ≤ s by omega)
  obtain ⟨n', rfl⟩ := Int.eq_ofNat_of_zero_le (show 0 ≤ n by omega)
  simp only [Int.toNat_natCast] at f ⊢
  exact free_ok h hh hh2 hc s' n' (by omega) (by omega) (by omega) (by omega) f

end Go.Proofs.Ytlncfncolkgjfaa
