/-
  What a nil journal and a zero one answer; Format of a ring that does not fit; Open of a disk without a journal.
-/
import Derived.Test.YthbgidiblcokhaaLwB
namespace Go.Proofs.Ythbgidiblcokhaa
open Go.RowKit

/-- A journal without a disk: none, or a zero one. -/
def zeroJ : Array Value := #[.pointer none, .int .i64 0, .bool false, .int .u64 0, .int .u64 0, .int .i64 0, .int .i64 0, .int .u64 0, .int .i64 0, .int .i64 0, .map none]

set_option maxHeartbeats 400000 in
theorem mayJ_nil (w : World) : Calls Try.prog 56 #[.pointer none] w fun e w' => e = .returned (.int .i64 1) ∧ ∃ n, w' = w.drewN n := by
  go_enter Try.func56, Try.ntmps56
  go_wp2
  go_ret
  exact ⟨rfl, 0, rfl⟩
set_option maxHeartbeats 400000 in
theorem mayJ_zero {w : World} {b : Nat} (h : w.heap[b]? = some (.cells zeroJ 51 (0, 0))) : Calls Try.prog 56 #[.pointer (some ⟨b, 0, none⟩)] w fun e w' => e = .returned (.int .i64 1) ∧ ∃ n, w' = w.drewN n := by
  have hc := blk_cell h
  simp only [zeroJ] at hc
  clear h
  go_enter Try.func56, Try.ntmps56
  go_wp2
  go_ret
  exact ⟨rfl, 0, rfl⟩
set_option maxHeartbeats 400000 in
theorem readJ_nil (i : Int) (w : World) : Calls Try.prog 26 #[.pointer none, .int .i64 i] w fun e w' => e = .returned (.tuple #[.slice none 0 0, .int .i64 1]) ∧ ∃ n, w' = w.drewN n := by
  have H := Lib.hid (mayJ_nil w)
  go_enter Try.func26, Try.ntmps26
  go_wp2_with fail
  refine H.out.mono ?_
  rintro e w1 ⟨rfl, n, rfl⟩
  go_wp2_with fail
  go_ret2
  exact ⟨rfl, _, rfl⟩
set_option maxHeartbeats 400000 in
theorem readJ_zero (i : Int) {w : World} {b : Nat} (h : w.heap[b]? = some (.cells zeroJ 51 (0, 0))) : Calls Try.prog 26 #[.pointer (some ⟨b, 0, none⟩), .int .i64 i] w fun e w' => e = .returned (.tuple #[.slice none 0 0, .int .i64 1]) ∧ ∃ n, w' = w.drewN n := by
  have H := Lib.hid (mayJ_zero h)
  clear h
  go_enter Try.func26, Try.ntmps26
  go_wp2_with fail
  refine H.out.mono ?_
  rintro e w1 ⟨rfl, n, rfl⟩
  go_wp2_with fail
  go_ret2
  exact ⟨rfl, _, rfl⟩
set_option maxRecDepth 100000 in
set_option maxHeartbeats 400000 in
theorem com_nil (v : Value) (w : World) : Calls Try.prog 22 #[.pointer none, v] w fun e w' => e = .returned (.int .i64 1) ∧ ∃ n, w' = w.drewN n := by
  have H := Lib.hid (mayJ_nil w)
  go_enter Try.func22, Try.ntmps22
  go_wp2_with fail
  refine H.out.mono ?_
  rintro e w1 ⟨rfl, n, rfl⟩
  go_wp2_with fail
  go_ret
  exact ⟨rfl, _, rfl⟩
set_option maxHeartbeats 400000 in
theorem ck_zero {w : World} {b : Nat} (h : w.heap[b]? = some (.cells zeroJ 51 (0, 0))) : Calls Try.prog 27 #[.pointer (some ⟨b, 0, none⟩)] w fun e w' => e = .returned (.int .i64 1) ∧ ∃ n, w' = w.drewN n := by
  have H := Lib.hid (mayJ_zero h)
  clear h
  go_enter Try.func27, Try.ntmps27
  go_wp2_with fail
  refine H.out.mono ?_
  rintro e w1 ⟨rfl, n, rfl⟩
  go_wp2_with fail
  go_ret
  exact ⟨rfl, _, rfl⟩
set_option maxHeartbeats 400000 in
theorem homes_nil (w : World) : Calls Try.prog 28 #[.pointer none] w fun e w' => e = .returned (.int .i64 0) ∧ ∃ n, w' = w.drewN n := by
  go_enter Try.func28, Try.ntmps28
  go_wp2
  go_ret
  exact ⟨rfl, 0, rfl⟩
set_option maxHeartbeats 400000 in
theorem homes_zero {w : World} {b : Nat} (h : w.heap[b]? = some (.cells zeroJ 51 (0, 0))) : Calls Try.prog 28 #[.pointer (some ⟨b, 0, none⟩)] w fun e w' => e = .returned (.int .i64 0) ∧ ∃ n, w' = w.drewN n := by
  have hc := blk_cell h
  simp only [zeroJ] at hc
  clear h
  go_enter Try.func28, Try.ntmps28
  go_wp2
  go_ret
  exact ⟨rfl, 0, rfl⟩
set_option maxHeartbeats 400000 in
theorem free_nil (w : World) : Calls Try.prog 29 #[.pointer none] w fun e w' => e = .returned (.int .i64 0) ∧ ∃ n, w' = w.drewN n := by
  go_enter Try.func29, Try.ntmps29
  go_wp2
  go_ret
  exact ⟨rfl, 0, rfl⟩
set_option maxHeartbeats 400000 in
theorem free_zero {w : World} {b : Nat} (h : w.heap[b]? = some (.cells zeroJ 51 (0, 0))) : Calls Try.prog 29 #[.pointer (some ⟨b, 0, none⟩)] w fun e w' => e = .returned (.int .i64 0) ∧ ∃ n, w' = w.drewN n := by
  have hc := blk_cell h
  simp only [zeroJ] at hc
  clear h
  go_enter Try.func29, Try.ntmps29
  go_wp2
  go_ret
  exact ⟨rfl, 0, rfl⟩
set_option maxHeartbeats 400000 in
theorem turn_nil (w : World) : Calls Try.prog 25 #[.pointer none] w fun e w' => e = .returned (.int .u64 0) ∧ ∃ n, w' = w.drewN n := by
  go_enter Try.func25, Try.ntmps25
  go_wp2
  go_ret
  exact ⟨rfl, 0, rfl⟩
set_option maxHeartbeats 400000 in
theorem turn_zero {w : World} {b : Nat} (h : w.heap[b]? = some (.cells zeroJ 51 (0, 0))) : Calls Try.prog 25 #[.pointer (some ⟨b, 0, none⟩)] w fun e w' => e = .returned (.int .u64 0) ∧ ∃ n, w' = w.drewN n := by
  have hc := blk_cell h
  simp only [zeroJ] at hc
  clear h
  go_enter Try.func25, Try.ntmps25
  go_wp2
  go_ret
  exact ⟨rfl, 0, rfl⟩

/-- A ring that leaves fewer than eight home sectors. -/
theorem fmt_bad {w : World} {F : Nat → Prop} {g : DG} {D : Dk} (h : DiskAt w F g D) (ring : Nat) (h0 : 8 ≤ ring) (h1 : ring ≤ 1024) (h2 : D.n < ring + 10) :
    Calls Try.prog 17 #[.pointer (some ⟨g.db, 0, none⟩), .int .i64 (ring : Int)] w fun e w' => e = .returned (.int .i64 1) ∧ w = w' := by
  have H := Lib.hid h
  have hn := h.ok.n0
  have hn1 := h.ok.n1
  have hn' : ((D.n : Int) == 0) = false := beq_eq_false_iff_ne.2 (by omega)
  clear h
  go_enter Try.func17, Try.ntmps17
  go_wp2_with (go_at_call 46; refine (len_spec H.out).mono ?_; rintro e w' ⟨rfl, rfl⟩)
  go_ret
  exact ⟨rfl, rfl⟩
set_option maxRecDepth 100000 in
theorem open_none {w : World} {F : Nat → Prop} {g : DG} {n : Nat} (h : DiskAt w F g (Dk.new n)) :
    Calls Try.prog 18 #[.pointer (some ⟨g.db, 0, none⟩)] w fun e w' => e = .returned (.tuple #[.pointer none, .int .i64 5]) ∧ Upd [g.db, g.lb, g.mb] w w' := by
  refine (open_main h rfl).mono ?_
  rintro e w' ⟨D', r, err, ho, hat, hu⟩
  have hz : tagOf zsec = 0 := by
    have a : num zsec 0 8 = 0 := by decide +kernel
    have b : num zsec 504 8 = 0 := by decide +kernel
    unfold tagOf numI; rw [a, b]; rfl
  have hanc : (Dk.new n).anc.number = 0 := by
    have hs : ∀ i, (Dk.new n).ancStep ⟨0, 0, 0, 0⟩ i = ⟨0, 0, 0, 0⟩ := fun i => by
      unfold Dk.ancStep
      rw [if_neg]
      rintro ⟨_, q⟩
      have q2 : (0 : Int) < tagOf zsec := q
      rw [hz] at q2
      exact absurd q2 (by decide)
    show ((Dk.new n).ancStep ((Dk.new n).ancStep ⟨0, 0, 0, 0⟩ 0) 1).number = 0
    rw [hs, hs]
  cases ho with
  | off q => simp [Dk.new] at q
  | none _ _ => exact ⟨hat.1, hu⟩
  | keep _ q _ => exact absurd hanc q
  | full _ q _ _ _ => exact absurd hanc q
  | fail _ q _ _ _ _ _ => exact absurd hanc q
  | ok _ q _ _ _ _ _ => exact absurd hanc q

end Go.Proofs.Ythbgidiblcokhaa
