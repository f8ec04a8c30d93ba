/-
  journal.Open: the plain side (which anchor, which commits), and what it leans on.
-/
import Derived.Test.YthbgidiblcokhaaJnM
namespace Go.Proofs.Ythbgidiblcokhaa
open Go.RowKit

/-- The greater of an anchor and the one in sector i. -/
def Dk.ancStep (D : Dk) (b : Anc) (i : Nat) : Anc := if (ancOf (D.now i)).okB D.n = true ∧ b.number < (ancOf (D.now i)).number then ancOf (D.now i) else b
def Dk.ancK (D : Dk) : Nat → Anc
  | 0 => ⟨0, 0, 0, 0⟩
  | k + 1 => D.ancStep (D.ancK k) k
/-- The last anchor of a disk. -/
def Dk.anc (D : Dk) : Anc := D.ancK 2
/-- A journal as its anchor has it. -/
def Dk.boot (D : Dk) : Jn := { lives := D.lives, done := false, last := D.anc, turn := D.anc.turn, place := D.anc.place, used := 0, away := fun _ => none }

/-- All commits that stand are taken up. -/
inductive Scan (D : Dk) : Jn → Jn → Prop
  | stop {J : Jn} : J.stands D = [] → Scan D J J
  | step {J J' : Jn} : J.stands D ≠ [] → Scan D (J.note (J.stands D)) J' → Scan D J J'

/-- What Open does: the disk behind it, the journal, the error. -/
inductive OpenR (D : Dk) : Dk → Option Jn → Int → Prop
  | off : D.off = true → OpenR D D none 8
  | none : D.off = false → D.anc.number = 0 → OpenR D D none 5
  | keep : D.off = false → D.anc.number ≠ 0 → D.boot.stands D = [] → OpenR D D (some D.boot) 0
  | full {J : Jn} : D.off = false → D.anc.number ≠ 0 → D.boot.stands D ≠ [] → Scan D D.boot J → (4611686018427387904 ≤ J.last.number ∨ 4611686018427387904 ≤ J.turn) → OpenR D D none 7
  | fail {J : Jn} : D.off = false → D.anc.number ≠ 0 → D.boot.stands D ≠ [] → Scan D D.boot J → J.last.number < 4611686018427387904 → J.turn < 4611686018427387904 → (J.settleD D).2 ≠ 0 → OpenR D (J.settleD D).1 none (J.settleD D).2
  | ok {J : Jn} : D.off = false → D.anc.number ≠ 0 → D.boot.stands D ≠ [] → Scan D D.boot J → J.last.number < 4611686018427387904 → J.turn < 4611686018427387904 → (J.settleD D).2 = 0 → OpenR D (J.settleD D).1 (some J.settled) 0

/-- An opened journal in memory, or none. -/
def OpenedAt (n0 : Nat) (F : Nat → Prop) (g : DG) (D' : Dk) (err : Int) (e : Ending) (w' : World) : Option Jn → Prop
  | none => e = .returned (.tuple #[.pointer none, .int .i64 err]) ∧ DiskAt w' F g D'
  | some J => ∃ jb ab, e = .returned (.tuple #[.pointer (some ⟨jb, 0, none⟩), .int .i64 err]) ∧ n0 ≤ jb ∧ n0 ≤ ab ∧ JnAt w' F ⟨jb, ab, g⟩ J D'
def OpenPost (w : World) (F : Nat → Prop) (g : DG) (D : Dk) (e : Ending) (w' : World) : Prop :=
  ∃ D' r err, OpenR D D' r err ∧ OpenedAt w.heap.size (Gr F w.heap.size) g D' err e w' r ∧ Upd [g.db, g.lb, g.mb] w w'

theorem tagOf_lt (b : Sec) : tagOf b < 18446744073709551616 := by
  have h : numI b 0 8 < 18446744073709551616 := by
    have := num_lt b 0 8
    unfold numI
    have e : (256 : Nat) ^ 8 = 18446744073709551616 := by decide
    omega
  unfold tagOf
  split
  · exact h
  · decide
theorem Anc.okB_parts {a : Anc} {n : Nat} (h : a.okB n = true) : a.number ≠ 0 ∧ 1 ≤ a.turn ∧ a.turn < 4611686018427387904 ∧ 8 ≤ a.ring ∧ a.ring ≤ 1024 ∧ a.place < a.ring ∧ a.ring + 10 ≤ n := by
  unfold Anc.okB at h
  simp only [Bool.and_eq_true, decide_eq_true_eq, bne_iff_ne] at h
  obtain ⟨⟨⟨a1, a2⟩, a3⟩, ⟨⟨a4, a5⟩, a6⟩, a7⟩ := h
  exact ⟨a1, a2, a3, a4, a5, a6, a7⟩
/-- The best anchor is none, or one that may be. -/
theorem Dk.ancK_cases (D : Dk) : ∀ k, D.ancK k = ⟨0, 0, 0, 0⟩ ∨ ((D.ancK k).okB D.n = true ∧ 0 ≤ (D.ancK k).number ∧ (D.ancK k).number < 18446744073709551616)
  | 0 => .inl rfl
  | k + 1 => by
    show D.ancStep (D.ancK k) k = _ ∨ ((D.ancStep (D.ancK k) k).okB D.n = true ∧ 0 ≤ (D.ancStep (D.ancK k) k).number ∧ (D.ancStep (D.ancK k) k).number < _)
    unfold Dk.ancStep
    split
    · rename_i h; exact .inr ⟨h.1, tagOf_nonneg _, tagOf_lt _⟩
    · exact D.ancK_cases k
theorem Dk.ancK_num (D : Dk) (k : Nat) : 0 ≤ (D.ancK k).number := by
  rcases D.ancK_cases k with h | h
  · rw [h]; decide
  · exact h.2.1
theorem Dk.boot_ok {D : Dk} (h : D.anc.number ≠ 0) : D.boot.Ok D.n := by
  rcases D.ancK_cases 2 with q | q
  · exact absurd (by show (D.ancK 2).number = 0; rw [q]) h
  · obtain ⟨a1, a2, a3, a4, a5, a6, a7⟩ := Anc.okB_parts q.1
    exact ⟨a4, a5, a7, a6, a6, by show 1 ≤ (D.ancK 2).number; have := q.2.1; omega, q.2.2, a2, a2, by show (D.ancK 2).turn < _; omega, by show 0 ≤ 100000000; omega, by intro i s hs; simp [Dk.boot] at hs⟩

/-- How many of the ring's sectors bear the tag of a header of turn t, or a later one. -/
def Dk.late (D : Dk) (ring : Nat) (t : Int) : Nat := (List.range ring).countP fun q => decide (2 * t + 1 ≤ tagOf (D.now (2 + q)))
theorem Dk.late_le (D : Dk) (ring : Nat) (t : Int) : D.late ring t ≤ ring := by
  have := List.countP_le_length (p := fun q => decide (2 * t + 1 ≤ tagOf (D.now (2 + q)))) (l := List.range ring)
  simpa [Dk.late] using this
theorem countP_lt {α : Type} {p q : α → Bool} : ∀ {l : List α} {x : α}, x ∈ l → p x = false → q x = true → (∀ y ∈ l, p y = true → q y = true) → l.countP p < l.countP q
  | [], x, hx, _, _, _ => by simp at hx
  | a :: l, x, hx, hp, hq, hall => by
    have hle : l.countP p ≤ l.countP q := List.countP_mono_left (fun y hy => hall y (List.mem_cons_of_mem _ hy))
    rcases List.mem_cons.1 hx with rfl | hx
    · rw [List.countP_cons_of_neg (by simp [hp]), List.countP_cons_of_pos hq]; omega
    · have ih := countP_lt hx hp hq (fun y hy => hall y (List.mem_cons_of_mem _ hy))
      by_cases ha : p a = true
      · rw [List.countP_cons_of_pos ha, List.countP_cons_of_pos (hall a (by simp) ha)]; omega
      · rw [List.countP_cons_of_neg ha]
        have : l.countP q ≤ (a :: l).countP q := by rw [List.countP_cons]; omega
        omega
theorem Jn.stands_head {J : Jn} {D : Dk} (h : J.stands D ≠ []) : J.stHead D := by
  by_cases q : J.stHead D
  · exact q
  · exact absurd (Jn.stands_no q) h
theorem Jn.stands_eq {J : Jn} {D : Dk} (h : J.stands D ≠ []) : J.stands D = J.stL D (J.stN D) ∧ ∀ k, k < J.stN D → J.stGood D k := by
  unfold Jn.stands at h ⊢
  split
  · rename_i q; exact ⟨rfl, q.2⟩
  · rename_i q; rw [if_neg q] at h; exact absurd rfl h
theorem Jn.late_lt {J : Jn} {D : Dk} (hr : J.place < J.last.ring) (h : J.stands D ≠ []) : D.late J.last.ring (J.turn + 1) < D.late J.last.ring J.turn := by
  have hh := Jn.stands_head h
  unfold Dk.late
  refine countP_lt (x := J.place) (by simpa using hr) ?_ ?_ ?_
  · have e : D.now (2 + J.place) = J.hd D := by unfold Jn.hd Jn.at; rw [Nat.mod_eq_of_lt hr]
    simp only [e, hh.1]; simp; omega
  · have e : D.now (2 + J.place) = J.hd D := by unfold Jn.hd Jn.at; rw [Nat.mod_eq_of_lt hr]
    simp only [e, hh.1]; simp
  · intro y _ hy
    simp only [decide_eq_true_eq] at hy ⊢
    omega
theorem Jn.stands_in {J : Jn} {D : Dk} (hok : D.Ok) : (J.stands D).length ≤ 40 ∧ ∀ p ∈ J.stands D, 0 ≤ p.1 ∧ p.1 < (J.homes D.n : Int) ∧ p.2.length = 512 := by
  by_cases h : J.stands D = []
  · rw [h]; simp
  · obtain ⟨e, hg⟩ := Jn.stands_eq h
    have hh := Jn.stands_head h
    rw [e]
    refine ⟨by rw [Jn.stL_length]; exact hh.2.2.1, fun p hp => ?_⟩
    unfold Jn.stL at hp
    obtain ⟨k, hk, rfl⟩ := List.mem_map.1 hp
    have hk' : k < J.stN D := by simpa using hk
    refine ⟨numI_nonneg _ _ _, (hg k hk').2.1, ?_⟩
    show (over _ _ _).length = 512
    have hb : (J.bd D k).length = 512 := Dk.now_len hok _
    rw [over_length]
    · exact hb
    · rw [hb, List.length_take]; omega
/-- The count of what is still to come, read off a cell. -/
def lateV (D : Dk) (ring : Nat) : Option Value → Nat
  | some (.int _ t) => D.late ring t
  | _ => 0

end Go.Proofs.Ythbgidiblcokhaa
