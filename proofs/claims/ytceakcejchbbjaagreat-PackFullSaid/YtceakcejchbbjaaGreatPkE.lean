/-
  A transaction: which sectors a piece of work has written, how many; blocks that are none of its own may turn.
-/
import Derived.Test.YtceakcejchbbjaaGreatPkC
set_option linter.unusedSimpArgs false
set_option linter.unusedVariables false
namespace Go.Proofs.YtceakcejchbbjaaGreat
open Go.RowKit Go.MapKept Go.ChangeMaps

def wr1 (M : Nat → Option Sec) (i : Nat) (s : Sec) : Nat → Option Sec := fun k => if k = i then some s else M k
theorem cur_wr1 (g : Sg) (M : Nat → Option Sec) (i : Nat) (s : Sec) (j : Nat) : g.cur (wr1 M i s) j = if j = i then s else g.cur M j := by
  unfold Sg.cur wr1
  by_cases h : j = i
  · rw [if_pos h, if_pos h]; rfl
  · rw [if_neg h, if_neg h]
theorem wr1_ne {M : Nat → Option Sec} {i j : Nat} {s : Sec} (h : j ≠ i) : wr1 M i s j = M j := by unfold wr1; rw [if_neg h]
theorem wr1_eq (M : Nat → Option Sec) (i : Nat) (s : Sec) : wr1 M i s i = some s := by unfold wr1; rw [if_pos rfl]
theorem T_wr1 (g : Sg) (M : Nat → Option Sec) {i : Nat} (s : Sec) (h : i ≠ 1) : g.T (wr1 M i s) = g.T M := by
  funext k
  unfold Sg.T
  rw [cur_wr1, if_neg (Ne.symm h)]
theorem cur_congr (g : Sg) {M M' : Nat → Option Sec} {i : Nat} (h : M' i = M i) : g.cur M' i = g.cur M i := by unfold Sg.cur; rw [h]
theorem T_congr (g : Sg) {M M' : Nat → Option Sec} (h : M' 1 = M 1) : g.T M' = g.T M := by
  funext k
  unfold Sg.T
  rw [cur_congr g h]
/-- What is written behind: what was written ahead, and some of L. -/
def Touch (M M' : Nat → Option Sec) (L : List Nat) : Prop := ∀ i, (M' i).isSome = true → (M i).isSome = true ∨ i ∈ L
theorem Touch.refl (M : Nat → Option Sec) (L : List Nat) : Touch M M L := fun i h => .inl h
theorem Touch.trans {M M' M'' : Nat → Option Sec} {L : List Nat} (h : Touch M M' L) (k : Touch M' M'' L) : Touch M M'' L := fun i hi => by
  rcases k i hi with q | q
  · exact h i q
  · exact .inr q
theorem Touch.mono {M M' : Nat → Option Sec} {L L' : List Nat} (h : Touch M M' L) (hL : ∀ i, i ∈ L → i ∈ L') : Touch M M' L' := fun i hi => (h i hi).imp id (hL i)
theorem Touch.wr1 {M M' : Nat → Option Sec} {L : List Nat} (h : Touch M M' L) {i : Nat} (hi : i ∈ L) (s : Sec) : Touch M (wr1 M' i s) L := fun k hk => by
  by_cases e : k = i
  · subst e; exact .inr hi
  · rw [wr1_ne e] at hk; exact h k hk
theorem len_le_sub : ∀ {A B : List Nat}, A.Nodup → (∀ a, a ∈ A → a ∈ B) → A.length ≤ B.length
  | [], B, _, _ => Nat.zero_le _
  | a :: A, B, hn, hs => by
    have ha := hs a (List.mem_cons_self ..)
    have hn' := List.nodup_cons.1 hn
    have h1 : A.length ≤ (B.erase a).length := len_le_sub hn'.2 fun x hx => by
      have hne : x ≠ a := fun e => hn'.1 (e ▸ hx)
      exact (List.mem_erase_of_ne hne).2 (hs x (List.mem_cons_of_mem _ hx))
    rw [List.length_erase_of_mem ha] at h1
    have := List.length_pos_of_mem ha
    rw [List.length_cons]; omega
theorem Touch.cnt {M M' : Nat → Option Sec} {L : List Nat} (h : Touch M M' L) {n : Nat} (ho : MOk M n) (ho' : MOk M' n) : cntM M' n ≤ cntM M n + L.length := by
  have := len_le_sub (B := keysM M n ++ L) (keysM_nodup M' n) fun i hi => by
    rw [List.mem_append]
    rcases h i ((mem_keysM ho').1 hi) with q | q
    · exact .inl ((mem_keysM ho).2 q)
    · exact .inr q
  rw [List.length_append] at this
  exact this
theorem SpAt.turnedR {w w' : World} {g : Sg} {M : Nat → Option Sec} (h : SpAt w g M) {S : List Nat} (hu : Upd S w w') (h1 : ∀ k, k ∈ S → k ∉ g.S ∧ k ≠ g.x.tb) (h2 : ∀ k, k ∈ S → ∀ c, w.heap[k]? ≠ some (.cells c 5 (0, 0))) : SpAt w' g M := by
  have hj : ∀ k, k ∈ g.j.all → k ∉ S := fun k hk hs => (h1 k hs).1 (by simp [Sg.S, hk])
  have hl := h.jr.at_.lt
  have hd := h.jr.at_.disk.lt
  exact ⟨h.jr.of (h.jr.at_.world (hu.block _ hl.1 (hj _ (by simp [JG.all]))) (hu.block _ hl.2 (hj _ (by simp [JG.all]))) (hu.block _ hd.1 (hj _ (by simp [JG.all]))) (hu.block _ hd.2.1 (hj _ (by simp [JG.all]))) (hu.block _ hd.2.2 (hj _ (by simp [JG.all])))
      (fun k c _ e => hu.block _ (blk_lt e) (fun q => h2 k q c e))),
    h.tx.upd hu (fun q => (h1 _ q).2 rfl) (fun q => (h1 _ q).1 (by simp [Sg.S])) (fun k c hk => h2 k hk c), h.ne, h.ok, h.len⟩
/-- All blocks of a transaction and its journal are there already. -/
theorem SpAt.lt {w : World} {g : Sg} {M : Nat → Option Sec} (h : SpAt w g M) : (∀ k, k ∈ g.S → k < w.heap.size) ∧ g.x.tb < w.heap.size := by
  have hl := h.jr.at_.lt
  have hd := h.jr.at_.disk.lt
  have ht := h.tx.lt
  refine ⟨fun k hk => ?_, ht.1⟩
  simp only [Sg.S, List.mem_cons, JG.all, List.not_mem_nil, or_false] at hk
  rcases hk with rfl | rfl | rfl | rfl | rfl | rfl
  · exact ht.2
  · exact hl.1
  · exact hl.2
  · exact hd.1
  · exact hd.2.1
  · exact hd.2.2
end Go.Proofs.YtceakcejchbbjaaGreat
