/-
  A row of pairs of the law's own.
-/
import Derived.Test.YtlncfncolkgjfaaSpP
namespace Go.Proofs.Ytlncfncolkgjfaa
open Go.RowKit

def prCells (ps : List (Int × Int)) : List Value := ps.flatMap fun p => [.int .i64 p.1, .int .i64 p.2]
theorem prCells_length (ps : List (Int × Int)) : (prCells ps).length = ps.length * 2 := by
  induction ps with
  | nil => rfl
  | cons p ps ih => simp [prCells] at *; omega
theorem prCells_append (a b : List (Int × Int)) : prCells (a ++ b) = prCells a ++ prCells b := by simp [prCells]
theorem prCells_get : ∀ (ps : List (Int × Int)) (k : Nat) (p : Int × Int), ps[k]? = some p → (prCells ps)[k * 2]? = some (.int .i64 p.1) ∧ (prCells ps)[k * 2 + 1]? = some (.int .i64 p.2)
  | [], k, p, h => by simp at h
  | q :: ps, 0, p, h => by simp at h; subst h; simp [prCells]
  | q :: ps, k + 1, p, h => by
    have ih := prCells_get ps k p (by simpa using h)
    have e : prCells (q :: ps) = [.int .i64 q.1, .int .i64 q.2] ++ prCells ps := rfl
    rw [e, List.getElem?_append_right (by simp; omega), List.getElem?_append_right (by simp; omega)]
    simp only [List.length_cons, List.length_nil]
    rw [show (k + 1) * 2 - (0 + 1 + 1) = k * 2 from by omega, show (k + 1) * 2 + 1 - (0 + 1 + 1) = k * 2 + 1 from by omega]
    exact ih
theorem infoPr : (Try.prog.info? 50).map (fun i => (i.zero, i.size, i.bytes)) = some (some (.agg #[.int .i64 0, .int .i64 0]), 2, 16) := by kernel_rfl
def PrB (w : World) (B : Nat) (v : Value) (ps : List (Int × Int)) : Prop := w.ownsRow B 50 2 v ps.length (prCells ps)
theorem PrB.nil (w : World) (B : Nat) : PrB w B (.slice none 0 0) [] := ⟨by simp [prCells], .inl ⟨rfl, rfl⟩⟩
theorem PrB.keep {w w' : World} {B : Nat} {v : Value} {ps : List (Int × Int)} (h : PrB w B v ps) (hk : ∀ (k : Nat) (c : Array Value), w.heap[k]? = some (.cells c 50 (0, 0)) → w'.heap[k]? = w.heap[k]?) : PrB w' B v ps := by
  refine ⟨h.1, ?_⟩
  rcases h.2 with h | ⟨g, cap, cur, e, hb, hg, r⟩
  · exact .inl h
  · exact .inr ⟨g, cap, cur, e, hb, (hk g cur hg).trans hg, r⟩
theorem PrB.upd {w w' : World} {B : Nat} {v : Value} {ps : List (Int × Int)} (h : PrB w B v ps) {S : List Nat} (hu : Upd S w w') (hS : ∀ (k : Nat) (c : Array Value), k ∈ S → w.heap[k]? ≠ some (.cells c 50 (0, 0))) : PrB w' B v ps :=
  h.keep fun k c e => hu.block _ (blk_lt e) fun q => hS k c q e
theorem PrB.shape {w : World} {B : Nat} {v : Value} {ps : List (Int × Int)} (h : PrB w B v ps) : ∃ a c, v = .slice a ps.length c := by
  rcases h.2 with ⟨e, h0⟩ | ⟨g, cap, cur, e, _⟩
  · exact ⟨none, 0, by rw [e, h0]⟩
  · exact ⟨_, _, e⟩
theorem PrB.cell {w : World} {B : Nat} {v : Value} {ps : List (Int × Int)} (h : PrB w B v ps) (k : Nat) (hk : k < ps.length) : ∃ g c, v = .slice (some ⟨g, 0, none⟩) ps.length c ∧ w.cell? ⟨g, k * 2, none⟩ = some (.int .i64 ps[k].1) ∧ w.cell? ⟨g, k * 2 + 1, none⟩ = some (.int .i64 ps[k].2) := by
  rcases h.2 with ⟨rfl, h0⟩ | ⟨g, cap, cur, rfl, hb, hg, hc, _, hs, ht⟩
  · omega
  · obtain ⟨c0, c1⟩ := prCells_get ps k _ (List.getElem?_eq_getElem hk)
    have cell : ∀ o x, (prCells ps)[o]? = some x → w.cell? ⟨g, o, none⟩ = some x := fun o x hx => by
      rw [blk_cell hg, ← hx, ← ht, List.getElem?_take_of_lt (by have := (List.getElem?_eq_some_iff.1 hx).1; rw [prCells_length] at this; omega)]; simp
    exact ⟨g, cap, rfl, cell _ _ c0, cell _ _ c1⟩
theorem pr_push {w : World} {B : Nat} {v : Value} {ps : List (Int × Int)} (hp : PrB w B v ps) (hl : ps.length ≤ 100000) (hB : B ≤ w.heap.size) (i j : Int) :
    ∃ a b c' w' S, (∀ ty, (Builtin.append_ #[46, 46] ty #[v, .slice (some ⟨w.heap.size, 0, none⟩) 1 1]).run Try.prog (w.alloc (.cells #[.int .i64 i, .int .i64 j] 50)) = .ok (.slice a b c') w') ∧ PrB w' B (.slice a b c') (ps ++ [(i, j)]) ∧
      Upd S w w' ∧ (∀ k, k ∈ S → B ≤ k ∧ ∃ c, w.heap[k]? = some (.cells c 50 (0, 0))) := by
  obtain ⟨i0, hi, hz0, hz1, hz2⟩ := info_parts infoPr
  have hp1 : PrB (w.alloc (.cells #[.int .i64 i, .int .i64 j] 50)) B v ps := hp.keep fun k c e => blk_alloc_ne (blk_lt e)
  obtain ⟨v', w', hrun, hown, hg, _⟩ := run_append_own (P := Try.prog) (w.alloc (.cells #[.int .i64 i, .int .i64 j] 50)) B 46 0 50 i0 _ 2 16 Try.underlying46 hi hz0 hz1 hz2 rfl (by decide) v ps.length (prCells ps) hp1 ⟨w.heap.size, 0, none⟩ 1 1 [.int .i64 i, .int .i64 j] rfl
    (fun k u hj => by
      rw [addr_add, blk_cell (blk_alloc _)]
      match k, hj with
      | 0, hj => simpa using hj
      | 1, hj => simpa using hj
      | k + 2, hj => simp at hj)
    (fun u hu => by simp at hu; rcases hu with rfl | rfl <;> rfl) (by unfold maxLen; omega) (by omega) (by simp; omega)
  have hs : PrB w' B v' (ps ++ [(i, j)]) := by
    unfold PrB; rw [List.length_append, prCells_append]; exact hown
  obtain ⟨a, c', rfl⟩ := hs.shape
  have hsz := hg.size
  have hos : w'.os = w.os ∧ w'.tape = w.tape ∧ w'.output = w.output := ⟨hg.os, hg.tape, hg.output⟩
  have hsz' : w.heap.size ≤ w'.heap.size := by simp at hsz; omega
  rcases hp.2 with ⟨rfl, _⟩ | ⟨g, cap, cur, rfl, hb, hgb, _⟩
  · refine ⟨a, _, c', w', [], fun _ => hrun, hs, ⟨hos.1, hos.2.1, hos.2.2, hsz', fun k hk _ => ?_⟩, by simp⟩
    rw [hg.block k (by simp; omega) (by simp [Value.ownBlock]), blk_alloc_ne hk]
  · refine ⟨a, _, c', w', [g], fun _ => hrun, hs, ⟨hos.1, hos.2.1, hos.2.2, hsz', fun k hk hS => ?_⟩, by simp; exact ⟨hb, _, hgb⟩⟩
    rw [hg.block k (by simp; omega) (by simp [Value.ownBlock]; rintro rfl; exact hS (by simp)), blk_alloc_ne hk]
theorem run_build_pr (i j : Int) (w : World) : (Instr.buildSlice 46 1 #[(0, .agg #[.int .i64 i, .int .i64 j])]).run Try.prog w = .ok (.slice (some ⟨w.heap.size, 0, none⟩) 1 1) (w.alloc (.cells #[.int .i64 i, .int .i64 j] 50)) := by kernel_rfl

end Go.Proofs.Ytlncfncolkgjfaa
