/-
  What TreeScans does to rows of pairs.
-/
import Derived.Test.YtceakcejchbbjaaGreatTsN
set_option linter.unusedSimpArgs false
set_option linter.unusedVariables false
namespace Go.Proofs.YtceakcejchbbjaaGreat
open Go.RowKit Go.MapKept Go.ChangeMaps

theorem treeL_mem : ∀ (ks : List Int) (l : List Pair9) {p : Pair9}, p ∈ treeL l ks → p ∈ l ∨ ∃ k, p = (keyB k, valB k)
  | [], l, p, h => .inl h
  | k :: ks, l, p, h => by
    rcases treeL_mem ks (insL l (keyB k) (valB k)) h with q | q
    · rcases insL_mem q with e | e
      · exact .inr ⟨k, e⟩
      · exact .inl e
    · exact .inr q
theorem treeL_low {ks : List Int} {p : Pair9} (h : p ∈ treeL [] ks) : Low30 p.1 ∧ p.1.length = 32 ∧ p.2.length = 16 := by
  rcases treeL_mem ks [] h with q | ⟨k, rfl⟩
  · simp at q
  · exact ⟨keyB_low k, keyB_length k, valB_length k⟩
/-- A row of pairs behind another one. -/
theorem pairs_app {w : World} {B B2 : Nat} {v x : Value} {l lx : List Pair9} (hp : PairsB w B v l) (hx : PairsB w B2 x lx) (hlx : 0 < lx.length) (hln : l.length + lx.length ≤ 1000) (hB : B ≤ w.heap.size) :
    ∃ a c w' S, (∀ ty, (Builtin.append_ #[67, 67] ty #[v, x]).run Tryz.prog w = .ok (.slice a (l.length + lx.length) c) w') ∧ PairsB w' B (.slice a (l.length + lx.length) c) (l ++ lx) ∧
      Upd S w w' ∧ (∀ k, k ∈ S → B ≤ k ∧ (∃ c, w.heap[k]? = some (.cells c TP (0, 0))) ∧ ∃ cap, v = .slice (some ⟨k, 0, none⟩) l.length cap) := by
  obtain ⟨i0, hi0, hz0, hz1, hz2⟩ := info_parts infoPr
  obtain ⟨g, cap, rfl, _, _, hcell, _⟩ := own_cells hx hlx
  have h1 : ∀ u ∈ (lx.map pc).flatten, u.oneCell' = true := by
    intro u hu
    rw [List.mem_flatten] at hu
    obtain ⟨e, he, hue⟩ := hu
    rw [List.mem_map] at he
    obtain ⟨p, _, rfl⟩ := he
    exact pc_one p u hue
  have hmul : (l.length + lx.length) * 48 ≤ 140737488355328 := Nat.le_trans (Nat.mul_le_mul hln (Nat.le_refl _)) (by decide)
  obtain ⟨v', w', hrun, hown, hg, _⟩ := run_append_own (P := Tryz.prog) w B 67 0 TP i0 _ 48 48 Tryz.underlying67 hi0 hz0 hz1 hz2 rfl (by decide) v l.length _ hp ⟨g, 0, none⟩ lx.length cap (lx.map pc).flatten hx.1
    (fun k u hj => by rw [addr_add, Nat.zero_add]; exact hcell k u hj) h1 (by unfold maxLen; omega) hmul hB
  obtain ⟨a, c', rfl⟩ := own_shape hown
  have hsz := hg.size
  have hos : w'.os = w.os ∧ w'.tape = w.tape ∧ w'.output = w.output := ⟨hg.os, hg.tape, hg.output⟩
  have hP : PairsB w' B (.slice a (l.length + lx.length) c') (l ++ lx) := by
    unfold PairsB
    rw [List.length_append, List.map_append, List.flatten_append]
    exact hown
  rcases hp.2 with ⟨rfl, _⟩ | ⟨gv, capv, cur, rfl, hb, hgb, _⟩
  · refine ⟨a, c', w', [], fun _ => hrun, hP, ⟨hos.1, hos.2.1, hos.2.2, hsz, fun k hk _ => ?_⟩, by simp⟩
    rw [hg.block k hk (by simp [Value.ownBlock])]
  · refine ⟨a, c', w', [gv], fun _ => hrun, hP, ⟨hos.1, hos.2.1, hos.2.2, hsz, fun k hk hS => ?_⟩, fun k hk => by simp at hk; subst hk; exact ⟨hb, ⟨_, hgb⟩, _, rfl⟩⟩
    rw [hg.block k hk (by simp [Value.ownBlock]; rintro rfl; exact hS (by simp))]
theorem append_none {w : World} {a : Option Addr} {n c : Nat} (hn : n ≤ c) (ty : TypeId) : (Builtin.append_ #[67, 67] ty #[.slice a n c, .slice none 0 0]).run Tryz.prog w = .ok (.slice a n c) w := by
  obtain ⟨i0, hi, hz, hz1, hz2⟩ := info_parts infoPr
  cases a <;> simp [Builtin.append_, run_underlying Tryz.underlying67, sizeOf, typeInfo, zeroValue, hi, hz, Builtin.lenOf, hn, Question.forced, run_firstCells_none, storeCells]
/-- A row of pairs behind another one, any. -/
theorem pairs_app_any {w : World} {B B2 : Nat} {v x : Value} {l lx : List Pair9} (hp : PairsB w B v l) (hx : PairsB w B2 x lx) (hln : l.length + lx.length ≤ 1000) (hB : B ≤ w.heap.size) :
    ∃ a c w' S, (∀ ty, (Builtin.append_ #[67, 67] ty #[v, x]).run Tryz.prog w = .ok (.slice a (l.length + lx.length) c) w') ∧ PairsB w' B (.slice a (l.length + lx.length) c) (l ++ lx) ∧
      Upd S w w' ∧ (∀ k, k ∈ S → B ≤ k ∧ (∃ c, w.heap[k]? = some (.cells c TP (0, 0))) ∧ ∃ cap, v = .slice (some ⟨k, 0, none⟩) l.length cap) := by
  rcases Nat.eq_zero_or_pos lx.length with h0 | h0
  · obtain rfl : lx = [] := List.length_eq_zero_iff.1 h0
    rcases hx.2 with ⟨rfl, _⟩ | ⟨g, cap, cur, rfl, _⟩
    · obtain ⟨a, c, rfl⟩ := hp.shape
      have hc : l.length ≤ c := by
        rcases Nat.eq_zero_or_pos l.length with q | q
        · omega
        · obtain ⟨g, cap, e, _, q2, _⟩ := own_cells hp q
          cases e; exact q2
      exact ⟨a, c, w, [], fun ty => append_none hc ty, by rw [List.append_nil]; exact hp, Upd.refl _ _, by simp⟩
    · obtain ⟨i0, hi0, hz0, hz1, hz2⟩ := info_parts infoPr
      have hmul : (l.length + 0) * 48 ≤ 140737488355328 := Nat.le_trans (Nat.mul_le_mul (show l.length + 0 ≤ 1000 by simpa using hln) (Nat.le_refl _)) (by decide)
      obtain ⟨v', w', hrun, hown, hg, _⟩ := run_append_own (P := Tryz.prog) w B 67 0 TP i0 _ 48 48 Tryz.underlying67 hi0 hz0 hz1 hz2 rfl (by decide) v l.length _ hp ⟨g, 0, none⟩ 0 cap [] (by simp)
        (fun k u hj => by simp at hj) (by simp) (by simp at hln; unfold maxLen; omega) hmul hB
      obtain ⟨a, c', rfl⟩ := own_shape hown
      rw [List.append_nil] at hown
      have hsz := hg.size
      have hos : w'.os = w.os ∧ w'.tape = w.tape ∧ w'.output = w.output := ⟨hg.os, hg.tape, hg.output⟩
      rcases hp.2 with ⟨rfl, _⟩ | ⟨gv, capv, cur2, rfl, hb, hgb, _⟩
      · refine ⟨a, c', w', [], fun _ => hrun, by rw [List.append_nil]; exact hown, ⟨hos.1, hos.2.1, hos.2.2, hsz, fun k hk _ => ?_⟩, by simp⟩
        rw [hg.block k hk (by simp [Value.ownBlock])]
      · refine ⟨a, c', w', [gv], fun _ => hrun, by rw [List.append_nil]; exact hown, ⟨hos.1, hos.2.1, hos.2.2, hsz, fun k hk hS => ?_⟩, fun k hk => by simp at hk; subst hk; exact ⟨hb, ⟨_, hgb⟩, _, rfl⟩⟩
        rw [hg.block k hk (by simp [Value.ownBlock]; rintro rfl; exact hS (by simp))]
  · exact pairs_app hp hx h0 hln hB
end Go.Proofs.YtceakcejchbbjaaGreat
