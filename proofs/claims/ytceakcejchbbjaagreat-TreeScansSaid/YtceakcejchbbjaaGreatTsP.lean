/-
  cofferlaw9.TreeScans.
-/
import Derived.Test.YtceakcejchbbjaaGreatTsO
import Derived.Test.YtceakcejchbbjaaGreatTsH
set_option linter.unusedSimpArgs false
set_option linter.unusedVariables false
namespace Go.Proofs.YtceakcejchbbjaaGreat
open Go.RowKit Go.MapKept Go.ChangeMaps

/-- What is left behind some of a tree's pairs, as a scan tells it. -/
theorem scan_next {ks : List Int} {m q : Nat} {fr : Bs} (hf : ((treeL [] ks).filter fun x => !ltB x.1 fr) = (treeL [] ks).drop q) : scanL fr m (treeL [] ks) = ((treeL [] ks).drop q).take m := by
  unfold scanL; rw [hf]
theorem scan_all {ks : List Int} (hn : (treeL [] ks).length ≤ 1000) : scanL z32 1000 (treeL [] ks) = treeL [] ks := by
  unfold scanL
  rw [filter_zero (fun p hp => (treeL_low hp).2.1), List.take_of_length_le hn]
/-- The key behind the last of a full piece. -/
theorem piece_last {ks : List Int} {m q : Nat} (hm : 1 ≤ m) (hq : q + m ≤ (treeL [] ks).length) : ∃ (p : Pair9) (c : UInt8), (((treeL [] ks).drop q).take m)[m - 1]? = some p ∧ p.1.length = 32 ∧ p.2.length = 16 ∧ p.1[30]? = some 0 ∧ p.1[31]? = some c ∧ (nextK p.1 c).length = 32 ∧
    ((treeL [] ks).filter fun x => !ltB x.1 (nextK p.1 c)) = (treeL [] ks).drop (q + m) := by
  have hlt : q + (m - 1) < (treeL [] ks).length := by omega
  obtain ⟨p, hp⟩ : ∃ p, (treeL [] ks)[q + (m - 1)]? = some p := ⟨_, List.getElem?_eq_getElem hlt⟩
  obtain ⟨⟨pre, c, hpre, he⟩, h1, h2⟩ := treeL_low (List.mem_of_getElem? hp)
  have hi : incB p.1 = some (nextK p.1 c) := by rw [he]; exact incB_next hpre
  have hs := sorted_treeL ks [] (by simp)
  have hfd := filter_drop hs (fun x hx => (treeL_low hx).2.1) hp hi
  refine ⟨p, c, ?_, h1, h2, ?_, ?_, ?_, ?_⟩
  · rw [List.getElem?_take_of_lt (by omega), List.getElem?_drop]; exact hp
  · rw [he, List.getElem?_append_right (by omega), hpre]; rfl
  · rw [he, List.getElem?_append_right (by omega), hpre]; rfl
  · rw [incB_length hi]; exact h1
  · rw [hfd, show q + (m - 1) + 1 = q + m by omega]
end Go.Proofs.YtceakcejchbbjaaGreat
