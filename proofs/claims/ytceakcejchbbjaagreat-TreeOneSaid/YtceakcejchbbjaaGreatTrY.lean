/-
  A tree on sectors of which it is known which are taken; trees grown key by key. No program in sight.
-/
import Derived.Test.YtceakcejchbbjaaGreatTrX
namespace Go.Proofs.YtceakcejchbbjaaGreat
open Go.RowKit

/-- A tree; nothing else is taken. -/
structure TreeOn (C : Nat → Sec) (h r : Nat) (l : List Pair9) (S : List Nat) : Prop where
  at_ : TreeAt C r l S
  nd : S.Nodup
  low : ∀ s, s ∈ S → 4 ≤ s ∧ s < h
  T : ∀ i, bitB (fixB (C 1)) i = (decide (i < 4) || decide (i ∈ S))
theorem TreeOn.sgT {g : Sg} {M : Nat → Option Sec} {h r : Nat} {l : List Pair9} {S : List Nat} (ht : TreeOn (g.cur M) h r l S) (i : Nat) : g.T M i = (decide (i < 4) || decide (i ∈ S)) := ht.T i
theorem TreeOn.held {g : Sg} {M : Nat → Option Sec} {r : Nat} {l : List Pair9} {S : List Nat} (ht : TreeOn (g.cur M) g.h r l S) : Held9 g M S :=
  ⟨ht.nd, ht.low, fun s hs => by rw [ht.sgT]; simp [hs]⟩
theorem leftN_four : ∀ h, leftN (fun i => decide (i < 4)) h = h - 4
  | 0 => rfl
  | h + 1 => by
    unfold leftN
    rw [leftN_four h]
    by_cases e : h < 4
    · rw [decide_eq_true e]; simp; omega
    · rw [decide_eq_false e]; simp; omega
theorem leftN_list {h : Nat} : ∀ {S : List Nat}, S.Nodup → (∀ s, s ∈ S → 4 ≤ s ∧ s < h) → leftN (fun i => decide (i < 4) || decide (i ∈ S)) h + S.length = h - 4
  | [], _, _ => by
    have : (fun i => decide (i < 4) || decide (i ∈ ([] : List Nat))) = fun i => decide (i < 4) := by funext i; simp
    rw [this, leftN_four]; simp
  | s :: S, hn, hl => by
    have ih := leftN_list (h := h) (List.nodup_cons.1 hn).2 (fun x hx => hl x (List.mem_cons_of_mem _ hx))
    have hs := hl s (by simp)
    have := leftN_take (T := fun i => decide (i < 4) || decide (i ∈ S)) (T' := fun i => decide (i < 4) || decide (i ∈ s :: S)) (s := s) (fun i => by
      by_cases e : i = s
      · subst e; simp
      · simp [e]) (by simp [(List.nodup_cons.1 hn).1]; omega) h
    rw [if_pos hs.2] at this
    simp only [List.length_cons]
    omega
theorem TreeOn.left {g : Sg} {M : Nat → Option Sec} {r : Nat} {l : List Pair9} {S : List Nat} (ht : TreeOn (g.cur M) g.h r l S) : leftN (g.T M) g.h + S.length = g.h - 4 := by
  have : g.T M = fun i => decide (i < 4) || decide (i ∈ S) := funext ht.sgT
  rw [this]
  exact leftN_list ht.nd ht.low
theorem TreeOn.put {g : Sg} {M M' : Nat → Option Sec} {r r' : Nat} {l : List Pair9} {S : List Nat} {key v : Bs} {m : Nat} (ht : TreeOn (g.cur M) g.h r l S) (hp : PutTop g M M' r r' l S key v m) : ∃ S', TreeOn (g.cur M') g.h r' (insL l key v) S' ∧ Grown g M M' S S' 4 m := by
  obtain ⟨S', h1, _, h3, _⟩ := hp
  have hh := h3.held ht.held
  refine ⟨S', ⟨h1, hh.nd, hh.low, fun i => ?_⟩, h3⟩
  show g.T M' i = _
  rw [h3.T, ht.sgT]
  by_cases e : i ∈ S
  · simp [e, h3.sub i e]
  · simp [e]
theorem keys_perm {M : Nat → Option Sec} {h : Nat} {L : List Nat} (ho : MOk M h) (hL : ∀ i, (M i).isSome = true → i ∈ L) : cntM M h ≤ L.length := by
  unfold cntM
  exact (keysM_nodup M h).length_le_of_subset fun i hi => hL i ((mem_keysM ho).1 hi)
/-- Which sectors are touched at most. -/
theorem Grown.some {g : Sg} {M M' : Nat → Option Sec} {S S' : List Nat} {n m : Nat} (h : Grown g M M' S S' n m) (hM : ∀ i, (M i).isSome = true → i = 1 ∨ i ∈ S) : ∀ i, (M' i).isSome = true → i = 1 ∨ i ∈ S' := fun i hi => by
  by_cases e1 : i = 1
  · exact .inl e1
  · by_cases e2 : i ∈ S'
    · exact .inr e2
    · rw [h.keep i e2 e1] at hi
      exact .inr (((hM i hi).resolve_left e1) |> h.sub i)
theorem cnt_of_some {M : Nat → Option Sec} {h : Nat} {S : List Nat} (ho : MOk M h) (hM : ∀ i, (M i).isSome = true → i = 1 ∨ i ∈ S) : cntM M h + c1M M ≤ S.length + 2 := by
  have := keys_perm (L := 1 :: S) ho (fun i hi => by rcases hM i hi with q | q <;> simp [q])
  have h2 : c1M M ≤ 1 := by unfold c1M; split <;> omega
  simp only [List.length_cons] at this
  omega
def valB (k : Int) : Bs := z16.set 0 (u8I k)
theorem valB_length (k : Int) : (valB k).length = 16 := by unfold valB; rw [List.length_set]; rfl
/-- The tree's pairs, behind these keys. -/
def treeL (l : List Pair9) (ks : List Int) : List Pair9 := ks.foldl (fun l k => insL l (keyB k) (valB k)) l
theorem treeL_snoc (l : List Pair9) (ks : List Int) (k : Int) : treeL l (ks ++ [k]) = insL (treeL l ks) (keyB k) (valB k) := by unfold treeL; rw [List.foldl_append]; rfl
theorem insL_len_le (l : List Pair9) (key v : Bs) : (insL l key v).length ≤ l.length + 1 := by rw [insL_length]; split <;> omega
theorem treeL_len : ∀ (ks : List Int) (l : List Pair9), (treeL l ks).length ≤ l.length + ks.length
  | [], l => by simp [treeL]
  | k :: ks, l => by
    have := treeL_len ks (insL l (keyB k) (valB k))
    have h2 := insL_len_le l (keyB k) (valB k)
    show (treeL (insL l (keyB k) (valB k)) ks).length ≤ _
    simp only [List.length_cons]; omega
theorem sorted_treeL : ∀ (ks : List Int) (l : List Pair9), (l.map (·.1)).Pairwise (fun x y => ltB x y = true) → ((treeL l ks).map (·.1)).Pairwise (fun x y => ltB x y = true)
  | [], _, h => h
  | _ :: ks, _, h => sorted_treeL ks _ (insL_sorted h)
theorem lookL_some_ins {l : List Pair9} (hs : (l.map (·.1)).Pairwise (fun x y => ltB x y = true)) {key v k : Bs} (h : lookL l k ≠ none) : lookL (insL l key v) k ≠ none := by
  by_cases e : k = key
  · subst e; rw [lookL_ins]; simp
  · rw [lookL_ne e l hs]; exact h
theorem treeL_keep : ∀ (ks : List Int) (l : List Pair9), (l.map (·.1)).Pairwise (fun x y => ltB x y = true) → ∀ {k : Bs}, lookL l k ≠ none → lookL (treeL l ks) k ≠ none
  | [], _, _, _, h => h
  | _ :: ks, _, hs, _, h => treeL_keep ks _ (insL_sorted hs) (lookL_some_ins hs h)
theorem treeL_has : ∀ (ks : List Int) (l : List Pair9), (l.map (·.1)).Pairwise (fun x y => ltB x y = true) → ∀ {k : Int}, k ∈ ks → lookL (treeL l ks) (keyB k) ≠ none
  | [], _, _, _, h => by simp at h
  | k0 :: ks, l, hs, k, h => by
    rcases List.mem_cons.1 h with rfl | h
    · exact treeL_keep ks _ (insL_sorted hs) (by rw [lookL_ins]; simp)
    · exact treeL_has ks _ (insL_sorted hs) h

end Go.Proofs.YtceakcejchbbjaaGreat
