/-
  A tree of sectors, as its pairs. No program in sight.
-/
import Derived.Test.YtceakcejchbbjaaGreatTrJ
namespace Go.Proofs.YtceakcejchbbjaaGreat
open Go.RowKit

abbrev Pair9 := Bs × Bs
/-- The children of an inner node: between them keys. -/
inductive Kids (P : Nat → List Pair9 → List Nat → Prop) : List Bs → List Nat → List Pair9 → List Nat → Prop
  | one {k : Nat} {l : List Pair9} {S : List Nat} : P k l S → Kids P [] [k] l S
  | more {k : Nat} {l : List Pair9} {S : List Nat} {key : Bs} {ks : List Bs} {ds : List Nat} {l2 : List Pair9} {S2 : List Nat} : P k l S → (∀ p, p ∈ l → ltB p.1 key = true) → (∀ p, p ∈ l2 → ltB p.1 key = false) → Kids P ks ds l2 S2 → Kids P (key :: ks) (k :: ds) (l ++ l2) (S ++ S2)
/-- A tree of so many floors below this sector: its pairs, its sectors. -/
def Shape (C : Nat → Sec) : Bool → Nat → Nat → List Pair9 → List Nat → Prop
  | root, 0, a, l, S => S = [a] ∧ a < 4294967296 ∧ LeafOk (l.map (·.1)) (l.map (·.2)) ∧ C a = encLeaf (l.map (·.1)) (l.map (·.2)) ∧ (if root then 1 else 5) ≤ l.length ∧ (l.map (·.1)).Pairwise (fun x y => ltB x y = true)
  | root, d + 1, a, l, S => a < 4294967296 ∧ ∃ ks ds S', S = a :: S' ∧ InnerOk ks ds ∧ C a = encInner ks ds ∧ (if root then 1 else 6) ≤ ks.length ∧ ks.Pairwise (fun x y => ltB x y = true) ∧ Kids (fun k l S => Shape C false d k l S) ks ds l S'
theorem Kids.mono {P Q : Nat → List Pair9 → List Nat → Prop} {ks : List Bs} {ds : List Nat} {l : List Pair9} {S : List Nat} (h : Kids P ks ds l S) (hpq : ∀ k l' S', (∀ s, s ∈ S' → s ∈ S) → P k l' S' → Q k l' S') : Kids Q ks ds l S := by
  induction h with
  | one h => exact .one (hpq _ _ _ (fun _ q => q) h)
  | more h h1 h2 hk ih => exact .more (hpq _ _ _ (fun s q => List.mem_append_left _ q) h) h1 h2 (ih fun k l' S' hs => hpq k l' S' fun s q => List.mem_append_right _ (hs s q))
/-- Sectors that are not the tree's may turn. -/
theorem Shape.keep {C C' : Nat → Sec} : ∀ {d : Nat} {root : Bool} {a : Nat} {l : List Pair9} {S : List Nat}, Shape C root d a l S → (∀ s, s ∈ S → C' s = C s) → Shape C' root d a l S
  | 0, root, a, l, S, h, hc => by
    obtain ⟨h1, h2, h3, h4, h5⟩ := h
    exact ⟨h1, h2, h3, by rw [hc a (by rw [h1]; simp)]; exact h4, h5⟩
  | d + 1, root, a, l, S, h, hc => by
    obtain ⟨h0, ks, ds, S', h1, h2, h3, h4, h5, h6⟩ := h
    refine ⟨h0, ks, ds, S', h1, h2, by rw [hc a (by rw [h1]; simp)]; exact h3, h4, h5, h6.mono fun k l' S'' hs h => ?_⟩
    exact Shape.keep (d := d) h fun s q => hc s (by rw [h1]; exact List.mem_cons_of_mem _ (hs s q))
theorem Shape.mem {C : Nat → Sec} : ∀ {d : Nat} {root : Bool} {a : Nat} {l : List Pair9} {S : List Nat}, Shape C root d a l S → a ∈ S ∧ a < 4294967296
  | 0, _, _, _, _, h => ⟨by rw [h.1]; simp, h.2.1⟩
  | _ + 1, _, _, _, _, h => by obtain ⟨h0, ks, ds, S', h1, _⟩ := h; exact ⟨by rw [h1]; simp, h0⟩

/-- The number of a key's child, step by step. -/
theorem chK_nil (key : Bs) : chK [] key = 0 := by unfold chK hasK posK; simp
theorem chK_cons (k : Bs) (ks : List Bs) (key : Bs) : chK (k :: ks) key = if ltB k key then chK ks key + 1 else if k = key then 1 else 0 := by
  unfold chK hasK
  cases h : ltB k key
  · have hp : posK (k :: ks) key = 0 := by unfold posK; rw [h]; rfl
    rw [hp]
    by_cases e : k = key
    · simp [e]
    · simp [e]
  · have hp : posK (k :: ks) key = posK ks key + 1 := by rw [posK, h]; rfl
    rw [hp]
    simp only [List.getElem?_cons_succ, if_true]
    split <;> rfl
theorem ltB_of_ge {a b c : Bs} (h : ltB b a = false) (k : ltB b c = true) : ltB a c = true := by
  cases q : ltB a b
  · rw [ltB_total q h]; exact k
  · exact ltB_trans q k
/-- Where a key is looked for, and what a new child, or two, make of it. -/
theorem Kids.at {P : Nat → List Pair9 → List Nat → Prop} {key : Bs} : ∀ {ks : List Bs} {ds : List Nat} {l : List Pair9} {S : List Nat}, Kids P ks ds l S → ks.Pairwise (fun x y => ltB x y = true) →
    ∃ k la lc lb Sa Sc Sb, ds[chK ks key]? = some k ∧ l = la ++ (lc ++ lb) ∧ S = Sa ++ (Sc ++ Sb) ∧ P k lc Sc ∧ (∀ p, p ∈ la → ltB p.1 key = true) ∧ (∀ p, p ∈ lb → ltB key p.1 = true) ∧
      (∀ x, x ∈ ks → (∀ p, p ∈ lc → ltB p.1 x = true) ∧ ltB key x = true ∨ (∀ p, p ∈ lc → ltB p.1 x = false) ∧ ltB key x = false)
  | _, _, l, S, .one (k := k) h, _ => ⟨k, [], l, [], [], S, [], by rw [chK_nil]; rfl, by simp, by simp, h, by simp, by simp, by simp⟩
  | _, _, _, _, .more (k := k) (l := l) (S := S) (key := x) (ks := ks) (ds := ds) (l2 := l2) (S2 := S2) h h1 h2 hk, hp => by
    have hp2 := (List.pairwise_cons.1 hp).2
    have hp1 := (List.pairwise_cons.1 hp).1
    rw [chK_cons]
    have rest : ltB key x = false → ∃ k' la lc lb Sa Sc Sb, (k :: ds)[chK ks key + 1]? = some k' ∧ l ++ l2 = la ++ (lc ++ lb) ∧ S ++ S2 = Sa ++ (Sc ++ Sb) ∧ P k' lc Sc ∧ (∀ p, p ∈ la → ltB p.1 key = true) ∧ (∀ p, p ∈ lb → ltB key p.1 = true) ∧
        (∀ y, y ∈ x :: ks → (∀ p, p ∈ lc → ltB p.1 y = true) ∧ ltB key y = true ∨ (∀ p, p ∈ lc → ltB p.1 y = false) ∧ ltB key y = false) := by
      intro hle
      obtain ⟨k', la, lc, lb, Sa, Sc, Sb, e1, e2, e3, e4, e5, e6, e7⟩ := Kids.at (key := key) hk hp2
      refine ⟨k', l ++ la, lc, lb, S ++ Sa, Sc, Sb, by simpa using e1, by rw [e2]; simp, by rw [e3]; simp, e4, fun p hq => ?_, e6, fun y hy => ?_⟩
      · rcases List.mem_append.1 hq with q | q
        · cases hc : ltB p.1 key
          · have := h1 p q
            have := ltB_of_ge (a := key) hc this
            rw [hle] at this; simp at this
          · rfl
        · exact e5 p q
      · rcases List.mem_cons.1 hy with rfl | hy
        · exact .inr ⟨fun p hq => h2 p (by rw [e2]; simp [hq]), hle⟩
        · exact e7 y hy
    cases hx : ltB x key
    · by_cases e : x = key
      · rw [if_pos e]
        have hz : chK ks key = 0 := by
          cases ks with
          | nil => exact chK_nil key
          | cons y ks =>
            have := hp1 y (by simp)
            rw [e] at this
            rw [chK_cons, ltB_asymm this]
            simp only [Bool.false_eq_true, if_false]
            rw [if_neg (by rintro rfl; rw [ltB_irrefl] at this; simp at this)]
        have := rest (by rw [e]; exact ltB_irrefl _)
        rw [hz] at this
        exact this
      · rw [if_neg e]
        have hlt : ltB key x = true := by
          cases q : ltB key x
          · exact absurd (ltB_total hx q) e
          · rfl
        refine ⟨k, [], l, l2, [], S, S2, rfl, by simp, by simp, h, by simp, fun p hq => ?_, fun y hy => .inl ⟨fun p hq => ?_, ?_⟩⟩
        · have := h2 p hq
          cases q : ltB key p.1
          · have := ltB_of_ge (a := p.1) q hlt
            rw [h2 p hq] at this; simp at this
          · rfl
        · rcases List.mem_cons.1 hy with rfl | hy
          · exact h1 p hq
          · exact ltB_trans (h1 p hq) (hp1 y hy)
        · rcases List.mem_cons.1 hy with rfl | hy
          · exact hlt
          · exact ltB_trans hlt (hp1 y hy)
    · simp only [if_true]
      exact rest (ltB_asymm hx)

end Go.Proofs.YtceakcejchbbjaaGreat
