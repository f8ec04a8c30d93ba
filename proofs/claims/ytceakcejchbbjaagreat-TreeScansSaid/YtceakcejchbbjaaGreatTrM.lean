/-
  A tree of sectors, as its pairs. No program in sight. A child of a node is turned, or parted. No program in sight. A pair is put into a rising list; a node is parted. No program in sight.
-/
import Derived.Test.YtceakcejchbbjaaGreatTrJ
section
namespace Go.Proofs.YtceakcejchbbjaaGreat
open Go.RowKit

abbrev Pair9 := Bs × Bs
/-- The children of an inner node: between them keys. -/
inductive Kids (P : Nat → List Pair9 → List Nat → Prop) : List Bs → List Nat → List Pair9 → List Nat → Prop
  | one {k : Nat} {l : List Pair9} {S : List Nat} : P k l S → Kids P [] [k] l S
  | more {k : Nat} {l : List Pair9} {S : List Nat} {key : Bs} {ks : List Bs} {ds : List Nat} {l2 : List Pair9} {S2 : List Nat} : P k l S → (∀ p, p ∈ l → ltB p.1 key = true) → (∀ p, p ∈ l2 → ltB p.1 key = false) → Kids P ks ds l2 S2 → Kids P (key :: ks) (k :: ds) (l ++ l2) (S ++ S2)
/-- A tree of so many floors below this sector: its pairs, its sectors. -/
def Shape (C : Nat → Sec) : Bool → Nat → Nat → List Pair9 → List Nat → Prop
  | root, 0, a, l, S => S = [a] ∧ a < 4294967296 ∧ LeafOk (l.map (·.1)) (l.map (·.2)) ∧ C a = encLeaf (l.map (·.1)) (l.map (·.2)) ∧ (if root then 1 else 5) ≤ l.length ∧ (l.map (·.1)).Pairwise (fun x y => ltB x y = true)
  | root, d + 1, a, l, S => a < 4294967296 ∧ ∃ ks ds S', S = a :: S' ∧ InnerOk ks ds ∧ C a = encInner ks ds ∧ (if root then 1 else 6) ≤ ks.length ∧ ks.Pairwise (fun x y => ltB x y = true) ∧ Kids (fun k l S => Shape C false d k l S) ks ds l S'
theorem Kids.mono {P Q : Nat → List Pair9 → List Nat → Prop} {ks : List Bs} {ds : List Nat} {l : List Pair9} {S : List Nat} (h : Kids P ks ds l S) (hpq : ∀ k l' S', (∀ s, s ∈ S' → s ∈ S) → P k l' S' → Q k l' S') : Kids Q ks ds l S := by
  induction h with
  | one h => exact .one (hpq _ _ _ (fun _ q => q) h)
  | more h h1 h2 hk ih => exact .more (hpq _ _ _ (fun s q => List.mem_append_left _ q) h) h1 h2 (ih fun k l' S' hs => hpq k l' S' fun s q => List.mem_append_right _ (hs s q))
/-- Sectors that are not the tree's may turn. -/
theorem Shape.keep {C C' : Nat → Sec} : ∀ {d : Nat} {root : Bool} {a : Nat} {l : List Pair9} {S : List Nat}, Shape C root d a l S → (∀ s, s ∈ S → C' s = C s) → Shape C' root d a l S
  | 0, root, a, l, S, h, hc => by
    obtain ⟨h1, h2, h3, h4, h5⟩ := h
    exact ⟨h1, h2, h3, by rw [hc a (by rw [h1]; simp)]; exact h4, h5⟩
  | d + 1, root, a, l, S, h, hc => by
    obtain ⟨h0, ks, ds, S', h1, h2, h3, h4, h5, h6⟩ := h
    refine ⟨h0, ks, ds, S', h1, h2, by rw [hc a (by rw [h1]; simp)]; exact h3, h4, h5, h6.mono fun k l' S'' hs h => ?_⟩
    exact Shape.keep (d := d) h fun s q => hc s (by rw [h1]; exact List.mem_cons_of_mem _ (hs s q))
theorem Shape.mem {C : Nat → Sec} : ∀ {d : Nat} {root : Bool} {a : Nat} {l : List Pair9} {S : List Nat}, Shape C root d a l S → a ∈ S ∧ a < 4294967296
  | 0, _, _, _, _, h => ⟨by rw [h.1]; simp, h.2.1⟩
  | _ + 1, _, _, _, _, h => by obtain ⟨h0, ks, ds, S', h1, _⟩ := h; exact ⟨by rw [h1]; simp, h0⟩

/-- The number of a key's child, step by step. -/
theorem chK_nil (key : Bs) : chK [] key = 0 := by unfold chK hasK posK; simp
theorem chK_cons (k : Bs) (ks : List Bs) (key : Bs) : chK (k :: ks) key = if ltB k key then chK ks key + 1 else if k = key then 1 else 0 := by
  unfold chK hasK
  cases h : ltB k key
  · have hp : posK (k :: ks) key = 0 := by unfold posK; rw [h]; rfl
    rw [hp]
    by_cases e : k = key
    · simp [e]
    · simp [e]
  · have hp : posK (k :: ks) key = posK ks key + 1 := by rw [posK, h]; rfl
    rw [hp]
    simp only [List.getElem?_cons_succ, if_true]
    split <;> rfl
theorem ltB_of_ge {a b c : Bs} (h : ltB b a = false) (k : ltB b c = true) : ltB a c = true := by
  cases q : ltB a b
  · rw [ltB_total q h]; exact k
  · exact ltB_trans q k
/-- Where a key is looked for, and what a new child, or two, make of it. -/
theorem Kids.at {P : Nat → List Pair9 → List Nat → Prop} {key : Bs} : ∀ {ks : List Bs} {ds : List Nat} {l : List Pair9} {S : List Nat}, Kids P ks ds l S → ks.Pairwise (fun x y => ltB x y = true) →
    ∃ k la lc lb Sa Sc Sb, ds[chK ks key]? = some k ∧ l = la ++ (lc ++ lb) ∧ S = Sa ++ (Sc ++ Sb) ∧ P k lc Sc ∧ (∀ p, p ∈ la → ltB p.1 key = true) ∧ (∀ p, p ∈ lb → ltB key p.1 = true) ∧
      (∀ x, x ∈ ks → (∀ p, p ∈ lc → ltB p.1 x = true) ∧ ltB key x = true ∨ (∀ p, p ∈ lc → ltB p.1 x = false) ∧ ltB key x = false)
  | _, _, l, S, .one (k := k) h, _ => ⟨k, [], l, [], [], S, [], by rw [chK_nil]; rfl, by simp, by simp, h, by simp, by simp, by simp⟩
  | _, _, _, _, .more (k := k) (l := l) (S := S) (key := x) (ks := ks) (ds := ds) (l2 := l2) (S2 := S2) h h1 h2 hk, hp => by
    have hp2 := (List.pairwise_cons.1 hp).2
    have hp1 := (List.pairwise_cons.1 hp).1
    rw [chK_cons]
    have rest : ltB key x = false → ∃ k' la lc lb Sa Sc Sb, (k :: ds)[chK ks key + 1]? = some k' ∧ l ++ l2 = la ++ (lc ++ lb) ∧ S ++ S2 = Sa ++ (Sc ++ Sb) ∧ P k' lc Sc ∧ (∀ p, p ∈ la → ltB p.1 key = true) ∧ (∀ p, p ∈ lb → ltB key p.1 = true) ∧
        (∀ y, y ∈ x :: ks → (∀ p, p ∈ lc → ltB p.1 y = true) ∧ ltB key y = true ∨ (∀ p, p ∈ lc → ltB p.1 y = false) ∧ ltB key y = false) := by
      intro hle
      obtain ⟨k', la, lc, lb, Sa, Sc, Sb, e1, e2, e3, e4, e5, e6, e7⟩ := Kids.at (key := key) hk hp2
      refine ⟨k', l ++ la, lc, lb, S ++ Sa, Sc, Sb, by simpa using e1, by rw [e2]; simp, by rw [e3]; simp, e4, fun p hq => ?_, e6, fun y hy => ?_⟩
      · rcases List.mem_append.1 hq with q | q
        · cases hc : ltB p.1 key
          · have := h1 p q
            have := ltB_of_ge (a := key) hc this
            rw [hle] at this; simp at this
          · rfl
        · exact e5 p q
      · rcases List.mem_cons.1 hy with rfl | hy
        · exact .inr ⟨fun p hq => h2 p (by rw [e2]; simp [hq]), hle⟩
        · exact e7 y hy
    cases hx : ltB x key
    · by_cases e : x = key
      · rw [if_pos e]
        have hz : chK ks key = 0 := by
          cases ks with
          | nil => exact chK_nil key
          | cons y ks =>
            have := hp1 y (by simp)
            rw [e] at this
            rw [chK_cons, ltB_asymm this]
            simp only [Bool.false_eq_true, if_false]
            rw [if_neg (by rintro rfl; rw [ltB_irrefl] at this; simp at this)]
        have := rest (by rw [e]; exact ltB_irrefl _)
        rw [hz] at this
        exact this
      · rw [if_neg e]
        have hlt : ltB key x = true := by
          cases q : ltB key x
          · exact absurd (ltB_total hx q) e
          · rfl
        refine ⟨k, [], l, l2, [], S, S2, rfl, by simp, by simp, h, by simp, fun p hq => ?_, fun y hy => .inl ⟨fun p hq => ?_, ?_⟩⟩
        · have := h2 p hq
          cases q : ltB key p.1
          · have := ltB_of_ge (a := p.1) q hlt
            rw [h2 p hq] at this; simp at this
          · rfl
        · rcases List.mem_cons.1 hy with rfl | hy
          · exact h1 p hq
          · exact ltB_trans (h1 p hq) (hp1 y hy)
        · rcases List.mem_cons.1 hy with rfl | hy
          · exact hlt
          · exact ltB_trans hlt (hp1 y hy)
    · simp only [if_true]
      exact rest (ltB_asymm hx)

end Go.Proofs.YtceakcejchbbjaaGreat
end

section
namespace Go.Proofs.YtceakcejchbbjaaGreat
open Go.RowKit

def insAt {α : Type} (l : List α) (i : Nat) (x : α) : List α := l.take i ++ x :: l.drop i
theorem insAt_zero {α : Type} (l : List α) (x : α) : insAt l 0 x = x :: l := by simp [insAt]
theorem insAt_succ {α : Type} (a : α) (l : List α) (i : Nat) (x : α) : insAt (a :: l) (i + 1) x = a :: insAt l i x := by simp [insAt]
theorem insAt_length {α : Type} (l : List α) (i : Nat) (x : α) (hi : i ≤ l.length) : (insAt l i x).length = l.length + 1 := by simp [insAt]; omega
theorem mem_insAt {α : Type} {l : List α} {i : Nat} {x y : α} (h : y ∈ insAt l i x) : y = x ∨ y ∈ l := by
  unfold insAt at h
  rcases List.mem_append.1 h with q | q
  · exact .inr (List.mem_of_mem_take q)
  · rcases List.mem_cons.1 q with q | q
    · exact .inl q
    · exact .inr (List.mem_of_mem_drop q)
/-- Pairs that may stand below the child where key is looked for. -/
def Fits (ks : List Bs) (key : Bs) (l : List Pair9) : Prop := ∀ x, x ∈ ks → (ltB key x = true → ∀ p, p ∈ l → ltB p.1 x = true) ∧ (ltB key x = false → ∀ p, p ∈ l → ltB p.1 x = false)
/-- A new key that may stand there. -/
def FitK (ks : List Bs) (key k' : Bs) : Prop := ∀ x, x ∈ ks → (ltB key x = true → ltB k' x = true) ∧ (ltB key x = false → ltB x k' = true)
theorem Fits.tail {x : Bs} {ks : List Bs} {key : Bs} {l : List Pair9} (h : Fits (x :: ks) key l) : Fits ks key l := fun y hy => h y (List.mem_cons_of_mem _ hy)
theorem FitK.tail {x : Bs} {ks : List Bs} {key k' : Bs} (h : FitK (x :: ks) key k') : FitK ks key k' := fun y hy => h y (List.mem_cons_of_mem _ hy)
theorem pair_ins {key k' : Bs} : ∀ {ks : List Bs}, ks.Pairwise (fun x y => ltB x y = true) → FitK ks key k' → (insAt ks (chK ks key) k').Pairwise (fun x y => ltB x y = true)
  | [], _, _ => by rw [chK_nil, insAt_zero]; simp
  | x :: ks, hp, hf => by
    have hp1 := (List.pairwise_cons.1 hp).1
    have hp2 := (List.pairwise_cons.1 hp).2
    rw [chK_cons]
    have step : ltB key x = false → (insAt (x :: ks) (chK ks key + 1) k').Pairwise (fun x y => ltB x y = true) := fun hle => by
      rw [insAt_succ]
      refine List.pairwise_cons.2 ⟨fun y hy => ?_, pair_ins hp2 hf.tail⟩
      rcases mem_insAt hy with rfl | q
      · exact (hf x (by simp)).2 hle
      · exact hp1 y q
    cases hx : ltB x key
    · by_cases e : x = key
      · rw [if_pos e]
        have hz : chK ks key = 0 := by
          cases ks with
          | nil => exact chK_nil key
          | cons y ks =>
            have := hp1 y (by simp)
            rw [e] at this
            rw [chK_cons, ltB_asymm this]
            simp only [Bool.false_eq_true, if_false]
            rw [if_neg (by rintro rfl; rw [ltB_irrefl] at this; simp at this)]
        have := step (by rw [e]; exact ltB_irrefl _)
        rw [hz] at this
        exact this
      · rw [if_neg e]
        have hlt : ltB key x = true := by
          cases q : ltB key x
          · exact absurd (ltB_total hx q) e
          · rfl
        show (insAt (x :: ks) 0 k').Pairwise _
        rw [insAt_zero]
        refine List.pairwise_cons.2 ⟨fun y hy => ?_, hp⟩
        rcases List.mem_cons.1 hy with rfl | q
        · exact (hf y (by simp)).1 hlt
        · exact (hf y (by simp [q])).1 (ltB_trans hlt (hp1 y q))
    · simp only [if_true]
      exact step (ltB_asymm hx)

/-- Where a key is looked for; and what stands when that child is turned, or parted. -/
def Turn (P : Nat → List Pair9 → List Nat → Prop) (key : Bs) (ks : List Bs) (ds : List Nat) (l : List Pair9) (S : List Nat) (i : Nat) : Prop :=
  ∃ k la lc lb Sa Sc Sb, ds[i]? = some k ∧ l = la ++ (lc ++ lb) ∧ S = Sa ++ (Sc ++ Sb) ∧ P k lc Sc ∧ (∀ p, p ∈ la → ltB p.1 key = true) ∧ (∀ p, p ∈ lb → ltB key p.1 = true) ∧ Fits ks key lc ∧
    (∀ (Q : Nat → List Pair9 → List Nat → Prop) lc' Sc', (∀ k l S', P k l S' → (∀ s, s ∈ S' → s ∈ Sa ∨ s ∈ Sb) → Q k l S') → Q k lc' Sc' → Fits ks key lc' → Kids Q ks ds (la ++ (lc' ++ lb)) (Sa ++ (Sc' ++ Sb))) ∧
    (∀ (Q : Nat → List Pair9 → List Nat → Prop) k2 k' l1 S1 l2 S2, (∀ k l S', P k l S' → (∀ s, s ∈ S' → s ∈ Sa ∨ s ∈ Sb) → Q k l S') → Q k l1 S1 → Q k2 l2 S2 → (∀ p, p ∈ l1 → ltB p.1 k' = true) → (∀ p, p ∈ l2 → ltB p.1 k' = false) → Fits ks key (l1 ++ l2) → FitK ks key k' →
      Kids Q (insAt ks i k') (insAt ds (i + 1) k2) (la ++ ((l1 ++ l2) ++ lb)) (Sa ++ ((S1 ++ S2) ++ Sb)))
theorem Kids.turn {P : Nat → List Pair9 → List Nat → Prop} {key : Bs} : ∀ {ks : List Bs} {ds : List Nat} {l : List Pair9} {S : List Nat}, Kids P ks ds l S → ks.Pairwise (fun x y => ltB x y = true) → Turn P key ks ds l S (chK ks key)
  | _, _, l, S, .one (k := k) h, _ => by
    rw [chK_nil]
    refine ⟨k, [], l, [], [], S, [], rfl, by simp, by simp, h, by simp, by simp, fun x hx => by simp at hx, fun Q lc' Sc' _ hq _ => by simpa using Kids.one hq, fun Q k2 k' l1 S1 l2 S2 _ h1 h2 b1 b2 _ _ => ?_⟩
    have := Kids.more h1 b1 b2 (Kids.one h2)
    simpa [insAt] using this
  | _, _, _, _, .more (k := k) (l := l) (S := S) (key := x) (ks := ks) (ds := ds) (l2 := l2) (S2 := S2) h h1 h2 hk, hp => by
    have hp2 := (List.pairwise_cons.1 hp).2
    have hp1 := (List.pairwise_cons.1 hp).1
    rw [chK_cons]
    have rest : ltB key x = false → Turn P key (x :: ks) (k :: ds) (l ++ l2) (S ++ S2) (chK ks key + 1) := by
      intro hle
      obtain ⟨k', la, lc, lb, Sa, Sc, Sb, e1, e2, e3, e4, e5, e6, e7, t1, t2⟩ := Kids.turn (key := key) hk hp2
      refine ⟨k', l ++ la, lc, lb, S ++ Sa, Sc, Sb, by simpa using e1, by rw [e2]; simp, by rw [e3]; simp, e4, fun p hq => ?_, e6, fun y hy => ?_, fun Q lc' Sc' ho hq hf => ?_, fun Q k2 kn l1 S1 l2' S2' ho q1 q2 b1 b2 hf hfk => ?_⟩
      · rcases List.mem_append.1 hq with q | q
        · cases hc : ltB p.1 key
          · have := ltB_of_ge (a := key) hc (h1 p q)
            rw [hle] at this; simp at this
          · rfl
        · exact e5 p q
      · rcases List.mem_cons.1 hy with rfl | hy
        · exact ⟨fun q => by rw [hle] at q; simp at q, fun _ p hq => h2 p (by rw [e2]; simp [hq])⟩
        · exact e7 y hy
      · have hK := t1 Q lc' Sc' (fun k l S' hP hs => ho k l S' hP fun s q => by rcases hs s q with r | r <;> simp [r]) hq hf.tail
        have := Kids.more (ho _ _ _ h (fun s q => .inl (by simp [q]))) h1 (fun p hq => ?_) hK
        · simpa using this
        · rcases List.mem_append.1 hq with q | q
          · exact h2 p (by rw [e2]; simp [q])
          · rcases List.mem_append.1 q with q | q
            · exact (hf x (by simp)).2 hle p q
            · exact h2 p (by rw [e2]; simp [q])
      · have hK := t2 Q k2 kn l1 S1 l2' S2' (fun k l S' hP hs => ho k l S' hP fun s q => by rcases hs s q with r | r <;> simp [r]) q1 q2 b1 b2 hf.tail hfk.tail
        have := Kids.more (ho _ _ _ h (fun s q => .inl (by simp [q]))) h1 (fun p hq => ?_) hK
        · rw [insAt_succ, insAt_succ]
          simpa using this
        · rcases List.mem_append.1 hq with q | q
          · exact h2 p (by rw [e2]; simp [q])
          · rcases List.mem_append.1 q with q | q
            · exact (hf x (by simp)).2 hle p q
            · exact h2 p (by rw [e2]; simp [q])
    cases hx : ltB x key
    · by_cases e : x = key
      · rw [if_pos e]
        have hz : chK ks key = 0 := by
          cases ks with
          | nil => exact chK_nil key
          | cons y ks =>
            have := hp1 y (by simp)
            rw [e] at this
            rw [chK_cons, ltB_asymm this]
            simp only [Bool.false_eq_true, if_false]
            rw [if_neg (by rintro rfl; rw [ltB_irrefl] at this; simp at this)]
        have := rest (by rw [e]; exact ltB_irrefl _)
        rw [hz] at this
        exact this
      · rw [if_neg e]
        have hlt : ltB key x = true := by
          cases q : ltB key x
          · exact absurd (ltB_total hx q) e
          · rfl
        have hgt : ∀ p, p ∈ l2 → ltB key p.1 = true := fun p hq => by
          cases q : ltB key p.1
          · have := ltB_of_ge (a := p.1) q hlt
            rw [h2 p hq] at this; simp at this
          · rfl
        refine ⟨k, [], l, l2, [], S, S2, rfl, by simp, by simp, h, by simp, hgt, fun y hy => ⟨fun _ p hq => ?_, fun q => ?_⟩, fun Q lc' Sc' ho hq hf => ?_, fun Q k2 kn l1 S1 l2' S2' ho q1 q2 b1 b2 hf hfk => ?_⟩
        · rcases List.mem_cons.1 hy with rfl | hy
          · exact h1 p hq
          · exact ltB_trans (h1 p hq) (hp1 y hy)
        · rcases List.mem_cons.1 hy with rfl | hy
          · rw [hlt] at q; simp at q
          · rw [ltB_trans hlt (hp1 y hy)] at q; simp at q
        · have := Kids.more hq (fun p hq => (hf x (by simp)).1 hlt p hq) h2 (hk.mono fun k l' S' hs hP => ho k l' S' hP fun s q => .inr (hs s q))
          simpa using this
        · have hK := hk.mono (Q := Q) fun k l' S' hs hP => ho k l' S' hP fun s q => .inr (hs s q)
          have hin := Kids.more q2 (fun p hq => (hf x (by simp)).1 hlt p (by simp [hq])) h2 hK
          have := Kids.more q1 b1 (fun p hq => ?_) hin
          · simp only [Bool.false_eq_true, if_false]
            rw [insAt_zero, insAt_succ, insAt_zero]
            simpa using this
          · rcases List.mem_append.1 hq with q | q
            · exact b2 p q
            · cases r : ltB p.1 kn
              · rfl
              · have := ltB_trans r ((hfk x (by simp)).1 hlt)
                rw [h2 p q] at this; simp at this
    · simp only [if_true]
      exact rest (ltB_asymm hx)

end Go.Proofs.YtceakcejchbbjaaGreat
end

section
namespace Go.Proofs.YtceakcejchbbjaaGreat
open Go.RowKit

/-- A pair is put into a list. -/
def insL : List Pair9 → Bs → Bs → List Pair9
  | [], key, v => [(key, v)]
  | p :: l, key, v => if ltB p.1 key then p :: insL l key v else if p.1 = key then (key, v) :: l else (key, v) :: p :: l
theorem insL_keys : ∀ (l : List Pair9) (key v : Bs), (insL l key v).map (·.1) = if hasK (l.map (·.1)) key then l.map (·.1) else insAt (l.map (·.1)) (posK (l.map (·.1)) key) key
  | [], key, v => by simp [insL, hasK, posK, insAt]
  | p :: l, key, v => by
    have ih := insL_keys l key v
    unfold insL
    cases h : ltB p.1 key
    · have hp : posK ((p :: l).map (·.1)) key = 0 := by rw [List.map_cons, posK, h]; rfl
      have hh : hasK ((p :: l).map (·.1)) key = decide (p.1 = key) := by unfold hasK; rw [hp]; simp
      rw [hp, hh]
      by_cases e : p.1 = key
      · simp [e]
      · simp [e, insAt]
    · have hp : posK ((p :: l).map (·.1)) key = posK (l.map (·.1)) key + 1 := by rw [List.map_cons, posK, h]; rfl
      have hh : hasK ((p :: l).map (·.1)) key = hasK (l.map (·.1)) key := by unfold hasK; rw [hp]; simp
      rw [hp, hh]
      simp only [if_true, List.map_cons, ih]
      split
      · rfl
      · rw [insAt_succ]
theorem insL_vals : ∀ (l : List Pair9) (key v : Bs), (insL l key v).map (·.2) = if hasK (l.map (·.1)) key then (l.map (·.2)).set (posK (l.map (·.1)) key) v else insAt (l.map (·.2)) (posK (l.map (·.1)) key) v
  | [], key, v => by simp [insL, hasK, posK, insAt]
  | p :: l, key, v => by
    have ih := insL_vals l key v
    unfold insL
    cases h : ltB p.1 key
    · have hp : posK ((p :: l).map (·.1)) key = 0 := by rw [List.map_cons, posK, h]; rfl
      have hh : hasK ((p :: l).map (·.1)) key = decide (p.1 = key) := by unfold hasK; rw [hp]; simp
      rw [hp, hh]
      by_cases e : p.1 = key
      · simp [e]
      · simp [e, insAt]
    · have hp : posK ((p :: l).map (·.1)) key = posK (l.map (·.1)) key + 1 := by rw [List.map_cons, posK, h]; rfl
      have hh : hasK ((p :: l).map (·.1)) key = hasK (l.map (·.1)) key := by unfold hasK; rw [hp]; simp
      rw [hp, hh]
      simp only [if_true, List.map_cons, ih]
      split
      · simp
      · rw [insAt_succ]
theorem insL_mem {l : List Pair9} {key v : Bs} : ∀ {p : Pair9}, p ∈ insL l key v → p = (key, v) ∨ p ∈ l := by
  induction l with
  | nil => intro p h; simp [insL] at h; exact .inl h
  | cons q l ih =>
    intro p h
    unfold insL at h
    split at h
    · rcases List.mem_cons.1 h with r | r
      · exact .inr (by simp [r])
      · rcases ih r with r | r
        · exact .inl r
        · exact .inr (by simp [r])
    · split at h
      · rcases List.mem_cons.1 h with r | r
        · exact .inl r
        · exact .inr (by simp [r])
      · rcases List.mem_cons.1 h with r | r
        · exact .inl r
        · exact .inr r
theorem insL_high {key v : Bs} {lb : List Pair9} (h : ∀ p, p ∈ lb → ltB key p.1 = true) : insL lb key v = (key, v) :: lb := by
  cases lb with
  | nil => rfl
  | cons q lb =>
    have hq := h q (by simp)
    unfold insL
    rw [ltB_asymm hq]
    simp only [Bool.false_eq_true, if_false]
    rw [if_neg (by intro e; rw [e, ltB_irrefl] at hq; simp at hq)]
theorem insL_right {key v : Bs} : ∀ {lc lb : List Pair9}, (∀ p, p ∈ lb → ltB key p.1 = true) → insL (lc ++ lb) key v = insL lc key v ++ lb
  | [], lb, h => by rw [List.nil_append, insL_high h]; rfl
  | p :: lc, lb, h => by
    have ih := insL_right (lc := lc) h (key := key) (v := v)
    show insL (p :: (lc ++ lb)) key v = _
    unfold insL
    split
    · rw [ih]; rfl
    · split <;> rfl
theorem insL_left {key v : Bs} : ∀ {la l : List Pair9}, (∀ p, p ∈ la → ltB p.1 key = true) → insL (la ++ l) key v = la ++ insL l key v
  | [], l, _ => rfl
  | p :: la, l, h => by
    have ih := insL_left (la := la) (l := l) (key := key) (v := v) (fun q hq => h q (by simp [hq]))
    show insL (p :: (la ++ l)) key v = _
    rw [show insL (p :: (la ++ l)) key v = if ltB p.1 key then p :: insL (la ++ l) key v else if p.1 = key then (key, v) :: (la ++ l) else (key, v) :: p :: (la ++ l) from rfl, h p (by simp), ih]
    simp
theorem insL_mid {key v : Bs} {la lc lb : List Pair9} (ha : ∀ p, p ∈ la → ltB p.1 key = true) (hb : ∀ p, p ∈ lb → ltB key p.1 = true) : insL (la ++ (lc ++ lb)) key v = la ++ (insL lc key v ++ lb) := by rw [insL_left ha, insL_right hb]
theorem insL_sorted {key v : Bs} : ∀ {l : List Pair9}, (l.map (·.1)).Pairwise (fun x y => ltB x y = true) → ((insL l key v).map (·.1)).Pairwise (fun x y => ltB x y = true)
  | [], _ => by simp [insL]
  | p :: l, h => by
    have h1 := (List.pairwise_cons.1 h).1
    have h2 := (List.pairwise_cons.1 h).2
    unfold insL
    cases hp : ltB p.1 key
    · simp only [Bool.false_eq_true, if_false]
      by_cases e : p.1 = key
      · rw [if_pos e]
        show (key :: l.map (·.1)).Pairwise _
        rw [← e]; exact h
      · rw [if_neg e]
        have hlt : ltB key p.1 = true := by
          cases q : ltB key p.1
          · exact absurd (ltB_total hp q) e
          · rfl
        refine List.pairwise_cons.2 ⟨fun y hy => ?_, h⟩
        rcases List.mem_cons.1 hy with rfl | q
        · exact hlt
        · exact ltB_trans hlt (h1 y q)
    · simp only [if_true]
      refine List.pairwise_cons.2 ⟨fun y hy => ?_, insL_sorted h2⟩
      obtain ⟨q, hq, rfl⟩ := List.mem_map.1 hy
      rcases insL_mem hq with rfl | r
      · exact hp
      · exact h1 _ (List.mem_map.2 ⟨q, r, rfl⟩)
theorem insL_length (l : List Pair9) (key v : Bs) : (insL l key v).length = if hasK (l.map (·.1)) key then l.length else l.length + 1 := by
  have h := congrArg List.length (insL_keys l key v)
  rw [List.length_map] at h
  rw [h]
  split
  · simp
  · rw [insAt_length _ _ _ (posK_le _ _)]; simp
theorem Fits.ins {ks : List Bs} {key v : Bs} {l : List Pair9} (h : Fits ks key l) : Fits ks key (insL l key v) := fun x hx => ⟨fun q p hp => by
    rcases insL_mem hp with rfl | r
    · exact q
    · exact (h x hx).1 q p r, fun q p hp => by
    rcases insL_mem hp with rfl | r
    · exact q
    · exact (h x hx).2 q p r⟩
/-- A key between what is parted fits. -/
theorem Fits.key {ks : List Bs} {key k' : Bs} {l1 l2 : List Pair9} (h : Fits ks key (l1 ++ l2)) (h1 : l1 ≠ []) (h2 : l2 ≠ []) (b1 : ∀ p, p ∈ l1 → ltB p.1 k' = true) (b2 : ∀ p, p ∈ l2 → ltB p.1 k' = false) : FitK ks key k' := fun x hx => by
  obtain ⟨p1, hp1⟩ := List.exists_mem_of_ne_nil _ h1
  obtain ⟨p2, hp2⟩ := List.exists_mem_of_ne_nil _ h2
  refine ⟨fun q => ?_, fun q => ?_⟩
  · exact ltB_of_ge (b2 p2 hp2) ((h x hx).1 q p2 (by simp [hp2]))
  · exact ltB_of_ge ((h x hx).2 q p1 (by simp [hp1])) (b1 p1 hp1)
theorem Kids.ne {P : Nat → List Pair9 → List Nat → Prop} (hP : ∀ k l S, P k l S → l ≠ []) {ks : List Bs} {ds : List Nat} {l : List Pair9} {S : List Nat} (h : Kids P ks ds l S) : l ≠ [] := by
  cases h with
  | one h => exact hP _ _ _ h
  | more h _ _ _ => intro e; exact hP _ _ _ h (List.append_eq_nil_iff.1 e).1
theorem Shape.ne {C : Nat → Sec} : ∀ {d : Nat} {root : Bool} {a : Nat} {l : List Pair9} {S : List Nat}, Shape C root d a l S → l ≠ []
  | 0, root, _, l, _, h => by
    have := h.2.2.2.2.1
    rintro rfl
    cases root <;> simp at this
  | d + 1, _, _, _, _, h => by
    obtain ⟨_, ks, ds, S', _, _, _, _, _, hk⟩ := h
    exact hk.ne fun k l S h => Shape.ne (d := d) h
/-- An inner node is parted at a key. -/
theorem Kids.part {P : Nat → List Pair9 → List Nat → Prop} : ∀ {m : Nat} {ks : List Bs} {ds : List Nat} {l : List Pair9} {S : List Nat} {k : Bs}, Kids P ks ds l S → ks.Pairwise (fun x y => ltB x y = true) → ks[m]? = some k →
    ∃ l1 S1 l2 S2, l = l1 ++ l2 ∧ S = S1 ++ S2 ∧ Kids P (ks.take m) (ds.take (m + 1)) l1 S1 ∧ Kids P (ks.drop (m + 1)) (ds.drop (m + 1)) l2 S2 ∧ (∀ p, p ∈ l1 → ltB p.1 k = true) ∧ (∀ p, p ∈ l2 → ltB p.1 k = false)
  | m, _, _, _, _, k, .one h, _, hm => by simp at hm
  | 0, _, _, _, _, k, .more (k := a) (l := l) (S := S) (l2 := l2) (S2 := S2) h h1 h2 hk, _, hm => by
    simp at hm; subst hm
    exact ⟨l, S, l2, S2, rfl, rfl, .one h, by simpa using hk, h1, h2⟩
  | m + 1, _, _, _, _, k, .more (k := a) (l := l) (S := S) (key := x) (ks := ks) (ds := ds) (l2 := l2) (S2 := S2) h h1 h2 hk, hp, hm => by
    have hp2 := (List.pairwise_cons.1 hp).2
    have hp1 := (List.pairwise_cons.1 hp).1
    have hm' : ks[m]? = some k := by simpa using hm
    obtain ⟨la, Sa, lb, Sb, e1, e2, k1, k2, b1, b2⟩ := Kids.part hk hp2 hm'
    have hxk := hp1 k (List.mem_of_getElem? hm')
    refine ⟨l ++ la, S ++ Sa, lb, Sb, by rw [e1]; simp, by rw [e2]; simp, ?_, by simpa using k2, fun p hq => ?_, b2⟩
    · have := Kids.more h h1 (fun p hq => h2 p (by rw [e1]; simp [hq])) k1
      simpa using this
    · rcases List.mem_append.1 hq with q | q
      · exact ltB_trans (h1 p q) hxk
      · exact b1 p q

end Go.Proofs.YtceakcejchbbjaaGreat
end
