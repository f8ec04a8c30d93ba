/-
  A child of a node is turned, or parted. No program in sight.
-/
import Derived.Test.YtceakcejchbbjaaGreatTrK
namespace Go.Proofs.YtceakcejchbbjaaGreat
open Go.RowKit

def insAt {α : Type} (l : List α) (i : Nat) (x : α) : List α := l.take i ++ x :: l.drop i
theorem insAt_zero {α : Type} (l : List α) (x : α) : insAt l 0 x = x :: l := by simp [insAt]
theorem insAt_succ {α : Type} (a : α) (l : List α) (i : Nat) (x : α) : insAt (a :: l) (i + 1) x = a :: insAt l i x := by simp [insAt]
theorem insAt_length {α : Type} (l : List α) (i : Nat) (x : α) (hi : i ≤ l.length) : (insAt l i x).length = l.length + 1 := by simp [insAt]; omega
theorem mem_insAt {α : Type} {l : List α} {i : Nat} {x y : α} (h : y ∈ insAt l i x) : y = x ∨ y ∈ l := by
  unfold insAt at h
  rcases List.mem_append.1 h with q | q
  · exact .inr (List.mem_of_mem_take q)
  · rcases List.mem_cons.1 q with q | q
    · exact .inl q
    · exact .inr (List.mem_of_mem_drop q)
/-- Pairs that may stand below the child where key is looked for. -/
def Fits (ks : List Bs) (key : Bs) (l : List Pair9) : Prop := ∀ x, x ∈ ks → (ltB key x = true → ∀ p, p ∈ l → ltB p.1 x = true) ∧ (ltB key x = false → ∀ p, p ∈ l → ltB p.1 x = false)
/-- A new key that may stand there. -/
def FitK (ks : List Bs) (key k' : Bs) : Prop := ∀ x, x ∈ ks → (ltB key x = true → ltB k' x = true) ∧ (ltB key x = false → ltB x k' = true)
theorem Fits.tail {x : Bs} {ks : List Bs} {key : Bs} {l : List Pair9} (h : Fits (x :: ks) key l) : Fits ks key l := fun y hy => h y (List.mem_cons_of_mem _ hy)
theorem FitK.tail {x : Bs} {ks : List Bs} {key k' : Bs} (h : FitK (x :: ks) key k') : FitK ks key k' := fun y hy => h y (List.mem_cons_of_mem _ hy)
theorem pair_ins {key k' : Bs} : ∀ {ks : List Bs}, ks.Pairwise (fun x y => ltB x y = true) → FitK ks key k' → (insAt ks (chK ks key) k').Pairwise (fun x y => ltB x y = true)
  | [], _, _ => by rw [chK_nil, insAt_zero]; simp
  | x :: ks, hp, hf => by
    have hp1 := (List.pairwise_cons.1 hp).1
    have hp2 := (List.pairwise_cons.1 hp).2
    rw [chK_cons]
    have step : ltB key x = false → (insAt (x :: ks) (chK ks key + 1) k').Pairwise (fun x y => ltB x y = true) := fun hle => by
      rw [insAt_succ]
      refine List.pairwise_cons.2 ⟨fun y hy => ?_, pair_ins hp2 hf.tail⟩
      rcases mem_insAt hy with rfl | q
      · exact (hf x (by simp)).2 hle
      · exact hp1 y q
    cases hx : ltB x key
    · by_cases e : x = key
      · rw [if_pos e]
        have hz : chK ks key = 0 := by
          cases ks with
          | nil => exact chK_nil key
          | cons y ks =>
            have := hp1 y (by simp)
            rw [e] at this
            rw [chK_cons, ltB_asymm this]
            simp only [Bool.false_eq_true, if_false]
            rw [if_neg (by rintro rfl; rw [ltB_irrefl] at this; simp at this)]
        have := step (by rw [e]; exact ltB_irrefl _)
        rw [hz] at this
        exact this
      · rw [if_neg e]
        have hlt : ltB key x = true := by
          cases q : ltB key x
          · exact absurd (ltB_total hx q) e
          · rfl
        show (insAt (x :: ks) 0 k').Pairwise _
        rw [insAt_zero]
        refine List.pairwise_cons.2 ⟨fun y hy => ?_, hp⟩
        rcases List.mem_cons.1 hy with rfl | q
        · exact (hf y (by simp)).1 hlt
        · exact (hf y (by simp [q])).1 (ltB_trans hlt (hp1 y q))
    · simp only [if_true]
      exact step (ltB_asymm hx)

/-- Where a key is looked for; and what stands when that child is turned, or parted. -/
def Turn (P : Nat → List Pair9 → List Nat → Prop) (key : Bs) (ks : List Bs) (ds : List Nat) (l : List Pair9) (S : List Nat) (i : Nat) : Prop :=
  ∃ k la lc lb Sa Sc Sb, ds[i]? = some k ∧ l = la ++ (lc ++ lb) ∧ S = Sa ++ (Sc ++ Sb) ∧ P k lc Sc ∧ (∀ p, p ∈ la → ltB p.1 key = true) ∧ (∀ p, p ∈ lb → ltB key p.1 = true) ∧ Fits ks key lc ∧
    (∀ (Q : Nat → List Pair9 → List Nat → Prop) lc' Sc', (∀ k l S', P k l S' → (∀ s, s ∈ S' → s ∈ Sa ∨ s ∈ Sb) → Q k l S') → Q k lc' Sc' → Fits ks key lc' → Kids Q ks ds (la ++ (lc' ++ lb)) (Sa ++ (Sc' ++ Sb))) ∧
    (∀ (Q : Nat → List Pair9 → List Nat → Prop) k2 k' l1 S1 l2 S2, (∀ k l S', P k l S' → (∀ s, s ∈ S' → s ∈ Sa ∨ s ∈ Sb) → Q k l S') → Q k l1 S1 → Q k2 l2 S2 → (∀ p, p ∈ l1 → ltB p.1 k' = true) → (∀ p, p ∈ l2 → ltB p.1 k' = false) → Fits ks key (l1 ++ l2) → FitK ks key k' →
      Kids Q (insAt ks i k') (insAt ds (i + 1) k2) (la ++ ((l1 ++ l2) ++ lb)) (Sa ++ ((S1 ++ S2) ++ Sb)))
theorem Kids.turn {P : Nat → List Pair9 → List Nat → Prop} {key : Bs} : ∀ {ks : List Bs} {ds : List Nat} {l : List Pair9} {S : List Nat}, Kids P ks ds l S → ks.Pairwise (fun x y => ltB x y = true) → Turn P key ks ds l S (chK ks key)
  | _, _, l, S, .one (k := k) h, _ => by
    rw [chK_nil]
    refine ⟨k, [], l, [], [], S, [], rfl, by simp, by simp, h, by simp, by simp, fun x hx => by simp at hx, fun Q lc' Sc' _ hq _ => by simpa using Kids.one hq, fun Q k2 k' l1 S1 l2 S2 _ h1 h2 b1 b2 _ _ => ?_⟩
    have := Kids.more h1 b1 b2 (Kids.one h2)
    simpa [insAt] using this
  | _, _, _, _, .more (k := k) (l := l) (S := S) (key := x) (ks := ks) (ds := ds) (l2 := l2) (S2 := S2) h h1 h2 hk, hp => by
    have hp2 := (List.pairwise_cons.1 hp).2
    have hp1 := (List.pairwise_cons.1 hp).1
    rw [chK_cons]
    have rest : ltB key x = false → Turn P key (x :: ks) (k :: ds) (l ++ l2) (S ++ S2) (chK ks key + 1) := by
      intro hle
      obtain ⟨k', la, lc, lb, Sa, Sc, Sb, e1, e2, e3, e4, e5, e6, e7, t1, t2⟩ := Kids.turn (key := key) hk hp2
      refine ⟨k', l ++ la, lc, lb, S ++ Sa, Sc, Sb, by simpa using e1, by rw [e2]; simp, by rw [e3]; simp, e4, fun p hq => ?_, e6, fun y hy => ?_, fun Q lc' Sc' ho hq hf => ?_, fun Q k2 kn l1 S1 l2' S2' ho q1 q2 b1 b2 hf hfk => ?_⟩
      · rcases List.mem_append.1 hq with q | q
        · cases hc : ltB p.1 key
          · have := ltB_of_ge (a := key) hc (h1 p q)
            rw [hle] at this; simp at this
          · rfl
        · exact e5 p q
      · rcases List.mem_cons.1 hy with rfl | hy
        · exact ⟨fun q => by rw [hle] at q; simp at q, fun _ p hq => h2 p (by rw [e2]; simp [hq])⟩
        · exact e7 y hy
      · have hK := t1 Q lc' Sc' (fun k l S' hP hs => ho k l S' hP fun s q => by rcases hs s q with r | r <;> simp [r]) hq hf.tail
        have := Kids.more (ho _ _ _ h (fun s q => .inl (by simp [q]))) h1 (fun p hq => ?_) hK
        · simpa using this
        · rcases List.mem_append.1 hq with q | q
          · exact h2 p (by rw [e2]; simp [q])
          · rcases List.mem_append.1 q with q | q
            · exact (hf x (by simp)).2 hle p q
            · exact h2 p (by rw [e2]; simp [q])
      · have hK := t2 Q k2 kn l1 S1 l2' S2' (fun k l S' hP hs => ho k l S' hP fun s q => by rcases hs s q with r | r <;> simp [r]) q1 q2 b1 b2 hf.tail hfk.tail
        have := Kids.more (ho _ _ _ h (fun s q => .inl (by simp [q]))) h1 (fun p hq => ?_) hK
        · rw [insAt_succ, insAt_succ]
          simpa using this
        · rcases List.mem_append.1 hq with q | q
          · exact h2 p (by rw [e2]; simp [q])
          · rcases List.mem_append.1 q with q | q
            · exact (hf x (by simp)).2 hle p q
            · exact h2 p (by rw [e2]; simp [q])
    cases hx : ltB x key
    · by_cases e : x = key
      · rw [if_pos e]
        have hz : chK ks key = 0 := by
          cases ks with
          | nil => exact chK_nil key
          | cons y ks =>
            have := hp1 y (by simp)
            rw [e] at this
            rw [chK_cons, ltB_asymm this]
            simp only [Bool.false_eq_true, if_false]
            rw [if_neg (by rintro rfl; rw [ltB_irrefl] at this; simp at this)]
        have := rest (by rw [e]; exact ltB_irrefl _)
        rw [hz] at this
        exact this
      · rw [if_neg e]
        have hlt : ltB key x = true := by
          cases q : ltB key x
          · exact absurd (ltB_total hx q) e
          · rfl
        have hgt : ∀ p, p ∈ l2 → ltB key p.1 = true := fun p hq => by
          cases q : ltB key p.1
          · have := ltB_of_ge (a := p.1) q hlt
            rw [h2 p hq] at this; simp at this
          · rfl
        refine ⟨k, [], l, l2, [], S, S2, rfl, by simp, by simp, h, by simp, hgt, fun y hy => ⟨fun _ p hq => ?_, fun q => ?_⟩, fun Q lc' Sc' ho hq hf => ?_, fun Q k2 kn l1 S1 l2' S2' ho q1 q2 b1 b2 hf hfk => ?_⟩
        · rcases List.mem_cons.1 hy with rfl | hy
          · exact h1 p hq
          · exact ltB_trans (h1 p hq) (hp1 y hy)
        · rcases List.mem_cons.1 hy with rfl | hy
          · rw [hlt] at q; simp at q
          · rw [ltB_trans hlt (hp1 y hy)] at q; simp at q
        · have := Kids.more hq (fun p hq => (hf x (by simp)).1 hlt p hq) h2 (hk.mono fun k l' S' hs hP => ho k l' S' hP fun s q => .inr (hs s q))
          simpa using this
        · have hK := hk.mono (Q := Q) fun k l' S' hs hP => ho k l' S' hP fun s q => .inr (hs s q)
          have hin := Kids.more q2 (fun p hq => (hf x (by simp)).1 hlt p (by simp [hq])) h2 hK
          have := Kids.more q1 b1 (fun p hq => ?_) hin
          · simp only [Bool.false_eq_true, if_false]
            rw [insAt_zero, insAt_succ, insAt_zero]
            simpa using this
          · rcases List.mem_append.1 hq with q | q
            · exact b2 p q
            · cases r : ltB p.1 kn
              · rfl
              · have := ltB_trans r ((hfk x (by simp)).1 hlt)
                rw [h2 p q] at this; simp at this
    · simp only [if_true]
      exact rest (ltB_asymm hx)

end Go.Proofs.YtceakcejchbbjaaGreat
