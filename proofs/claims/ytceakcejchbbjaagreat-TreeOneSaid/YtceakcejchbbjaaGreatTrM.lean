/-
  A pair is put into a rising list; a node is parted. No program in sight.
-/
import Derived.Test.YtceakcejchbbjaaGreatTrL
namespace Go.Proofs.YtceakcejchbbjaaGreat
open Go.RowKit

/-- A pair is put into a list. -/
def insL : List Pair9 → Bs → Bs → List Pair9
  | [], key, v => [(key, v)]
  | p :: l, key, v => if ltB p.1 key then p :: insL l key v else if p.1 = key then (key, v) :: l else (key, v) :: p :: l
theorem insL_keys : ∀ (l : List Pair9) (key v : Bs), (insL l key v).map (·.1) = if hasK (l.map (·.1)) key then l.map (·.1) else insAt (l.map (·.1)) (posK (l.map (·.1)) key) key
  | [], key, v => by simp [insL, hasK, posK, insAt]
  | p :: l, key, v => by
    have ih := insL_keys l key v
    unfold insL
    cases h : ltB p.1 key
    · have hp : posK ((p :: l).map (·.1)) key = 0 := by rw [List.map_cons, posK, h]; rfl
      have hh : hasK ((p :: l).map (·.1)) key = decide (p.1 = key) := by unfold hasK; rw [hp]; simp
      rw [hp, hh]
      by_cases e : p.1 = key
      · simp [e]
      · simp [e, insAt]
    · have hp : posK ((p :: l).map (·.1)) key = posK (l.map (·.1)) key + 1 := by rw [List.map_cons, posK, h]; rfl
      have hh : hasK ((p :: l).map (·.1)) key = hasK (l.map (·.1)) key := by unfold hasK; rw [hp]; simp
      rw [hp, hh]
      simp only [if_true, List.map_cons, ih]
      split
      · rfl
      · rw [insAt_succ]
theorem insL_vals : ∀ (l : List Pair9) (key v : Bs), (insL l key v).map (·.2) = if hasK (l.map (·.1)) key then (l.map (·.2)).set (posK (l.map (·.1)) key) v else insAt (l.map (·.2)) (posK (l.map (·.1)) key) v
  | [], key, v => by simp [insL, hasK, posK, insAt]
  | p :: l, key, v => by
    have ih := insL_vals l key v
    unfold insL
    cases h : ltB p.1 key
    · have hp : posK ((p :: l).map (·.1)) key = 0 := by rw [List.map_cons, posK, h]; rfl
      have hh : hasK ((p :: l).map (·.1)) key = decide (p.1 = key) := by unfold hasK; rw [hp]; simp
      rw [hp, hh]
      by_cases e : p.1 = key
      · simp [e]
      · simp [e, insAt]
    · have hp : posK ((p :: l).map (·.1)) key = posK (l.map (·.1)) key + 1 := by rw [List.map_cons, posK, h]; rfl
      have hh : hasK ((p :: l).map (·.1)) key = hasK (l.map (·.1)) key := by unfold hasK; rw [hp]; simp
      rw [hp, hh]
      simp only [if_true, List.map_cons, ih]
      split
      · simp
      · rw [insAt_succ]
theorem insL_mem {l : List Pair9} {key v : Bs} : ∀ {p : Pair9}, p ∈ insL l key v → p = (key, v) ∨ p ∈ l := by
  induction l with
  | nil => intro p h; simp [insL] at h; exact .inl h
  | cons q l ih =>
    intro p h
    unfold insL at h
    split at h
    · rcases List.mem_cons.1 h with r | r
      · exact .inr (by simp [r])
      · rcases ih r with r | r
        · exact .inl r
        · exact .inr (by simp [r])
    · split at h
      · rcases List.mem_cons.1 h with r | r
        · exact .inl r
        · exact .inr (by simp [r])
      · rcases List.mem_cons.1 h with r | r
        · exact .inl r
        · exact .inr r
theorem insL_high {key v : Bs} {lb : List Pair9} (h : ∀ p, p ∈ lb → ltB key p.1 = true) : insL lb key v = (key, v) :: lb := by
  cases lb with
  | nil => rfl
  | cons q lb =>
    have hq := h q (by simp)
    unfold insL
    rw [ltB_asymm hq]
    simp only [Bool.false_eq_true, if_false]
    rw [if_neg (by intro e; rw [e, ltB_irrefl] at hq; simp at hq)]
theorem insL_right {key v : Bs} : ∀ {lc lb : List Pair9}, (∀ p, p ∈ lb → ltB key p.1 = true) → insL (lc ++ lb) key v = insL lc key v ++ lb
  | [], lb, h => by rw [List.nil_append, insL_high h]; rfl
  | p :: lc, lb, h => by
    have ih := insL_right (lc := lc) h (key := key) (v := v)
    show insL (p :: (lc ++ lb)) key v = _
    unfold insL
    split
    · rw [ih]; rfl
    · split <;> rfl
theorem insL_left {key v : Bs} : ∀ {la l : List Pair9}, (∀ p, p ∈ la → ltB p.1 key = true) → insL (la ++ l) key v = la ++ insL l key v
  | [], l, _ => rfl
  | p :: la, l, h => by
    have ih := insL_left (la := la) (l := l) (key := key) (v := v) (fun q hq => h q (by simp [hq]))
    show insL (p :: (la ++ l)) key v = _
    rw [show insL (p :: (la ++ l)) key v = if ltB p.1 key then p :: insL (la ++ l) key v else if p.1 = key then (key, v) :: (la ++ l) else (key, v) :: p :: (la ++ l) from rfl, h p (by simp), ih]
    simp
theorem insL_mid {key v : Bs} {la lc lb : List Pair9} (ha : ∀ p, p ∈ la → ltB p.1 key = true) (hb : ∀ p, p ∈ lb → ltB key p.1 = true) : insL (la ++ (lc ++ lb)) key v = la ++ (insL lc key v ++ lb) := by rw [insL_left ha, insL_right hb]
theorem insL_sorted {key v : Bs} : ∀ {l : List Pair9}, (l.map (·.1)).Pairwise (fun x y => ltB x y = true) → ((insL l key v).map (·.1)).Pairwise (fun x y => ltB x y = true)
  | [], _ => by simp [insL]
  | p :: l, h => by
    have h1 := (List.pairwise_cons.1 h).1
    have h2 := (List.pairwise_cons.1 h).2
    unfold insL
    cases hp : ltB p.1 key
    · simp only [Bool.false_eq_true, if_false]
      by_cases e : p.1 = key
      · rw [if_pos e]
        show (key :: l.map (·.1)).Pairwise _
        rw [← e]; exact h
      · rw [if_neg e]
        have hlt : ltB key p.1 = true := by
          cases q : ltB key p.1
          · exact absurd (ltB_total hp q) e
          · rfl
        refine List.pairwise_cons.2 ⟨fun y hy => ?_, h⟩
        rcases List.mem_cons.1 hy with rfl | q
        · exact hlt
        · exact ltB_trans hlt (h1 y q)
    · simp only [if_true]
      refine List.pairwise_cons.2 ⟨fun y hy => ?_, insL_sorted h2⟩
      obtain ⟨q, hq, rfl⟩ := List.mem_map.1 hy
      rcases insL_mem hq with rfl | r
      · exact hp
      · exact h1 _ (List.mem_map.2 ⟨q, r, rfl⟩)
theorem insL_length (l : List Pair9) (key v : Bs) : (insL l key v).length = if hasK (l.map (·.1)) key then l.length else l.length + 1 := by
  have h := congrArg List.length (insL_keys l key v)
  rw [List.length_map] at h
  rw [h]
  split
  · simp
  · rw [insAt_length _ _ _ (posK_le _ _)]; simp
theorem Fits.ins {ks : List Bs} {key v : Bs} {l : List Pair9} (h : Fits ks key l) : Fits ks key (insL l key v) := fun x hx => ⟨fun q p hp => by
    rcases insL_mem hp with rfl | r
    · exact q
    · exact (h x hx).1 q p r, fun q p hp => by
    rcases insL_mem hp with rfl | r
    · exact q
    · exact (h x hx).2 q p r⟩
/-- A key between what is parted fits. -/
theorem Fits.key {ks : List Bs} {key k' : Bs} {l1 l2 : List Pair9} (h : Fits ks key (l1 ++ l2)) (h1 : l1 ≠ []) (h2 : l2 ≠ []) (b1 : ∀ p, p ∈ l1 → ltB p.1 k' = true) (b2 : ∀ p, p ∈ l2 → ltB p.1 k' = false) : FitK ks key k' := fun x hx => by
  obtain ⟨p1, hp1⟩ := List.exists_mem_of_ne_nil _ h1
  obtain ⟨p2, hp2⟩ := List.exists_mem_of_ne_nil _ h2
  refine ⟨fun q => ?_, fun q => ?_⟩
  · exact ltB_of_ge (b2 p2 hp2) ((h x hx).1 q p2 (by simp [hp2]))
  · exact ltB_of_ge ((h x hx).2 q p1 (by simp [hp1])) (b1 p1 hp1)
theorem Kids.ne {P : Nat → List Pair9 → List Nat → Prop} (hP : ∀ k l S, P k l S → l ≠ []) {ks : List Bs} {ds : List Nat} {l : List Pair9} {S : List Nat} (h : Kids P ks ds l S) : l ≠ [] := by
  cases h with
  | one h => exact hP _ _ _ h
  | more h _ _ _ => intro e; exact hP _ _ _ h (List.append_eq_nil_iff.1 e).1
theorem Shape.ne {C : Nat → Sec} : ∀ {d : Nat} {root : Bool} {a : Nat} {l : List Pair9} {S : List Nat}, Shape C root d a l S → l ≠ []
  | 0, root, _, l, _, h => by
    have := h.2.2.2.2.1
    rintro rfl
    cases root <;> simp at this
  | d + 1, _, _, _, _, h => by
    obtain ⟨_, ks, ds, S', _, _, _, _, _, hk⟩ := h
    exact hk.ne fun k l S h => Shape.ne (d := d) h
/-- An inner node is parted at a key. -/
theorem Kids.part {P : Nat → List Pair9 → List Nat → Prop} : ∀ {m : Nat} {ks : List Bs} {ds : List Nat} {l : List Pair9} {S : List Nat} {k : Bs}, Kids P ks ds l S → ks.Pairwise (fun x y => ltB x y = true) → ks[m]? = some k →
    ∃ l1 S1 l2 S2, l = l1 ++ l2 ∧ S = S1 ++ S2 ∧ Kids P (ks.take m) (ds.take (m + 1)) l1 S1 ∧ Kids P (ks.drop (m + 1)) (ds.drop (m + 1)) l2 S2 ∧ (∀ p, p ∈ l1 → ltB p.1 k = true) ∧ (∀ p, p ∈ l2 → ltB p.1 k = false)
  | m, _, _, _, _, k, .one h, _, hm => by simp at hm
  | 0, _, _, _, _, k, .more (k := a) (l := l) (S := S) (l2 := l2) (S2 := S2) h h1 h2 hk, _, hm => by
    simp at hm; subst hm
    exact ⟨l, S, l2, S2, rfl, rfl, .one h, by simpa using hk, h1, h2⟩
  | m + 1, _, _, _, _, k, .more (k := a) (l := l) (S := S) (key := x) (ks := ks) (ds := ds) (l2 := l2) (S2 := S2) h h1 h2 hk, hp, hm => by
    have hp2 := (List.pairwise_cons.1 hp).2
    have hp1 := (List.pairwise_cons.1 hp).1
    have hm' : ks[m]? = some k := by simpa using hm
    obtain ⟨la, Sa, lb, Sb, e1, e2, k1, k2, b1, b2⟩ := Kids.part hk hp2 hm'
    have hxk := hp1 k (List.mem_of_getElem? hm')
    refine ⟨l ++ la, S ++ Sa, lb, Sb, by rw [e1]; simp, by rw [e2]; simp, ?_, by simpa using k2, fun p hq => ?_, b2⟩
    · have := Kids.more h h1 (fun p hq => h2 p (by rw [e1]; simp [hq])) k1
      simpa using this
    · rcases List.mem_append.1 hq with q | q
      · exact ltB_trans (h1 p q) hxk
      · exact b1 p q

end Go.Proofs.YtceakcejchbbjaaGreat
