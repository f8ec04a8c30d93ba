/-
  Trees, roots and all: how many sectors, how deep. No program in sight.
-/
import Derived.Test.YtceakcejchbbjaaGreatTrT
namespace Go.Proofs.YtceakcejchbbjaaGreat
open Go.RowKit

theorem Kids.size {P : Nat → List Pair9 → List Nat → Prop} (hP : ∀ k l S, P k l S → 4 * S.length + 1 ≤ l.length) {ks : List Bs} {ds : List Nat} {l : List Pair9} {S : List Nat} (h : Kids P ks ds l S) : 4 * S.length + ks.length + 1 ≤ l.length := by
  induction h with
  | one h => have := hP _ _ _ h; simpa using this
  | more h _ _ _ ih => have := hP _ _ _ h; simp only [List.length_append, List.length_cons]; omega
theorem Shape.size {C : Nat → Sec} : ∀ {d : Nat} {root : Bool} {a : Nat} {l : List Pair9} {S : List Nat}, Shape C root d a l S → 4 * S.length + (if root then 0 else 4) ≤ l.length + 3
  | 0, root, a, l, S, h => by
    obtain ⟨rfl, _, _, _, hn, _⟩ := h
    cases root <;> simp at hn ⊢ <;> omega
  | d + 1, root, a, l, S, h => by
    obtain ⟨_, ks, ds, S', rfl, _, _, hn, _, hk⟩ := h
    have := hk.size fun k l S h => by have := Shape.size (d := d) h; simp at this; omega
    cases root <;> simp at hn ⊢ <;> omega
theorem Kids.many {P : Nat → List Pair9 → List Nat → Prop} {B : Nat} (hP : ∀ k l S, P k l S → B ≤ l.length) {ks : List Bs} {ds : List Nat} {l : List Pair9} {S : List Nat} (h : Kids P ks ds l S) : (ks.length + 1) * B ≤ l.length := by
  induction h with
  | one h => have := hP _ _ _ h; simpa using this
  | more h _ _ _ ih =>
    have := hP _ _ _ h
    simp only [List.length_append, List.length_cons]
    rw [Nat.add_mul (_ + 1) 1 B, Nat.one_mul]; omega
theorem Shape.many {C : Nat → Sec} : ∀ {d : Nat} {a : Nat} {l : List Pair9} {S : List Nat}, Shape C false d a l S → 5 * 7 ^ d ≤ l.length
  | 0, a, l, S, h => by simpa using h.2.2.2.2.1
  | d + 1, a, l, S, h => by
    obtain ⟨_, ks, ds, S', _, _, _, hn, _, hk⟩ := h
    have := hk.many fun k l S h => Shape.many (d := d) h
    have hn : 6 ≤ ks.length := by simpa using hn
    have h2 := Nat.mul_le_mul_right (5 * 7 ^ d) (show 7 ≤ ks.length + 1 by omega)
    rw [Nat.pow_succ]; omega
theorem Shape.manyR {C : Nat → Sec} {d : Nat} {a : Nat} {l : List Pair9} {S : List Nat} (h : Shape C true (d + 1) a l S) : 10 * 7 ^ d ≤ l.length := by
  obtain ⟨_, ks, ds, S', _, _, _, hn, _, hk⟩ := h
  have := hk.many fun k l S h => Shape.many (d := d) h
  have hn : 1 ≤ ks.length := by simpa using hn
  have h2 := Nat.mul_le_mul_right (5 * 7 ^ d) (show 2 ≤ ks.length + 1 by omega)
  omega
/-- A tree of so many pairs is not deep. -/
theorem Shape.flat {C : Nat → Sec} {d : Nat} {a : Nat} {l : List Pair9} {S : List Nat} (h : Shape C true d a l S) (hl : l.length < 490) : d ≤ 2 := by
  cases d with
  | zero => omega
  | succ d =>
    have := h.manyR
    cases d with
    | zero => omega
    | succ d =>
      cases d with
      | zero => omega
      | succ d =>
        have : 1 ≤ 7 ^ d := Nat.pos_of_ne_zero (by simp)
        simp only [Nat.pow_succ] at *; omega
/-- A root, 0: a tree of no pairs. -/
def TreeAt (C : Nat → Sec) (r : Nat) (l : List Pair9) (S : List Nat) : Prop := (r = 0 ∧ l = [] ∧ S = []) ∨ (r ≠ 0 ∧ ∃ d, Shape C true d r l S)
theorem TreeAt.size {C : Nat → Sec} {r : Nat} {l : List Pair9} {S : List Nat} (h : TreeAt C r l S) : 4 * S.length ≤ l.length + 3 := by
  rcases h with ⟨_, rfl, rfl⟩ | ⟨_, d, h⟩
  · simp
  · have := h.size; simp at this; omega
theorem TreeAt.keep {C C' : Nat → Sec} {r : Nat} {l : List Pair9} {S : List Nat} (h : TreeAt C r l S) (hc : ∀ s, s ∈ S → C' s = C s) : TreeAt C' r l S := by
  rcases h with h | ⟨h0, d, h⟩
  · exact .inl h
  · exact .inr ⟨h0, d, h.keep hc⟩
/-- What tree.Put leaves. -/
def PutTop (g : Sg) (M M' : Nat → Option Sec) (r r' : Nat) (l : List Pair9) (S : List Nat) (key v : Bs) (m : Nat) : Prop :=
  ∃ S', TreeAt (g.cur M') r' (insL l key v) S' ∧ r' ≠ 0 ∧ Grown g M M' S S' 4 m ∧ (lookL l key ≠ none → r' = r ∧ ∃ x s, x ∈ S ∧ M' = putS M x s)
theorem putTop_whole {g : Sg} {M M' : Nat → Option Sec} {d r : Nat} {l : List Pair9} {S : List Nat} {key v : Bs} (hr : r ≠ 0) (hd : d ≤ 2) (h : PutAt g M M' true d r l S key v none) {m : Nat} (hm : 2 * d + 1 ≤ m) : PutTop g M M' r r l S key v m := by
  obtain ⟨S', h1, h2, h3⟩ := h
  exact ⟨S', .inr ⟨hr, d, h1⟩, hr, h2.mono (by omega) hm, fun q => ⟨rfl, h3 q⟩⟩
theorem putTop_part {g : Sg} {M M1 : Nat → Option Sec} {d r : Nat} {l : List Pair9} {S : List Nat} {key v k' : Bs} {b : Nat} (hr : r < 4294967296) (hd : d ≤ 2) (hh : Held9 g M S) (h : PutAt g M M1 true d r l S key v (some (k', b))) {m : Nat} (hm : 2 * d + 3 ≤ m) (ho : MOk M1 g.h) (hl1 : (g.cur M1 1).length = 512) (h1 : 1 < g.h) (h2 : g.h ≤ 4096) {s : Nat} (hs4 : 4 ≤ s) (hsh : s < g.h) (hT : g.T M1 s = false) (ho1 : MOk (takM g M1 s) g.h) :
    InnerOk [k'] [r, b] ∧ PutTop g M (putS (takM g M1 s) s (encInner [k'] [r, b])) r s l S key v m := by
  obtain ⟨hlk, l1, l2, S1, S2, el, hk', q1, q2, b1, b2, hG⟩ := h
  have hG1 := hG.take ho hl1 h1 h2 hs4 hsh hT
  have hG2 := hG1.put ho1 (a := s) (by simp) hs4 hsh (encInner [k'] [r, b])
  have hH := hG.held hh
  have ns : ∀ i, i ∈ S1 ++ S2 → i ≠ s ∧ i ≠ 1 := by
    intro i q
    refine ⟨?_, by have := (hH.low i q).1; omega⟩
    rintro rfl
    rw [hH.T i q] at hT; simp at hT
  have hcur : ∀ i, i ∈ S1 ++ S2 → g.cur (putS (takM g M1 s) s (encInner [k'] [r, b])) i = g.cur M1 i := fun i q => by
    rw [cur_put_ne _ _ _ (ns i q).1, cur_tak _ _ (ns i q).2]
  have hok : InnerOk [k'] [r, b] := ⟨by simpa using hk', by intro x q; simp at q; rcases q with rfl | rfl; exact hr; exact q2.mem.2, rfl, by simp⟩
  refine ⟨hok, s :: (S1 ++ S2), .inr ⟨by omega, d + 1, by omega, [k'], [r, b], S1 ++ S2, rfl, hok, cur_put_eq _ _ _ _, by simp, by simp, ?_⟩, by omega, hG2.mono (by omega) (by omega), fun q => absurd hlk q⟩
  rw [el]
  exact .more (q1.keep fun i q => hcur i (by simp [q])) b1 b2 (.one (q2.keep fun i q => hcur i (by simp [q])))
theorem putTop_first {g : Sg} {M : Nat → Option Sec} {key v : Bs} (hk : key.length = 32) (hv : v.length = 16) (ho : MOk M g.h) (hl1 : (g.cur M 1).length = 512) (h1 : 1 < g.h) (h2 : g.h ≤ 4096) {s : Nat} (hs4 : 4 ≤ s) (hsh : s < g.h) (hT : g.T M s = false) (ho1 : MOk (takM g M s) g.h) :
    LeafOk [key] [v] ∧ PutTop g M (putS (takM g M s) s (encLeaf [key] [v])) 0 s [] [] key v 1 := by
  have hh : Held9 g M [] := ⟨by simp, by simp, by simp⟩
  have hG1 := hh.refl.take ho hl1 h1 h2 hs4 hsh hT
  have hG2 := hG1.put ho1 (a := s) (by simp) hs4 hsh (encLeaf [key] [v])
  have hok : LeafOk [key] [v] := ⟨by simpa using hk, by simpa using hv, rfl, by simp⟩
  refine ⟨hok, [s], .inr ⟨by omega, 0, Shape.leaf (by omega) (by intro p hp; simp [insL] at hp; rw [hp]; exact ⟨hk, hv⟩) (by simp [insL]) (cur_put_eq _ _ _ _) (by simp [insL]) (by simp [insL])⟩, by omega, hG2.mono (by omega) (by omega), fun q => absurd rfl q⟩
/-- What is looked for behind a Put. -/
theorem lookL_ne {key v : Bs} {k : Bs} (hne : k ≠ key) : ∀ (l : List Pair9), (l.map (·.1)).Pairwise (fun x y => ltB x y = true) → lookL (insL l key v) k = lookL l k
  | [], _ => by
    show (if ltB key k then lookL [] k else if key = k then some v else none) = none
    rw [if_neg (Ne.symm hne)]
    split <;> rfl
  | p :: l, h => by
    have h1 := (List.pairwise_cons.1 h).1
    have h2 := (List.pairwise_cons.1 h).2
    have ih := lookL_ne hne (v := v) l h2
    unfold insL
    cases hp : ltB p.1 key
    · simp only [Bool.false_eq_true, if_false]
      by_cases e : p.1 = key
      · rw [if_pos e]
        show (if ltB key k then lookL l k else if key = k then some v else none) = (if ltB p.1 k then lookL l k else if p.1 = k then some p.2 else none)
        rw [e, if_neg (Ne.symm hne), if_neg (Ne.symm hne)]
      · rw [if_neg e]
        rw [show lookL ((key, v) :: p :: l) k = if ltB key k then lookL (p :: l) k else if key = k then some v else none from rfl, if_neg (Ne.symm hne)]
        cases hk : ltB key k
        · have hlt : ltB key p.1 = true := by
            cases q : ltB key p.1
            · exact absurd (ltB_total hp q) e
            · rfl
          have hkp : ltB k p.1 = true := ltB_of_ge hk hlt
          have : lookL (p :: l) k = none := by
            show (if ltB p.1 k then lookL l k else if p.1 = k then some p.2 else none) = none
            rw [ltB_asymm hkp, if_neg (by simp), if_neg (by intro q; rw [q, ltB_irrefl] at hkp; simp at hkp)]
          rw [this]; simp
        · simp
    · simp only [if_true]
      show (if ltB p.1 k then lookL (insL l key v) k else if p.1 = k then some p.2 else none) = _
      rw [ih]; rfl
theorem Kids.sorted {P : Nat → List Pair9 → List Nat → Prop} (hP : ∀ k l S, P k l S → (l.map (·.1)).Pairwise (fun x y => ltB x y = true)) {ks : List Bs} {ds : List Nat} {l : List Pair9} {S : List Nat} (h : Kids P ks ds l S) : (l.map (·.1)).Pairwise (fun x y => ltB x y = true) := by
  induction h with
  | one h => exact hP _ _ _ h
  | more h h1 h2 _ ih =>
    rw [List.map_append]
    refine List.pairwise_append.2 ⟨hP _ _ _ h, ih, fun x hx y hy => ?_⟩
    obtain ⟨p, hp, rfl⟩ := List.mem_map.1 hx
    obtain ⟨q, hq, rfl⟩ := List.mem_map.1 hy
    have e1 := h1 p hp
    cases e : ltB p.1 q.1
    · have := ltB_of_ge (a := q.1) e e1
      rw [h2 q hq] at this; simp at this
    · rfl
theorem Shape.sorted {C : Nat → Sec} : ∀ {d : Nat} {root : Bool} {a : Nat} {l : List Pair9} {S : List Nat}, Shape C root d a l S → (l.map (·.1)).Pairwise (fun x y => ltB x y = true)
  | 0, _, _, _, _, h => h.2.2.2.2.2
  | d + 1, _, _, _, _, h => by
    obtain ⟨_, ks, ds, S', _, _, _, _, _, hk⟩ := h
    exact hk.sorted fun k l S h => Shape.sorted (d := d) h
theorem TreeAt.sorted {C : Nat → Sec} {r : Nat} {l : List Pair9} {S : List Nat} (h : TreeAt C r l S) : (l.map (·.1)).Pairwise (fun x y => ltB x y = true) := by
  rcases h with ⟨_, rfl, _⟩ | ⟨_, d, h⟩
  · simp
  · exact h.sorted

end Go.Proofs.YtceakcejchbbjaaGreat
