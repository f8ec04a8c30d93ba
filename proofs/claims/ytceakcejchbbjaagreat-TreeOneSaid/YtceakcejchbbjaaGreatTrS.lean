/-
  What tree.put leaves of sectors: which are taken, which have turned, how many. No program in sight.
-/
import Derived.Test.YtceakcejchbbjaaGreatTrP
namespace Go.Proofs.YtceakcejchbbjaaGreat
open Go.RowKit

theorem leftN_take {T T' : Nat → Bool} {s : Nat} (h1 : ∀ i, T' i = (T i || decide (i = s))) (h2 : T s = false) : ∀ h, leftN T h = leftN T' h + (if s < h then 1 else 0)
  | 0 => by simp [leftN]
  | h + 1 => by
    have ih := leftN_take h1 h2 h
    unfold leftN
    rw [h1 h]
    by_cases e : h = s
    · subst e
      rw [h2, ih]
      simp
    · rw [ih]
      have : (s < h + 1) = (s < h) := by rw [eq_iff_iff]; omega
      simp only [this, e, decide_false, Bool.or_false]
      cases T h
      · simp only [Bool.false_eq_true, if_false]; omega
      · simp
def c1M (M : Nat → Option Sec) : Nat := if (M 1).isSome then 0 else 1
theorem T_put {g : Sg} {M : Nat → Option Sec} {a : Nat} (x : Sec) (ha : a ≠ 1) (i : Nat) : g.T (putS M a x) i = g.T M i := by
  unfold Sg.T Sg.cur putS
  rw [if_neg (Ne.symm ha)]
theorem cur_put {g : Sg} {M : Nat → Option Sec} (a : Nat) (x : Sec) (i : Nat) : g.cur (putS M a x) i = if i = a then x else g.cur M i := by
  unfold Sg.cur putS
  split <;> rfl
theorem cur_tak {g : Sg} {M : Nat → Option Sec} (s i : Nat) (hi : i ≠ 1) : g.cur (takM g M s) i = g.cur M i := by
  unfold Sg.cur takM put1
  rw [if_neg hi]
theorem T_tak {g : Sg} {M : Nat → Option Sec} (hl : (g.cur M 1).length = 512) {s : Nat} (hs : 4 ≤ s) (hh : s < 4096) (i : Nat) : g.T (takM g M s) i = (g.T M i || decide (i = s)) := by
  unfold takM
  rw [Sg.T_turn hl true hs (by omega)]
  by_cases e : i = s
  · subst e; simp
  · rw [if_neg (by omega)]; simp [e]
theorem c1_put {M : Nat → Option Sec} {a : Nat} (x : Sec) (ha : a ≠ 1) : c1M (putS M a x) = c1M M := by
  unfold c1M putS
  rw [if_neg (Ne.symm ha)]
theorem c1_tak (g : Sg) (M : Nat → Option Sec) (s : Nat) : c1M (takM g M s) = 0 := by
  unfold c1M takM put1; simp
theorem cnt_put {M : Nat → Option Sec} {h a : Nat} {x : Sec} (ho : MOk M h) (ha : a < h) : cntM (putS M a x) h ≤ cntM M h + 1 := by
  have := cntM_put (s := x) ho ha
  unfold putS
  rw [this]; split <;> omega
theorem cnt_put_some {M : Nat → Option Sec} {h a : Nat} {x : Sec} (ho : MOk M h) (ha : a < h) (hs : (M a).isSome = true) : cntM (putS M a x) h = cntM M h := by
  have := cntM_put (s := x) ho ha
  unfold putS
  rw [this, if_pos hs]
theorem cnt_tak {g : Sg} {M : Nat → Option Sec} {h : Nat} (s : Nat) (ho : MOk M h) (hh : 1 < h) : cntM (takM g M s) h = cntM M h + c1M M := by
  unfold takM put1 c1M
  rw [cntM_put ho hh]
  split <;> rfl

/-- What a change of a tree leaves: S its sectors ahead of it, S' behind it; n sectors more at most, m of them turned at most. -/
structure Grown (g : Sg) (M M' : Nat → Option Sec) (S S' : List Nat) (n m : Nat) : Prop where
  sub : ∀ s, s ∈ S → s ∈ S'
  nd : S'.Nodup
  new : ∀ s, s ∈ S' → s ∈ S ∨ (g.T M s = false ∧ 4 ≤ s ∧ s < g.h)
  T : ∀ i, g.T M' i = (g.T M i || decide (i ∈ S'))
  keep : ∀ i, i ∉ S' → i ≠ 1 → M' i = M i
  cnt : cntM M' g.h + c1M M' ≤ cntM M g.h + c1M M + m
  left : leftN (g.T M') g.h + S'.length = leftN (g.T M) g.h + S.length
  len : S'.length ≤ S.length + n
/-- The tree's sectors are in order. -/
structure Held9 (g : Sg) (M : Nat → Option Sec) (S : List Nat) : Prop where
  nd : S.Nodup
  low : ∀ s, s ∈ S → 4 ≤ s ∧ s < g.h
  T : ∀ s, s ∈ S → g.T M s = true
section
variable {g : Sg} {M M1 : Nat → Option Sec} {S S' : List Nat} {n m : Nat}
theorem Held9.refl (h : Held9 g M S) : Grown g M M S S 0 0 :=
  ⟨fun _ q => q, h.nd, fun _ q => .inl q, fun i => by
    by_cases e : i ∈ S
    · rw [h.T i e]; simp
    · simp [e], fun _ _ _ => rfl, Nat.le_refl _, rfl, Nat.le_refl _⟩
theorem Grown.held (h : Grown g M M1 S S' n m) (hs : Held9 g M S) : Held9 g M1 S' :=
  ⟨h.nd, fun s q => by rcases h.new s q with r | r; exact hs.low s r; exact r.2, fun s q => by rw [h.T]; simp [q]⟩
theorem Grown.perm (h : Grown g M M1 S S' n m) {S2 : List Nat} (hp : S'.Perm S2) : Grown g M M1 S S2 n m :=
  ⟨fun s q => hp.mem_iff.1 (h.sub s q), hp.nodup_iff.1 h.nd, fun s q => h.new s (hp.mem_iff.2 q), fun i => by rw [h.T]; simp only [hp.mem_iff], fun i q => h.keep i (fun r => q (hp.mem_iff.1 r)), h.cnt, by rw [← hp.length_eq]; exact h.left, by rw [← hp.length_eq]; exact h.len⟩
theorem Grown.mono (h : Grown g M M1 S S' n m) {n' m' : Nat} (hn : n ≤ n') (hm : m ≤ m') : Grown g M M1 S S' n' m' :=
  ⟨h.sub, h.nd, h.new, h.T, h.keep, Nat.le_trans h.cnt (by omega), h.left, Nat.le_trans h.len (by omega)⟩
theorem Grown.put (h : Grown g M M1 S S' n m) (ho : MOk M1 g.h) {a : Nat} (ha : a ∈ S') (ha1 : 4 ≤ a) (hh : a < g.h) (x : Sec) : Grown g M (putS M1 a x) S S' n (m + 1) := by
  refine ⟨h.sub, h.nd, h.new, fun i => by rw [T_put x (by omega)]; exact h.T i, fun i q r => ?_, ?_, ?_, h.len⟩
  · unfold putS
    rw [if_neg (by rintro rfl; exact q ha)]
    exact h.keep i q r
  · rw [c1_put x (by omega)]
    have := cnt_put (x := x) ho hh
    have := h.cnt
    omega
  · rw [show g.T (putS M1 a x) = g.T M1 from funext fun i => T_put x (by omega) i]; exact h.left
theorem Grown.take (h : Grown g M M1 S S' n m) (ho : MOk M1 g.h) (hl : (g.cur M1 1).length = 512) (hh : 1 < g.h) (hh2 : g.h ≤ 4096) {s : Nat} (hs : 4 ≤ s) (hs2 : s < g.h) (hT : g.T M1 s = false) : Grown g M (takM g M1 s) S (s :: S') (n + 1) m := by
  have hT1 := T_tak hl hs (show s < 4096 by omega)
  have h0 : g.T M s = false ∧ s ∉ S' := by
    have := h.T s
    rw [hT] at this
    cases q : g.T M s
    · rw [q] at this; simp at this; exact ⟨rfl, this⟩
    · rw [q] at this; simp at this
  refine ⟨fun i q => List.mem_cons_of_mem _ (h.sub i q), List.nodup_cons.2 ⟨h0.2, h.nd⟩, fun i q => ?_, fun i => ?_, fun i q r => ?_, ?_, ?_, ?_⟩
  · rcases List.mem_cons.1 q with rfl | q
    · exact .inr ⟨h0.1, hs, hs2⟩
    · exact h.new i q
  · rw [hT1, h.T]
    by_cases e : i = s
    · subst e; simp
    · simp [e]
  · simp only [List.mem_cons, not_or] at q
    unfold takM put1
    rw [if_neg r]
    exact h.keep i q.2 r
  · rw [c1_tak, cnt_tak s ho hh]; exact h.cnt
  · have := leftN_take hT1 hT g.h
    rw [if_pos hs2] at this
    have := h.left
    simp only [List.length_cons]
    omega
  · have := h.len
    simp only [List.length_cons]; omega
/-- A child's change is its parent's. -/
theorem Grown.lift {Sc Sc' X Y : List Nat} (h : Grown g M M1 Sc Sc' n m) (hs : Held9 g M (X ++ (Sc ++ Y))) : Grown g M M1 (X ++ (Sc ++ Y)) (X ++ (Sc' ++ Y)) n m := by
  have hX : ∀ s, s ∈ X → g.T M s = true := fun s q => hs.T s (by simp [q])
  have hY : ∀ s, s ∈ Y → g.T M s = true := fun s q => hs.T s (by simp [q])
  have hd1 := List.nodup_append.1 hs.nd
  have hd2 := List.nodup_append.1 hd1.2.1
  have out : ∀ s, s ∈ Sc' → (s ∈ X ∨ s ∈ Y) → s ∈ Sc := fun s q r => by
    rcases h.new s q with c | c
    · exact c
    · rcases r with r | r
      · rw [hX s r] at c; simp at c
      · rw [hY s r] at c; simp at c
  refine ⟨fun s q => ?_, ?_, fun s q => ?_, fun i => ?_, fun i q r => ?_, h.cnt, ?_, ?_⟩
  · simp only [List.mem_append] at q ⊢
    rcases q with q | q | q
    · exact .inl q
    · exact .inr (.inl (h.sub s q))
    · exact .inr (.inr q)
  · refine List.nodup_append.2 ⟨hd1.1, List.nodup_append.2 ⟨h.nd, hd2.2.1, fun a ha b hb e => ?_⟩, fun a ha b hb e => ?_⟩
    · subst e
      exact hd2.2.2 a (out a ha (.inr hb)) a hb rfl
    · subst e
      rcases List.mem_append.1 hb with q | q
      · exact hd1.2.2 a ha a (by simp [out a q (.inl ha)]) rfl
      · exact hd1.2.2 a ha a (by simp [q]) rfl
  · simp only [List.mem_append] at q ⊢
    rcases q with q | q | q
    · exact .inl (.inl q)
    · rcases h.new s q with c | c
      · exact .inl (.inr (.inl c))
      · exact .inr c
    · exact .inl (.inr (.inr q))
  · rw [h.T i]
    by_cases e : i ∈ X ∨ i ∈ Y
    · have : g.T M i = true := by rcases e with e | e; exact hX i e; exact hY i e
      rw [this]; simp
    · simp only [not_or] at e
      simp [e.1, e.2]
  · simp only [List.mem_append, not_or] at q
    exact h.keep i q.2.1 r
  · have := h.left
    simp only [List.length_append]; omega
  · have := h.len
    simp only [List.length_append]; omega
end

end Go.Proofs.YtceakcejchbbjaaGreat
