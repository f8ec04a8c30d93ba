/-
  What tree.put leaves of sectors: which are taken, which have turned, how many. No program in sight. What tree.put leaves of a tree. No program in sight. Trees, roots and all: how many sectors, how deep. No program in sight.
-/
import Derived.Test.YtceakcejchbbjaaGreatTrP
section
namespace Go.Proofs.YtceakcejchbbjaaGreat
open Go.RowKit

theorem leftN_take {T T' : Nat → Bool} {s : Nat} (h1 : ∀ i, T' i = (T i || decide (i = s))) (h2 : T s = false) : ∀ h, leftN T h = leftN T' h + (if s < h then 1 else 0)
  | 0 => by simp [leftN]
  | h + 1 => by
    have ih := leftN_take h1 h2 h
    unfold leftN
    rw [h1 h]
    by_cases e : h = s
    · subst e
      rw [h2, ih]
      simp
    · rw [ih]
      have : (s < h + 1) = (s < h) := by rw [eq_iff_iff]; omega
      simp only [this, e, decide_false, Bool.or_false]
      cases T h
      · simp only [Bool.false_eq_true, if_false]; omega
      · simp
def c1M (M : Nat → Option Sec) : Nat := if (M 1).isSome then 0 else 1
theorem T_put {g : Sg} {M : Nat → Option Sec} {a : Nat} (x : Sec) (ha : a ≠ 1) (i : Nat) : g.T (putS M a x) i = g.T M i := by
  unfold Sg.T Sg.cur putS
  rw [if_neg (Ne.symm ha)]
theorem cur_put {g : Sg} {M : Nat → Option Sec} (a : Nat) (x : Sec) (i : Nat) : g.cur (putS M a x) i = if i = a then x else g.cur M i := by
  unfold Sg.cur putS
  split <;> rfl
theorem cur_tak {g : Sg} {M : Nat → Option Sec} (s i : Nat) (hi : i ≠ 1) : g.cur (takM g M s) i = g.cur M i := by
  unfold Sg.cur takM put1
  rw [if_neg hi]
theorem T_tak {g : Sg} {M : Nat → Option Sec} (hl : (g.cur M 1).length = 512) {s : Nat} (hs : 4 ≤ s) (hh : s < 4096) (i : Nat) : g.T (takM g M s) i = (g.T M i || decide (i = s)) := by
  unfold takM
  rw [Sg.T_turn hl true hs (by omega)]
  by_cases e : i = s
  · subst e; simp
  · rw [if_neg (by omega)]; simp [e]
theorem c1_put {M : Nat → Option Sec} {a : Nat} (x : Sec) (ha : a ≠ 1) : c1M (putS M a x) = c1M M := by
  unfold c1M putS
  rw [if_neg (Ne.symm ha)]
theorem c1_tak (g : Sg) (M : Nat → Option Sec) (s : Nat) : c1M (takM g M s) = 0 := by
  unfold c1M takM put1; simp
theorem cnt_put {M : Nat → Option Sec} {h a : Nat} {x : Sec} (ho : MOk M h) (ha : a < h) : cntM (putS M a x) h ≤ cntM M h + 1 := by
  have := cntM_put (s := x) ho ha
  unfold putS
  rw [this]; split <;> omega
theorem cnt_put_some {M : Nat → Option Sec} {h a : Nat} {x : Sec} (ho : MOk M h) (ha : a < h) (hs : (M a).isSome = true) : cntM (putS M a x) h = cntM M h := by
  have := cntM_put (s := x) ho ha
  unfold putS
  rw [this, if_pos hs]
theorem cnt_tak {g : Sg} {M : Nat → Option Sec} {h : Nat} (s : Nat) (ho : MOk M h) (hh : 1 < h) : cntM (takM g M s) h = cntM M h + c1M M := by
  unfold takM put1 c1M
  rw [cntM_put ho hh]
  split <;> rfl

/-- What a change of a tree leaves: S its sectors ahead of it, S' behind it; n sectors more at most, m of them turned at most. -/
structure Grown (g : Sg) (M M' : Nat → Option Sec) (S S' : List Nat) (n m : Nat) : Prop where
  sub : ∀ s, s ∈ S → s ∈ S'
  nd : S'.Nodup
  new : ∀ s, s ∈ S' → s ∈ S ∨ (g.T M s = false ∧ 4 ≤ s ∧ s < g.h)
  T : ∀ i, g.T M' i = (g.T M i || decide (i ∈ S'))
  keep : ∀ i, i ∉ S' → i ≠ 1 → M' i = M i
  cnt : cntM M' g.h + c1M M' ≤ cntM M g.h + c1M M + m
  left : leftN (g.T M') g.h + S'.length = leftN (g.T M) g.h + S.length
  len : S'.length ≤ S.length + n
/-- The tree's sectors are in order. -/
structure Held9 (g : Sg) (M : Nat → Option Sec) (S : List Nat) : Prop where
  nd : S.Nodup
  low : ∀ s, s ∈ S → 4 ≤ s ∧ s < g.h
  T : ∀ s, s ∈ S → g.T M s = true
section
variable {g : Sg} {M M1 : Nat → Option Sec} {S S' : List Nat} {n m : Nat}
theorem Held9.refl (h : Held9 g M S) : Grown g M M S S 0 0 :=
  ⟨fun _ q => q, h.nd, fun _ q => .inl q, fun i => by
    by_cases e : i ∈ S
    · rw [h.T i e]; simp
    · simp [e], fun _ _ _ => rfl, Nat.le_refl _, rfl, Nat.le_refl _⟩
theorem Grown.held (h : Grown g M M1 S S' n m) (hs : Held9 g M S) : Held9 g M1 S' :=
  ⟨h.nd, fun s q => by rcases h.new s q with r | r; exact hs.low s r; exact r.2, fun s q => by rw [h.T]; simp [q]⟩
theorem Grown.perm (h : Grown g M M1 S S' n m) {S2 : List Nat} (hp : S'.Perm S2) : Grown g M M1 S S2 n m :=
  ⟨fun s q => hp.mem_iff.1 (h.sub s q), hp.nodup_iff.1 h.nd, fun s q => h.new s (hp.mem_iff.2 q), fun i => by rw [h.T]; simp only [hp.mem_iff], fun i q => h.keep i (fun r => q (hp.mem_iff.1 r)), h.cnt, by rw [← hp.length_eq]; exact h.left, by rw [← hp.length_eq]; exact h.len⟩
theorem Grown.mono (h : Grown g M M1 S S' n m) {n' m' : Nat} (hn : n ≤ n') (hm : m ≤ m') : Grown g M M1 S S' n' m' :=
  ⟨h.sub, h.nd, h.new, h.T, h.keep, Nat.le_trans h.cnt (by omega), h.left, Nat.le_trans h.len (by omega)⟩
theorem Grown.put (h : Grown g M M1 S S' n m) (ho : MOk M1 g.h) {a : Nat} (ha : a ∈ S') (ha1 : 4 ≤ a) (hh : a < g.h) (x : Sec) : Grown g M (putS M1 a x) S S' n (m + 1) := by
  refine ⟨h.sub, h.nd, h.new, fun i => by rw [T_put x (by omega)]; exact h.T i, fun i q r => ?_, ?_, ?_, h.len⟩
  · unfold putS
    rw [if_neg (by rintro rfl; exact q ha)]
    exact h.keep i q r
  · rw [c1_put x (by omega)]
    have := cnt_put (x := x) ho hh
    have := h.cnt
    omega
  · rw [show g.T (putS M1 a x) = g.T M1 from funext fun i => T_put x (by omega) i]; exact h.left
theorem Grown.take (h : Grown g M M1 S S' n m) (ho : MOk M1 g.h) (hl : (g.cur M1 1).length = 512) (hh : 1 < g.h) (hh2 : g.h ≤ 4096) {s : Nat} (hs : 4 ≤ s) (hs2 : s < g.h) (hT : g.T M1 s = false) : Grown g M (takM g M1 s) S (s :: S') (n + 1) m := by
  have hT1 := T_tak hl hs (show s < 4096 by omega)
  have h0 : g.T M s = false ∧ s ∉ S' := by
    have := h.T s
    rw [hT] at this
    cases q : g.T M s
    · rw [q] at this; simp at this; exact ⟨rfl, this⟩
    · rw [q] at this; simp at this
  refine ⟨fun i q => List.mem_cons_of_mem _ (h.sub i q), List.nodup_cons.2 ⟨h0.2, h.nd⟩, fun i q => ?_, fun i => ?_, fun i q r => ?_, ?_, ?_, ?_⟩
  · rcases List.mem_cons.1 q with rfl | q
    · exact .inr ⟨h0.1, hs, hs2⟩
    · exact h.new i q
  · rw [hT1, h.T]
    by_cases e : i = s
    · subst e; simp
    · simp [e]
  · simp only [List.mem_cons, not_or] at q
    unfold takM put1
    rw [if_neg r]
    exact h.keep i q.2 r
  · rw [c1_tak, cnt_tak s ho hh]; exact h.cnt
  · have := leftN_take hT1 hT g.h
    rw [if_pos hs2] at this
    have := h.left
    simp only [List.length_cons]
    omega
  · have := h.len
    simp only [List.length_cons]; omega
/-- A child's change is its parent's. -/
theorem Grown.lift {Sc Sc' X Y : List Nat} (h : Grown g M M1 Sc Sc' n m) (hs : Held9 g M (X ++ (Sc ++ Y))) : Grown g M M1 (X ++ (Sc ++ Y)) (X ++ (Sc' ++ Y)) n m := by
  have hX : ∀ s, s ∈ X → g.T M s = true := fun s q => hs.T s (by simp [q])
  have hY : ∀ s, s ∈ Y → g.T M s = true := fun s q => hs.T s (by simp [q])
  have hd1 := List.nodup_append.1 hs.nd
  have hd2 := List.nodup_append.1 hd1.2.1
  have out : ∀ s, s ∈ Sc' → (s ∈ X ∨ s ∈ Y) → s ∈ Sc := fun s q r => by
    rcases h.new s q with c | c
    · exact c
    · rcases r with r | r
      · rw [hX s r] at c; simp at c
      · rw [hY s r] at c; simp at c
  refine ⟨fun s q => ?_, ?_, fun s q => ?_, fun i => ?_, fun i q r => ?_, h.cnt, ?_, ?_⟩
  · simp only [List.mem_append] at q ⊢
    rcases q with q | q | q
    · exact .inl q
    · exact .inr (.inl (h.sub s q))
    · exact .inr (.inr q)
  · refine List.nodup_append.2 ⟨hd1.1, List.nodup_append.2 ⟨h.nd, hd2.2.1, fun a ha b hb e => ?_⟩, fun a ha b hb e => ?_⟩
    · subst e
      exact hd2.2.2 a (out a ha (.inr hb)) a hb rfl
    · subst e
      rcases List.mem_append.1 hb with q | q
      · exact hd1.2.2 a ha a (by simp [out a q (.inl ha)]) rfl
      · exact hd1.2.2 a ha a (by simp [q]) rfl
  · simp only [List.mem_append] at q ⊢
    rcases q with q | q | q
    · exact .inl (.inl q)
    · rcases h.new s q with c | c
      · exact .inl (.inr (.inl c))
      · exact .inr c
    · exact .inl (.inr (.inr q))
  · rw [h.T i]
    by_cases e : i ∈ X ∨ i ∈ Y
    · have : g.T M i = true := by rcases e with e | e; exact hX i e; exact hY i e
      rw [this]; simp
    · simp only [not_or] at e
      simp [e.1, e.2]
  · simp only [List.mem_append, not_or] at q
    exact h.keep i q.2.1 r
  · have := h.left
    simp only [List.length_append]; omega
  · have := h.len
    simp only [List.length_append]; omega
end

end Go.Proofs.YtceakcejchbbjaaGreat
end

section
namespace Go.Proofs.YtceakcejchbbjaaGreat
open Go.RowKit

/-- What tree.put leaves: all as it was, but for a pair; or two parts, a key between them. -/
def PutAt (g : Sg) (M M' : Nat → Option Sec) (root : Bool) (d a : Nat) (l : List Pair9) (S : List Nat) (key v : Bs) : Option (Bs × Nat) → Prop
  | none => ∃ S', Shape (g.cur M') root d a (insL l key v) S' ∧ Grown g M M' S S' d (2 * d + 1) ∧ (lookL l key ≠ none → ∃ x s, x ∈ S ∧ M' = putS M x s)
  | some (k', b) => lookL l key = none ∧ ∃ l1 l2 S1 S2, insL l key v = l1 ++ l2 ∧ k'.length = 32 ∧ Shape (g.cur M') false d a l1 S1 ∧ Shape (g.cur M') false d b l2 S2 ∧ (∀ p, p ∈ l1 → ltB p.1 k' = true) ∧ (∀ p, p ∈ l2 → ltB p.1 k' = false) ∧ Grown g M M' S (S1 ++ S2) (d + 1) (2 * d + 2)
theorem PutAt.grown {g : Sg} {M M' : Nat → Option Sec} {root : Bool} {d a : Nat} {l : List Pair9} {S : List Nat} {key v : Bs} : ∀ {o : Option (Bs × Nat)}, PutAt g M M' root d a l S key v o → ∃ S', Grown g M M' S S' (d + 1) (2 * d + 2)
  | none, h => by obtain ⟨S', _, h, _⟩ := h; exact ⟨S', h.mono (by omega) (by omega)⟩
  | some (k', b), h => by obtain ⟨_, l1, l2, S1, S2, _, _, _, _, _, _, h⟩ := h; exact ⟨_, h⟩
theorem LeafOk.pairs {l : List Pair9} (h : LeafOk (l.map (·.1)) (l.map (·.2))) : ∀ p, p ∈ l → p.1.length = 32 ∧ p.2.length = 16 := fun p hp => ⟨h.k _ (List.mem_map.2 ⟨p, hp, rfl⟩), h.v _ (List.mem_map.2 ⟨p, hp, rfl⟩)⟩
theorem leafOk_mk {l : List Pair9} (h : ∀ p, p ∈ l → p.1.length = 32 ∧ p.2.length = 16) (hm : l.length ≤ 10) : LeafOk (l.map (·.1)) (l.map (·.2)) :=
  ⟨fun x hx => by obtain ⟨p, hp, rfl⟩ := List.mem_map.1 hx; exact (h p hp).1, fun x hx => by obtain ⟨p, hp, rfl⟩ := List.mem_map.1 hx; exact (h p hp).2, by simp, by simpa using hm⟩
theorem Shape.leaf {C : Nat → Sec} {root : Bool} {a : Nat} {l : List Pair9} (ha : a < 4294967296) (h : ∀ p, p ∈ l → p.1.length = 32 ∧ p.2.length = 16) (hm : l.length ≤ 10) (hc : C a = encLeaf (l.map (·.1)) (l.map (·.2))) (hn : (if root then 1 else 5) ≤ l.length) (hs : (l.map (·.1)).Pairwise (fun x y => ltB x y = true)) : Shape C root 0 a l [a] :=
  ⟨rfl, ha, leafOk_mk h hm, hc, hn, hs⟩
theorem insL_pairs {l : List Pair9} {key v : Bs} (h : ∀ p, p ∈ l → p.1.length = 32 ∧ p.2.length = 16) (hk : key.length = 32) (hv : v.length = 16) : ∀ p, p ∈ insL l key v → p.1.length = 32 ∧ p.2.length = 16 := fun p hp => by
  rcases insL_mem hp with rfl | q
  · exact ⟨hk, hv⟩
  · exact h p q
section
variable {g : Sg} {M M1 : Nat → Option Sec} {S : List Nat} {root : Bool} {a d : Nat} {l : List Pair9} {key v : Bs}
theorem cur_put_eq (g : Sg) (M : Nat → Option Sec) (a : Nat) (x : Sec) : g.cur (putS M a x) a = x := by rw [cur_put, if_pos rfl]
theorem cur_put_ne (g : Sg) (M : Nat → Option Sec) {a i : Nat} (x : Sec) (h : i ≠ a) : g.cur (putS M a x) i = g.cur M i := by rw [cur_put, if_neg h]
/-- A key that is there, at a leaf. -/
theorem putAt_there (hs : Shape (g.cur M) root 0 a l S) (hh : Held9 g M S) (ho : MOk M g.h) (hk : key.length = 32) (hv : v.length = 16) (ht : hasK (l.map (·.1)) key = true) : PutAt g M (putS M a (encLeaf (l.map (·.1)) ((l.map (·.2)).set (posK (l.map (·.1)) key) v))) root 0 a l S key v none := by
  have hlow := hh.low a hs.mem.1
  obtain ⟨rfl, ha, hok, hc, hn, hp⟩ := hs
  have hl : (insL l key v).length = l.length := by rw [insL_length, if_pos ht]
  refine ⟨[a], Shape.leaf ha (insL_pairs hok.pairs hk hv) (by rw [hl]; simpa using hok.most) ?_ (by rw [hl]; exact hn) (insL_sorted hp), hh.refl.put ho (by simp) hlow.1 hlow.2 _, fun _ => ⟨a, _, by simp, rfl⟩⟩
  rw [cur_put_eq, insL_keys, insL_vals, if_pos ht, if_pos ht]
/-- A new key, at a leaf with room. -/
theorem putAt_room (hs : Shape (g.cur M) root 0 a l S) (hh : Held9 g M S) (ho : MOk M g.h) (hk : key.length = 32) (hv : v.length = 16) (ht : hasK (l.map (·.1)) key = false) (hr : (l.map (·.1)).length ≤ 9) : PutAt g M (putS M a (encLeaf (insAt (l.map (·.1)) (posK (l.map (·.1)) key) key) (insAt (l.map (·.2)) (posK (l.map (·.1)) key) v))) root 0 a l S key v none := by
  have hlow := hh.low a hs.mem.1
  obtain ⟨rfl, ha, hok, hc, hn, hp⟩ := hs
  have hl : (insL l key v).length = l.length + 1 := by rw [insL_length, ht]; simp
  rw [List.length_map] at hr
  refine ⟨[a], Shape.leaf ha (insL_pairs hok.pairs hk hv) (by omega) ?_ (by rw [hl]; omega) (insL_sorted hp), hh.refl.put ho (by simp) hlow.1 hlow.2 _, fun _ => ⟨a, _, by simp, rfl⟩⟩
  rw [cur_put_eq, insL_keys, insL_vals, ht]
  simp
theorem mem_take_of {α : Type} {l : List α} {n : Nat} {x : α} (h : x ∈ l.take n) : x ∈ l := List.mem_of_mem_take h
/-- A new key, at a leaf without room. -/
theorem putAt_part (hs : Shape (g.cur M) root 0 a l S) (hh : Held9 g M S) (ho : MOk M g.h) (hl1 : (g.cur M 1).length = 512) (h1 : 1 < g.h) (h2 : g.h ≤ 4096) (hk : key.length = 32) (hv : v.length = 16) (ht : hasK (l.map (·.1)) key = false) (hr : (l.map (·.1)).length = 10) {K V : List Bs} (hK : insAt (l.map (·.1)) (posK (l.map (·.1)) key) key = K) (hV : insAt (l.map (·.2)) (posK (l.map (·.1)) key) v = V)
    {k' : Bs} (hk' : K[5]? = some k') {s : Nat} (hs4 : 4 ≤ s) (hsh : s < g.h) (hT : g.T M s = false) (ho1 : MOk (takM g M s) g.h) (ho2 : MOk (putS (takM g M s) a (encLeaf (K.take 5) (V.take 5))) g.h) : PutAt g M (putS (putS (takM g M s) a (encLeaf (K.take 5) (V.take 5))) s (encLeaf (K.drop 5) (V.drop 5))) root 0 a l S key v (some (k', s)) := by
  have hlow := hh.low a hs.mem.1
  have hTa := hh.T a hs.mem.1
  obtain ⟨rfl, ha, hok, hc, hn, hp⟩ := hs
  rw [List.length_map] at hr
  have hl : (insL l key v).length = 11 := by rw [insL_length, ht]; simp [hr]
  have hK2 : (insL l key v).map (·.1) = K := by rw [insL_keys, ht]; simpa using hK
  have hV2 : (insL l key v).map (·.2) = V := by rw [insL_vals, ht]; simpa using hV
  have hso := insL_sorted (key := key) (v := v) hp
  have hpr := insL_pairs hok.pairs hk hv
  have hlk : lookL l key = none := by rw [lookL_leaf, ht]; simp
  obtain ⟨L, hL⟩ : ∃ L, insL l key v = L := ⟨_, rfl⟩
  rw [hL] at hl hK2 hV2 hso
  simp only [hL] at hpr
  have has : a ≠ s := by rintro rfl; rw [hTa] at hT; simp at hT
  subst hK2 hV2
  refine ⟨hlk, L.take 5, L.drop 5, [a], [s], by rw [List.take_append_drop]; exact hL, ?_, ?_, ?_, ?_, ?_, ?_⟩
  · obtain ⟨p, hp, rfl⟩ := List.mem_map.1 (List.mem_of_getElem? hk')
    exact (hpr p hp).1
  · refine Shape.leaf ha (fun p q => hpr p (List.mem_of_mem_take q)) (by simp; omega) ?_ (by simp; omega) ?_
    · rw [cur_put_ne _ _ _ has, cur_put_eq, List.map_take, List.map_take]
    · rw [List.map_take]; exact hso.sublist (List.take_sublist _ _)
  · refine Shape.leaf (by omega) (fun p q => hpr p (List.mem_of_mem_drop q)) (by simp; omega) ?_ (by simp; omega) ?_
    · rw [cur_put_eq, List.map_drop, List.map_drop]
    · rw [List.map_drop]; exact hso.sublist (List.drop_sublist _ _)
  · intro p hp
    obtain ⟨i, hi⟩ := List.mem_iff_getElem?.1 hp
    have hi5 : i < 5 := by
      have := (List.getElem?_eq_some_iff.1 hi).1
      simp at this; omega
    rw [List.getElem?_take_of_lt hi5] at hi
    obtain ⟨hj, ej⟩ := List.getElem?_eq_some_iff.1 hk'
    obtain ⟨hi', ei⟩ := List.getElem?_eq_some_iff.1 hi
    have := List.pairwise_iff_getElem.1 hso i 5 (by simpa using hi') hj hi5
    rw [ej] at this
    rw [← ei]
    simpa using this
  · intro p hp
    obtain ⟨i, hi⟩ := List.mem_iff_getElem?.1 hp
    rw [List.getElem?_drop] at hi
    obtain ⟨hj, ej⟩ := List.getElem?_eq_some_iff.1 hk'
    obtain ⟨hi', ei⟩ := List.getElem?_eq_some_iff.1 hi
    cases i with
    | zero =>
      have : p.1 = k' := by rw [← ei, ← ej]; simp
      rw [this]; exact ltB_irrefl _
    | succ i =>
      have := List.pairwise_iff_getElem.1 hso 5 (5 + (i + 1)) hj (by simpa using hi') (by omega)
      rw [ej] at this
      have e : p.1 = (L.map (·.1))[5 + (i + 1)]'(by simpa using hi') := by rw [← ei]; simp
      rw [e]
      exact ltB_asymm this
  · have t1 := hh.refl.take ho hl1 h1 h2 hs4 hsh hT
    have t2 := t1.put ho1 (a := a) (by simp) hlow.1 hlow.2 (encLeaf ((L.map (·.1)).take 5) ((L.map (·.2)).take 5))
    have t3 := t2.put ho2 (a := s) (by simp) hs4 hsh (encLeaf ((L.map (·.1)).drop 5) ((L.map (·.2)).drop 5))
    exact t3.perm (List.Perm.swap _ _ _)
end

/-- Where a key is looked for below an inner node, and what the child's change makes of the node. -/
structure AtKid (g : Sg) (M : Nat → Option Sec) (root : Bool) (d a : Nat) (l : List Pair9) (S : List Nat) (key v : Bs) (ks : List Bs) (ds : List Nat) (kid : Nat) (lc : List Pair9) (Sc : List Nat) : Prop where
  ok : InnerOk ks ds
  enc : g.cur M a = encInner ks ds
  at_ : ds[chK ks key]? = some kid
  shape : Shape (g.cur M) false d kid lc Sc
  held : Held9 g M Sc
  whole : ∀ M1, PutAt g M M1 false d kid lc Sc key v none → PutAt g M M1 root (d + 1) a l S key v none
  len : ∀ M1 k' b, PutAt g M M1 false d kid lc Sc key v (some (k', b)) → k'.length = 32 ∧ b < 4294967296
  room : ∀ M1 k' b, PutAt g M M1 false d kid lc Sc key v (some (k', b)) → MOk M1 g.h → ks.length ≤ 12 → PutAt g M (putS M1 a (encInner (insAt ks (chK ks key) k') (insAt ds (chK ks key + 1) b))) root (d + 1) a l S key v none
  part : ∀ M1 k' b, PutAt g M M1 false d kid lc Sc key v (some (k', b)) → MOk M1 g.h → (g.cur M1 1).length = 512 → 1 < g.h → g.h ≤ 4096 → ks.length = 13 → ∀ k7 s, (insAt ks (chK ks key) k')[7]? = some k7 → 4 ≤ s → s < g.h → g.T M1 s = false → MOk (takM g M1 s) g.h → MOk (putS (takM g M1 s) a (encInner ((insAt ks (chK ks key) k').take 7) ((insAt ds (chK ks key + 1) b).take 8))) g.h →
    PutAt g M (putS (putS (takM g M1 s) a (encInner ((insAt ks (chK ks key) k').take 7) ((insAt ds (chK ks key + 1) b).take 8))) s (encInner ((insAt ks (chK ks key) k').drop 8) ((insAt ds (chK ks key + 1) b).drop 8))) root (d + 1) a l S key v (some (k7, s))
theorem chK_le (ks : List Bs) (key : Bs) : chK ks key ≤ ks.length := by
  unfold chK hasK
  split
  · next h => have := (List.getElem?_eq_some_iff.1 (of_decide_eq_true h)).1; omega
  · exact posK_le _ _
theorem innerOk_ins {ks : List Bs} {ds : List Nat} (h : InnerOk ks ds) {i : Nat} (hi : i ≤ ks.length) {k' : Bs} (hk : k'.length = 32) {b : Nat} (hb : b < 4294967296) : (∀ x, x ∈ insAt ks i k' → x.length = 32) ∧ (∀ x, x ∈ insAt ds (i + 1) b → x < 4294967296) ∧ (insAt ks i k').length = ks.length + 1 ∧ (insAt ds (i + 1) b).length = ks.length + 2 := by
  refine ⟨fun x q => ?_, fun x q => ?_, insAt_length _ _ _ hi, ?_⟩
  · rcases mem_insAt q with rfl | r
    · exact hk
    · exact h.k x r
  · rcases mem_insAt q with rfl | r
    · exact hb
    · exact h.d x r
  · rw [insAt_length _ _ _ (by rw [h.n]; omega), h.n]
theorem Grown.cur {g : Sg} {M M1 : Nat → Option Sec} {S S' : List Nat} {n m : Nat} (h : Grown g M M1 S S' n m) {i : Nat} (hi : i ∉ S') (h1 : i ≠ 1) : g.cur M1 i = g.cur M i := by
  unfold Sg.cur; rw [h.keep i hi h1]
theorem Shape.at {g : Sg} {M : Nat → Option Sec} {root : Bool} {d a : Nat} {l : List Pair9} {S : List Nat} {key v : Bs} (hs : Shape (g.cur M) root (d + 1) a l S) (hh : Held9 g M S) : ∃ ks ds kid lc Sc, AtKid g M root d a l S key v ks ds kid lc Sc := by
  have hlow := hh.low a hs.mem.1
  obtain ⟨ha, ks, ds, S', rfl, hok, hc, hn, hp, hkids⟩ := hs
  obtain ⟨kid, la, lc, lb, Sa, Sc, Sb, e1, rfl, rfl, hsc, hla, hlb, hf, t1, t2⟩ := hkids.turn (key := key) hp
  have hh2 : Held9 g M ((a :: Sa) ++ (Sc ++ Sb)) := hh
  have hI := chK_le ks key
  have hlc : Held9 g M Sc := ⟨(List.nodup_append.1 (List.nodup_append.1 hh2.nd).2.1).1, fun s q => hh.low s (by simp [q]), fun s q => hh.T s (by simp [q])⟩
  -- what the child's change leaves alone
  have out : ∀ {M1 : Nat → Option Sec} {Sc' : List Nat} {n m : Nat}, Grown g M M1 Sc Sc' n m → ∀ i, (i = a ∨ i ∈ Sa ∨ i ∈ Sb) → i ∉ Sc' ∧ g.cur M1 i = g.cur M i := by
    intro M1 Sc' n m hG i hi
    have hnd := (hG.lift hh2).nd
    have hout : i ∉ Sc' := by
      have n1 := List.nodup_append.1 hnd
      have n2 := List.nodup_append.1 n1.2.1
      intro q
      rcases hi with rfl | hi | hi
      · exact n1.2.2 i (by simp) i (by simp [q]) rfl
      · exact n1.2.2 i (by simp [hi]) i (by simp [q]) rfl
      · exact n2.2.2 i q i hi rfl
    have hi4 : 4 ≤ i := by
      rcases hi with rfl | hi | hi
      · exact hlow.1
      · exact (hh.low i (by simp [hi])).1
      · exact (hh.low i (by simp [hi])).1
    exact ⟨hout, hG.cur hout (by omega)⟩
  have ana : ∀ i, (i ∈ Sa ∨ i ∈ Sb) → i ≠ a := by
    rintro i hi rfl
    have := (List.nodup_cons.1 hh.nd).1
    rcases hi with q | q <;> simp [q] at this
  refine ⟨ks, ds, kid, lc, Sc, hok, hc, e1, hsc, hlc, ?_, ?_, ?_, ?_⟩
  · rintro M1 ⟨Sc', hq, hG, hlk⟩
    have ho := out hG
    refine ⟨(a :: Sa) ++ (Sc' ++ Sb), ⟨ha, ks, ds, Sa ++ (Sc' ++ Sb), rfl, hok, (ho a (.inl rfl)).2.trans hc, hn, hp, ?_⟩, (hG.lift hh2).mono (by omega) (by omega), fun hn => ?_⟩
    · rw [insL_mid hla hlb]
      exact t1 _ _ _ (fun k l2 S2 hP hS => hP.keep fun s q => (ho s (.inr (hS s q))).2) hq hf.ins
    · rw [lookL_mid hla hlb] at hn
      obtain ⟨x, s, hx, e⟩ := hlk hn
      exact ⟨x, s, by simp [hx], e⟩
  · rintro M1 k' b ⟨_, l1, l2, S1, S2, _, hk', _, h2, _⟩
    exact ⟨hk', h2.mem.2⟩
  · rintro M1 k' b ⟨hlk, l1, l2, S1, S2, el, hk', q1, q2, b1, b2, hG⟩ ho1 hroom
    have ho := out hG
    obtain ⟨i1, i2, i3, i4⟩ := innerOk_ins hok hI hk' q2.mem.2
    have hG2 := (hG.lift hh2).put ho1 (a := a) (by simp) hlow.1 hlow.2 (encInner (insAt ks (chK ks key) k') (insAt ds (chK ks key + 1) b))
    have na : ∀ s, s ∈ S1 ++ S2 → s ≠ a := by rintro s q rfl; exact (ho s (.inl rfl)).1 q
    have hf2 : Fits ks key (l1 ++ l2) := by rw [← el]; exact hf.ins
    have hfk := hf2.key q1.ne q2.ne b1 b2
    refine ⟨(a :: Sa) ++ ((S1 ++ S2) ++ Sb), ⟨ha, _, _, Sa ++ ((S1 ++ S2) ++ Sb), rfl, ⟨i1, i2, by rw [i3, i4], by omega⟩, cur_put_eq _ _ _ _, by rw [i3]; omega, pair_ins hp hfk, ?_⟩, hG2.mono (by omega) (by omega), fun hn => absurd ((lookL_mid hla hlb).trans hlk) hn⟩
    rw [insL_mid hla hlb, el]
    exact t2 _ _ _ _ _ _ _ (fun k l2 S2 hP hS => hP.keep fun s q => by rw [cur_put_ne _ _ _ (ana s (hS s q))]; exact (ho s (.inr (hS s q))).2) (q1.keep fun s q => cur_put_ne _ _ _ (na s (by simp [q]))) (q2.keep fun s q => cur_put_ne _ _ _ (na s (by simp [q]))) b1 b2 hf2 hfk
  · rintro M1 k' b ⟨hlk, l1, l2, S1, S2, el, hk', q1, q2, b1, b2, hG⟩ ho1 hl1 h1 h2 hr k7 s h7 hs4 hsh hT ho2 ho3
    have ho := out hG
    obtain ⟨i1, i2, i3, i4⟩ := innerOk_ins hok hI hk' q2.mem.2
    have hL := hG.lift hh2
    have hHL := hL.held hh2
    have hG1 := hL.take ho1 hl1 h1 h2 hs4 hsh hT
    have hG2 := hG1.put ho2 (a := a) (by simp) hlow.1 hlow.2 (encInner ((insAt ks (chK ks key) k').take 7) ((insAt ds (chK ks key + 1) b).take 8))
    have hG3 := hG2.put ho3 (a := s) (by simp) hs4 hsh (encInner ((insAt ks (chK ks key) k').drop 8) ((insAt ds (chK ks key + 1) b).drop 8))
    have ns : ∀ i, i ∈ (a :: Sa) ++ ((S1 ++ S2) ++ Sb) → i ≠ s ∧ i ≠ 1 := by
      intro i q
      refine ⟨?_, by have := (hHL.low i q).1; omega⟩
      rintro rfl
      rw [hHL.T i q] at hT; simp at hT
    have na : ∀ i, i ∈ S1 ++ S2 → i ≠ a := by rintro i q rfl; exact (ho i (.inl rfl)).1 q
    have hcur : ∀ i, i ∈ Sa ++ ((S1 ++ S2) ++ Sb) → i ≠ a → g.cur (putS (putS (takM g M1 s) a (encInner ((insAt ks (chK ks key) k').take 7) ((insAt ds (chK ks key + 1) b).take 8))) s (encInner ((insAt ks (chK ks key) k').drop 8) ((insAt ds (chK ks key + 1) b).drop 8))) i = g.cur M1 i := by
      intro i q qa
      have := ns i (List.mem_cons_of_mem _ q)
      rw [cur_put_ne _ _ _ this.1, cur_put_ne _ _ _ qa, cur_tak _ _ this.2]
    have hf2 : Fits ks key (l1 ++ l2) := by rw [← el]; exact hf.ins
    have hfk := hf2.key q1.ne q2.ne b1 b2
    have hps := pair_ins hp hfk
    have hK := t2 (fun k l S => Shape (g.cur (putS (putS (takM g M1 s) a (encInner ((insAt ks (chK ks key) k').take 7) ((insAt ds (chK ks key + 1) b).take 8))) s (encInner ((insAt ks (chK ks key) k').drop 8) ((insAt ds (chK ks key + 1) b).drop 8)))) false d k l S) b k' l1 S1 l2 S2
      (fun k l2 S2 hP hS => hP.keep fun i q => by
        rw [hcur i (by rcases hS i q with r | r <;> simp [r]) (ana i (hS i q))]; exact (ho i (.inr (hS i q))).2)
      (q1.keep fun i q => hcur i (by simp [q]) (na i (by simp [q]))) (q2.keep fun i q => hcur i (by simp [q]) (na i (by simp [q]))) b1 b2 hf2 hfk
    obtain ⟨L1, T1, L2, T2, f1, f2, k1, k2, c1, c2⟩ := hK.part hps h7
    have has : a ≠ s := (ns a (by simp)).1
    refine ⟨(lookL_mid hla hlb).trans hlk, L1, L2, a :: T1, s :: T2, by rw [insL_mid hla hlb, el, f1], i1 _ (List.mem_of_getElem? h7), ⟨ha, _, _, T1, rfl, ⟨fun x q => i1 x (List.mem_of_mem_take q), fun x q => i2 x (List.mem_of_mem_take q), by rw [List.length_take, List.length_take, i3, i4]; omega, by rw [List.length_take]; omega⟩, ?_, ?_, hps.sublist (List.take_sublist _ _), k1⟩,
      ⟨by omega, _, _, T2, rfl, ⟨fun x q => i1 x (List.mem_of_mem_drop q), fun x q => i2 x (List.mem_of_mem_drop q), by rw [List.length_drop, List.length_drop, i3, i4]; omega, by rw [List.length_drop, i3]; omega⟩, ?_, ?_, hps.sublist (List.drop_sublist _ _), k2⟩, c1, c2, ?_⟩
    · rw [cur_put_ne _ _ _ has, cur_put_eq]
    · rw [List.length_take, i3, hr]; decide
    · rw [cur_put_eq]
    · rw [List.length_drop, i3, hr]; decide
    · refine (hG3.mono (by omega) (by omega)).perm ?_
      have e : s :: ((a :: Sa) ++ ((S1 ++ S2) ++ Sb)) = s :: a :: (T1 ++ T2) := by rw [← f2]; rfl
      rw [e]
      refine (List.Perm.swap _ _ _).trans (List.Perm.cons _ ?_)
      exact List.perm_middle.symm

end Go.Proofs.YtceakcejchbbjaaGreat
end

section
namespace Go.Proofs.YtceakcejchbbjaaGreat
open Go.RowKit

theorem Kids.size {P : Nat → List Pair9 → List Nat → Prop} (hP : ∀ k l S, P k l S → 4 * S.length + 1 ≤ l.length) {ks : List Bs} {ds : List Nat} {l : List Pair9} {S : List Nat} (h : Kids P ks ds l S) : 4 * S.length + ks.length + 1 ≤ l.length := by
  induction h with
  | one h => have := hP _ _ _ h; simpa using this
  | more h _ _ _ ih => have := hP _ _ _ h; simp only [List.length_append, List.length_cons]; omega
theorem Shape.size {C : Nat → Sec} : ∀ {d : Nat} {root : Bool} {a : Nat} {l : List Pair9} {S : List Nat}, Shape C root d a l S → 4 * S.length + (if root then 0 else 4) ≤ l.length + 3
  | 0, root, a, l, S, h => by
    obtain ⟨rfl, _, _, _, hn, _⟩ := h
    cases root <;> simp at hn ⊢ <;> omega
  | d + 1, root, a, l, S, h => by
    obtain ⟨_, ks, ds, S', rfl, _, _, hn, _, hk⟩ := h
    have := hk.size fun k l S h => by have := Shape.size (d := d) h; simp at this; omega
    cases root <;> simp at hn ⊢ <;> omega
theorem Kids.many {P : Nat → List Pair9 → List Nat → Prop} {B : Nat} (hP : ∀ k l S, P k l S → B ≤ l.length) {ks : List Bs} {ds : List Nat} {l : List Pair9} {S : List Nat} (h : Kids P ks ds l S) : (ks.length + 1) * B ≤ l.length := by
  induction h with
  | one h => have := hP _ _ _ h; simpa using this
  | more h _ _ _ ih =>
    have := hP _ _ _ h
    simp only [List.length_append, List.length_cons]
    rw [Nat.add_mul (_ + 1) 1 B, Nat.one_mul]; omega
theorem Shape.many {C : Nat → Sec} : ∀ {d : Nat} {a : Nat} {l : List Pair9} {S : List Nat}, Shape C false d a l S → 5 * 7 ^ d ≤ l.length
  | 0, a, l, S, h => by simpa using h.2.2.2.2.1
  | d + 1, a, l, S, h => by
    obtain ⟨_, ks, ds, S', _, _, _, hn, _, hk⟩ := h
    have := hk.many fun k l S h => Shape.many (d := d) h
    have hn : 6 ≤ ks.length := by simpa using hn
    have h2 := Nat.mul_le_mul_right (5 * 7 ^ d) (show 7 ≤ ks.length + 1 by omega)
    rw [Nat.pow_succ]; omega
theorem Shape.manyR {C : Nat → Sec} {d : Nat} {a : Nat} {l : List Pair9} {S : List Nat} (h : Shape C true (d + 1) a l S) : 10 * 7 ^ d ≤ l.length := by
  obtain ⟨_, ks, ds, S', _, _, _, hn, _, hk⟩ := h
  have := hk.many fun k l S h => Shape.many (d := d) h
  have hn : 1 ≤ ks.length := by simpa using hn
  have h2 := Nat.mul_le_mul_right (5 * 7 ^ d) (show 2 ≤ ks.length + 1 by omega)
  omega
/-- A tree of so many pairs is not deep. -/
theorem Shape.flat {C : Nat → Sec} {d : Nat} {a : Nat} {l : List Pair9} {S : List Nat} (h : Shape C true d a l S) (hl : l.length < 490) : d ≤ 2 := by
  cases d with
  | zero => omega
  | succ d =>
    have := h.manyR
    cases d with
    | zero => omega
    | succ d =>
      cases d with
      | zero => omega
      | succ d =>
        have : 1 ≤ 7 ^ d := Nat.pos_of_ne_zero (by simp)
        simp only [Nat.pow_succ] at *; omega
/-- A root, 0: a tree of no pairs. -/
def TreeAt (C : Nat → Sec) (r : Nat) (l : List Pair9) (S : List Nat) : Prop := (r = 0 ∧ l = [] ∧ S = []) ∨ (r ≠ 0 ∧ ∃ d, Shape C true d r l S)
theorem TreeAt.size {C : Nat → Sec} {r : Nat} {l : List Pair9} {S : List Nat} (h : TreeAt C r l S) : 4 * S.length ≤ l.length + 3 := by
  rcases h with ⟨_, rfl, rfl⟩ | ⟨_, d, h⟩
  · simp
  · have := h.size; simp at this; omega
theorem TreeAt.keep {C C' : Nat → Sec} {r : Nat} {l : List Pair9} {S : List Nat} (h : TreeAt C r l S) (hc : ∀ s, s ∈ S → C' s = C s) : TreeAt C' r l S := by
  rcases h with h | ⟨h0, d, h⟩
  · exact .inl h
  · exact .inr ⟨h0, d, h.keep hc⟩
/-- What tree.Put leaves. -/
def PutTop (g : Sg) (M M' : Nat → Option Sec) (r r' : Nat) (l : List Pair9) (S : List Nat) (key v : Bs) (m : Nat) : Prop :=
  ∃ S', TreeAt (g.cur M') r' (insL l key v) S' ∧ r' ≠ 0 ∧ Grown g M M' S S' 4 m ∧ (lookL l key ≠ none → r' = r ∧ ∃ x s, x ∈ S ∧ M' = putS M x s)
theorem putTop_whole {g : Sg} {M M' : Nat → Option Sec} {d r : Nat} {l : List Pair9} {S : List Nat} {key v : Bs} (hr : r ≠ 0) (hd : d ≤ 2) (h : PutAt g M M' true d r l S key v none) {m : Nat} (hm : 2 * d + 1 ≤ m) : PutTop g M M' r r l S key v m := by
  obtain ⟨S', h1, h2, h3⟩ := h
  exact ⟨S', .inr ⟨hr, d, h1⟩, hr, h2.mono (by omega) hm, fun q => ⟨rfl, h3 q⟩⟩
theorem putTop_part {g : Sg} {M M1 : Nat → Option Sec} {d r : Nat} {l : List Pair9} {S : List Nat} {key v k' : Bs} {b : Nat} (hr : r < 4294967296) (hd : d ≤ 2) (hh : Held9 g M S) (h : PutAt g M M1 true d r l S key v (some (k', b))) {m : Nat} (hm : 2 * d + 3 ≤ m) (ho : MOk M1 g.h) (hl1 : (g.cur M1 1).length = 512) (h1 : 1 < g.h) (h2 : g.h ≤ 4096) {s : Nat} (hs4 : 4 ≤ s) (hsh : s < g.h) (hT : g.T M1 s = false) (ho1 : MOk (takM g M1 s) g.h) :
    InnerOk [k'] [r, b] ∧ PutTop g M (putS (takM g M1 s) s (encInner [k'] [r, b])) r s l S key v m := by
  obtain ⟨hlk, l1, l2, S1, S2, el, hk', q1, q2, b1, b2, hG⟩ := h
  have hG1 := hG.take ho hl1 h1 h2 hs4 hsh hT
  have hG2 := hG1.put ho1 (a := s) (by simp) hs4 hsh (encInner [k'] [r, b])
  have hH := hG.held hh
  have ns : ∀ i, i ∈ S1 ++ S2 → i ≠ s ∧ i ≠ 1 := by
    intro i q
    refine ⟨?_, by have := (hH.low i q).1; omega⟩
    rintro rfl
    rw [hH.T i q] at hT; simp at hT
  have hcur : ∀ i, i ∈ S1 ++ S2 → g.cur (putS (takM g M1 s) s (encInner [k'] [r, b])) i = g.cur M1 i := fun i q => by
    rw [cur_put_ne _ _ _ (ns i q).1, cur_tak _ _ (ns i q).2]
  have hok : InnerOk [k'] [r, b] := ⟨by simpa using hk', by intro x q; simp at q; rcases q with rfl | rfl; exact hr; exact q2.mem.2, rfl, by simp⟩
  refine ⟨hok, s :: (S1 ++ S2), .inr ⟨by omega, d + 1, by omega, [k'], [r, b], S1 ++ S2, rfl, hok, cur_put_eq _ _ _ _, by simp, by simp, ?_⟩, by omega, hG2.mono (by omega) (by omega), fun q => absurd hlk q⟩
  rw [el]
  exact .more (q1.keep fun i q => hcur i (by simp [q])) b1 b2 (.one (q2.keep fun i q => hcur i (by simp [q])))
theorem putTop_first {g : Sg} {M : Nat → Option Sec} {key v : Bs} (hk : key.length = 32) (hv : v.length = 16) (ho : MOk M g.h) (hl1 : (g.cur M 1).length = 512) (h1 : 1 < g.h) (h2 : g.h ≤ 4096) {s : Nat} (hs4 : 4 ≤ s) (hsh : s < g.h) (hT : g.T M s = false) (ho1 : MOk (takM g M s) g.h) :
    LeafOk [key] [v] ∧ PutTop g M (putS (takM g M s) s (encLeaf [key] [v])) 0 s [] [] key v 1 := by
  have hh : Held9 g M [] := ⟨by simp, by simp, by simp⟩
  have hG1 := hh.refl.take ho hl1 h1 h2 hs4 hsh hT
  have hG2 := hG1.put ho1 (a := s) (by simp) hs4 hsh (encLeaf [key] [v])
  have hok : LeafOk [key] [v] := ⟨by simpa using hk, by simpa using hv, rfl, by simp⟩
  refine ⟨hok, [s], .inr ⟨by omega, 0, Shape.leaf (by omega) (by intro p hp; simp [insL] at hp; rw [hp]; exact ⟨hk, hv⟩) (by simp [insL]) (cur_put_eq _ _ _ _) (by simp [insL]) (by simp [insL])⟩, by omega, hG2.mono (by omega) (by omega), fun q => absurd rfl q⟩
/-- What is looked for behind a Put. -/
theorem lookL_ne {key v : Bs} {k : Bs} (hne : k ≠ key) : ∀ (l : List Pair9), (l.map (·.1)).Pairwise (fun x y => ltB x y = true) → lookL (insL l key v) k = lookL l k
  | [], _ => by
    show (if ltB key k then lookL [] k else if key = k then some v else none) = none
    rw [if_neg (Ne.symm hne)]
    split <;> rfl
  | p :: l, h => by
    have h1 := (List.pairwise_cons.1 h).1
    have h2 := (List.pairwise_cons.1 h).2
    have ih := lookL_ne hne (v := v) l h2
    unfold insL
    cases hp : ltB p.1 key
    · simp only [Bool.false_eq_true, if_false]
      by_cases e : p.1 = key
      · rw [if_pos e]
        show (if ltB key k then lookL l k else if key = k then some v else none) = (if ltB p.1 k then lookL l k else if p.1 = k then some p.2 else none)
        rw [e, if_neg (Ne.symm hne), if_neg (Ne.symm hne)]
      · rw [if_neg e]
        rw [show lookL ((key, v) :: p :: l) k = if ltB key k then lookL (p :: l) k else if key = k then some v else none from rfl, if_neg (Ne.symm hne)]
        cases hk : ltB key k
        · have hlt : ltB key p.1 = true := by
            cases q : ltB key p.1
            · exact absurd (ltB_total hp q) e
            · rfl
          have hkp : ltB k p.1 = true := ltB_of_ge hk hlt
          have : lookL (p :: l) k = none := by
            show (if ltB p.1 k then lookL l k else if p.1 = k then some p.2 else none) = none
            rw [ltB_asymm hkp, if_neg (by simp), if_neg (by intro q; rw [q, ltB_irrefl] at hkp; simp at hkp)]
          rw [this]; simp
        · simp
    · simp only [if_true]
      show (if ltB p.1 k then lookL (insL l key v) k else if p.1 = k then some p.2 else none) = _
      rw [ih]; rfl
theorem Kids.sorted {P : Nat → List Pair9 → List Nat → Prop} (hP : ∀ k l S, P k l S → (l.map (·.1)).Pairwise (fun x y => ltB x y = true)) {ks : List Bs} {ds : List Nat} {l : List Pair9} {S : List Nat} (h : Kids P ks ds l S) : (l.map (·.1)).Pairwise (fun x y => ltB x y = true) := by
  induction h with
  | one h => exact hP _ _ _ h
  | more h h1 h2 _ ih =>
    rw [List.map_append]
    refine List.pairwise_append.2 ⟨hP _ _ _ h, ih, fun x hx y hy => ?_⟩
    obtain ⟨p, hp, rfl⟩ := List.mem_map.1 hx
    obtain ⟨q, hq, rfl⟩ := List.mem_map.1 hy
    have e1 := h1 p hp
    cases e : ltB p.1 q.1
    · have := ltB_of_ge (a := q.1) e e1
      rw [h2 q hq] at this; simp at this
    · rfl
theorem Shape.sorted {C : Nat → Sec} : ∀ {d : Nat} {root : Bool} {a : Nat} {l : List Pair9} {S : List Nat}, Shape C root d a l S → (l.map (·.1)).Pairwise (fun x y => ltB x y = true)
  | 0, _, _, _, _, h => h.2.2.2.2.2
  | d + 1, _, _, _, _, h => by
    obtain ⟨_, ks, ds, S', _, _, _, _, _, hk⟩ := h
    exact hk.sorted fun k l S h => Shape.sorted (d := d) h
theorem TreeAt.sorted {C : Nat → Sec} {r : Nat} {l : List Pair9} {S : List Nat} (h : TreeAt C r l S) : (l.map (·.1)).Pairwise (fun x y => ltB x y = true) := by
  rcases h with ⟨_, rfl, _⟩ | ⟨_, d, h⟩
  · simp
  · exact h.sorted

end Go.Proofs.YtceakcejchbbjaaGreat
end
