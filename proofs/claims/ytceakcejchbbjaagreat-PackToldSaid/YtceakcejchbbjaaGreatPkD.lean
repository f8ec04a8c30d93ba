/-
  Package pack, plain: what Add and Drop leave; packs in a row; records; records of one size.
-/
import Derived.Test.YtceakcejchbbjaaGreatPkI
import Derived.Test.YtceakcejchbbjaaGreatFrD
set_option linter.unusedSimpArgs false
set_option linter.unusedVariables false
namespace Go.Proofs.YtceakcejchbbjaaGreat
open Go.RowKit Go.MapKept Go.ChangeMaps

/-- What Add leaves: into a pack with room, into a new one, or full. -/
def AddOut (K : Nat → Option Pk) (T : Nat → Bool) (h : Nat) (f : List UInt8) (K' : Nat → Option Pk) (T' : Nat → Bool) : Option (Nat × Nat) → Prop
  | some x => (∃ free p, RoomR K (-1) f.length x.1 free ∧ x.1 < 64 ∧ K x.1 = some p ∧ x.2 = p.data.length ∧ K' = setP K x.1 (some ⟨p.start, p.data ++ f, p.live + f.length⟩) ∧ T' = T) ∨
      (∃ s, RoomR K (-1) f.length 64 x.1 ∧ x.1 < 64 ∧ x.2 = 0 ∧ FirstFit T h 16 (some s) ∧ K' = setP K x.1 (some ⟨s, f, f.length⟩) ∧ ∀ i, T' i = if s ≤ i ∧ i < s + 16 then true else T i)
  | none => ∃ free, RoomR K (-1) f.length 64 free ∧ K' = K ∧ T' = T ∧ (free = 64 ∨ FirstFit T h 16 Option.none)
/-- What Drop leaves. -/
def DropOut (K : Nat → Option Pk) (T : Nat → Bool) (n l : Nat) (K' : Nat → Option Pk) (T' : Nat → Bool) : Prop :=
  ∃ p, K n = some p ∧ l ≤ p.live ∧
    ((p.live = l ∧ K' = setP K n Option.none ∧ ∀ i, T' i = if p.start ≤ i ∧ i < p.start + 16 then false else T i) ∨ (p.live ≠ l ∧ K' = setP K n (some ⟨p.start, p.data, p.live - l⟩) ∧ T' = T))
/-! ## packs in a row -/
structure RowOf (m : Nat) (K : Nat → Option Pk) (T : Nat → Bool) : Prop where
  here : ∀ n, n < m → ∃ p, K n = some p ∧ p.start = 4 + 16 * n
  out : ∀ n, m ≤ n → K n = Option.none
  bits : ∀ i, T i = decide (i < 4 + 16 * m)
theorem RowOf.zero {K : Nat → Option Pk} {T : Nat → Bool} (hK : ∀ n, K n = Option.none) (hT : ∀ i, T i = decide (i < 4)) : RowOf 0 K T :=
  ⟨fun n h => by omega, fun n _ => hK n, fun i => by rw [hT i]⟩
theorem RowOf.fit {m h s : Nat} {K : Nat → Option Pk} {T : Nat → Bool} (r : RowOf m K T) (hs : FirstFit T h 16 (some s)) : s = 4 + 16 * m ∧ 4 + 16 * m + 16 ≤ h := by
  obtain ⟨h1, h2, h3⟩ := hs
  have h4 : ¬ s < 4 + 16 * m := fun hlt => by
    have := h2 0 (by omega)
    rw [r.bits, decide_eq_false_iff_not] at this
    omega
  have h5 : ¬ 4 + 16 * m < s := fun hlt => h3 _ hlt fun q hq => by rw [r.bits, decide_eq_false_iff_not]; omega
  omega
theorem RowOf.nofit {m h : Nat} {K : Nat → Option Pk} {T : Nat → Bool} (r : RowOf m K T) (hs : FirstFit T h 16 Option.none) : h < 4 + 16 * m + 16 := by
  rcases Nat.lt_or_ge h (4 + 16 * m + 16) with h1 | h1
  · exact h1
  · exact absurd (fun q hq => by rw [r.bits, decide_eq_false_iff_not]; omega) (hs (4 + 16 * m) h1)
theorem RowOf.free {m l n free : Nat} {K : Nat → Option Pk} {T : Nat → Bool} {but : Int} (r : RowOf m K T) (q : RoomR K but l 64 free) : (free = m ∧ m < 64) ∨ (free = 64 ∧ 64 ≤ m) := by
  rcases Nat.lt_or_ge m 64 with h1 | h1
  · left
    have h2 : ¬ m < free := fun h => q.free_first m h1 h (r.out m (Nat.le_refl _))
    have h3 : ¬ free < m := fun h => by
      obtain ⟨p, hp, _⟩ := r.here free h
      rw [q.free_none (by omega)] at hp; cases hp
    omega
  · right
    refine ⟨?_, h1⟩
    have h2 := q.free_le
    rcases Nat.lt_or_ge free 64 with h3 | h3
    · obtain ⟨p, hp, _⟩ := r.here free (by omega)
      rw [q.free_none h3] at hp; cases hp
    · omega
/-- A pack more, or none. -/
theorem RowOf.put {m n : Nat} {K : Nat → Option Pk} {T : Nat → Bool} {p p' : Pk} (r : RowOf m K T) (hn : K n = some p) (hs : p'.start = p.start) : RowOf m (setP K n (some p')) T := by
  have hlt : n < m := by
    rcases Nat.lt_or_ge n m with h | h
    · exact h
    · rw [r.out n h] at hn; cases hn
  refine ⟨fun k hk => ?_, fun k hk => ?_, r.bits⟩
  · by_cases hkn : k = n
    · subst hkn
      obtain ⟨q, hq, hqs⟩ := r.here k hk
      rw [hn] at hq; cases hq
      exact ⟨p', setP_same _ _ _, by rw [hs, hqs]⟩
    · rw [setP_ne _ _ hkn]; exact r.here k hk
  · rw [setP_ne _ _ (by omega)]; exact r.out k hk
theorem RowOf.more {m : Nat} {K : Nat → Option Pk} {T T' : Nat → Bool} {p : Pk} (r : RowOf m K T) (hs : p.start = 4 + 16 * m) (ht : ∀ i, T' i = if 4 + 16 * m ≤ i ∧ i < 4 + 16 * m + 16 then true else T i) : RowOf (m + 1) (setP K m (some p)) T' := by
  refine ⟨fun k hk => ?_, fun k hk => ?_, fun i => ?_⟩
  · by_cases hkn : k = m
    · subst hkn; exact ⟨p, setP_same _ _ _, hs⟩
    · rw [setP_ne _ _ hkn]; exact r.here k (by omega)
  · rw [setP_ne _ _ (by omega)]; exact r.out k (by omega)
  · rw [ht i, r.bits i]
    split
    · rw [eq_comm, decide_eq_true_iff]; omega
    · apply decide_eq_decide.2; omega
theorem RowOf.add {m h : Nat} {K K' : Nat → Option Pk} {T T' : Nat → Bool} {f : List UInt8} {o : Option (Nat × Nat)} (r : RowOf m K T) (hm : m < 64) (hh : 4 + 16 * m + 16 ≤ h) (a : AddOut K T h f K' T' o) :
    ∃ x m', o = some x ∧ m' ≤ m + 1 ∧ RowOf m' K' T' := by
  rcases o with _ | x
  · obtain ⟨free, q, _, _, h1 | h1⟩ := a
    · rcases r.free (n := 0) q with h2 | h2 <;> omega
    · have := r.nofit h1; omega
  · refine ⟨x, ?_⟩
    rcases a with ⟨free, p, q, h1, h2, h3, rfl, rfl⟩ | ⟨s, q, h1, h2, h3, rfl, h4⟩
    · exact ⟨m, rfl, by omega, r.put h2 rfl⟩
    · obtain ⟨rfl, _⟩ := r.fit h3
      rcases r.free (n := 0) q with h5 | h5
      · refine ⟨m + 1, rfl, Nat.le_refl _, ?_⟩
        rw [h5.1]
        exact r.more rfl h4
      · omega
/-! ## records -/
structure Rc where
  n : Nat
  at_ : Nat
  key : List UInt8
  b : List UInt8
def Rc.len (r : Rc) : Nat := 46 + r.b.length
/-- How many bytes of the records stand in pack n. -/
def liveOf (R : List Rc) (n : Nat) : Nat := (R.map fun r => if r.n = n then r.len else 0).sum
theorem liveOf_cons (r : Rc) (R : List Rc) (n : Nat) : liveOf (r :: R) n = (if r.n = n then r.len else 0) + liveOf R n := by unfold liveOf; rw [List.map_cons, List.sum_cons]
theorem liveOf_perm {R R' : List Rc} (h : R.Perm R') (n : Nat) : liveOf R n = liveOf R' n := by
  induction h with
  | nil => rfl
  | cons x _ ih => rw [liveOf_cons, liveOf_cons, ih]
  | swap x y l => rw [liveOf_cons, liveOf_cons, liveOf_cons, liveOf_cons]; omega
  | trans _ _ h1 h2 => rw [h1, h2]
/-- The records R, and they alone, stand in the packs K. -/
structure RecsAt (K : Nat → Option Pk) (R : List Rc) : Prop where
  rec_ : ∀ r, r ∈ R → r.key.length = 32 ∧ r.b.length ≤ 4200 ∧ ∃ p, K r.n = some p ∧ r.at_ + r.len ≤ p.data.length ∧ (p.data.drop r.at_).take r.len = frameB r.key r.b
  live : ∀ n p, K n = some p → p.live = liveOf R n ∧ 0 < p.live
theorem RecsAt.zero {K : Nat → Option Pk} (hK : ∀ n, K n = Option.none) : RecsAt K [] :=
  ⟨fun r h => absurd h (List.not_mem_nil), fun n p h => by rw [hK n] at h; cases h⟩
theorem RecsAt.nil {K : Nat → Option Pk} (h : RecsAt K []) (n : Nat) : K n = Option.none := by
  rcases hn : K n with _ | p
  · rfl
  · have := h.live n p hn
    rw [show liveOf [] n = 0 from rfl] at this
    omega
theorem RecsAt.gone {K : Nat → Option Pk} {R : List Rc} {r : Rc} (h : RecsAt K R) (hr : r ∈ R) : K r.n ≠ Option.none := by
  obtain ⟨_, _, p, hp, _⟩ := h.rec_ r hr
  rw [hp]; exact fun h => by cases h
theorem liveOf_none {K : Nat → Option Pk} {R : List Rc} (h : RecsAt K R) {n : Nat} (hn : K n = Option.none) : liveOf R n = 0 := by
  have : ∀ Q : List Rc, (∀ r, r ∈ Q → r.n ≠ n) → liveOf Q n = 0 := fun Q => by
    induction Q with
    | nil => intro _; rfl
    | cons r Q ih =>
      intro hq
      rw [liveOf_cons, if_neg (hq r (by simp)), ih fun r' h' => hq r' (by simp [h'])]
  exact this R fun r hr e => h.gone hr (by rw [e]; exact hn)
theorem drop_pre {l f : List UInt8} {a k : Nat} (h : a + k ≤ l.length) : ((l ++ f).drop a).take k = (l.drop a).take k := by
  rw [List.drop_append_of_le_length (by omega), List.take_append_of_le_length (by rw [List.length_drop]; omega)]
theorem drop_suf {l f : List UInt8} : ((l ++ f).drop l.length).take f.length = f := by
  rw [List.drop_left, List.take_length]
/-- A record more, in a pack that was there. -/
theorem RecsAt.into {K : Nat → Option Pk} {R : List Rc} {n : Nat} {p : Pk} {key b : List UInt8} (h : RecsAt K R) (hn : K n = some p) (hk : key.length = 32) (hb : b.length ≤ 4200) :
    RecsAt (setP K n (some ⟨p.start, p.data ++ frameB key b, p.live + (frameB key b).length⟩)) (⟨n, p.data.length, key, b⟩ :: R) := by
  have hf := frameB_length (key := key) (b := b) hk
  refine ⟨fun r hr => ?_, fun m q hq => ?_⟩
  · rcases List.mem_cons.1 hr with rfl | hr
    · refine ⟨hk, hb, _, setP_same _ _ _, ?_, ?_⟩
      · show p.data.length + (46 + b.length) ≤ (p.data ++ frameB key b).length
        rw [List.length_append]; omega
      · show ((p.data ++ frameB key b).drop p.data.length).take (46 + b.length) = _
        rw [← hf]; exact drop_suf
    · obtain ⟨h1, h2, q, hq, h3, h4⟩ := h.rec_ r hr
      refine ⟨h1, h2, ?_⟩
      by_cases hrn : r.n = n
      · rw [hrn] at hq ⊢
        rw [hn] at hq; cases hq
        refine ⟨_, setP_same _ _ _, ?_, ?_⟩
        · show r.at_ + r.len ≤ (p.data ++ frameB key b).length
          rw [List.length_append]; omega
        · show ((p.data ++ frameB key b).drop r.at_).take r.len = _
          rw [drop_pre h3]; exact h4
      · exact ⟨q, by rw [setP_ne _ _ hrn]; exact hq, h3, h4⟩
  · rw [liveOf_cons]
    show _ = (if n = m then 46 + b.length else 0) + _ ∧ _
    by_cases hmn : m = n
    · subst hmn
      rw [setP_same] at hq; cases hq
      have := h.live m p hn
      rw [if_pos rfl]
      show p.live + (frameB key b).length = _ ∧ 0 < p.live + (frameB key b).length
      omega
    · rw [setP_ne _ _ hmn] at hq
      rw [if_neg (Ne.symm hmn)]
      have := h.live m q hq
      omega
/-- A record more, in a new pack. -/
theorem RecsAt.newp {K : Nat → Option Pk} {R : List Rc} {n s : Nat} {key b : List UInt8} (h : RecsAt K R) (hn : K n = Option.none) (hk : key.length = 32) (hb : b.length ≤ 4200) :
    RecsAt (setP K n (some ⟨s, frameB key b, (frameB key b).length⟩)) (⟨n, 0, key, b⟩ :: R) := by
  have hf := frameB_length (key := key) (b := b) hk
  refine ⟨fun r hr => ?_, fun m q hq => ?_⟩
  · rcases List.mem_cons.1 hr with rfl | hr
    · refine ⟨hk, hb, _, setP_same _ _ _, ?_, ?_⟩
      · show 0 + (46 + b.length) ≤ (frameB key b).length
        omega
      · show ((frameB key b).drop 0).take (46 + b.length) = _
        rw [← hf, List.drop_zero, List.take_length]
    · obtain ⟨h1, h2, q, hq, h3, h4⟩ := h.rec_ r hr
      have hrn : r.n ≠ n := fun e => by rw [e, hn] at hq; cases hq
      exact ⟨h1, h2, q, by rw [setP_ne _ _ hrn]; exact hq, h3, h4⟩
  · rw [liveOf_cons]
    show _ = (if n = m then 46 + b.length else 0) + _ ∧ _
    by_cases hmn : m = n
    · subst hmn
      rw [setP_same] at hq; cases hq
      have := liveOf_none h hn
      rw [if_pos rfl]
      show (frameB key b).length = _ ∧ 0 < (frameB key b).length
      omega
    · rw [setP_ne _ _ hmn] at hq
      rw [if_neg (Ne.symm hmn)]
      have := h.live m q hq
      omega
/-- Two places share no byte. -/
def Rc.off (r : Rc) (n a l : Nat) : Prop := r.n ≠ n ∨ a + l ≤ r.at_ ∨ r.at_ + r.len ≤ a
theorem RecsAt.add {K K' : Nat → Option Pk} {T T' : Nat → Bool} {h : Nat} {R : List Rc} {key b : List UInt8} {x : Nat × Nat} (k : RecsAt K R) (hk : key.length = 32) (hb : b.length ≤ 4200)
    (a : AddOut K T h (frameB key b) K' T' (some x)) : RecsAt K' (⟨x.1, x.2, key, b⟩ :: R) ∧ ∀ r, r ∈ R → r.off x.1 x.2 (46 + b.length) := by
  rcases a with ⟨free, p, q, h1, h2, h3, rfl, rfl⟩ | ⟨s, q, h1, h2, h3, rfl, h4⟩
  · rw [h3]
    refine ⟨k.into h2 hk hb, fun r hr => ?_⟩
    obtain ⟨_, _, p', hp', h5, _⟩ := k.rec_ r hr
    by_cases e : r.n = x.1
    · right; right
      rw [e, h2] at hp'; cases hp'
      exact h5
    · exact .inl e
  · rw [h2]
    have hn := q.free_none h1
    refine ⟨k.newp hn hk hb, fun r hr => .inl fun e => k.gone hr (by rw [e]; exact hn)⟩
/-- A record less. -/
theorem RecsAt.drop {K K' : Nat → Option Pk} {T T' : Nat → Bool} {R R' : List Rc} {r : Rc} (k : RecsAt K R) (hp : R.Perm (r :: R')) (d : DropOut K T r.n r.len K' T') : RecsAt K' R' := by
  obtain ⟨p, hn, hl, h⟩ := d
  have hmem : ∀ x, x ∈ R' → x ∈ R := fun x hx => hp.symm.subset (List.mem_cons_of_mem _ hx)
  have hlive : ∀ m q, K m = some q → q.live = (if r.n = m then r.len else 0) + liveOf R' m ∧ 0 < q.live := fun m q hq => by
    have := k.live m q hq
    rw [liveOf_perm hp m, liveOf_cons] at this
    exact this
  have h0 := hlive _ _ hn
  rw [if_pos rfl] at h0
  rcases h with ⟨h1, rfl, h2⟩ | ⟨h1, rfl, h2⟩
  · have hz : liveOf R' r.n = 0 := by omega
    have hno : ∀ x, x ∈ R' → x.n ≠ r.n := by
      have : ∀ Q : List Rc, liveOf Q r.n = 0 → ∀ x, x ∈ Q → x.n ≠ r.n := fun Q => by
        induction Q with
        | nil => intro _ x hx; cases hx
        | cons y Q ih =>
          intro hq x hx
          rw [liveOf_cons] at hq
          rcases List.mem_cons.1 hx with rfl | hx
          · intro e
            rw [if_pos e] at hq
            unfold Rc.len at hq
            omega
          · exact ih (by omega) x hx
      exact this R' hz
    refine ⟨fun x hx => ?_, fun m q hq => ?_⟩
    · obtain ⟨e1, e2, q, hq, e3⟩ := k.rec_ x (hmem x hx)
      exact ⟨e1, e2, q, by rw [setP_ne _ _ (hno x hx)]; exact hq, e3⟩
    · by_cases hm : m = r.n
      · rw [hm, setP_same] at hq; cases hq
      · rw [setP_ne _ _ hm] at hq
        have := hlive m q hq
        rw [if_neg (Ne.symm hm)] at this
        omega
  · refine ⟨fun x hx => ?_, fun m q hq => ?_⟩
    · obtain ⟨e1, e2, q, hq, e3, e4⟩ := k.rec_ x (hmem x hx)
      refine ⟨e1, e2, ?_⟩
      by_cases hm : x.n = r.n
      · rw [hm, hn] at hq; cases hq
        exact ⟨⟨p.start, p.data, p.live - r.len⟩, by rw [hm, setP_same], e3, e4⟩
      · exact ⟨q, by rw [setP_ne _ _ hm]; exact hq, e3, e4⟩
    · by_cases hm : m = r.n
      · rw [hm, setP_same] at hq; cases hq
        subst hm
        show p.live - r.len = _ ∧ 0 < p.live - r.len
        omega
      · rw [setP_ne _ _ hm] at hq
        have := hlive m q hq
        rw [if_neg (Ne.symm hm)] at this
        omega
/-- The record of a place can be dropped. -/
theorem RecsAt.live_le {K : Nat → Option Pk} {R : List Rc} {r : Rc} (k : RecsAt K R) (hr : r ∈ R) {p : Pk} (hp : K r.n = some p) : r.len ≤ p.live := by
  rw [(k.live _ _ hp).1]
  have : ∀ Q : List Rc, r ∈ Q → r.len ≤ liveOf Q r.n := fun Q => by
    induction Q with
    | nil => intro h; cases h
    | cons y Q ih =>
      intro h
      rw [liveOf_cons]
      rcases List.mem_cons.1 h with rfl | h
      · rw [if_pos rfl]; omega
      · have := ih h; omega
  exact this R hr
theorem filterMap_set {l : List (Option Rc)} : ∀ {k : Nat} {r : Rc}, l[k]? = some (some r) → (l.filterMap id).Perm (r :: (l.set k Option.none).filterMap id) := by
  induction l with
  | nil => intro k r h; simp at h
  | cons o l ih =>
    intro k r h
    rcases k with _ | k
    · rw [List.getElem?_cons_zero] at h
      cases h
      simp
    · rw [List.getElem?_cons_succ] at h
      have := ih h
      rcases o with _ | x
      · simpa using this
      · rw [List.set_cons_succ]
        have e1 : ∀ Q : List (Option Rc), (some x :: Q).filterMap id = x :: Q.filterMap id := fun Q => rfl
        rw [e1, e1]
        exact (this.cons x).trans (List.Perm.swap _ _ _)
/-! ## which sectors are taken -/
def TOnly (K : Nat → Option Pk) (T : Nat → Bool) : Prop := ∀ i, T i = true ↔ i < 4 ∨ ∃ n p, K n = some p ∧ p.start ≤ i ∧ i < p.start + 16
theorem RowOf.only {m : Nat} {K : Nat → Option Pk} {T : Nat → Bool} (r : RowOf m K T) : TOnly K T := fun i => by
  rw [r.bits i, decide_eq_true_iff]
  constructor
  · intro h
    by_cases h4 : i < 4
    · exact .inl h4
    · right
      obtain ⟨p, hp, hs⟩ := r.here ((i - 4) / 16) (by omega)
      exact ⟨_, p, hp, by omega, by omega⟩
  · rintro (h | ⟨n, p, hp, h1, h2⟩)
    · omega
    · have hn : n < m := by
        rcases Nat.lt_or_ge n m with h | h
        · exact h
        · rw [r.out n h] at hp; cases hp
      obtain ⟨q, hq, hs⟩ := r.here n hn
      rw [hp] at hq; cases hq
      omega
theorem TOnly.drop {K K' : Nat → Option Pk} {T T' : Nat → Bool} {n l : Nat} (t : TOnly K T) (hap : ∀ n p m q, K n = some p → K m = some q → n ≠ m → p.start + 16 ≤ q.start ∨ q.start + 16 ≤ p.start)
    (hlow : ∀ n p, K n = some p → 4 ≤ p.start) (d : DropOut K T n l K' T') : TOnly K' T' := by
  obtain ⟨p, hn, hl, ⟨h1, rfl, h2⟩ | ⟨h1, rfl, rfl⟩⟩ := d
  · intro i
    have hlw := hlow _ _ hn
    rw [h2 i]
    by_cases hi : p.start ≤ i ∧ i < p.start + 16
    · rw [if_pos hi]
      refine ⟨fun h => (by cases h), ?_⟩
      rintro (h | ⟨m, q, hq, h3, h4⟩)
      · omega
      · by_cases hm : m = n
        · rw [hm, setP_same] at hq; cases hq
        · rw [setP_ne _ _ hm] at hq
          have := hap m q n p hq hn hm
          omega
    · rw [if_neg hi, t i]
      refine or_congr Iff.rfl ⟨?_, ?_⟩
      · rintro ⟨m, q, hq, h3, h4⟩
        refine ⟨m, q, ?_, h3, h4⟩
        rw [setP_ne _ _ fun e => hi ?_]
        · exact hq
        · rw [e, hn] at hq; cases hq; exact ⟨h3, h4⟩
      · rintro ⟨m, q, hq, h3, h4⟩
        by_cases hm : m = n
        · rw [hm, setP_same] at hq; cases hq
        · rw [setP_ne _ _ hm] at hq; exact ⟨m, q, hq, h3, h4⟩
  · intro i
    rw [t i]
    refine or_congr Iff.rfl ⟨?_, ?_⟩
    · rintro ⟨m, q, hq, h3, h4⟩
      by_cases hm : m = n
      · rw [hm, hn] at hq; cases hq
        exact ⟨n, ⟨p.start, p.data, p.live - l⟩, setP_same _ _ _, h3, h4⟩
      · exact ⟨m, q, by rw [setP_ne _ _ hm]; exact hq, h3, h4⟩
    · rintro ⟨m, q, hq, h3, h4⟩
      by_cases hm : m = n
      · rw [hm, setP_same] at hq; cases hq
        exact ⟨n, p, hn, h3, h4⟩
      · rw [setP_ne _ _ hm] at hq; exact ⟨m, q, hq, h3, h4⟩
theorem TOnly.nil {K : Nat → Option Pk} {T : Nat → Bool} (t : TOnly K T) (hK : ∀ n, K n = Option.none) (i : Nat) : T i = decide (i < 4) := by
  by_cases h : i < 4
  · rw [decide_eq_true h]; exact (t i).2 (.inl h)
  · rw [decide_eq_false h, Bool.eq_false_iff]
    intro h1
    rcases (t i).1 h1 with h2 | ⟨n, p, hn, _⟩
    · exact h h2
    · rw [hK n] at hn; cases hn
/-! ## records of one size -/
structure Even (L e q r : Nat) (K : Nat → Option Pk) (T : Nat → Bool) : Prop where
  lt : r < e
  row : RowOf (if r = 0 then q else q + 1) K T
  full : ∀ n p, n < q → K n = some p → p.data.length = L * e
  last : ∀ p, 0 < r → K q = some p → p.data.length = L * r
theorem Even.zero {L e : Nat} {K : Nat → Option Pk} {T : Nat → Bool} (he : 0 < e) (hK : ∀ n, K n = Option.none) (hT : ∀ i, T i = decide (i < 4)) : Even L e 0 0 K T :=
  ⟨he, RowOf.zero hK hT, fun n p h => by omega, fun p h => by omega⟩
theorem Even.nofit {L e q r : Nat} {K : Nat → Option Pk} {T : Nat → Bool} {but : Int} (v : Even L e q r K T) (he : 8192 < L * e + L) {n : Nat} (hn : n < q) : ¬ FitsP K but L n := by
  rintro ⟨_, p, hp, h⟩
  have := v.full n p hn hp
  omega
theorem Even.add {L e q r h : Nat} {K K' : Nat → Option Pk} {T T' : Nat → Bool} {f : List UInt8} {o : Option (Nat × Nat)} (v : Even L e q r K T) (hL : f.length = L) (he : 8192 < L * e + L) (he2 : L * e ≤ 8192)
    (hq : q < 60) (hh : 4 + 16 * q + 16 ≤ h) (a : AddOut K T h f K' T' o) : o = some (q, r * L) ∧ if r + 1 = e then Even L e (q + 1) 0 K' T' else Even L e q (r + 1) K' T' := by
  have hre := v.lt
  have hmul : L * r + L ≤ L * e := by
    have := Nat.mul_le_mul_left L (show r + 1 ≤ e by omega)
    rw [Nat.mul_add, Nat.mul_one] at this
    exact this
  -- what holds of the new packs
  have fin : ∀ p' : Pk, p'.data.length = L * r + L → K' = setP K q (some p') → RowOf (q + 1) K' T' → if r + 1 = e then Even L e (q + 1) 0 K' T' else Even L e q (r + 1) K' T' := by
    intro p' hp' hK' hrow
    split
    · rename_i hr
      have hrl : L * r + L = L * e := by rw [← hr, Nat.mul_add, Nat.mul_one]
      refine ⟨by omega, hrow, fun n p hn hp => ?_, fun p h => by omega⟩
      by_cases e1 : n = q
      · rw [hK', e1, setP_same] at hp; cases hp; rw [hp', hrl]
      · rw [hK', setP_ne _ _ e1] at hp
        exact v.full n p (by omega) hp
    · refine ⟨by omega, by rw [if_neg (by omega)]; exact hrow, fun n p hn hp => ?_, fun p h hp => ?_⟩
      · rw [hK', setP_ne _ _ (by omega)] at hp
        exact v.full n p hn hp
      · rw [hK', setP_same] at hp; cases hp
        rw [hp', Nat.mul_add, Nat.mul_one]
  have hrow := v.row
  by_cases hr0 : r = 0
  · rw [if_pos hr0] at hrow
    have hnone : ∀ n, ¬ FitsP K (-1) L n := fun n => by
      rcases Nat.lt_or_ge n q with h1 | h1
      · exact v.nofit he h1
      · rintro ⟨_, p, hp, _⟩; rw [hrow.out n h1] at hp; cases hp
    rcases o with _ | x
    · obtain ⟨free, k, _, _, h1 | h1⟩ := a
      · rcases hrow.free (n := 0) k with h2 | h2 <;> omega
      · have := hrow.nofit h1; omega
    · rcases a with ⟨free, p, k, h1, h2, h3, rfl, rfl⟩ | ⟨s, k, h1, h2, h3, h5, h4⟩
      · exact absurd (k.fits h1) (by rw [hL]; exact hnone _)
      · obtain ⟨rfl, _⟩ := hrow.fit h3
        rcases hrow.free (n := 0) k with h6 | h6
        · have hx : x = (q, r * L) := by
            rw [hr0, Nat.zero_mul]
            exact Prod.ext h6.1 h2
          refine ⟨by rw [hx], fin ⟨4 + 16 * q, f, f.length⟩ ?_ ?_ ?_⟩
          · show f.length = _
            rw [hr0, hL]; omega
          · rw [h5, h6.1]
          · rw [h5, h6.1]
            exact hrow.more rfl h4
        · omega
  · rw [if_neg hr0] at hrow
    obtain ⟨pq, hpq, hps⟩ := hrow.here q (by omega)
    have hpl := v.last pq (by omega) hpq
    have hfit : FitsP K (-1) L q := ⟨by omega, pq, hpq, by omega⟩
    rcases o with _ | x
    · obtain ⟨free, k, _⟩ := a
      rw [hL] at k
      exact absurd hfit (k.first q (by omega))
    · rcases a with ⟨free, p, k, h1, h2, h3, h5, h6⟩ | ⟨s, k, h1, h2, h3, h5, h4⟩
      · rw [hL] at k
        have hx1 : x.1 = q := by
          have e1 : ¬ x.1 < q := fun h => v.nofit he h (k.fits h1)
          have e2 : ¬ q < x.1 := fun h => k.first q h hfit
          omega
        rw [hx1, hpq] at h2
        cases h2
        have hx : x = (q, r * L) := Prod.ext hx1 (by rw [h3, hpl, Nat.mul_comm])
        refine ⟨by rw [hx], fin ⟨pq.start, pq.data ++ f, pq.live + f.length⟩ ?_ ?_ ?_⟩
        · show (pq.data ++ f).length = _
          rw [List.length_append, hpl, hL]
        · rw [h5, hx1]
        · rw [h5, hx1, h6]
          exact hrow.put hpq rfl
      · rw [hL] at k
        exact absurd hfit (k.first q (by omega))
theorem Even.stop {L e q h : Nat} {K K' : Nat → Option Pk} {T T' : Nat → Bool} {f : List UInt8} {o : Option (Nat × Nat)} (v : Even L e q 0 K T) (hL : f.length = L) (he : 8192 < L * e + L)
    (hh : h < 4 + 16 * q + 16) (a : AddOut K T h f K' T' o) : o = Option.none ∧ K' q = Option.none := by
  have hrow := v.row
  rw [if_pos rfl] at hrow
  have hnone : ∀ n, ¬ FitsP K (-1) L n := fun n => by
    rcases Nat.lt_or_ge n q with h1 | h1
    · exact v.nofit he h1
    · rintro ⟨_, p, hp, _⟩; rw [hrow.out n h1] at hp; cases hp
  rcases o with _ | x
  · obtain ⟨free, k, rfl, _⟩ := a
    exact ⟨rfl, hrow.out q (Nat.le_refl _)⟩
  · rcases a with ⟨free, p, k, h1, h2, h3, h5, h6⟩ | ⟨s, k, h1, h2, h3, h5, h4⟩
    · exact absurd (k.fits h1) (by rw [hL]; exact hnone _)
    · have := hrow.fit h3
      omega
end Go.Proofs.YtceakcejchbbjaaGreat
