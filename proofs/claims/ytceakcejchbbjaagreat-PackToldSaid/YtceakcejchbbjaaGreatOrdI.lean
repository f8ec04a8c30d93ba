/-
  A drawn region by an invariant: what holds when just the operations of L have come up, whatever the order.
-/
import Derived.Test.YtceakcejchbbjaaGreatSpF
set_option linter.unusedSimpArgs false
set_option linter.unusedVariables false
namespace Go.Proofs.YtceakcejchbbjaaGreat
open Go.RowKit Go.MapKept Go.ChangeMaps

section
variable {P : Program} {ops : Array Oper} {Q : Exit → Act → World → Prop} {md : Region.Mode}
def upL (L : Nat → Bool) (i : Nat) : Nat → Bool := fun j => if j = i then true else L j
theorem upL_same (L : Nat → Bool) (i : Nat) : upL L i i = true := by simp [upL]
theorem upL_ne (L : Nat → Bool) {i j : Nat} (h : j ≠ i) : upL L i j = L j := by simp [upL, h]
theorem countB_lt {p p' : Nat → Bool} (h : ∀ j, p' j = true → p j = true) {i : Nat} (hi : p i = true) (hi' : p' i = false) : ∀ {l : List Nat}, i ∈ l → l.countP p' < l.countP p
  | x :: l, hm => by
    have hle : l.countP p' ≤ l.countP p := List.countP_mono_left (fun x _ hx => h x hx)
    rw [List.countP_cons, List.countP_cons]
    by_cases hx : x = i
    · subst hx; rw [if_pos hi, if_neg (by rw [hi']; simp)]; omega
    · have hml : i ∈ l := by simpa [Ne.symm hx] using hm
      have := countB_lt h hi hi' hml
      by_cases hp' : p' x = true
      · rw [if_pos hp', if_pos (h x hp')]; omega
      · rw [if_neg hp']; split <;> omega
def lowB (md : Region.Mode) (ops : Array Oper) : Bool := (List.range ops.size).all fun j => ((ops[j]?).map (·.after.all fun e => !Region.binds md e || decide (e.on < j))).getD true
theorem ready_all {listed : Array Bool} (hlow : lowB md ops = true) (hs : listed.size = ops.size) (hr : Region.ready md ops listed = []) : ∀ i, i < ops.size → listed.getD i false = true := by
  intro i
  induction i using Nat.strongRecOn with
  | ind i ih =>
    intro hi
    cases hq : listed.getD i false with
    | true => rfl
    | false =>
      exfalso
      have hm : i ∈ Region.ready md ops listed := by
        refine mem_ready.2 ⟨?_, ops[i], Array.getElem?_eq_getElem hi, fun e he hb => ?_⟩
        · simp [Array.getD, hs, hi] at hq ⊢; exact hq
        · have h1 := (List.all_eq_true.1 hlow) i (List.mem_range.2 hi)
          rw [Array.getElem?_eq_getElem hi] at h1
          simp only [Option.map_some, Option.getD_some] at h1
          have h2 := Array.all_eq_true_iff_forall_mem.1 h1 e he
          rw [hb] at h2
          have h3 : e.on < i := by simpa using h2
          exact ih e.on h3 (by omega)
      rw [hr] at hm; cases hm
theorem wpAny_inv (Inv : (Nat → Bool) → Act → World → Prop)
    (hstep : ∀ i o L a w, ops[i]? = some o → Inv L a w → L i = false → (∀ e ∈ o.after, Region.binds md e = true → L e.on = true) → wpOp P ops Q i (fun a' w' => Inv (upL L i) a' w') a w)
    (hend : ∀ L a w, Inv L a w → (∀ i, i < ops.size → L i = true) → Q .normal a w) (hlow : lowB md ops = true) :
    ∀ (fuel : Nat) (listed : Array Bool) (a : Act) (w : World), listed.size = ops.size → (List.range ops.size).countP (fun i => !listed.getD i false) ≤ fuel → Inv (fun i => listed.getD i false) a w → wpAny P md ops Q fuel listed a w
  | 0, listed, a, w, hs, hc, hI => by
    have hall : ∀ i, i < ops.size → listed.getD i false = true := fun i hi => by
      have := List.countP_eq_zero.1 (Nat.le_zero.1 hc) i (List.mem_range.2 hi)
      simpa using this
    refine ⟨?_, hend _ _ _ hI hall⟩
    apply List.eq_nil_iff_forall_not_mem.2
    intro i hi
    obtain ⟨h1, o, ho, _⟩ := mem_ready.1 hi
    have hlt := (Array.getElem?_eq_some_iff.1 ho).1
    have := hall i hlt
    simp [Array.getD, hs, hlt] at h1 this
    rw [this] at h1; cases h1
  | fuel + 1, listed, a, w, hs, hc, hI => by
    refine ⟨fun hr => hend _ _ _ hI (ready_all hlow hs hr), fun i hi => ?_⟩
    obtain ⟨h1, o, ho, hdep⟩ := mem_ready.1 hi
    have hlt := (Array.getElem?_eq_some_iff.1 ho).1
    have h0 : listed.getD i false = false := by simp [Array.getD, hs, hlt] at h1 ⊢; exact h1
    refine wpOp_mono (fun a' w' hI' => ?_) (hstep i o _ a w ho hI h0 hdep)
    have hL : (fun j => (listed.setIfInBounds i true).getD j false) = upL (fun j => listed.getD j false) i := by
      funext j
      by_cases hj : j = i
      · subst hj; rw [upL_same]; simp [Array.getD, hs, hlt]
      · rw [upL_ne _ hj, getD_set_ne false (Ne.symm hj)]
    refine wpAny_inv Inv hstep hend hlow fuel (listed.setIfInBounds i true) a' w' (by simpa using hs) ?_ (by rw [hL]; exact hI')
    have := countB_lt (p := fun j => !listed.getD j false) (p' := fun j => !(listed.setIfInBounds i true).getD j false) (fun j hj => by
      have e : (listed.setIfInBounds i true).getD j false = upL (fun j => listed.getD j false) i j := congrFun hL j
      rw [e] at hj
      by_cases hji : j = i
      · subst hji; rw [upL_same] at hj; simp at hj
      · rwa [upL_ne _ hji] at hj) (i := i) (by rw [h0]; rfl) (by have e : (listed.setIfInBounds i true).getD i false = upL (fun j => listed.getD j false) i i := congrFun hL i; rw [e, upL_same]; rfl) (List.mem_range.2 hlt)
    omega
theorem wp_region_inv {id : Nat} {a : Act} {w : World} (Inv : (Nat → Bool) → Act → World → Prop) (hm : P.follows .mixedOrders = true) (h0 : Inv (fun _ => false) a w.drew)
    (hstep : ∀ i o L a w, ops[i]? = some o → Inv L a w → L i = false → (∀ e ∈ o.after, Region.binds .any e = true → L e.on = true) → wpOp P ops Q i (fun a' w' => Inv (upL L i) a' w') a w)
    (hend : ∀ L a w, Inv L a w → (∀ i, i < ops.size → L i = true) → Q .normal a w) (hlow : lowB .any ops = true) : (Code.region id ops true).wp P Q a w := by
  refine wp_region_any hm (wpAny_inv Inv hstep hend hlow _ _ _ _ (by simp) (Nat.le_trans List.countP_le_length (by simp)) ?_)
  have : (fun i => (Array.replicate ops.size false).getD i false) = fun _ => false := by
    funext i; simp only [Array.getD, Array.size_replicate]; split <;> simp
  rw [this]; exact h0
end
/-! A region that yields values, makes blocks and stores into them. -/
def tm (a : Act) (i : Nat) : Value := a.tmps[i]?.getD undef
theorem tm_put {a : Act} {d : Nat} (hd : d < a.tmps.size) (v : Value) (j : Nat) : tm { a with tmps := a.tmps.setIfInBounds d v } j = if j = d then v else tm a j := by
  unfold tm
  by_cases h : j = d
  · subst h; simp [hd]
  · rw [if_neg h]; simp [Array.getElem?_setIfInBounds, Ne.symm h]
/-- A block that is made by operation al (its address in slot), and filled by operation st. -/
structure BlkT where
  al : Nat
  slot : Nat
  st : Nat
  ty : TypeId
  zero : Array Value
  fin : Array Value
/-- No slot of theirs. -/
def okO (V : List (Nat × Nat × Value)) (B : List BlkT) (j : Nat) : Bool := (V.all fun t => !(t.2.1 == j)) && B.all fun t => !(t.slot == j)
structure RegI (w0 : World) (n : Nat) (a0 : Act) (V : List (Nat × Nat × Value)) (B : List BlkT) (L : Nat → Bool) (a : Act) (w : World) : Prop where
  dfs : a.defers = []
  size : a.tmps.size = n
  old : ∀ j, okO V B j = true → tm a j = tm a0 j
  upd : Upd [] w0 w
  val : ∀ t, t ∈ V → L t.1 = true → tm a t.2.1 = t.2.2
  blk : ∀ t, t ∈ B → L t.al = true → ∃ bk, tm a t.slot = .pointer (some ⟨bk, 0, none⟩) ∧ w0.heap.size ≤ bk ∧ w.heap[bk]? = some (.cells (if L t.st then t.fin else t.zero) t.ty (0, 0))
  inj : ∀ t u, t ∈ B → u ∈ B → t.slot ≠ u.slot → L t.al = true → L u.al = true → tm a t.slot ≠ tm a u.slot
  ord : ∀ t, t ∈ B → L t.st = true → L t.al = true
/-- What is asked of the numbers: an operation of V at i into slot d. -/
def okV (V : List (Nat × Nat × Value)) (B : List BlkT) (i d : Nat) : Bool :=
  (V.all fun t => if t.1 = i then t.2.1 == d else !(t.2.1 == d)) && (B.all fun t => !(t.slot == d) && !(t.al == i) && !(t.st == i)) && V.any (fun t => t.2.1 == d)
theorem RegI.val_step {w0 w w' : World} {n : Nat} {a0 : Act} {V : List (Nat × Nat × Value)} {B : List BlkT} {L : Nat → Bool} {a : Act} (h : RegI w0 n a0 V B L a w) (i d : Nat) (v : Value)
    (hd : d < n) (hu : Upd [] w w') (hv : ∀ t, t ∈ V → t.1 = i → t.2.2 = v) (hok : okV V B i d = true) : RegI w0 n a0 V B (upL L i) { tmps := a.tmps.setIfInBounds d v, defers := [] } w' := by
  simp only [okV, Bool.and_eq_true] at hok
  obtain ⟨⟨h1, h2⟩, h3⟩ := hok
  have hV : ∀ t, t ∈ V → if t.1 = i then t.2.1 = d else t.2.1 ≠ d := fun t ht => by
    have := (List.all_eq_true.1 h1) t ht
    split at this <;> rename_i hq
    · rw [if_pos hq]; simpa using this
    · rw [if_neg hq]; simpa using this
  have hB : ∀ t, t ∈ B → t.slot ≠ d ∧ t.al ≠ i ∧ t.st ≠ i := fun t ht => by
    have := (List.all_eq_true.1 h2) t ht
    simp at this; exact ⟨this.1.1, this.1.2, this.2⟩
  have hb : ∀ j, okO V B j = true → j ≠ d := fun j hj e => by
    subst e
    obtain ⟨t, ht, e⟩ := List.any_eq_true.1 h3
    simp only [okO, Bool.and_eq_true] at hj
    have := (List.all_eq_true.1 hj.1) t ht
    rw [e] at this; cases this
  have key : ∀ j, tm { tmps := a.tmps.setIfInBounds d v, defers := [] } j = if j = d then v else tm a j := fun j => by
    have := tm_put (a := a) (d := d) (by rw [h.size]; exact hd) v j
    unfold tm at this ⊢; exact this
  refine ⟨rfl, by simpa using h.size, fun j hj => by rw [key, if_neg (hb j hj)]; exact h.old j hj, h.upd.trans hu, fun t ht hl => ?_, fun t ht hl => ?_, fun t u ht hu' hne hl hl' => ?_, fun t ht hl => ?_⟩
  · have := hV t ht
    by_cases hq : t.1 = i
    · rw [if_pos hq] at this; rw [key, if_pos this]; exact (hv t ht hq).symm
    · rw [if_neg hq] at this; rw [key, if_neg this]; exact h.val t ht (by rwa [upL_ne _ hq] at hl)
  · obtain ⟨g1, g2, g3⟩ := hB t ht
    rw [upL_ne _ g2] at hl
    obtain ⟨bk, e1, e2, e3⟩ := h.blk t ht hl
    exact ⟨bk, by rw [key, if_neg g1]; exact e1, e2, by rw [upL_ne _ g3]; exact (hu.block _ (blk_lt e3) (by simp)).trans e3⟩
  · obtain ⟨g1, g2, _⟩ := hB t ht
    obtain ⟨k1, k2, _⟩ := hB u hu'
    rw [upL_ne _ g2] at hl
    rw [upL_ne _ k2] at hl'
    rw [key, key, if_neg g1, if_neg k1]
    exact h.inj t u ht hu' hne hl hl'
  · obtain ⟨_, g2, g3⟩ := hB t ht
    rw [upL_ne _ g3] at hl
    rw [upL_ne _ g2]
    exact h.ord t ht hl
/-- A block's making. -/
def okA (V : List (Nat × Nat × Value)) (B : List BlkT) (i d : Nat) : Bool :=
  (V.all fun t => !(t.1 == i) && !(t.2.1 == d)) && (B.all fun t => !(t.st == i) && (t.al == i) == (t.slot == d)) && B.any (fun t => t.slot == d)
theorem RegI.alloc_step {w0 w : World} {n : Nat} {a0 : Act} {V : List (Nat × Nat × Value)} {B : List BlkT} {L : Nat → Bool} {a : Act} (h : RegI w0 n a0 V B L a w) (i d : Nat) (z : Array Value) (ty : TypeId)
    (hd : d < n) (hL : L i = false) (hz : ∀ t, t ∈ B → t.al = i → t.zero = z ∧ t.ty = ty) (hok : okA V B i d = true) :
    RegI w0 n a0 V B (upL L i) { tmps := a.tmps.setIfInBounds d (.pointer (some ⟨w.heap.size, 0, none⟩)), defers := [] } (w.alloc (.cells z ty)) := by
  simp only [okA, Bool.and_eq_true] at hok
  obtain ⟨⟨h1, h2⟩, h3⟩ := hok
  have hV : ∀ t, t ∈ V → t.1 ≠ i ∧ t.2.1 ≠ d := fun t ht => by simpa using (List.all_eq_true.1 h1) t ht
  have hB : ∀ t, t ∈ B → t.st ≠ i ∧ (t.al = i ↔ t.slot = d) := fun t ht => by
    have := (List.all_eq_true.1 h2) t ht
    simp only [Bool.and_eq_true, Bool.not_eq_true', beq_eq_false_iff_ne] at this
    refine ⟨this.1, ?_⟩
    have h := this.2
    by_cases ha : t.al = i <;> by_cases hs : t.slot = d <;> simp [ha, hs] at h ⊢
  have hb : ∀ j, okO V B j = true → j ≠ d := fun j hj e => by
    subst e
    obtain ⟨t, ht, e⟩ := List.any_eq_true.1 h3
    simp only [okO, Bool.and_eq_true] at hj
    have := (List.all_eq_true.1 hj.2) t ht
    rw [e] at this; cases this
  have key : ∀ j, tm { tmps := a.tmps.setIfInBounds d (.pointer (some ⟨w.heap.size, 0, none⟩)), defers := [] } j = if j = d then .pointer (some ⟨w.heap.size, 0, none⟩) else tm a j := fun j => by
    have := tm_put (a := a) (d := d) (by rw [h.size]; exact hd) (.pointer (some ⟨w.heap.size, 0, none⟩)) j
    unfold tm at this ⊢; exact this
  have hu : Upd [] w (w.alloc (.cells z ty)) := (Upd.refl _ _).alloc _
  refine ⟨rfl, by simpa using h.size, fun j hj => by rw [key, if_neg (hb j hj)]; exact h.old j hj, h.upd.trans hu, fun t ht hl => ?_, fun t ht hl => ?_, fun t u ht hu' hne hl hl' => ?_, fun t ht hl => ?_⟩
  · obtain ⟨g1, g2⟩ := hV t ht
    rw [key, if_neg g2]; exact h.val t ht (by rwa [upL_ne _ g1] at hl)
  · obtain ⟨g1, g2⟩ := hB t ht
    rw [upL_ne _ g1]
    by_cases hq : t.al = i
    · have hst : L t.st = false := by
        cases hs : L t.st with
        | false => rfl
        | true => have := h.ord t ht hs; rw [hq, hL] at this; cases this
      rw [hst, key, if_pos (g2.1 hq), (hz t ht hq).1, (hz t ht hq).2]
      exact ⟨_, rfl, h.upd.size, blk_alloc _⟩
    · rw [upL_ne _ hq] at hl
      obtain ⟨bk, e1, e2, e3⟩ := h.blk t ht hl
      exact ⟨bk, by rw [key, if_neg (fun e => hq (g2.2 e))]; exact e1, e2, (hu.block _ (blk_lt e3) (by simp)).trans e3⟩
  · have fresh : ∀ s, s ∈ B → L s.al = true → tm a s.slot ≠ .pointer (some ⟨w.heap.size, 0, none⟩) := fun s hs hls e => by
      obtain ⟨bk, e1, e2, e3⟩ := h.blk s hs hls
      rw [e1] at e
      injection e with e; injection e with e; injection e with e
      have := blk_lt e3
      omega
    obtain ⟨g1, g2⟩ := hB t ht
    obtain ⟨k1, k2⟩ := hB u hu'
    rw [key, key]
    by_cases hq : t.al = i
    · have hq2 : u.al ≠ i := fun e => hne ((g2.1 hq).trans (k2.1 e).symm)
      rw [if_pos (g2.1 hq), if_neg (fun e => hq2 (k2.2 e))]
      rw [upL_ne _ hq2] at hl'
      exact (fresh u hu' hl').symm
    · rw [upL_ne _ hq] at hl
      rw [if_neg (fun e => hq (g2.2 e))]
      by_cases hq2 : u.al = i
      · rw [if_pos (k2.1 hq2)]; exact fresh t ht hl
      · rw [if_neg (fun e => hq2 (k2.2 e))]
        rw [upL_ne _ hq2] at hl'
        exact h.inj t u ht hu' hne hl hl'
  · obtain ⟨g1, g2⟩ := hB t ht
    rw [upL_ne _ g1] at hl
    have := h.ord t ht hl
    by_cases hq : t.al = i
    · rw [hq, upL_same]
    · rw [upL_ne _ hq]; exact this
/-- A block's filling. -/
def okS (V : List (Nat × Nat × Value)) (B : List BlkT) (i : Nat) (s : Nat) : Bool :=
  (V.all fun t => !(t.1 == i)) && (B.all fun t => !(t.al == i) && (t.st == i) == (t.slot == s))
theorem RegI.store_step {w0 w : World} {n : Nat} {a0 : Act} {V : List (Nat × Nat × Value)} {B : List BlkT} {L : Nat → Bool} {a : Act} (h : RegI w0 n a0 V B L a w) {t : BlkT} (ht : t ∈ B) {bk : Nat}
    (hs : tm a t.slot = .pointer (some ⟨bk, 0, none⟩)) (hla : L t.al = true) (hw0 : w0.heap.size ≤ bk) (hfin : ∀ u, u ∈ B → u.slot = t.slot → u = t) (hok : okS V B t.st t.slot = true) :
    RegI w0 n a0 V B (upL L t.st) a (w.setRow bk t.fin) := by
  simp only [okS, Bool.and_eq_true] at hok
  obtain ⟨h1, h2⟩ := hok
  have hV : ∀ u, u ∈ V → u.1 ≠ t.st := fun u hu => by simpa using (List.all_eq_true.1 h1) u hu
  have hB : ∀ u, u ∈ B → u.al ≠ t.st ∧ (u.st = t.st ↔ u.slot = t.slot) := fun u hu => by
    have := (List.all_eq_true.1 h2) u hu
    simp only [Bool.and_eq_true, Bool.not_eq_true', beq_eq_false_iff_ne] at this
    refine ⟨this.1, ?_⟩
    have h := this.2
    by_cases ha : u.st = t.st <;> by_cases hs : u.slot = t.slot <;> simp [ha, hs] at h ⊢
  obtain ⟨bk', e1, e2, e3⟩ := h.blk t ht hla
  obtain rfl : bk' = bk := by rw [hs] at e1; injection e1 with e; injection e with e; injection e with e; exact e.symm
  have hu : Upd [] w0 (w.setRow bk' t.fin) := by
    have hu := h.upd
    exact ⟨hu.os, hu.tape, hu.output, by simpa using hu.size, fun k hk hs => by
      rw [setRow_other _ _ _ _ (by omega)]; exact hu.block k hk hs⟩
  refine ⟨h.dfs, h.size, h.old, hu, fun u hu' hl => h.val u hu' (by rwa [upL_ne _ (hV u hu')] at hl), fun u hu' hl => ?_, fun u v hu1 hv hne hl hl' => ?_, fun u hu' hl => ?_⟩
  · obtain ⟨g1, g2⟩ := hB u hu'
    rw [upL_ne _ g1] at hl
    obtain ⟨bu, f1, f2, f3⟩ := h.blk u hu' hl
    by_cases hq : u.slot = t.slot
    · obtain rfl := hfin u hu' hq
      rw [upL_same, hs]
      exact ⟨_, rfl, e2, setRow_heap _ _ _ _ _ _ e3⟩
    · have hne : bu ≠ bk' := by
        rintro rfl
        exact h.inj u t hu' ht hq hl hla (by rw [f1, hs])
      exact ⟨bu, f1, f2, by rw [upL_ne _ (fun e => hq (g2.1 e)), setRow_other _ _ _ _ hne]; exact f3⟩
  · rw [upL_ne _ (hB u hu1).1] at hl
    rw [upL_ne _ (hB v hv).1] at hl'
    exact h.inj u v hu1 hv hne hl hl'
  · by_cases hq : u.st = t.st
    · obtain rfl := hfin u hu' ((hB u hu').2.1 hq)
      rw [upL_ne _ (hB u hu').1]; exact hla
    · rw [upL_ne _ hq] at hl
      rw [upL_ne _ (hB u hu').1]
      exact h.ord u hu' hl
/-- Slots set one behind the other. -/
def sets (A : Array Value) : List (Nat × Value) → Array Value
  | [] => A
  | p :: l => sets (A.setIfInBounds p.1 p.2) l
theorem sets_size : ∀ (l : List (Nat × Value)) (A : Array Value), (sets A l).size = A.size
  | [], _ => rfl
  | p :: l, A => by rw [sets, sets_size l]; simp
theorem sets_get : ∀ (l : List (Nat × Value)) (A : Array Value) (T : Nat → Value), (∀ j, j < A.size → (l.all fun p => !(p.1 == j)) = true → A[j]?.getD undef = T j) → (∀ p, p ∈ l → T p.1 = p.2) → ∀ j, j < A.size → (sets A l)[j]?.getD undef = T j
  | [], A, T, h1, _, j, hj => h1 j hj rfl
  | p :: l, A, T, h1, h2, j, hj => by
    rw [sets]
    refine sets_get l _ T (fun k hk hn => ?_) (fun q hq => h2 q (by simp [hq])) j (by simpa using hj)
    have hk' : k < A.size := by simpa using hk
    by_cases e : k = p.1
    · subst e
      have := h2 p (by simp)
      simp [hk', this]
    · have := h1 k hk' (by rw [List.all_cons, hn]; simp [Ne.symm e])
      simp only [Array.getElem?_setIfInBounds, Ne.symm e, if_false]
      exact this
theorem sets_eq {A A0 : Array Value} {l : List (Nat × Value)} (hs : A.size = A0.size) (h1 : ∀ j, (l.all fun p => !(p.1 == j)) = true → A[j]?.getD undef = A0[j]?.getD undef) (h2 : ∀ p, p ∈ l → A[p.1]?.getD undef = p.2) : A = sets A0 l := by
  apply Array.ext (by rw [sets_size, hs])
  intro j hj hj2
  have := sets_get l A0 (fun j => A[j]?.getD undef) (fun j _ hn => (h1 j hn).symm) h2 j (by omega)
  simp only [Array.getElem?_eq_getElem hj, Array.getElem?_eq_getElem hj2, Option.getD_some] at this
  exact this.symm
theorem RegI.start (a : Act) (w : World) (V : List (Nat × Nat × Value)) (B : List BlkT) (h : a.defers = []) : RegI w a.tmps.size a V B (fun _ => false) a w :=
  ⟨h, rfl, fun _ _ => rfl, Upd.refl _ _, (fun _ _ h => (by cases h)), (fun _ _ h => (by cases h)), (fun _ _ _ _ _ h => (by cases h)), (fun _ _ h => (by cases h))⟩
theorem wp_region_reg {P : Program} {ops : Array Oper} {Q : Exit → Act → World → Prop} {id : Nat} {a : Act} {w : World} (V : List (Nat × Nat × Value)) (B : List BlkT) (hm : P.follows .mixedOrders = true) (hlow : lowB .any ops = true) (n : Nat) (hn : a.tmps.size = n) (hdf : a.defers = [])
    (hstep : ∀ i o L tmps w', ops[i]? = some o → RegI w.drew n a V B L ⟨tmps, []⟩ w' → L i = false → (∀ e ∈ o.after, Region.binds .any e = true → L e.on = true) → wpOp P ops Q i (fun a' w' => RegI w.drew n a V B (upL L i) a' w') ⟨tmps, []⟩ w')
    (hend : ∀ L tmps w', RegI w.drew n a V B L ⟨tmps, []⟩ w' → (∀ i, i < ops.size → L i = true) → Q .normal ⟨tmps, []⟩ w') : (Code.region id ops true).wp P Q a w := by
  subst hn
  refine wp_region_inv (RegI w.drew a.tmps.size a V B) hm (RegI.start a w.drew V B hdf) ?_ ?_ hlow
  · rintro i o L ⟨tmps, dfs⟩ w' ho hI hL hd
    obtain rfl : dfs = [] := hI.dfs
    exact hstep i o L tmps w' ho hI hL hd
  · rintro L ⟨tmps, dfs⟩ w' hI hall
    obtain rfl : dfs = [] := hI.dfs
    exact hend L tmps w' hI hall
theorem RegI.tmps_eq {w0 w : World} {n : Nat} {a0 : Act} {V : List (Nat × Nat × Value)} {B : List BlkT} {L : Nat → Bool} {tmps : Array Value} (h : RegI w0 n a0 V B L ⟨tmps, []⟩ w) (hn : a0.tmps.size = n) (l : List (Nat × Value))
    (h1 : ∀ j, (l.all fun p => !(p.1 == j)) = true → okO V B j = true) (h2 : ∀ p, p ∈ l → tmps[p.1]?.getD undef = p.2) : tmps = sets a0.tmps l :=
  sets_eq (h.size.trans hn.symm) (fun j hj => h.old j (h1 j hj)) h2
end Go.Proofs.YtceakcejchbbjaaGreat
