/-
  A drawn region inside a fence, by an invariant: known values, and a world that is a function of what has come up.
-/
import Derived.OrdersIn
import Derived.OwnWalkIn
import Derived.Test.YtceakcejchbbjaaGreatOrdJ
set_option linter.unusedSimpArgs false
set_option linter.unusedVariables false
namespace Go.Proofs.YtceakcejchbbjaaGreat
open Go.RowKit Go.MapKept Go.ChangeMaps

section
variable {F : Fence} {m : Nat} {P : Program} {ops : Array Oper} {Q : Exit → Act → World → Prop} {md : Region.Mode}
/-- What has come up has come up behind what it waits for. -/
def ClosedL (md : Region.Mode) (ops : Array Oper) (L : Nat → Bool) : Prop := ∀ j oj, ops[j]? = some oj → L j = true → ∀ e ∈ oj.after, Region.binds md e = true → L e.on = true
theorem ClosedL.up {L : Nat → Bool} (h : ClosedL md ops L) {i : Nat} {o : Oper} (ho : ops[i]? = some o) (hd : ∀ e ∈ o.after, Region.binds md e = true → L e.on = true) : ClosedL md ops (upL L i) := by
  intro j oj hj hl e he hb
  have key : L e.on = true := by
    by_cases hji : j = i
    · subst hji; rw [ho] at hj; cases hj; exact hd e he hb
    · rw [upL_ne _ hji] at hl; exact h j oj hj hl e he hb
  by_cases h2 : e.on = i
  · rw [h2, upL_same]
  · rw [upL_ne _ h2]; exact key
/-- s waits for i, by so many steps. -/
def waitsK (md : Region.Mode) (ops : Array Oper) (i : Nat) : Nat → Nat → Bool
  | 0, s => s == i
  | f + 1, s => s == i || match ops[s]? with
    | none => false
    | some o => o.after.any fun e => Region.binds md e && waitsK md ops i f e.on
theorem waitsK_up {L : Nat → Bool} (hc : ClosedL md ops L) {i : Nat} : ∀ {f s : Nat}, waitsK md ops i f s = true → L s = true → L i = true
  | 0, s, h, hs => by simp [waitsK] at h; rw [← h]; exact hs
  | f + 1, s, h, hs => by
    unfold waitsK at h
    rw [Bool.or_eq_true] at h
    rcases h with h | h
    · simp at h; rw [← h]; exact hs
    · cases ho : ops[s]? with
      | none => rw [ho] at h; simp at h
      | some o =>
        rw [ho] at h
        obtain ⟨e, he, hb⟩ := Array.any_eq_true'.1 h
        simp only [Bool.and_eq_true] at hb
        exact waitsK_up hc hb.2 (hc s o ho hs e he hb.1)
theorem ClosedL.not_up {L : Nat → Bool} (hc : ClosedL md ops L) {i s : Nat} (f : Nat) (hw : waitsK md ops i f s = true) (hi : L i = false) : L s = false := by
  cases hq : L s with
  | false => rfl
  | true => rw [waitsK_up hc hw hq] at hi; cases hi
theorem ClosedL.dep_up {L : Nat → Bool} (hc : ClosedL md ops L) {i s : Nat} {o : Oper} (ho : ops[i]? = some o) (hd : ∀ e ∈ o.after, Region.binds md e = true → L e.on = true) (f : Nat) (hw : waitsK md ops s f i = true) (hne : s ≠ i) : L s = true := by
  have := waitsK_up (hc.up ho hd) hw (upL_same _ _)
  rwa [upL_ne _ hne] at this
theorem wpAnyIn_inv (Inv : (Nat → Bool) → Act → World → Prop)
    (hstep : ∀ i o L a w, ops[i]? = some o → Inv L a w → L i = false → (∀ e ∈ o.after, Region.binds md e = true → L e.on = true) → ClosedL md ops L → wpOpIn F m P ops Q i (fun a' w' => Inv (upL L i) a' w') a w)
    (hend : ∀ L a w, Inv L a w → (∀ i, i < ops.size → L i = true) → Q .normal a w) (hlow : lowB md ops = true) :
    ∀ (fuel : Nat) (listed : Array Bool) (a : Act) (w : World), listed.size = ops.size → (List.range ops.size).countP (fun i => !listed.getD i false) ≤ fuel → Inv (fun i => listed.getD i false) a w → ClosedL md ops (fun i => listed.getD i false) → wpAnyIn F m P md ops Q fuel listed a w
  | 0, listed, a, w, hs, hc, hI, _ => by
    have hall : ∀ i, i < ops.size → listed.getD i false = true := fun i hi => by
      have := List.countP_eq_zero.1 (Nat.le_zero.1 hc) i (List.mem_range.2 hi)
      simpa using this
    refine ⟨?_, hend _ _ _ hI hall⟩
    apply List.eq_nil_iff_forall_not_mem.2
    intro i hi
    obtain ⟨h1, o, ho, _⟩ := mem_ready.1 hi
    have hlt := (Array.getElem?_eq_some_iff.1 ho).1
    have := hall i hlt
    simp [Array.getD, hs, hlt] at h1 this
    rw [this] at h1; cases h1
  | fuel + 1, listed, a, w, hs, hc, hI, hcl => by
    refine ⟨fun hr => hend _ _ _ hI (ready_all hlow hs hr), fun i hi => ?_⟩
    obtain ⟨h1, o, ho, hdep⟩ := mem_ready.1 hi
    have hlt := (Array.getElem?_eq_some_iff.1 ho).1
    have h0 : listed.getD i false = false := by simp [Array.getD, hs, hlt] at h1 ⊢; exact h1
    refine wpOpIn_mono (fun a' w' hI' => ?_) (hstep i o _ a w ho hI h0 hdep hcl)
    have hL : (fun j => (listed.setIfInBounds i true).getD j false) = upL (fun j => listed.getD j false) i := by
      funext j
      by_cases hj : j = i
      · subst hj; rw [upL_same]; simp [Array.getD, hs, hlt]
      · rw [upL_ne _ hj, getD_set_ne false (Ne.symm hj)]
    refine wpAnyIn_inv Inv hstep hend hlow fuel (listed.setIfInBounds i true) a' w' (by simpa using hs) ?_ (by rw [hL]; exact hI') (by rw [hL]; exact hcl.up ho hdep)
    have := countB_lt (p := fun j => !listed.getD j false) (p' := fun j => !(listed.setIfInBounds i true).getD j false) (fun j hj => by
      have e : (listed.setIfInBounds i true).getD j false = upL (fun j => listed.getD j false) i j := congrFun hL j
      rw [e] at hj
      by_cases hji : j = i
      · subst hji; rw [upL_same] at hj; simp at hj
      · rwa [upL_ne _ hji] at hj) (i := i) (by rw [h0]; rfl) (by have e : (listed.setIfInBounds i true).getD i false = upL (fun j => listed.getD j false) i i := congrFun hL i; rw [e, upL_same]; rfl) (List.mem_range.2 hlt)
    omega
theorem wpIn_region_inv {id : Nat} {a : Act} {w : World} (Inv : (Nat → Bool) → Act → World → Prop) (hm : P.follows .mixedOrders = true) (h0 : Inv (fun _ => false) a w.drew)
    (hstep : ∀ i o L a w, ops[i]? = some o → Inv L a w → L i = false → (∀ e ∈ o.after, Region.binds .any e = true → L e.on = true) → ClosedL .any ops L → wpOpIn F m P ops Q i (fun a' w' => Inv (upL L i) a' w') a w)
    (hend : ∀ L a w, Inv L a w → (∀ i, i < ops.size → L i = true) → Q .normal a w) (hlow : lowB .any ops = true) : (Code.region id ops true).wpIn F m P Q a w := by
  have hz : (fun i => (Array.replicate ops.size false).getD i false) = fun _ => false := by
    funext i; simp only [Array.getD, Array.size_replicate]; split <;> simp
  refine wpIn_region_any hm (wpAnyIn_inv Inv hstep hend hlow _ _ _ _ (by simp) (Nat.le_trans List.countP_le_length (by simp)) ?_ ?_)
  · rw [hz]; exact h0
  · rw [hz]; intro j oj _ h; cases h
end
/-- Known values; the world is a function of what has come up. -/
structure RegW (wf : (Nat → Bool) → World) (n : Nat) (a0 : Act) (V : List (Nat × Nat × Value)) (L : Nat → Bool) (a : Act) (w : World) : Prop where
  dfs : a.defers = []
  size : a.tmps.size = n
  old : ∀ j, okO V [] j = true → tm a j = tm a0 j
  val : ∀ t, t ∈ V → L t.1 = true → tm a t.2.1 = t.2.2
  wd : w = wf L
theorem RegW.val_step {wf : (Nat → Bool) → World} {w w' : World} {n : Nat} {a0 : Act} {V : List (Nat × Nat × Value)} {L : Nat → Bool} {a : Act} (h : RegW wf n a0 V L a w) (i d : Nat) (v : Value)
    (hd : d < n) (hw : w' = wf (upL L i)) (hv : ∀ t, t ∈ V → t.1 = i → t.2.2 = v) (hok : okV V [] i d = true) : RegW wf n a0 V (upL L i) { tmps := a.tmps.setIfInBounds d v, defers := [] } w' := by
  simp only [okV, List.all_nil, Bool.and_true, Bool.and_eq_true] at hok
  obtain ⟨h1, h3⟩ := hok
  have hV : ∀ t, t ∈ V → if t.1 = i then t.2.1 = d else t.2.1 ≠ d := fun t ht => by
    have := (List.all_eq_true.1 h1) t ht
    split at this <;> rename_i hq
    · rw [if_pos hq]; simpa using this
    · rw [if_neg hq]; simpa using this
  have hb : ∀ j, okO V [] j = true → j ≠ d := fun j hj e => by
    subst e
    obtain ⟨t, ht, e⟩ := List.any_eq_true.1 h3
    simp only [okO, List.all_nil, Bool.and_true] at hj
    have := (List.all_eq_true.1 hj) t ht
    rw [e] at this; cases this
  have key : ∀ j, tm { tmps := a.tmps.setIfInBounds d v, defers := [] } j = if j = d then v else tm a j := fun j => by
    have := tm_put (a := a) (d := d) (by rw [h.size]; exact hd) v j
    unfold tm at this ⊢; exact this
  refine ⟨rfl, by simpa using h.size, fun j hj => by rw [key, if_neg (hb j hj)]; exact h.old j hj, fun t ht hl => ?_, hw⟩
  have := hV t ht
  by_cases hq : t.1 = i
  · rw [if_pos hq] at this; rw [key, if_pos this]; exact (hv t ht hq).symm
  · rw [if_neg hq] at this; rw [key, if_neg this]; exact h.val t ht (by rwa [upL_ne _ hq] at hl)
theorem RegW.none_step {wf : (Nat → Bool) → World} {w w' : World} {n : Nat} {a0 : Act} {V : List (Nat × Nat × Value)} {L : Nat → Bool} {a : Act} (h : RegW wf n a0 V L a w) (i : Nat)
    (hw : w' = wf (upL L i)) (hok : (V.all fun t => !(t.1 == i)) = true) : RegW wf n a0 V (upL L i) a w' :=
  ⟨h.dfs, h.size, h.old, fun t ht hl => h.val t ht (by
    have := (List.all_eq_true.1 hok) t ht
    rwa [upL_ne _ (by simpa using this)] at hl), hw⟩
theorem wpIn_region_w {F : Fence} {m : Nat} {P : Program} {ops : Array Oper} {Q : Exit → Act → World → Prop} {id : Nat} {a : Act} {w : World} (wf : (Nat → Bool) → World) (V : List (Nat × Nat × Value)) (hm : P.follows .mixedOrders = true) (hlow : lowB .any ops = true) (n : Nat) (hn : a.tmps.size = n) (hdf : a.defers = [])
    (hw : w.drew = wf fun _ => false)
    (hstep : ∀ i o L tmps w', ops[i]? = some o → RegW wf n a V L ⟨tmps, []⟩ w' → L i = false → (∀ e ∈ o.after, Region.binds .any e = true → L e.on = true) → ClosedL .any ops L → wpOpIn F m P ops Q i (fun a' w' => RegW wf n a V (upL L i) a' w') ⟨tmps, []⟩ w')
    (hend : ∀ L tmps w', RegW wf n a V L ⟨tmps, []⟩ w' → (∀ i, i < ops.size → L i = true) → Q .normal ⟨tmps, []⟩ w') : (Code.region id ops true).wpIn F m P Q a w := by
  subst hn
  refine wpIn_region_inv (RegW wf a.tmps.size a V) hm ⟨hdf, rfl, fun _ _ => rfl, (fun _ _ h => (by cases h)), hw⟩ ?_ ?_ hlow
  · rintro i o L ⟨tmps, dfs⟩ w' ho hI hL hd hc
    obtain rfl : dfs = [] := hI.dfs
    exact hstep i o L tmps w' ho hI hL hd hc
  · rintro L ⟨tmps, dfs⟩ w' hI hall
    obtain rfl : dfs = [] := hI.dfs
    exact hend L tmps w' hI hall
theorem RegW.fin {wf : (Nat → Bool) → World} {w : World} {n : Nat} {a0 : Act} {V : List (Nat × Nat × Value)} {L : Nat → Bool} {tmps : Array Value} (h : RegW wf n a0 V L ⟨tmps, []⟩ w) (hn : a0.tmps.size = n) (hall : ∀ t, t ∈ V → L t.1 = true) : tmps = sets a0.tmps (V.map (·.2)) :=
  sets_eq (h.size.trans hn.symm) (fun j hj => h.old j (by
    rw [List.all_map] at hj
    simp only [okO, List.all_nil, Bool.and_true]
    exact hj)) (fun p hp => by
    obtain ⟨t, ht, rfl⟩ := List.mem_map.1 hp
    exact h.val t ht (hall t ht))
/-- An append whose run is known, inside a fence. -/
theorem wpIn_append_runK {F : Fence} {n : Nat} {P : Program} {o : Oper} {a : Act} {w : World} {K : Act → World → Prop} {Q : Exit → Act → World → Prop} (s x : Operand) (T T2 : TypeId)
    (ho : o.op = .call { callee := .builtin .append, args := #[s, x], argTypes := #[T, T2] }) {vs vx v' : Value} {w' : World} (hs : a.eval s = vs) (hx : a.eval x = vx)
    (hrun : ∀ ty, (Builtin.append_ #[T, T2] ty #[vs, vx]).run P w = .ok v' w') (h : K (a.put o.dst v') w') : Oper.wpIn F n P o a w K Q := by
  unfold Oper.wpIn
  refine ⟨?_, ?_⟩
  · simp [Oper.about, ho, resolve, Target.leads, Sem.run_pure]
  · rw [Oper.semAt_plain F _ _ (by rw [ho]; intro c hc'; cases hc')]
    simp [execOp, ho, resolve, invoke, builtin, hs, hx, hrun, Result.andThen]
    exact h
end Go.Proofs.YtceakcejchbbjaaGreat
