/-
  A drawn region whose operations all yield known values: its end. A drawn region inside a fence, by an invariant: known values, and a world that is a function of what has come up. A drawn region of known values with one call that turns memory. A drawn region by an invariant: what each operation's slot holds, as a predicate of the world; and what holds of the world. Drawn regions: the world a function of what has come up, outside a fence; values that are known or are what a lasting predicate says, in a region that only makes blocks.
-/
import Derived.Test.YtceakcejchbbjaaGreatOrdI
import Derived.OrdersIn
import Derived.OwnWalkIn
section
set_option linter.unusedSimpArgs false
set_option linter.unusedVariables false
namespace Go.Proofs.YtceakcejchbbjaaGreat
open Go.RowKit Go.MapKept Go.ChangeMaps

theorem tm_some {tmps : Array Value} {i : Nat} {b : Bool} (h : tmps[i]?.getD undef = .bool b) : tmps[i]? = some (.bool b) := by
  cases hq : tmps[i]? with
  | none => rw [hq] at h; cases h
  | some v => rw [hq] at h; rw [show v = .bool b from h]
theorem RegI.fin {w0 w : World} {n : Nat} {a0 : Act} {V : List (Nat × Nat × Value)} {L : Nat → Bool} {tmps : Array Value} (h : RegI w0 n a0 V [] L ⟨tmps, []⟩ w) (hn : a0.tmps.size = n) (hall : ∀ t, t ∈ V → L t.1 = true) : tmps = sets a0.tmps (V.map (·.2)) :=
  h.tmps_eq hn _ (fun j hj => by
    rw [List.all_map] at hj
    simp only [okO, List.all_nil, Bool.and_true]
    exact hj) (fun p hp => by
    obtain ⟨t, ht, rfl⟩ := List.mem_map.1 hp
    exact h.val t ht (hall t ht))
end Go.Proofs.YtceakcejchbbjaaGreat
end

section
set_option linter.unusedSimpArgs false
set_option linter.unusedVariables false
namespace Go.Proofs.YtceakcejchbbjaaGreat
open Go.RowKit Go.MapKept Go.ChangeMaps

section
variable {F : Fence} {m : Nat} {P : Program} {ops : Array Oper} {Q : Exit → Act → World → Prop} {md : Region.Mode}
/-- What has come up has come up behind what it waits for. -/
def ClosedL (md : Region.Mode) (ops : Array Oper) (L : Nat → Bool) : Prop := ∀ j oj, ops[j]? = some oj → L j = true → ∀ e ∈ oj.after, Region.binds md e = true → L e.on = true
theorem ClosedL.up {L : Nat → Bool} (h : ClosedL md ops L) {i : Nat} {o : Oper} (ho : ops[i]? = some o) (hd : ∀ e ∈ o.after, Region.binds md e = true → L e.on = true) : ClosedL md ops (upL L i) := by
  intro j oj hj hl e he hb
  have key : L e.on = true := by
    by_cases hji : j = i
    · subst hji; rw [ho] at hj; cases hj; exact hd e he hb
    · rw [upL_ne _ hji] at hl; exact h j oj hj hl e he hb
  by_cases h2 : e.on = i
  · rw [h2, upL_same]
  · rw [upL_ne _ h2]; exact key
/-- s waits for i, by so many steps. -/
def waitsK (md : Region.Mode) (ops : Array Oper) (i : Nat) : Nat → Nat → Bool
  | 0, s => s == i
  | f + 1, s => s == i || match ops[s]? with
    | none => false
    | some o => o.after.any fun e => Region.binds md e && waitsK md ops i f e.on
theorem waitsK_up {L : Nat → Bool} (hc : ClosedL md ops L) {i : Nat} : ∀ {f s : Nat}, waitsK md ops i f s = true → L s = true → L i = true
  | 0, s, h, hs => by simp [waitsK] at h; rw [← h]; exact hs
  | f + 1, s, h, hs => by
    unfold waitsK at h
    rw [Bool.or_eq_true] at h
    rcases h with h | h
    · simp at h; rw [← h]; exact hs
    · cases ho : ops[s]? with
      | none => rw [ho] at h; simp at h
      | some o =>
        rw [ho] at h
        obtain ⟨e, he, hb⟩ := Array.any_eq_true'.1 h
        simp only [Bool.and_eq_true] at hb
        exact waitsK_up hc hb.2 (hc s o ho hs e he hb.1)
theorem ClosedL.not_up {L : Nat → Bool} (hc : ClosedL md ops L) {i s : Nat} (f : Nat) (hw : waitsK md ops i f s = true) (hi : L i = false) : L s = false := by
  cases hq : L s with
  | false => rfl
  | true => rw [waitsK_up hc hw hq] at hi; cases hi
theorem ClosedL.dep_up {L : Nat → Bool} (hc : ClosedL md ops L) {i s : Nat} {o : Oper} (ho : ops[i]? = some o) (hd : ∀ e ∈ o.after, Region.binds md e = true → L e.on = true) (f : Nat) (hw : waitsK md ops s f i = true) (hne : s ≠ i) : L s = true := by
  have := waitsK_up (hc.up ho hd) hw (upL_same _ _)
  rwa [upL_ne _ hne] at this
theorem wpAnyIn_inv (Inv : (Nat → Bool) → Act → World → Prop)
    (hstep : ∀ i o L a w, ops[i]? = some o → Inv L a w → L i = false → (∀ e ∈ o.after, Region.binds md e = true → L e.on = true) → ClosedL md ops L → wpOpIn F m P ops Q i (fun a' w' => Inv (upL L i) a' w') a w)
    (hend : ∀ L a w, Inv L a w → (∀ i, i < ops.size → L i = true) → Q .normal a w) (hlow : lowB md ops = true) :
    ∀ (fuel : Nat) (listed : Array Bool) (a : Act) (w : World), listed.size = ops.size → (List.range ops.size).countP (fun i => !listed.getD i false) ≤ fuel → Inv (fun i => listed.getD i false) a w → ClosedL md ops (fun i => listed.getD i false) → wpAnyIn F m P md ops Q fuel listed a w
  | 0, listed, a, w, hs, hc, hI, _ => by
    have hall : ∀ i, i < ops.size → listed.getD i false = true := fun i hi => by
      have := List.countP_eq_zero.1 (Nat.le_zero.1 hc) i (List.mem_range.2 hi)
      simpa using this
    refine ⟨?_, hend _ _ _ hI hall⟩
    apply List.eq_nil_iff_forall_not_mem.2
    intro i hi
    obtain ⟨h1, o, ho, _⟩ := mem_ready.1 hi
    have hlt := (Array.getElem?_eq_some_iff.1 ho).1
    have := hall i hlt
    simp [Array.getD, hs, hlt] at h1 this
    rw [this] at h1; cases h1
  | fuel + 1, listed, a, w, hs, hc, hI, hcl => by
    refine ⟨fun hr => hend _ _ _ hI (ready_all hlow hs hr), fun i hi => ?_⟩
    obtain ⟨h1, o, ho, hdep⟩ := mem_ready.1 hi
    have hlt := (Array.getElem?_eq_some_iff.1 ho).1
    have h0 : listed.getD i false = false := by simp [Array.getD, hs, hlt] at h1 ⊢; exact h1
    refine wpOpIn_mono (fun a' w' hI' => ?_) (hstep i o _ a w ho hI h0 hdep hcl)
    have hL : (fun j => (listed.setIfInBounds i true).getD j false) = upL (fun j => listed.getD j false) i := by
      funext j
      by_cases hj : j = i
      · subst hj; rw [upL_same]; simp [Array.getD, hs, hlt]
      · rw [upL_ne _ hj, getD_set_ne false (Ne.symm hj)]
    refine wpAnyIn_inv Inv hstep hend hlow fuel (listed.setIfInBounds i true) a' w' (by simpa using hs) ?_ (by rw [hL]; exact hI') (by rw [hL]; exact hcl.up ho hdep)
    have := countB_lt (p := fun j => !listed.getD j false) (p' := fun j => !(listed.setIfInBounds i true).getD j false) (fun j hj => by
      have e : (listed.setIfInBounds i true).getD j false = upL (fun j => listed.getD j false) i j := congrFun hL j
      rw [e] at hj
      by_cases hji : j = i
      · subst hji; rw [upL_same] at hj; simp at hj
      · rwa [upL_ne _ hji] at hj) (i := i) (by rw [h0]; rfl) (by have e : (listed.setIfInBounds i true).getD i false = upL (fun j => listed.getD j false) i i := congrFun hL i; rw [e, upL_same]; rfl) (List.mem_range.2 hlt)
    omega
theorem wpIn_region_inv {id : Nat} {a : Act} {w : World} (Inv : (Nat → Bool) → Act → World → Prop) (hm : P.follows .mixedOrders = true) (h0 : Inv (fun _ => false) a w.drew)
    (hstep : ∀ i o L a w, ops[i]? = some o → Inv L a w → L i = false → (∀ e ∈ o.after, Region.binds .any e = true → L e.on = true) → ClosedL .any ops L → wpOpIn F m P ops Q i (fun a' w' => Inv (upL L i) a' w') a w)
    (hend : ∀ L a w, Inv L a w → (∀ i, i < ops.size → L i = true) → Q .normal a w) (hlow : lowB .any ops = true) : (Code.region id ops true).wpIn F m P Q a w := by
  have hz : (fun i => (Array.replicate ops.size false).getD i false) = fun _ => false := by
    funext i; simp only [Array.getD, Array.size_replicate]; split <;> simp
  refine wpIn_region_any hm (wpAnyIn_inv Inv hstep hend hlow _ _ _ _ (by simp) (Nat.le_trans List.countP_le_length (by simp)) ?_ ?_)
  · rw [hz]; exact h0
  · rw [hz]; intro j oj _ h; cases h
end
/-- Known values; the world is a function of what has come up. -/
structure RegW (wf : (Nat → Bool) → World) (n : Nat) (a0 : Act) (V : List (Nat × Nat × Value)) (L : Nat → Bool) (a : Act) (w : World) : Prop where
  dfs : a.defers = []
  size : a.tmps.size = n
  old : ∀ j, okO V [] j = true → tm a j = tm a0 j
  val : ∀ t, t ∈ V → L t.1 = true → tm a t.2.1 = t.2.2
  wd : w = wf L
theorem RegW.val_step {wf : (Nat → Bool) → World} {w w' : World} {n : Nat} {a0 : Act} {V : List (Nat × Nat × Value)} {L : Nat → Bool} {a : Act} (h : RegW wf n a0 V L a w) (i d : Nat) (v : Value)
    (hd : d < n) (hw : w' = wf (upL L i)) (hv : ∀ t, t ∈ V → t.1 = i → t.2.2 = v) (hok : okV V [] i d = true) : RegW wf n a0 V (upL L i) { tmps := a.tmps.setIfInBounds d v, defers := [] } w' := by
  simp only [okV, List.all_nil, Bool.and_true, Bool.and_eq_true] at hok
  obtain ⟨h1, h3⟩ := hok
  have hV : ∀ t, t ∈ V → if t.1 = i then t.2.1 = d else t.2.1 ≠ d := fun t ht => by
    have := (List.all_eq_true.1 h1) t ht
    split at this <;> rename_i hq
    · rw [if_pos hq]; simpa using this
    · rw [if_neg hq]; simpa using this
  have hb : ∀ j, okO V [] j = true → j ≠ d := fun j hj e => by
    subst e
    obtain ⟨t, ht, e⟩ := List.any_eq_true.1 h3
    simp only [okO, List.all_nil, Bool.and_true] at hj
    have := (List.all_eq_true.1 hj) t ht
    rw [e] at this; cases this
  have key : ∀ j, tm { tmps := a.tmps.setIfInBounds d v, defers := [] } j = if j = d then v else tm a j := fun j => by
    have := tm_put (a := a) (d := d) (by rw [h.size]; exact hd) v j
    unfold tm at this ⊢; exact this
  refine ⟨rfl, by simpa using h.size, fun j hj => by rw [key, if_neg (hb j hj)]; exact h.old j hj, fun t ht hl => ?_, hw⟩
  have := hV t ht
  by_cases hq : t.1 = i
  · rw [if_pos hq] at this; rw [key, if_pos this]; exact (hv t ht hq).symm
  · rw [if_neg hq] at this; rw [key, if_neg this]; exact h.val t ht (by rwa [upL_ne _ hq] at hl)
theorem RegW.none_step {wf : (Nat → Bool) → World} {w w' : World} {n : Nat} {a0 : Act} {V : List (Nat × Nat × Value)} {L : Nat → Bool} {a : Act} (h : RegW wf n a0 V L a w) (i : Nat)
    (hw : w' = wf (upL L i)) (hok : (V.all fun t => !(t.1 == i)) = true) : RegW wf n a0 V (upL L i) a w' :=
  ⟨h.dfs, h.size, h.old, fun t ht hl => h.val t ht (by
    have := (List.all_eq_true.1 hok) t ht
    rwa [upL_ne _ (by simpa using this)] at hl), hw⟩
theorem wpIn_region_w {F : Fence} {m : Nat} {P : Program} {ops : Array Oper} {Q : Exit → Act → World → Prop} {id : Nat} {a : Act} {w : World} (wf : (Nat → Bool) → World) (V : List (Nat × Nat × Value)) (hm : P.follows .mixedOrders = true) (hlow : lowB .any ops = true) (n : Nat) (hn : a.tmps.size = n) (hdf : a.defers = [])
    (hw : w.drew = wf fun _ => false)
    (hstep : ∀ i o L tmps w', ops[i]? = some o → RegW wf n a V L ⟨tmps, []⟩ w' → L i = false → (∀ e ∈ o.after, Region.binds .any e = true → L e.on = true) → ClosedL .any ops L → wpOpIn F m P ops Q i (fun a' w' => RegW wf n a V (upL L i) a' w') ⟨tmps, []⟩ w')
    (hend : ∀ L tmps w', RegW wf n a V L ⟨tmps, []⟩ w' → (∀ i, i < ops.size → L i = true) → Q .normal ⟨tmps, []⟩ w') : (Code.region id ops true).wpIn F m P Q a w := by
  subst hn
  refine wpIn_region_inv (RegW wf a.tmps.size a V) hm ⟨hdf, rfl, fun _ _ => rfl, (fun _ _ h => (by cases h)), hw⟩ ?_ ?_ hlow
  · rintro i o L ⟨tmps, dfs⟩ w' ho hI hL hd hc
    obtain rfl : dfs = [] := hI.dfs
    exact hstep i o L tmps w' ho hI hL hd hc
  · rintro L ⟨tmps, dfs⟩ w' hI hall
    obtain rfl : dfs = [] := hI.dfs
    exact hend L tmps w' hI hall
theorem RegW.fin {wf : (Nat → Bool) → World} {w : World} {n : Nat} {a0 : Act} {V : List (Nat × Nat × Value)} {L : Nat → Bool} {tmps : Array Value} (h : RegW wf n a0 V L ⟨tmps, []⟩ w) (hn : a0.tmps.size = n) (hall : ∀ t, t ∈ V → L t.1 = true) : tmps = sets a0.tmps (V.map (·.2)) :=
  sets_eq (h.size.trans hn.symm) (fun j hj => h.old j (by
    rw [List.all_map] at hj
    simp only [okO, List.all_nil, Bool.and_true]
    exact hj)) (fun p hp => by
    obtain ⟨t, ht, rfl⟩ := List.mem_map.1 hp
    exact h.val t ht (hall t ht))
/-- An append whose run is known, inside a fence. -/
theorem wpIn_append_runK {F : Fence} {n : Nat} {P : Program} {o : Oper} {a : Act} {w : World} {K : Act → World → Prop} {Q : Exit → Act → World → Prop} (s x : Operand) (T T2 : TypeId)
    (ho : o.op = .call { callee := .builtin .append, args := #[s, x], argTypes := #[T, T2] }) {vs vx v' : Value} {w' : World} (hs : a.eval s = vs) (hx : a.eval x = vx)
    (hrun : ∀ ty, (Builtin.append_ #[T, T2] ty #[vs, vx]).run P w = .ok v' w') (h : K (a.put o.dst v') w') : Oper.wpIn F n P o a w K Q := by
  unfold Oper.wpIn
  refine ⟨?_, ?_⟩
  · simp [Oper.about, ho, resolve, Target.leads, Sem.run_pure]
  · rw [Oper.semAt_plain F _ _ (by rw [ho]; intro c hc'; cases hc')]
    simp [execOp, ho, resolve, invoke, builtin, hs, hx, hrun, Result.andThen]
    exact h
end Go.Proofs.YtceakcejchbbjaaGreat
end

section
set_option linter.unusedSimpArgs false
set_option linter.unusedVariables false
namespace Go.Proofs.YtceakcejchbbjaaGreat
open Go.RowKit Go.MapKept Go.ChangeMaps

structure RegC (S : List Nat) (c : Nat) (Pay : World → Prop) (w0 : World) (n : Nat) (a0 : Act) (V : List (Nat × Nat × Value)) (L : Nat → Bool) (a : Act) (w : World) : Prop where
  dfs : a.defers = []
  size : a.tmps.size = n
  old : ∀ j, okO V [] j = true → tm a j = tm a0 j
  val : ∀ t, t ∈ V → L t.1 = true → tm a t.2.1 = t.2.2
  upd : Upd S w0 w
  pre : L c = false → Upd [] w0 w
  pay : L c = true → Pay w
theorem RegC.put {S : List Nat} {c : Nat} {Pay : World → Prop} {w0 w w' : World} {n : Nat} {a0 : Act} {V : List (Nat × Nat × Value)} {L : Nat → Bool} {a : Act} (h : RegC S c Pay w0 n a0 V L a w) (i d : Nat) (v : Value)
    (hd : d < n) (h1 : Upd S w0 w') (h2 : upL L i c = false → Upd [] w0 w') (h3 : upL L i c = true → Pay w') (hv : ∀ t, t ∈ V → t.1 = i → t.2.2 = v) (hok : okV V [] i d = true) : RegC S c Pay w0 n a0 V (upL L i) { tmps := a.tmps.setIfInBounds d v, defers := [] } w' := by
  simp only [okV, List.all_nil, Bool.and_true, Bool.and_eq_true] at hok
  obtain ⟨k1, k3⟩ := hok
  have hV : ∀ t, t ∈ V → if t.1 = i then t.2.1 = d else t.2.1 ≠ d := fun t ht => by
    have := (List.all_eq_true.1 k1) t ht
    split at this <;> rename_i hq
    · rw [if_pos hq]; simpa using this
    · rw [if_neg hq]; simpa using this
  have hb : ∀ j, okO V [] j = true → j ≠ d := fun j hj e => by
    subst e
    obtain ⟨t, ht, e⟩ := List.any_eq_true.1 k3
    simp only [okO, List.all_nil, Bool.and_true] at hj
    have := (List.all_eq_true.1 hj) t ht
    rw [e] at this; cases this
  have key : ∀ j, tm { tmps := a.tmps.setIfInBounds d v, defers := [] } j = if j = d then v else tm a j := fun j => by
    have := tm_put (a := a) (d := d) (by rw [h.size]; exact hd) v j
    unfold tm at this ⊢; exact this
  refine ⟨rfl, by simpa using h.size, fun j hj => by rw [key, if_neg (hb j hj)]; exact h.old j hj, fun t ht hl => ?_, h1, h2, h3⟩
  have := hV t ht
  by_cases hq : t.1 = i
  · rw [if_pos hq] at this; rw [key, if_pos this]; exact (hv t ht hq).symm
  · rw [if_neg hq] at this; rw [key, if_neg this]; exact h.val t ht (by rwa [upL_ne _ hq] at hl)
theorem RegC.val_step {S : List Nat} {c : Nat} {Pay : World → Prop} {w0 w : World} {n : Nat} {a0 : Act} {V : List (Nat × Nat × Value)} {L : Nat → Bool} {a : Act} (h : RegC S c Pay w0 n a0 V L a w) (i d : Nat) (v : Value)
    (hd : d < n) (hne : c ≠ i) (hv : ∀ t, t ∈ V → t.1 = i → t.2.2 = v) (hok : okV V [] i d = true) : RegC S c Pay w0 n a0 V (upL L i) { tmps := a.tmps.setIfInBounds d v, defers := [] } w :=
  h.put i d v hd h.upd (fun q => h.pre (by rwa [upL_ne _ hne] at q)) (fun q => h.pay (by rwa [upL_ne _ hne] at q)) hv hok
theorem RegC.call_step {S : List Nat} {c : Nat} {Pay : World → Prop} {w0 w w' : World} {n : Nat} {a0 : Act} {V : List (Nat × Nat × Value)} {L : Nat → Bool} {a : Act} (h : RegC S c Pay w0 n a0 V L a w) (d : Nat) (v : Value)
    (hd : d < n) (hu : Upd S w w') (hp : Pay w') (hv : ∀ t, t ∈ V → t.1 = c → t.2.2 = v) (hok : okV V [] c d = true) : RegC S c Pay w0 n a0 V (upL L c) { tmps := a.tmps.setIfInBounds d v, defers := [] } w' :=
  h.put c d v hd (h.upd.trans hu) (fun q => by rw [upL_same] at q; cases q) (fun _ => hp) hv hok
theorem wp_region_c {P : Program} {ops : Array Oper} {Q : Exit → Act → World → Prop} {id : Nat} {a : Act} {w : World} (S : List Nat) (c : Nat) (Pay : World → Prop) (V : List (Nat × Nat × Value)) (hm : P.follows .mixedOrders = true) (hlow : lowB .any ops = true) (n : Nat) (hn : a.tmps.size = n) (hdf : a.defers = [])
    (hstep : ∀ i o L tmps w', ops[i]? = some o → RegC S c Pay w.drew n a V L ⟨tmps, []⟩ w' → L i = false → (∀ e ∈ o.after, Region.binds .any e = true → L e.on = true) → wpOp P ops Q i (fun a' w' => RegC S c Pay w.drew n a V (upL L i) a' w') ⟨tmps, []⟩ w')
    (hend : ∀ L tmps w', RegC S c Pay w.drew n a V L ⟨tmps, []⟩ w' → (∀ i, i < ops.size → L i = true) → Q .normal ⟨tmps, []⟩ w') : (Code.region id ops true).wp P Q a w := by
  subst hn
  refine wp_region_inv (RegC S c Pay w.drew a.tmps.size a V) hm ⟨hdf, rfl, fun _ _ => rfl, (fun _ _ h => (by cases h)), Upd.refl _ _, fun _ => Upd.refl _ _, (fun h => (by cases h))⟩ ?_ ?_ hlow
  · rintro i o L ⟨tmps, dfs⟩ w' ho hI hL hd
    obtain rfl : dfs = [] := hI.dfs
    exact hstep i o L tmps w' ho hI hL hd
  · rintro L ⟨tmps, dfs⟩ w' hI hall
    obtain rfl : dfs = [] := hI.dfs
    exact hend L tmps w' hI hall
theorem RegC.fin {S : List Nat} {c : Nat} {Pay : World → Prop} {w0 w : World} {n : Nat} {a0 : Act} {V : List (Nat × Nat × Value)} {L : Nat → Bool} {tmps : Array Value} (h : RegC S c Pay w0 n a0 V L ⟨tmps, []⟩ w) (hn : a0.tmps.size = n) (hall : ∀ t, t ∈ V → L t.1 = true) : tmps = sets a0.tmps (V.map (·.2)) :=
  sets_eq (h.size.trans hn.symm) (fun j hj => h.old j (by
    rw [List.all_map] at hj
    simp only [okO, List.all_nil, Bool.and_true]
    exact hj)) (fun p hp => by
    obtain ⟨t, ht, rfl⟩ := List.mem_map.1 hp
    exact h.val t ht (hall t ht))
end Go.Proofs.YtceakcejchbbjaaGreat
end

section
set_option linter.unusedSimpArgs false
set_option linter.unusedVariables false
namespace Go.Proofs.YtceakcejchbbjaaGreat
open Go.RowKit Go.MapKept Go.ChangeMaps

/-- D: operations and their slots. -/
structure RegP (n : Nat) (a0 : Act) (D : List (Nat × Nat)) (pr : (Nat → Bool) → Nat → World → Value → Prop) (G : (Nat → Bool) → World → Prop) (L : Nat → Bool) (a : Act) (w : World) : Prop where
  dfs : a.defers = []
  size : a.tmps.size = n
  old : ∀ j, (D.all fun t => !(t.2 == j)) = true → tm a j = tm a0 j
  val : ∀ t, t ∈ D → L t.1 = true → pr L t.1 w (tm a t.2)
  gw : G L w
def okD (D : List (Nat × Nat)) (i d : Nat) : Bool := (D.all fun t => (t.1 == i) == (t.2 == d)) && D.any (fun t => t.2 == d)
theorem RegP.step {n : Nat} {a0 : Act} {D : List (Nat × Nat)} {pr : (Nat → Bool) → Nat → World → Value → Prop} {G : (Nat → Bool) → World → Prop} {L : Nat → Bool} {a : Act} {w w' : World} (h : RegP n a0 D pr G L a w) (i d : Nat) (v : Value)
    (hd : d < n) (hok : okD D i d = true) (hst : ∀ k x, pr L k w x → pr (upL L i) k w' x) (hv : pr (upL L i) i w' v) (hg : G (upL L i) w') : RegP n a0 D pr G (upL L i) { tmps := a.tmps.setIfInBounds d v, defers := [] } w' := by
  simp only [okD, Bool.and_eq_true] at hok
  have hD : ∀ t, t ∈ D → (t.1 = i ↔ t.2 = d) := fun t ht => by
    have := (List.all_eq_true.1 hok.1) t ht
    by_cases h1 : t.1 = i <;> by_cases h2 : t.2 = d <;> simp [h1, h2] at this ⊢
  have hb : ∀ j, (D.all fun t => !(t.2 == j)) = true → j ≠ d := fun j hj e => by
    subst e
    obtain ⟨t, ht, e⟩ := List.any_eq_true.1 hok.2
    have := (List.all_eq_true.1 hj) t ht
    rw [e] at this; cases this
  have key : ∀ j, tm { tmps := a.tmps.setIfInBounds d v, defers := [] } j = if j = d then v else tm a j := fun j => by
    have := tm_put (a := a) (d := d) (by rw [h.size]; exact hd) v j
    unfold tm at this ⊢; exact this
  refine ⟨rfl, by simpa using h.size, fun j hj => by rw [key, if_neg (hb j hj)]; exact h.old j hj, fun t ht hl => ?_, hg⟩
  by_cases hq : t.1 = i
  · rw [key, if_pos ((hD t ht).1 hq), hq]; exact hv
  · rw [key, if_neg (fun e => hq ((hD t ht).2 e))]
    exact hst _ _ (h.val t ht (by rwa [upL_ne _ hq] at hl))
theorem RegP.none_step {n : Nat} {a0 : Act} {D : List (Nat × Nat)} {pr : (Nat → Bool) → Nat → World → Value → Prop} {G : (Nat → Bool) → World → Prop} {L : Nat → Bool} {a : Act} {w w' : World} (h : RegP n a0 D pr G L a w) (i : Nat)
    (hok : (D.all fun t => !(t.1 == i)) = true) (hst : ∀ t, t ∈ D → L t.1 = true → pr L t.1 w (tm a t.2) → pr (upL L i) t.1 w' (tm a t.2)) (hg : G (upL L i) w') : RegP n a0 D pr G (upL L i) a w' := by
  refine ⟨h.dfs, h.size, h.old, fun t ht hl => ?_, hg⟩
  have hne : t.1 ≠ i := by simpa using (List.all_eq_true.1 hok) t ht
  rw [upL_ne _ hne] at hl
  exact hst t ht hl (h.val t ht hl)
theorem wp_region_p {P : Program} {ops : Array Oper} {Q : Exit → Act → World → Prop} {id : Nat} {a : Act} {w : World} (D : List (Nat × Nat)) (pr : (Nat → Bool) → Nat → World → Value → Prop) (G : (Nat → Bool) → World → Prop) (hm : P.follows .mixedOrders = true) (hlow : lowB .any ops = true) (n : Nat) (hn : a.tmps.size = n) (hdf : a.defers = [])
    (h0 : G (fun _ => false) w.drew)
    (hstep : ∀ i o L tmps w', ops[i]? = some o → RegP n a D pr G L ⟨tmps, []⟩ w' → L i = false → (∀ e ∈ o.after, Region.binds .any e = true → L e.on = true) → wpOp P ops Q i (fun a' w' => RegP n a D pr G (upL L i) a' w') ⟨tmps, []⟩ w')
    (hend : ∀ L tmps w', RegP n a D pr G L ⟨tmps, []⟩ w' → (∀ i, i < ops.size → L i = true) → Q .normal ⟨tmps, []⟩ w') : (Code.region id ops true).wp P Q a w := by
  subst hn
  refine wp_region_inv (RegP a.tmps.size a D pr G) hm ⟨hdf, rfl, fun _ _ => rfl, (fun _ _ h => (by cases h)), h0⟩ ?_ ?_ hlow
  · rintro i o L ⟨tmps, dfs⟩ w' ho hI hL hd
    obtain rfl : dfs = [] := hI.dfs
    exact hstep i o L tmps w' ho hI hL hd
  · rintro L ⟨tmps, dfs⟩ w' hI hall
    obtain rfl : dfs = [] := hI.dfs
    exact hend L tmps w' hI hall
theorem RegP.tmps_eq {n : Nat} {a0 : Act} {D : List (Nat × Nat)} {pr : (Nat → Bool) → Nat → World → Value → Prop} {G : (Nat → Bool) → World → Prop} {L : Nat → Bool} {tmps : Array Value} {w : World} (h : RegP n a0 D pr G L ⟨tmps, []⟩ w) (hn : a0.tmps.size = n) (l : List (Nat × Value))
    (h1 : ∀ j, (l.all fun p => !(p.1 == j)) = true → (D.all fun t => !(t.2 == j)) = true) (h2 : ∀ p, p ∈ l → tmps[p.1]?.getD undef = p.2) : tmps = sets a0.tmps l :=
  sets_eq (h.size.trans hn.symm) (fun j hj => h.old j (h1 j hj)) h2
end Go.Proofs.YtceakcejchbbjaaGreat
end

section
set_option linter.unusedSimpArgs false
set_option linter.unusedVariables false
namespace Go.Proofs.YtceakcejchbbjaaGreat
open Go.RowKit Go.MapKept Go.ChangeMaps

theorem tm_val {tmps : Array Value} {n i : Nat} {v : Value} (hs : tmps.size = n) (hi : i < n) (h : tmps[i]?.getD undef = v) : tmps[i]? = some v := by
  rw [Array.getElem?_eq_getElem (by omega)] at h ⊢
  exact congrArg some h
/-- With what a slot held ahead of its operation. -/
structure RegV (wf : (Nat → Bool) → World) (n : Nat) (a0 : Act) (V : List (Nat × Nat × Value)) (L : Nat → Bool) (a : Act) (w : World) : Prop extends RegW wf n a0 V L a w where
  yet : ∀ t, t ∈ V → L t.1 = false → tm a t.2.1 = tm a0 t.2.1
theorem yet_put {a a0 : Act} {n d : Nat} {v : Value} {L : Nat → Bool} {i : Nat} {D : List (Nat × Nat)} (hs : a.tmps.size = n) (hd : d < n) (hD : ∀ t, t ∈ D → (t.1 = i ↔ t.2 = d)) (h : ∀ t, t ∈ D → L t.1 = false → tm a t.2 = tm a0 t.2) :
    ∀ t, t ∈ D → upL L i t.1 = false → tm { tmps := a.tmps.setIfInBounds d v, defers := [] } t.2 = tm a0 t.2 := by
  intro t ht hl
  have hne : t.1 ≠ i := fun e => by rw [e, upL_same] at hl; cases hl
  have key : tm { tmps := a.tmps.setIfInBounds d v, defers := [] } t.2 = if t.2 = d then v else tm a t.2 := by
    have := tm_put (a := a) (d := d) (by rw [hs]; exact hd) v t.2
    unfold tm at this ⊢; exact this
  rw [key, if_neg (fun e => hne ((hD t ht).2 e))]
  exact h t ht (by rwa [upL_ne _ hne] at hl)
theorem RegV.val_step {wf : (Nat → Bool) → World} {w w' : World} {n : Nat} {a0 : Act} {V : List (Nat × Nat × Value)} {L : Nat → Bool} {a : Act} (h : RegV wf n a0 V L a w) (i d : Nat) (v : Value)
    (hd : d < n) (hw : w' = wf (upL L i)) (hv : ∀ t, t ∈ V → t.1 = i → t.2.2 = v) (hok : okV V [] i d = true) : RegV wf n a0 V (upL L i) { tmps := a.tmps.setIfInBounds d v, defers := [] } w' := by
  refine ⟨h.toRegW.val_step i d v hd hw hv hok, fun t ht => ?_⟩
  simp only [okV, List.all_nil, Bool.and_true, Bool.and_eq_true] at hok
  have hD : ∀ t, t ∈ V.map (fun t => (t.1, t.2.1)) → (t.1 = i ↔ t.2 = d) := fun t ht => by
    obtain ⟨u, hu, rfl⟩ := List.mem_map.1 ht
    have := (List.all_eq_true.1 hok.1) u hu
    by_cases h1 : u.1 = i <;> by_cases h2 : u.2.1 = d <;> simp [h1, h2] at this ⊢
  exact yet_put (D := V.map fun t => (t.1, t.2.1)) h.size hd hD (fun u hu => by
    obtain ⟨x, hx, rfl⟩ := List.mem_map.1 hu
    exact h.yet x hx) (t.1, t.2.1) (List.mem_map.2 ⟨t, ht, rfl⟩)
theorem RegV.none_step {wf : (Nat → Bool) → World} {w w' : World} {n : Nat} {a0 : Act} {V : List (Nat × Nat × Value)} {L : Nat → Bool} {a : Act} (h : RegV wf n a0 V L a w) (i : Nat)
    (hw : w' = wf (upL L i)) (hok : (V.all fun t => !(t.1 == i)) = true) : RegV wf n a0 V (upL L i) a w' :=
  ⟨h.toRegW.none_step i hw hok, fun t ht hl => h.yet t ht (by
    have := (List.all_eq_true.1 hok) t ht
    rwa [upL_ne _ (by simpa using this)] at hl)⟩
theorem RegV.fin {wf : (Nat → Bool) → World} {w : World} {n : Nat} {a0 : Act} {V : List (Nat × Nat × Value)} {L : Nat → Bool} {tmps : Array Value} (h : RegV wf n a0 V L ⟨tmps, []⟩ w) (hn : a0.tmps.size = n) (hall : ∀ t, t ∈ V → L t.1 = true) : tmps = sets a0.tmps (V.map (·.2)) := h.toRegW.fin hn hall
theorem wp_region_w {P : Program} {ops : Array Oper} {Q : Exit → Act → World → Prop} {id : Nat} {a : Act} {w : World} (wf : (Nat → Bool) → World) (V : List (Nat × Nat × Value)) (hm : P.follows .mixedOrders = true) (hlow : lowB .any ops = true) (n : Nat) (hn : a.tmps.size = n) (hdf : a.defers = [])
    (hw : w.drew = wf fun _ => false)
    (hstep : ∀ i o L tmps w', ops[i]? = some o → RegV wf n a V L ⟨tmps, []⟩ w' → L i = false → (∀ e ∈ o.after, Region.binds .any e = true → L e.on = true) → ClosedL .any ops L → wpOp P ops Q i (fun a' w' => RegV wf n a V (upL L i) a' w') ⟨tmps, []⟩ w')
    (hend : ∀ L tmps w', RegV wf n a V L ⟨tmps, []⟩ w' → (∀ i, i < ops.size → L i = true) → Q .normal ⟨tmps, []⟩ w') : (Code.region id ops true).wp P Q a w := by
  subst hn
  refine wp_region_inv (fun L a' w' => RegV wf a.tmps.size a V L a' w' ∧ ClosedL .any ops L) hm ⟨⟨⟨hdf, rfl, fun _ _ => rfl, (fun _ _ h => (by cases h)), hw⟩, fun _ _ _ => rfl⟩, fun j oj _ h => (by cases h)⟩ ?_ ?_ hlow
  · rintro i o L ⟨tmps, dfs⟩ w' ho ⟨hI, hc⟩ hL hd
    obtain rfl : dfs = [] := hI.dfs
    exact wpOp_mono (fun a' w'' h => ⟨h, hc.up ho hd⟩) (hstep i o L tmps w' ho hI hL hd hc)
  · rintro L ⟨tmps, dfs⟩ w' ⟨hI, _⟩ hall
    obtain rfl : dfs = [] := hI.dfs
    exact hend L tmps w' hI hall
/-- What a slot holds: a value; or what a predicate says that lasts while blocks are made. -/
inductive Kd where
  | c (v : Value)
  | f (p : World → Value → Prop)
def Kd.is : Kd → World → Value → Prop
  | .c x, _, v => v = x
  | .f p, w, v => p w v
def Kd.lasts : Kd → Prop
  | .c _ => True
  | .f p => ∀ w w' v, Upd [] w w' → p w v → p w' v
theorem Kd.is_upd {k : Kd} (h : k.lasts) {w w' : World} (hu : Upd [] w w') {v : Value} (hv : k.is w v) : k.is w' v := by
  cases k with
  | c x => exact hv
  | f p => exact h w w' v hu hv
theorem Kd.lasts_rd (b : List UInt8) : (Kd.f fun w v => Rd w v b).lasts := fun _ _ _ hu h => h.below hu
/-- The region's invariant: blocks are made, nothing is turned. -/
structure RegU (w0 : World) (n : Nat) (a0 : Act) (D : List (Nat × Nat)) (kd : Nat → Kd) (L : Nat → Bool) (a : Act) (w : World) : Prop extends RegP n a0 D (fun _ k w v => (kd k).is w v) (fun _ w => Upd [] w0 w) L a w where
  yet : ∀ t, t ∈ D → L t.1 = false → tm a t.2 = tm a0 t.2
theorem RegU.ustep {w0 : World} {n : Nat} {a0 : Act} {D : List (Nat × Nat)} {kd : Nat → Kd} {L : Nat → Bool} {a : Act} {w w' : World} (h : RegU w0 n a0 D kd L a w) (hl : ∀ k, (kd k).lasts) (i d : Nat) (v : Value)
    (hd : d < n) (hok : okD D i d = true) (hu : Upd [] w w') (hv : (kd i).is w' v) : RegU w0 n a0 D kd (upL L i) { tmps := a.tmps.setIfInBounds d v, defers := [] } w' := by
  refine ⟨h.toRegP.step i d v hd hok (fun k x hx => Kd.is_upd (hl k) hu hx) hv (h.gw.trans hu), yet_put h.size hd (fun t ht => ?_) h.yet⟩
  simp only [okD, Bool.and_eq_true] at hok
  have := (List.all_eq_true.1 hok.1) t ht
  by_cases h1 : t.1 = i <;> by_cases h2 : t.2 = d <;> simp [h1, h2] at this ⊢
theorem RegU.tmps_eq {w0 : World} {n : Nat} {a0 : Act} {D : List (Nat × Nat)} {kd : Nat → Kd} {L : Nat → Bool} {tmps : Array Value} {w : World} (h : RegU w0 n a0 D kd L ⟨tmps, []⟩ w) (hn : a0.tmps.size = n) (l : List (Nat × Value))
    (h1 : ∀ j, (l.all fun p => !(p.1 == j)) = true → (D.all fun t => !(t.2 == j)) = true) (h2 : ∀ p, p ∈ l → tmps[p.1]?.getD undef = p.2) : tmps = sets a0.tmps l := h.toRegP.tmps_eq hn l h1 h2
theorem wp_region_u {P : Program} {ops : Array Oper} {Q : Exit → Act → World → Prop} {id : Nat} {a : Act} {w : World} (D : List (Nat × Nat)) (kd : Nat → Kd) (hm : P.follows .mixedOrders = true) (hlow : lowB .any ops = true) (n : Nat) (hn : a.tmps.size = n) (hdf : a.defers = [])
    (hstep : ∀ i o L tmps w', ops[i]? = some o → RegU w n a D kd L ⟨tmps, []⟩ w' → L i = false → (∀ e ∈ o.after, Region.binds .any e = true → L e.on = true) → wpOp P ops Q i (fun a' w' => RegU w n a D kd (upL L i) a' w') ⟨tmps, []⟩ w')
    (hend : ∀ L tmps w', RegU w n a D kd L ⟨tmps, []⟩ w' → (∀ i, i < ops.size → L i = true) → Q .normal ⟨tmps, []⟩ w') : (Code.region id ops true).wp P Q a w := by
  subst hn
  refine wp_region_inv (fun L a' w' => RegU w a.tmps.size a D kd L a' w') hm ⟨⟨hdf, rfl, fun _ _ => rfl, (fun _ _ h => (by cases h)), (Upd.refl _ _).drew⟩, fun _ _ _ => rfl⟩ ?_ ?_ hlow
  · rintro i o L ⟨tmps, dfs⟩ w' ho hI hL hd
    obtain rfl : dfs = [] := hI.dfs
    exact hstep i o L tmps w' ho hI hL hd
  · rintro L ⟨tmps, dfs⟩ w' hI hall
    obtain rfl : dfs = [] := hI.dfs
    exact hend L tmps w' hI hall
end Go.Proofs.YtceakcejchbbjaaGreat
end
