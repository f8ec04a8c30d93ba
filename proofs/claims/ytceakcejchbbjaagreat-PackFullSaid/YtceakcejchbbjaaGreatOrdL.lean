/-
  A drawn region of known values with one call that turns memory.
-/
import Derived.Test.YtceakcejchbbjaaGreatOrdK
set_option linter.unusedSimpArgs false
set_option linter.unusedVariables false
namespace Go.Proofs.YtceakcejchbbjaaGreat
open Go.RowKit Go.MapKept Go.ChangeMaps

structure RegC (S : List Nat) (c : Nat) (Pay : World → Prop) (w0 : World) (n : Nat) (a0 : Act) (V : List (Nat × Nat × Value)) (L : Nat → Bool) (a : Act) (w : World) : Prop where
  dfs : a.defers = []
  size : a.tmps.size = n
  old : ∀ j, okO V [] j = true → tm a j = tm a0 j
  val : ∀ t, t ∈ V → L t.1 = true → tm a t.2.1 = t.2.2
  upd : Upd S w0 w
  pre : L c = false → Upd [] w0 w
  pay : L c = true → Pay w
theorem RegC.put {S : List Nat} {c : Nat} {Pay : World → Prop} {w0 w w' : World} {n : Nat} {a0 : Act} {V : List (Nat × Nat × Value)} {L : Nat → Bool} {a : Act} (h : RegC S c Pay w0 n a0 V L a w) (i d : Nat) (v : Value)
    (hd : d < n) (h1 : Upd S w0 w') (h2 : upL L i c = false → Upd [] w0 w') (h3 : upL L i c = true → Pay w') (hv : ∀ t, t ∈ V → t.1 = i → t.2.2 = v) (hok : okV V [] i d = true) : RegC S c Pay w0 n a0 V (upL L i) { tmps := a.tmps.setIfInBounds d v, defers := [] } w' := by
  simp only [okV, List.all_nil, Bool.and_true, Bool.and_eq_true] at hok
  obtain ⟨k1, k3⟩ := hok
  have hV : ∀ t, t ∈ V → if t.1 = i then t.2.1 = d else t.2.1 ≠ d := fun t ht => by
    have := (List.all_eq_true.1 k1) t ht
    split at this <;> rename_i hq
    · rw [if_pos hq]; simpa using this
    · rw [if_neg hq]; simpa using this
  have hb : ∀ j, okO V [] j = true → j ≠ d := fun j hj e => by
    subst e
    obtain ⟨t, ht, e⟩ := List.any_eq_true.1 k3
    simp only [okO, List.all_nil, Bool.and_true] at hj
    have := (List.all_eq_true.1 hj) t ht
    rw [e] at this; cases this
  have key : ∀ j, tm { tmps := a.tmps.setIfInBounds d v, defers := [] } j = if j = d then v else tm a j := fun j => by
    have := tm_put (a := a) (d := d) (by rw [h.size]; exact hd) v j
    unfold tm at this ⊢; exact this
  refine ⟨rfl, by simpa using h.size, fun j hj => by rw [key, if_neg (hb j hj)]; exact h.old j hj, fun t ht hl => ?_, h1, h2, h3⟩
  have := hV t ht
  by_cases hq : t.1 = i
  · rw [if_pos hq] at this; rw [key, if_pos this]; exact (hv t ht hq).symm
  · rw [if_neg hq] at this; rw [key, if_neg this]; exact h.val t ht (by rwa [upL_ne _ hq] at hl)
theorem RegC.val_step {S : List Nat} {c : Nat} {Pay : World → Prop} {w0 w : World} {n : Nat} {a0 : Act} {V : List (Nat × Nat × Value)} {L : Nat → Bool} {a : Act} (h : RegC S c Pay w0 n a0 V L a w) (i d : Nat) (v : Value)
    (hd : d < n) (hne : c ≠ i) (hv : ∀ t, t ∈ V → t.1 = i → t.2.2 = v) (hok : okV V [] i d = true) : RegC S c Pay w0 n a0 V (upL L i) { tmps := a.tmps.setIfInBounds d v, defers := [] } w :=
  h.put i d v hd h.upd (fun q => h.pre (by rwa [upL_ne _ hne] at q)) (fun q => h.pay (by rwa [upL_ne _ hne] at q)) hv hok
theorem RegC.call_step {S : List Nat} {c : Nat} {Pay : World → Prop} {w0 w w' : World} {n : Nat} {a0 : Act} {V : List (Nat × Nat × Value)} {L : Nat → Bool} {a : Act} (h : RegC S c Pay w0 n a0 V L a w) (d : Nat) (v : Value)
    (hd : d < n) (hu : Upd S w w') (hp : Pay w') (hv : ∀ t, t ∈ V → t.1 = c → t.2.2 = v) (hok : okV V [] c d = true) : RegC S c Pay w0 n a0 V (upL L c) { tmps := a.tmps.setIfInBounds d v, defers := [] } w' :=
  h.put c d v hd (h.upd.trans hu) (fun q => by rw [upL_same] at q; cases q) (fun _ => hp) hv hok
theorem wp_region_c {P : Program} {ops : Array Oper} {Q : Exit → Act → World → Prop} {id : Nat} {a : Act} {w : World} (S : List Nat) (c : Nat) (Pay : World → Prop) (V : List (Nat × Nat × Value)) (hm : P.follows .mixedOrders = true) (hlow : lowB .any ops = true) (n : Nat) (hn : a.tmps.size = n) (hdf : a.defers = [])
    (hstep : ∀ i o L tmps w', ops[i]? = some o → RegC S c Pay w.drew n a V L ⟨tmps, []⟩ w' → L i = false → (∀ e ∈ o.after, Region.binds .any e = true → L e.on = true) → wpOp P ops Q i (fun a' w' => RegC S c Pay w.drew n a V (upL L i) a' w') ⟨tmps, []⟩ w')
    (hend : ∀ L tmps w', RegC S c Pay w.drew n a V L ⟨tmps, []⟩ w' → (∀ i, i < ops.size → L i = true) → Q .normal ⟨tmps, []⟩ w') : (Code.region id ops true).wp P Q a w := by
  subst hn
  refine wp_region_inv (RegC S c Pay w.drew a.tmps.size a V) hm ⟨hdf, rfl, fun _ _ => rfl, (fun _ _ h => (by cases h)), Upd.refl _ _, fun _ => Upd.refl _ _, (fun h => (by cases h))⟩ ?_ ?_ hlow
  · rintro i o L ⟨tmps, dfs⟩ w' ho hI hL hd
    obtain rfl : dfs = [] := hI.dfs
    exact hstep i o L tmps w' ho hI hL hd
  · rintro L ⟨tmps, dfs⟩ w' hI hall
    obtain rfl : dfs = [] := hI.dfs
    exact hend L tmps w' hI hall
theorem RegC.fin {S : List Nat} {c : Nat} {Pay : World → Prop} {w0 w : World} {n : Nat} {a0 : Act} {V : List (Nat × Nat × Value)} {L : Nat → Bool} {tmps : Array Value} (h : RegC S c Pay w0 n a0 V L ⟨tmps, []⟩ w) (hn : a0.tmps.size = n) (hall : ∀ t, t ∈ V → L t.1 = true) : tmps = sets a0.tmps (V.map (·.2)) :=
  sets_eq (h.size.trans hn.symm) (fun j hj => h.old j (by
    rw [List.all_map] at hj
    simp only [okO, List.all_nil, Bool.and_true]
    exact hj)) (fun p hp => by
    obtain ⟨t, ht, rfl⟩ := List.mem_map.1 hp
    exact h.val t ht (hall t ht))
end Go.Proofs.YtceakcejchbbjaaGreat
