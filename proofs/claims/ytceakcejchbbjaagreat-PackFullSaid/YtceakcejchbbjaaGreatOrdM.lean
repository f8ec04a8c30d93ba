/-
  A drawn region by an invariant: what each operation's slot holds, as a predicate of the world; and what holds of the world.
-/
import Derived.Test.YtceakcejchbbjaaGreatOrdL
set_option linter.unusedSimpArgs false
set_option linter.unusedVariables false
namespace Go.Proofs.YtceakcejchbbjaaGreat
open Go.RowKit Go.MapKept Go.ChangeMaps

/-- D: operations and their slots. -/
structure RegP (n : Nat) (a0 : Act) (D : List (Nat × Nat)) (pr : (Nat → Bool) → Nat → World → Value → Prop) (G : (Nat → Bool) → World → Prop) (L : Nat → Bool) (a : Act) (w : World) : Prop where
  dfs : a.defers = []
  size : a.tmps.size = n
  old : ∀ j, (D.all fun t => !(t.2 == j)) = true → tm a j = tm a0 j
  val : ∀ t, t ∈ D → L t.1 = true → pr L t.1 w (tm a t.2)
  gw : G L w
def okD (D : List (Nat × Nat)) (i d : Nat) : Bool := (D.all fun t => (t.1 == i) == (t.2 == d)) && D.any (fun t => t.2 == d)
theorem RegP.step {n : Nat} {a0 : Act} {D : List (Nat × Nat)} {pr : (Nat → Bool) → Nat → World → Value → Prop} {G : (Nat → Bool) → World → Prop} {L : Nat → Bool} {a : Act} {w w' : World} (h : RegP n a0 D pr G L a w) (i d : Nat) (v : Value)
    (hd : d < n) (hok : okD D i d = true) (hst : ∀ k x, pr L k w x → pr (upL L i) k w' x) (hv : pr (upL L i) i w' v) (hg : G (upL L i) w') : RegP n a0 D pr G (upL L i) { tmps := a.tmps.setIfInBounds d v, defers := [] } w' := by
  simp only [okD, Bool.and_eq_true] at hok
  have hD : ∀ t, t ∈ D → (t.1 = i ↔ t.2 = d) := fun t ht => by
    have := (List.all_eq_true.1 hok.1) t ht
    by_cases h1 : t.1 = i <;> by_cases h2 : t.2 = d <;> simp [h1, h2] at this ⊢
  have hb : ∀ j, (D.all fun t => !(t.2 == j)) = true → j ≠ d := fun j hj e => by
    subst e
    obtain ⟨t, ht, e⟩ := List.any_eq_true.1 hok.2
    have := (List.all_eq_true.1 hj) t ht
    rw [e] at this; cases this
  have key : ∀ j, tm { tmps := a.tmps.setIfInBounds d v, defers := [] } j = if j = d then v else tm a j := fun j => by
    have := tm_put (a := a) (d := d) (by rw [h.size]; exact hd) v j
    unfold tm at this ⊢; exact this
  refine ⟨rfl, by simpa using h.size, fun j hj => by rw [key, if_neg (hb j hj)]; exact h.old j hj, fun t ht hl => ?_, hg⟩
  by_cases hq : t.1 = i
  · rw [key, if_pos ((hD t ht).1 hq), hq]; exact hv
  · rw [key, if_neg (fun e => hq ((hD t ht).2 e))]
    exact hst _ _ (h.val t ht (by rwa [upL_ne _ hq] at hl))
theorem RegP.none_step {n : Nat} {a0 : Act} {D : List (Nat × Nat)} {pr : (Nat → Bool) → Nat → World → Value → Prop} {G : (Nat → Bool) → World → Prop} {L : Nat → Bool} {a : Act} {w w' : World} (h : RegP n a0 D pr G L a w) (i : Nat)
    (hok : (D.all fun t => !(t.1 == i)) = true) (hst : ∀ t, t ∈ D → L t.1 = true → pr L t.1 w (tm a t.2) → pr (upL L i) t.1 w' (tm a t.2)) (hg : G (upL L i) w') : RegP n a0 D pr G (upL L i) a w' := by
  refine ⟨h.dfs, h.size, h.old, fun t ht hl => ?_, hg⟩
  have hne : t.1 ≠ i := by simpa using (List.all_eq_true.1 hok) t ht
  rw [upL_ne _ hne] at hl
  exact hst t ht hl (h.val t ht hl)
theorem wp_region_p {P : Program} {ops : Array Oper} {Q : Exit → Act → World → Prop} {id : Nat} {a : Act} {w : World} (D : List (Nat × Nat)) (pr : (Nat → Bool) → Nat → World → Value → Prop) (G : (Nat → Bool) → World → Prop) (hm : P.follows .mixedOrders = true) (hlow : lowB .any ops = true) (n : Nat) (hn : a.tmps.size = n) (hdf : a.defers = [])
    (h0 : G (fun _ => false) w.drew)
    (hstep : ∀ i o L tmps w', ops[i]? = some o → RegP n a D pr G L ⟨tmps, []⟩ w' → L i = false → (∀ e ∈ o.after, Region.binds .any e = true → L e.on = true) → wpOp P ops Q i (fun a' w' => RegP n a D pr G (upL L i) a' w') ⟨tmps, []⟩ w')
    (hend : ∀ L tmps w', RegP n a D pr G L ⟨tmps, []⟩ w' → (∀ i, i < ops.size → L i = true) → Q .normal ⟨tmps, []⟩ w') : (Code.region id ops true).wp P Q a w := by
  subst hn
  refine wp_region_inv (RegP a.tmps.size a D pr G) hm ⟨hdf, rfl, fun _ _ => rfl, (fun _ _ h => (by cases h)), h0⟩ ?_ ?_ hlow
  · rintro i o L ⟨tmps, dfs⟩ w' ho hI hL hd
    obtain rfl : dfs = [] := hI.dfs
    exact hstep i o L tmps w' ho hI hL hd
  · rintro L ⟨tmps, dfs⟩ w' hI hall
    obtain rfl : dfs = [] := hI.dfs
    exact hend L tmps w' hI hall
theorem RegP.tmps_eq {n : Nat} {a0 : Act} {D : List (Nat × Nat)} {pr : (Nat → Bool) → Nat → World → Value → Prop} {G : (Nat → Bool) → World → Prop} {L : Nat → Bool} {tmps : Array Value} {w : World} (h : RegP n a0 D pr G L ⟨tmps, []⟩ w) (hn : a0.tmps.size = n) (l : List (Nat × Value))
    (h1 : ∀ j, (l.all fun p => !(p.1 == j)) = true → (D.all fun t => !(t.2 == j)) = true) (h2 : ∀ p, p ∈ l → tmps[p.1]?.getD undef = p.2) : tmps = sets a0.tmps l :=
  sets_eq (h.size.trans hn.symm) (fun j hj => h.old j (h1 j hj)) h2
end Go.Proofs.YtceakcejchbbjaaGreat
