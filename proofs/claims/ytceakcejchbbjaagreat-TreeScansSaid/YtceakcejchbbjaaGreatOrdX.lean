/-
  A drawn region whose loads are spoiled by its own last stores: the loads are taken first, under a condition that is to hold till the first of those stores comes up.
-/
import Derived.Test.YtceakcejchbbjaaGreatTrP
namespace Go.Proofs.YtceakcejchbbjaaGreat
open Go.RowKit Go.MapKept Go.ChangeMaps

section
variable {P : Program} {ops : Array Oper} {Q : Exit → Act → World → Prop} {md : Region.Mode} {S : World → Prop} {St : List Nat}

/-- None of these has come up. -/
def NoneUp (St : List Nat) (listed : Array Bool) : Prop := ∀ s, s ∈ St → listed.getD s false = false
/-- What has come up has come up behind what it waits for. -/
def Closed (md : Region.Mode) (ops : Array Oper) (listed : Array Bool) : Prop := ∀ j oj, ops[j]? = some oj → listed.getD j false = true → ∀ e ∈ oj.after, Region.binds md e = true → listed.getD e.on false = true
/-- s waits for i, by so many steps. -/
def waits (md : Region.Mode) (ops : Array Oper) (i : Nat) : Nat → Nat → Bool
  | 0, s => s == i
  | f + 1, s => s == i || match ops[s]? with
    | none => false
    | some o => o.after.any fun e => Region.binds md e && waits md ops i f e.on
theorem waits_up {listed : Array Bool} (hc : Closed md ops listed) {i : Nat} : ∀ {f s : Nat}, waits md ops i f s = true → listed.getD s false = true → listed.getD i false = true
  | 0, s, h, hs => by simp [waits] at h; rw [← h]; exact hs
  | f + 1, s, h, hs => by
    unfold waits at h
    rw [Bool.or_eq_true] at h
    rcases h with h | h
    · simp at h; rw [← h]; exact hs
    · cases ho : ops[s]? with
      | none => rw [ho] at h; simp at h
      | some o =>
        rw [ho] at h
        obtain ⟨e, he, hb⟩ := Array.any_eq_true'.1 h
        simp only [Bool.and_eq_true] at hb
        exact waits_up hc hb.2 (hc s o ho hs e he hb.1)
theorem Closed.set {listed : Array Bool} (hc : Closed md ops listed) {j : Nat} (hj : j ∈ Region.ready md ops listed) : Closed md ops (listed.setIfInBounds j true) := by
  intro k ok hk hl e he hb
  obtain ⟨_, oj, hoj, hall⟩ := mem_ready.1 hj
  by_cases hkj : j = k
  · subst hkj
    rw [hk] at hoj; cases hoj
    exact getD_set_true (hall e he hb)
  · rw [getD_set_ne false hkj] at hl
    exact getD_set_true (hc k ok hk hl e he hb)
/-- Whatever order is picked from here on; and S holds behind every operation, till one of St has come up. -/
def wpAnyX (P : Program) (md : Region.Mode) (ops : Array Oper) (Q : Exit → Act → World → Prop) (S : World → Prop) (St : List Nat) : Nat → Array Bool → Act → World → Prop
  | 0, listed, a, w => Region.ready md ops listed = [] ∧ Q .normal a w
  | fuel + 1, listed, a, w =>
    (Region.ready md ops listed = [] → Q .normal a w) ∧
    ∀ i ∈ Region.ready md ops listed, wpOp P ops Q i (fun a' w' => (NoneUp St (listed.setIfInBounds i true) → S w') ∧ wpAnyX P md ops Q S St fuel (listed.setIfInBounds i true) a' w') a w
theorem wpAny_of_x : ∀ (fuel : Nat) (listed : Array Bool) (a : Act) (w : World), wpAnyX P md ops Q S St fuel listed a w → wpAny P md ops Q fuel listed a w
  | 0, _, _, _, h => h
  | fuel + 1, _, _, _, h => ⟨h.1, fun i hi => wpOp_mono (fun a' w' h' => wpAny_of_x fuel _ a' w' h'.2) (h.2 i hi)⟩
theorem wpAnyX_first {i : Nat} {oi : Oper} {v : Value} (hi : ops[i]? = some oi) (hsel : ∀ (j : Nat) (o : Oper) cs b, ops[j]? = some o → o.op ≠ .select cs b)
    (hQ : ∀ c a w, Q (.panic c) (a.put oi.dst v) w → Q (.panic c) a w) (hw : ∀ s, s ∈ St → ∃ f, waits md ops i f s = true ∧ s ≠ i) :
    ∀ (fuel : Nat) (listed : Array Bool) (a : Act) (w : World), Closed md ops listed →
      (∀ j oj, ops[j]? = some oj → j ≠ i → listed.getD j true = false → (∀ e ∈ oj.after, Region.binds md e = true → e.on ≠ i) → oi.apart ops oj = true) →
      i ∈ Region.ready md ops listed → YieldsIf P ops S oi v a → S w →
      wpAnyX P md ops Q S St fuel (listed.setIfInBounds i true) (a.put oi.dst v) w → wpAnyX P md ops Q S St (fuel + 1) listed a w := by
  intro fuel
  induction fuel with
  | zero =>
    intro listed a w _ _ hr hy hS H
    refine ⟨fun h => (by rw [h] at hr; cases hr), fun j hj => ?_⟩
    by_cases hji : j = i
    · subst hji; exact hy.wpOp hi hS ⟨fun _ => hS, H⟩
    · have := ready_mono hj hji
      rw [H.1] at this
      cases this
  | succ fuel ih =>
    intro listed a w hcl hfree hr hy hS H
    refine ⟨fun h => (by rw [h] at hr; cases hr), fun j hj => ?_⟩
    by_cases hji : j = i
    · subst hji; exact hy.wpOp hi hS ⟨fun _ => hS, H⟩
    · have h1 := H.2 j (ready_mono hj hji)
      obtain ⟨hjun, oj, hoj, hall⟩ := mem_ready.1 hj
      have hiun := (mem_ready.1 hr).1
      have hnot : ∀ e ∈ oj.after, Region.binds md e = true → e.on ≠ i := fun e he hb heq => by
        have h1 := hall e he hb
        rw [heq] at h1
        rcases Nat.lt_or_ge i listed.size with h' | h'
        · simp [h'] at hiun h1; rw [hiun] at h1; cases h1
        · simp [Array.getElem?_eq_none h'] at h1
      have h2 := wpOp_putIf hoj (hfree j oj hoj hji hjun hnot) (fun cs b => hsel i oi cs b hi) (fun cs b => hsel j oj cs b hoj) hQ hy h1
      have hfree' : ∀ k ok, ops[k]? = some ok → k ≠ i → (listed.setIfInBounds j true).getD k true = false →
          (∀ e ∈ ok.after, Region.binds md e = true → e.on ≠ i) → oi.apart ops ok = true := fun k ok hk hki hun hno => by
        refine hfree k ok hk hki ?_ hno
        by_cases hjk : j = k
        · subst hjk; exact hjun
        · rw [getD_set_ne true hjk] at hun; exact hun
      have hcl' := hcl.set hj
      have hi0 : (listed.setIfInBounds j true).getD i false = false := by
        rw [getD_set_ne false hji]
        rcases Nat.lt_or_ge i listed.size with h' | h'
        · simp [h'] at hiun ⊢; exact hiun
        · simp [Array.getElem?_eq_none h']
      have hnone : NoneUp St ((listed.setIfInBounds i true).setIfInBounds j true) := fun s hs => by
        obtain ⟨f, hf, hsi⟩ := hw s hs
        rw [Array.setIfInBounds_comm _ _ (Ne.symm hji), getD_set_ne false (Ne.symm hsi)]
        cases hq : (listed.setIfInBounds j true).getD s false
        · rfl
        · have := waits_up hcl' hf hq
          rw [hi0] at this; cases this
      refine wpOp_mono (fun a' w' h3 => ?_) h2
      have hS' := h3.2.1 hnone
      refine ⟨fun _ => hS', ih (listed.setIfInBounds j true) a' w' hcl' hfree' (ready_mono hr (Ne.symm hji)) h3.1 hS' ?_⟩
      rw [Array.setIfInBounds_comm _ _ hji]
      exact h3.2.2
/-- The same, what is to be checked as Bools. -/
def closedB (md : Region.Mode) (ops : Array Oper) (listed : Array Bool) : Bool := (List.range ops.size).all fun j => !listed.getD j false || ((ops[j]?).map (·.after.all fun e => !Region.binds md e || listed.getD e.on false)).getD true
theorem closed_of {listed : Array Bool} (h : closedB md ops listed = true) : Closed md ops listed := by
  intro j oj hj hl e he hb
  have h1 := (List.all_eq_true.1 h) j (List.mem_range.2 (Array.getElem?_eq_some_iff.1 hj).1)
  rw [hj, hl] at h1
  simp only [Bool.not_true, Bool.false_or, Option.map_some, Option.getD_some] at h1
  have h2 := Array.all_eq_true_iff_forall_mem.1 h1 e he
  rw [hb] at h2
  simpa using h2
theorem wpAnyX_take {i : Nat} {oi : Oper} {v : Value} {fuel : Nat} {listed : Array Bool} {a : Act} {w : World} (hi : ops[i]? = some oi)
    (hk : (Region.noSelect ops && Region.free md ops listed i && (Region.ready md ops listed).contains i && closedB md ops listed && St.all fun s => waits md ops i ops.size s && !(s == i)) = true)
    (hQ : ∀ c a w, Q (.panic c) (a.put oi.dst v) w → Q (.panic c) a w) (hS : S w) (hy : YieldsIf P ops S oi v a)
    (h : wpAnyX P md ops Q S St fuel (listed.setIfInBounds i true) (a.put oi.dst v) w) : wpAnyX P md ops Q S St (fuel + 1) listed a w := by
  simp only [Bool.and_eq_true] at hk
  obtain ⟨⟨⟨⟨h1, h2⟩, h3⟩, h4⟩, h5⟩ := hk
  refine wpAnyX_first hi (Region.noSelect_spec h1) hQ (fun s hs => ?_) fuel listed a w (closed_of h4) (Region.free_spec hi h2) (by simpa using h3) hy hS h
  have := (List.all_eq_true.1 h5) s hs
  simp only [Bool.and_eq_true, Bool.not_eq_true', beq_eq_false_iff_ne] at this
  exact ⟨_, this.1, this.2⟩
def AllReadyX (P : Program) (md : Region.Mode) (ops : Array Oper) (Q : Exit → Act → World → Prop) (S : World → Prop) (St : List Nat) (fuel : Nat) (listed : Array Bool) (a : Act) (w : World) (rs : List Nat) : Prop :=
  ∀ i ∈ rs, wpOp P ops Q i (fun a' w' => (NoneUp St (listed.setIfInBounds i true) → S w') ∧ wpAnyX P md ops Q S St fuel (listed.setIfInBounds i true) a' w') a w
theorem AllReadyX.nil {fuel : Nat} {listed : Array Bool} {a : Act} {w : World} : AllReadyX P md ops Q S St fuel listed a w [] := fun _ h => by cases h
theorem AllReadyX.one {fuel : Nat} {listed : Array Bool} {a : Act} {w : World} {i : Nat} {o : Oper} (ho : ops[i]? = some o)
    (h : ∀ K' : Act → World → Prop, Shut (∀ a w, (NoneUp St (listed.setIfInBounds i true) → S w) → (wpAnyX P md ops Q S St fuel (listed.setIfInBounds i true) a w) → K' a w) → if Region.wanted o (yielded ops a.tmps) = true then Oper.wp P o a w K' Q else K' (a.put o.dst undef) w) : AllReadyX P md ops Q S St fuel listed a w [i] := fun j hj => by
  rcases List.mem_cons.1 hj with rfl | hj
  · exact wpOp_step ho (fun K' hK => h K' (fun a w hS hW => hK a w ⟨hS, hW⟩))
  · cases hj
theorem AllReadyX.cons {fuel : Nat} {listed : Array Bool} {a : Act} {w : World} {i : Nat} {rs : List Nat} (h : AllReadyX P md ops Q S St fuel listed a w [i]) (hs : AllReadyX P md ops Q S St fuel listed a w rs) : AllReadyX P md ops Q S St fuel listed a w (i :: rs) := fun j hj => by
  rcases List.mem_cons.1 hj with rfl | hj
  · exact h j (by simp)
  · exact hs j hj
theorem wpAnyX_ready {rs : List Nat} {fuel : Nat} {listed : Array Bool} {a : Act} {w : World} (hr : Region.ready md ops listed = rs) (hne : rs ≠ [])
    (h : AllReadyX P md ops Q S St fuel listed a w rs) : wpAnyX P md ops Q S St (fuel + 1) listed a w :=
  ⟨fun h0 => absurd (hr ▸ h0) hne, hr ▸ h⟩
theorem wpAnyX_done {listed : Array Bool} {a : Act} {w : World} (hr : Region.ready md ops listed = []) (h : Q .normal a w) :
    ∀ fuel, wpAnyX P md ops Q S St fuel listed a w
  | 0 => ⟨hr, h⟩
  | _ + 1 => ⟨fun _ => h, by rw [hr]; simp⟩
theorem wp_region_x {id : Nat} {a : Act} {w : World} (S : World → Prop) (St : List Nat) (hm : P.follows .mixedOrders = true) (hS : S w.drew)
    (h : S w.drew → wpAnyX P .any ops Q S St ops.size (Array.replicate ops.size false) a w.drew) : (Code.region id ops true).wp P Q a w :=
  wp_region_any hm (wpAny_of_x _ _ _ _ (h hS))
/-- Behind St the rest goes free. -/
theorem wpAnyX_free : ∀ {fuel : Nat} {listed : Array Bool} {a : Act} {w : World}, (St.any fun s => listed.getD s false) = true → wpAnyX P md ops Q (fun _ => True) [] fuel listed a w → wpAnyX P md ops Q S St fuel listed a w
  | 0, _, _, _, _, h => h
  | fuel + 1, listed, a, w, hs, h => ⟨h.1, fun i hi => wpOp_mono (fun a' w' h' => by
      have hs' : (St.any fun s => (listed.setIfInBounds i true).getD s false) = true := by
        obtain ⟨s, hm, he⟩ := List.any_eq_true.1 hs
        exact List.any_eq_true.2 ⟨s, hm, getD_set_true he⟩
      refine ⟨fun hn => ?_, wpAnyX_free hs' h'.2⟩
      obtain ⟨s, hm, he⟩ := List.any_eq_true.1 hs'
      rw [hn s hm] at he; cases he) (h.2 i hi)⟩
/-- Behind St nothing is asked of the world any more. -/
theorem noneUp_not {listed : Array Bool} {T : World → Prop} {w : World} (h : (St.any fun s => listed.getD s false) = true) : NoneUp St listed → T w := fun hn => by
  obtain ⟨s, hs, he⟩ := List.any_eq_true.1 h
  rw [hn s hs] at he; cases he
end

end Go.Proofs.YtceakcejchbbjaaGreat
