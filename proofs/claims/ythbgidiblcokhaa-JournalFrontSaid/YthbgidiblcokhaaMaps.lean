/-
  A map keyed by int, as a function from keys to values: what a look-up, a store, clear, len and a range do to it.
-/
import Derived.Test.YthbgidiblcokhaaBase
import Derived.Maps.RangeRun
import Derived.Maps.Own
namespace Go.Proofs.Ythbgidiblcokhaa
open Go.RowKit Go.MapKept Go.ChangeMaps

/-- Block mb is a map from int to values that reads as f. -/
def MapI (w : World) (mb : Nat) (f : Int → Option Value) : Prop :=
  ∃ es clock, w.heap[mb]? = some (.map es clock) ∧ Stamped es clock ∧ (∀ x ∈ es.toList, ∃ k : Int, x.key = .int .i64 k) ∧
    ∀ k v, f k = some v ↔ ∃ x ∈ es.toList, x.key = .int .i64 k ∧ x.val = v

theorem setBlock_same {w : World} {r : Nat} {o o' : Obj} (h : w.heap[r]? = some o) : (setBlock w r o').heap[r]? = some o' := (heap_set h).1
theorem setBlock_ne {w : World} {r k : Nat} (o : Obj) (h : k ≠ r) : (setBlock w r o).heap[k]? = w.heap[k]? := setObjAt_ne o h
@[simp] theorem setBlock_size (w : World) (r : Nat) (o : Obj) : (setBlock w r o).heap.size = w.heap.size := setObjAt_size w r o
theorem Upd.setBlock {S : List Nat} {a w : World} (h : Upd S a w) {r : Nat} (o : Obj) (hb : r ∈ S ∨ a.heap.size ≤ r) : Upd S a (setBlock w r o) := Upd.setObj h o hb

theorem MapI.world {w w' : World} {mb : Nat} {f : Int → Option Value} (h : MapI w mb f) (he : w'.heap[mb]? = w.heap[mb]?) : MapI w' mb f := by
  obtain ⟨es, clock, hb, r⟩ := h
  exact ⟨es, clock, by rw [he]; exact hb, r⟩
theorem MapI.lt {w : World} {mb : Nat} {f : Int → Option Value} (h : MapI w mb f) : mb < w.heap.size := by
  obtain ⟨es, clock, hb, _⟩ := h
  exact blk_lt hb
theorem MapI.made {w : World} {mb : Nat} {c : Nat} (h : w.heap[mb]? = some (.map #[] c)) : MapI w mb (fun _ => none) :=
  ⟨#[], c, h, stamped_empty _, by simp, by simp⟩
theorem MapI.not_cells {w : World} {mb : Nat} {f : Int → Option Value} (h : MapI w mb f) {k : Nat} {c : Array Value} {e : TypeId} {fr : Nat × Nat} (hk : w.heap[k]? = some (.cells c e fr)) : k ≠ mb := by
  rintro rfl
  obtain ⟨es, clock, hb, _⟩ := h
  rw [hb] at hk; simp at hk

section
variable {P : Program} {w : World} {mb : Nat} {f : Int → Option Value} {T K E : TypeId}

theorem MapI.find {es : Array MapEntry} (hk : ∀ x ∈ es.toList, ∃ k : Int, x.key = .int .i64 k)
    (hf : ∀ k v, f k = some v ↔ ∃ x ∈ es.toList, x.key = .int .i64 k ∧ x.val = v) (k : Int) :
    (Instr.findNow (.int .i64) (.int .i64 k) es.toList 0 = some none ∧ f k = none ∧ ∀ x ∈ es.toList, x.key ≠ .int .i64 k) ∨
    ∃ j e, Instr.findNow (.int .i64) (.int .i64 k) es.toList 0 = some (some (j, e.val)) ∧ es.toList[j]? = some e ∧ e.key = .int .i64 k ∧ f k = some e.val := by
  have hik : ∀ x ∈ es.toList, IsKey (.int .i64) x.key := fun x hx => by obtain ⟨q, e⟩ := hk x hx; rw [e]; simp [IsKey]
  rcases findNow_spec (d := .int .i64) (k := .int .i64 k) (by simp [IsKey]) es.toList 0 hik with ⟨h1, h2⟩ | ⟨j, e, h1, h2, h3⟩
  · refine .inl ⟨h1, ?_, h2⟩
    cases hq : f k with
    | none => rfl
    | some v => obtain ⟨x, hx, e1, _⟩ := (hf k v).1 hq; exact absurd e1 (h2 x hx)
  · rw [Nat.zero_add] at h1
    exact .inr ⟨j, e, h1, h2, h3, (hf k e.val).2 ⟨e, List.mem_of_getElem? h2, h3, rfl⟩⟩

theorem MapI.lookup (h : MapI w mb f) (hT : P.underlying T = some (.map K E)) (hK : P.underlying K = some (.int .i64)) {z : Value} (hz : (zeroValue E).run P w = .ok z w) (k : Int) (c : Bool) :
    (Instr.lookup T (.map (some mb)) (.int .i64 k) c).run P w = .ok (if c then .tuple #[(f k).getD z, .bool (f k).isSome] else (f k).getD z) w := by
  obtain ⟨es, clock, hb, hst, hk, hf⟩ := h
  have hck : ∀ e, (Instr.checkKey e 10000 K (.int .i64 k)).run P w = .ok () w := fun e => run_checkKey hK (by simp [IsKey]) e 9999
  rcases MapI.find hk hf k with ⟨h1, h2, _⟩ | ⟨j, e, h1, _, _, h2⟩
  · cases c <;> simp [Instr.lookup, run_underlying hT, MapKept.run_getObj_map hb, hck, run_findKey hK h1, Result.andThen, hz, h2]
  · cases c <;> simp [Instr.lookup, run_underlying hT, MapKept.run_getObj_map hb, hck, run_findKey hK h1, Result.andThen, h2]

theorem MapI.update (h : MapI w mb f) (hT : P.underlying T = some (.map K E)) (hK : P.underlying K = some (.int .i64)) (k : Int) (v : Value) :
    ∃ o, (Instr.mapUpdate T (.map (some mb)) (.int .i64 k) v).run P w = .ok () (setBlock w mb o) ∧ MapI (setBlock w mb o) mb (fun j => if j = k then some v else f j) := by
  obtain ⟨es, clock, hb, hst, hk, hf⟩ := h
  have hck : ∀ e, (Instr.checkKey e 10000 K (.int .i64 k)).run P w = .ok () w := fun e => run_checkKey hK (by simp [IsKey]) e 9999
  rcases MapI.find hk hf k with ⟨h1, _, h3⟩ | ⟨j, e, h1, h2, h3, _⟩
  · refine ⟨.map (es.push { key := .int .i64 k, val := v, born := clock }) (clock + 1), ?_, _, _, setBlock_same hb, stamped_push hst h3, ?_, ?_⟩
    · simp [Instr.mapUpdate, run_underlying hT, MapKept.run_getObj_map hb, hck, run_findKey hK h1, Result.andThen, run_setObj_map _ hb]; rfl
    · intro x hx
      simp only [Array.toList_push, List.mem_append, List.mem_singleton] at hx
      rcases hx with hx | rfl
      · exact hk x hx
      · exact ⟨k, rfl⟩
    · intro q u
      simp only [Array.toList_push, List.mem_append, List.mem_singleton]
      by_cases hq : q = k
      · subst hq
        rw [if_pos rfl]
        constructor
        · intro e; cases e; exact ⟨_, .inr rfl, rfl, rfl⟩
        · rintro ⟨x, hx | rfl, e1, e2⟩
          · exact absurd e1 (h3 x hx)
          · rw [← e2]
      · rw [if_neg hq, hf]
        constructor
        · rintro ⟨x, hx, e⟩; exact ⟨x, .inl hx, e⟩
        · rintro ⟨x, hx | rfl, e1, e2⟩
          · exact ⟨x, hx, e1, e2⟩
          · simp at e1; exact absurd e1.symm hq
  · have hkey : (((es[j]?).map (·.key)).getD (.int .i64 k)) = .int .i64 k := by
      rw [Array.getElem?_toList] at h2; simp [h2, h3]
    have hks : (Instr.keyThatStays (.int .i64 k) (.int .i64 k)).run P w = .ok (.int .i64 k) w := by
      simp [Instr.keyThatStays, Instr.sameBits]
    have h2' : es[j]? = some e := by rw [Array.getElem?_toList] at h2; exact h2
    have hmem : e ∈ es.toList := List.mem_of_getElem? h2
    have hjlt : j < es.toList.length := (List.getElem?_eq_some_iff.1 h2).1
    refine ⟨.map (es.modify j fun e => { e with key := .int .i64 k, val := v }) clock, ?_, _, _, setBlock_same hb, ?_, ?_, ?_⟩
    · simp [Instr.mapUpdate, run_underlying hT, MapKept.run_getObj_map hb, hck, run_findKey hK h1, Result.andThen, run_setObj_map _ hb, hkey, hks]; rfl
    · exact stamped_modify hst j _ (fun _ _ => rfl) (fun x _ hx => by rw [h2'] at hx; cases hx; exact h3.symm)
    · intro x hx
      rw [Array.mem_toList_iff, Array.mem_iff_getElem?] at hx
      obtain ⟨i, hi⟩ := hx
      rw [Array.getElem?_modify] at hi
      split at hi
      · simp only [Option.map_eq_some_iff] at hi; obtain ⟨y, _, rfl⟩ := hi; exact ⟨k, rfl⟩
      · exact hk x (by rw [Array.mem_toList_iff]; exact Array.mem_of_getElem? hi)
    · intro q u
      have hnd : (es.toList.map (·.key)).Nodup := hst.2.2
      have huniq : ∀ i x, es[i]? = some x → x.key = .int .i64 k → i = j := by
        intro i x hi hx
        have g1 : (es.toList.map (·.key))[i]? = some (.int .i64 k) := by simp [hi, hx]
        have g2 : (es.toList.map (·.key))[j]? = some (.int .i64 k) := by simp [h2', h3]
        have l1 := (List.getElem?_eq_some_iff.1 g1).1
        exact (List.getElem?_inj l1 hnd).1 (g1.trans g2.symm)
      show (if q = k then some v else f q) = some u ↔ _
      by_cases hq : q = k
      · subst hq
        rw [if_pos rfl]
        constructor
        · intro e1
          obtain rfl : v = u := by simpa using e1
          refine ⟨{ e with key := .int .i64 q, val := v }, ?_, rfl, rfl⟩
          rw [Array.mem_toList_iff, Array.mem_iff_getElem?]
          exact ⟨j, by rw [Array.getElem?_modify, if_pos rfl, h2']; rfl⟩
        · rintro ⟨x, hx, e1, e2⟩
          rw [Array.mem_toList_iff, Array.mem_iff_getElem?] at hx
          obtain ⟨i, hi⟩ := hx
          rw [Array.getElem?_modify] at hi
          split at hi
          · simp only [Option.map_eq_some_iff] at hi; obtain ⟨y, _, rfl⟩ := hi; simp at e2; rw [e2]
          · rename_i hne; exact absurd (huniq i x hi e1).symm hne
      · rw [if_neg hq, hf]
        constructor
        · rintro ⟨x, hx, e1, e2⟩
          refine ⟨x, ?_, e1, e2⟩
          rw [Array.mem_toList_iff, Array.mem_iff_getElem?] at hx ⊢
          obtain ⟨i, hi⟩ := hx
          refine ⟨i, ?_⟩
          rw [Array.getElem?_modify, if_neg]
          · exact hi
          · rintro rfl
            rw [h2'] at hi; cases hi
            rw [h3] at e1; simp at e1; exact hq e1.symm
        · rintro ⟨x, hx, e1, e2⟩
          rw [Array.mem_toList_iff, Array.mem_iff_getElem?] at hx
          obtain ⟨i, hi⟩ := hx
          rw [Array.getElem?_modify] at hi
          split at hi
          · simp only [Option.map_eq_some_iff] at hi; obtain ⟨y, _, rfl⟩ := hi; simp at e1; exact absurd e1.symm hq
          · exact ⟨x, by rw [Array.mem_toList_iff]; exact Array.mem_of_getElem? hi, e1, e2⟩

/-- clear(m) -/
theorem MapI.clear (h : MapI w mb f) (hT : P.underlying T = some (.map K E)) (ty : TypeId) :
    ∃ o, (Builtin.clear_ #[T] ty #[.map (some mb)]).run P w = .ok (.tuple #[]) (setBlock w mb o) ∧ MapI (setBlock w mb o) mb (fun _ => none) := by
  obtain ⟨es, clock, hb, hst, hk, hf⟩ := h
  refine ⟨.map #[] clock, ?_, MapI.made (setBlock_same hb)⟩
  simp [Builtin.clear_, run_underlying hT, MapKept.run_getObj_map hb, Result.andThen, run_setObj_map _ hb]; rfl

/-- The keys that are there. -/
theorem MapI.keys (h : MapI w mb f) (hT : P.underlying T = some (.map K E)) (ty : TypeId) :
    ∃ ks : List Int, ks.Nodup ∧ (∀ k, k ∈ ks ↔ (f k).isSome = true) ∧ (Builtin.len_ #[T] ty #[.map (some mb)]).run P w = .ok (goInt ks.length) w := by
  obtain ⟨es, clock, hb, hst, hk, hf⟩ := h
  refine ⟨es.toList.map (fun x => match x.key with | .int _ k => k | _ => 0), ?_, ?_, ?_⟩
  · have hnd : (es.toList.map (·.key)).Nodup := hst.2.2
    rw [List.Nodup, List.pairwise_map] at hnd ⊢
    refine hnd.imp_of_mem fun {a b} ha hb' hne e => hne ?_
    obtain ⟨q, e1⟩ := hk a ha
    obtain ⟨r, e2⟩ := hk b hb'
    rw [e1, e2] at e ⊢
    simp at e; rw [e]
  · intro k
    rw [Option.isSome_iff_exists]
    constructor
    · intro hm
      obtain ⟨x, hx, e⟩ := List.mem_map.1 hm
      obtain ⟨q, e1⟩ := hk x hx
      rw [e1] at e; simp at e; subst e
      exact ⟨x.val, (hf q x.val).2 ⟨x, hx, e1, rfl⟩⟩
    · rintro ⟨v, hv⟩
      obtain ⟨x, hx, e1, _⟩ := (hf k v).1 hv
      exact List.mem_map.2 ⟨x, hx, by rw [e1]⟩
  · simp [Builtin.len_, run_underlying hT, MapKept.run_getObj_map hb, Result.andThen]

end

end Go.Proofs.Ythbgidiblcokhaa
