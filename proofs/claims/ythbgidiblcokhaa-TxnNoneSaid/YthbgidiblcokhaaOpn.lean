/-
  What the arguments of the laws read as: bytes, numbers, bools, lists of puts.
-/
import Derived.Test.YthbgidiblcokhaaLwG
import Derived.Test.YthbgidiblcokhaaLift
import Derived.Deep.Slices
import Derived.Deep.Strs
namespace Go.Proofs.Ythbgidiblcokhaa
open Go.ChangeShapes Go.WideShapes Go.ChangeAt Go.RowKit Go.Deep

section
variable {H : Type} {enc : TypeId × Value → H} {W : World}

theorem list_of {α : Type} {p : Nat → α → Prop} : ∀ n, (∀ i, i < n → ∃ a, p i a) → ∃ l : List α, l.length = n ∧ ∀ i (h : i < l.length), p i l[i]
  | 0, _ => ⟨[], rfl, fun i h => by simp at h⟩
  | n + 1, h => by
    obtain ⟨l, hl, hp⟩ := list_of n (fun i hi => h i (by omega))
    obtain ⟨a, ha⟩ := h n (by omega)
    refine ⟨l ++ [a], by simp [hl], fun i hi => ?_⟩
    by_cases q : i < l.length
    · rw [List.getElem_append_left q]; exact hp i q
    · have : i = l.length := by simp at hi; omega
      subst this
      rw [List.getElem_append_right (Nat.le_refl _)]
      simp only [Nat.sub_self, List.getElem_cons_zero]
      rw [hl]; exact ha
theorem addr_none {w : World} {a : Addr} {v : Value} (h : w.cell? a = some v) : a = ⟨a.block, a.off, none⟩ := by
  have := World.cell?_spot h
  cases a; simp_all
theorem byte_of {n : Int} (h : (Lit.int .u8 n).wf = true) : ∃ c : UInt8, bv c = .int .u8 n := by
  simp [Lit.wf] at h
  have h0 : (0 : Int) ≤ n := h.1
  have h1 : n ≤ 255 := h.2
  refine ⟨UInt8.ofNat n.toNat, ?_⟩
  unfold bv
  congr 1
  have : (UInt8.ofNat n.toNat).toNat = n.toNat % 256 := by simp
  rw [this]; omega
/-- A slice of one-cell elements, cell by cell. -/
theorem one_cells {t e : TypeId} {fuel : Nat} {v : Value} {x : DataW H × List MemPlace} (ht : Try.prog.underlying t = some (.slice e)) (hc : Try.prog.cellsOf e = 1) (h : DataW.trod enc Try.prog W 0 (fun _ => true) true fuel t [v] = some x) :
    ∃ ao len cap, v = .slice ao len cap ∧ len ≤ cap ∧ (0 < len → ∃ b off, ao = some ⟨b, off, none⟩ ∧ ∀ i, i < len → ∃ u n y, W.cell? ⟨b, off + i, none⟩ = some u ∧ DataW.trod enc Try.prog W 0 (fun _ => true) true n e [u] = some y) := by
  rcases open_slice1 ht hc h with ⟨e, _⟩ | ⟨a, len, cap, m, n, V, D, Pl, e, _, hl, _, hm, _, hx⟩
  · cases e; exact ⟨none, 0, 0, rfl, Nat.le_refl _, fun q => by omega⟩
  · cases e
    simp only [if_true] at hm
    subst hm
    refine ⟨some a, len, m, rfl, hl, fun hp => ?_⟩
    have h0 := (hx 0 (by omega)).1
    have hsp : a.spot = none := by
      have := World.cell?_spot h0
      cases a; simpa [Addr.add] using this
    obtain ⟨b, off, spot⟩ := a
    simp at hsp; subst hsp
    refine ⟨b, off, rfl, fun i hi => ?_⟩
    obtain ⟨c1, c2⟩ := hx i (by omega)
    rw [addr_add] at c1
    exact ⟨V i, n, _, c1, c2⟩
theorem rdT_bytes {fuel : Nat} {v : Value} {x : DataW H × List MemPlace} (h : DataW.trod enc Try.prog W 0 (fun _ => true) true fuel 36 [v] = some x) : ∃ l, Rd W v l := by
  obtain ⟨ao, len, cap, rfl, hl, hh⟩ := one_cells Try.underlying36 (by kernel_rfl) h
  by_cases hp : 0 < len
  · obtain ⟨b, off, rfl, hc⟩ := hh hp
    obtain ⟨l, hlen, hl2⟩ := list_of (p := fun i c => W.cell? ⟨b, off + i, none⟩ = some (bv c)) len (fun i hi => by
      obtain ⟨u, n, y, c1, c2⟩ := hc i hi
      obtain ⟨k, e, _, hw⟩ := DataW.trod_int Try.underlying5 c2
      cases e
      obtain ⟨c, hc'⟩ := byte_of hw
      exact ⟨c, by rw [hc']; exact c1⟩)
    exact ⟨l, _, cap, by rw [hlen], by omega, fun _ => ⟨b, off, rfl, hl2⟩⟩
  · obtain rfl : len = 0 := by omega
    exact ⟨[], ao, cap, rfl, by simp, fun q => by simp at q⟩
theorem rdT_ints {fuel : Nat} {v : Value} {x : DataW H × List MemPlace} (h : DataW.trod enc Try.prog W 0 (fun _ => true) true fuel 22 [v] = some x) : ∃ l : List Int, RdL W [] v (l.map fun i => .int .i64 i) := by
  obtain ⟨ao, len, cap, rfl, hl, hh⟩ := one_cells Try.underlying22 (by kernel_rfl) h
  by_cases hp : 0 < len
  · obtain ⟨b, off, rfl, hc⟩ := hh hp
    obtain ⟨l, hlen, hl2⟩ := list_of (p := fun i (c : Int) => W.cell? ⟨b, off + i, none⟩ = some (.int .i64 c)) len (fun i hi => by
      obtain ⟨u, n, y, c1, c2⟩ := hc i hi
      obtain ⟨k, e, _, _⟩ := DataW.trod_int Try.underlying3 c2
      cases e
      exact ⟨k, c1⟩)
    exact ⟨l, _, cap, by rw [List.length_map, hlen], by rw [List.length_map]; omega, fun _ => ⟨b, off, by simp, rfl, fun i hi => by rw [List.getElem_map]; exact hl2 i (by simpa using hi)⟩⟩
  · obtain rfl : len = 0 := by omega
    exact ⟨[], ao, cap, rfl, by simp, fun q => by simp at q⟩
theorem rdT_bools {fuel : Nat} {v : Value} {x : DataW H × List MemPlace} (h : DataW.trod enc Try.prog W 0 (fun _ => true) true fuel 23 [v] = some x) : ∃ l : List Bool, RdL W [] v (l.map Value.bool) := by
  obtain ⟨ao, len, cap, rfl, hl, hh⟩ := one_cells Try.underlying23 (by kernel_rfl) h
  by_cases hp : 0 < len
  · obtain ⟨b, off, rfl, hc⟩ := hh hp
    obtain ⟨l, hlen, hl2⟩ := list_of (p := fun i (c : Bool) => W.cell? ⟨b, off + i, none⟩ = some (.bool c)) len (fun i hi => by
      obtain ⟨u, n, y, c1, c2⟩ := hc i hi
      obtain ⟨k, e, _⟩ := DataW.trod_bool Try.underlying4 c2
      cases e
      exact ⟨k, c1⟩)
    exact ⟨l, _, cap, by rw [List.length_map, hlen], by rw [List.length_map]; omega, fun _ => ⟨b, off, by simp, rfl, fun i hi => by rw [List.getElem_map]; exact hl2 i (by simpa using hi)⟩⟩
  · obtain rfl : len = 0 := by omega
    exact ⟨[], ao, cap, rfl, by simp, fun q => by simp at q⟩

set_option maxRecDepth 100000 in
/-- A list of puts. -/
theorem rdT_puts {fuel : Nat} {v : Value} {x : DataW H × List MemPlace} (h : DataW.trod enc Try.prog W 0 (fun _ => true) true fuel 58 [v] = some x) : ∃ l : List Pz, PzIn W v l := by
  have hce : Try.prog.cellsOf 70 = 3 := by kernel_rfl
  rcases open_slice Try.underlying58 h with ⟨e, _⟩ | ⟨a, len, cap, m, n, D, Pl, e, _, hl, _, hm, _, hx⟩
  · cases e; exact ⟨[], none, 0, rfl, Nat.le_refl _, fun q => by simp at q⟩
  · cases e
    simp only [if_true] at hm
    subst hm
    rw [hce] at hx
    by_cases hp : 0 < len
    · have cells : ∀ i, i < len → ∃ u0 u1 u2, W.cell? (a.add (i * 3)) = some u0 ∧ W.cell? ((a.add (i * 3)).add 1) = some u1 ∧ W.cell? ((a.add (i * 3)).add 2) = some u2 ∧ DataW.trod enc Try.prog W 0 (fun _ => true) true n 70 [u0, u1, u2] = some (D i, Pl i) := by
        intro i hi
        obtain ⟨cs, c1, c2⟩ := hx i (by omega)
        obtain ⟨_, hlen, hc⟩ := World.cells?_some c1
        match cs, hlen, hc, c2 with
        | [u0, u1, u2], _, hc, c2 =>
          refine ⟨u0, u1, u2, ?_, by simpa using hc 1 (by omega), by simpa using hc 2 (by omega), c2⟩
          have := hc 0 (by omega)
          rw [show (a.add (i * 3)).add 0 = a.add (i * 3) from by unfold Addr.add; split <;> simp_all] at this
          simpa using this
      have hsp : a.spot = none := by
        obtain ⟨u0, _, _, c0, _⟩ := cells 0 hp
        have := World.cell?_spot c0
        cases a; simpa [Addr.add] using this
      obtain ⟨b, off, spot⟩ := a
      simp at hsp; subst hsp
      obtain ⟨l, hlen, hl2⟩ := list_of (p := fun i (c : Pz) => ∃ vb, W.cell? ⟨b, off + i * 3, none⟩ = some (.int .i64 c.I) ∧ W.cell? ⟨b, off + i * 3 + 1, none⟩ = some vb ∧ W.cell? ⟨b, off + i * 3 + 2, none⟩ = some (.bool c.Odd) ∧ Rd W vb c.B) len (fun i hi => by
        obtain ⟨u0, u1, u2, c0, c1, c2, ht⟩ := cells i hi
        obtain ⟨y0, y1, y2, n', _, _, t0, t1, t2⟩ := trod_struct3 Try.underlying70 ht
        have t0' : DataW.trod enc Try.prog W 0 (fun _ => true) true n' 3 [u0] = some y0 := t0
        have t1' : DataW.trod enc Try.prog W 0 (fun _ => true) true n' 36 [u1] = some y1 := t1
        have t2' : DataW.trod enc Try.prog W 0 (fun _ => true) true n' 4 [u2] = some y2 := t2
        obtain ⟨I, e0, _, _⟩ := DataW.trod_int Try.underlying3 t0'
        cases e0
        obtain ⟨B, hB⟩ := rdT_bytes t1'
        obtain ⟨o, e2, _⟩ := DataW.trod_bool Try.underlying4 t2'
        cases e2
        rw [addr_add] at c0 c1 c2
        rw [addr_add] at c1 c2
        exact ⟨⟨I, B, o⟩, u1, c0, c1, c2, hB⟩)
      exact ⟨l, _, m, by rw [hlen], by omega, fun _ => ⟨b, off, rfl, hl2⟩⟩
    · obtain rfl : len = 0 := by omega
      exact ⟨[], some a, m, rfl, by simp, fun q => by simp at q⟩
/-- A list of lists of puts. -/
def PzzIn (w : World) (v : Value) (ls : List (List Pz)) : Prop :=
  ∃ ao cap, v = .slice ao ls.length cap ∧ ls.length ≤ cap ∧ (0 < ls.length → ∃ b off, ao = some ⟨b, off, none⟩ ∧ ∀ i (h : i < ls.length), ∃ vb, w.cell? ⟨b, off + i, none⟩ = some vb ∧ PzIn w vb ls[i])
theorem PzzIn.below {w w' : World} {v : Value} {l : List (List Pz)} (h : PzzIn w v l) (hu : Upd [] w w') : PzzIn w' v l := by
  obtain ⟨ao, cap, e, hc, hh⟩ := h
  refine ⟨ao, cap, e, hc, fun hp => ?_⟩
  obtain ⟨b, off, hab, hcell⟩ := hh hp
  refine ⟨b, off, hab, fun i hi => ?_⟩
  obtain ⟨vb, c0, hr⟩ := hcell i hi
  exact ⟨vb, by rw [World.cell?_of_block (w := w) (hu.block _ (block_lt_of_cell c0) (by simp))]; exact c0, hr.below hu⟩
theorem rdT_putss {fuel : Nat} {v : Value} {x : DataW H × List MemPlace} (h : DataW.trod enc Try.prog W 0 (fun _ => true) true fuel 56 [v] = some x) : ∃ l : List (List Pz), PzzIn W v l := by
  obtain ⟨ao, len, cap, rfl, hl, hh⟩ := one_cells Try.underlying56 (by kernel_rfl) h
  by_cases hp : 0 < len
  · obtain ⟨b, off, rfl, hc⟩ := hh hp
    obtain ⟨l, hlen, hl2⟩ := list_of (p := fun i (c : List Pz) => ∃ vb, W.cell? ⟨b, off + i, none⟩ = some vb ∧ PzIn W vb c) len (fun i hi => by
      obtain ⟨u, n, y, c1, c2⟩ := hc i hi
      obtain ⟨l, hl⟩ := rdT_puts c2
      exact ⟨l, u, c1, hl⟩)
    exact ⟨l, _, cap, by rw [hlen], by omega, fun _ => ⟨b, off, rfl, hl2⟩⟩
  · obtain rfl : len = 0 := by omega
    exact ⟨[], ao, cap, rfl, by simp, fun q => by simp at q⟩

set_option maxRecDepth 100000 in
theorem slice_cells {r : Reach} {b0 : Nat} {t e : TypeId} {v : Value} {d : DataW H} {ps : List MemPlace} (ht : Try.prog.underlying t = some (.slice e)) (hval : Value.okWide Try.prog W r b0 t v) (hd : DataW.Trod enc Try.prog W 0 (fun _ => true) true t v d ps) : ∃ fuel, DataW.trod enc Try.prog W 0 (fun _ => true) true fuel t [v] = some (d, ps) := by
  obtain ⟨a, len, cap, rfl⟩ := okWide_slice ht hval
  obtain ⟨fuel, hf⟩ := hd
  exact ⟨fuel, hf⟩
set_option maxRecDepth 100000 in
theorem rd_bytes {r : Reach} {b0 : Nat} {v : Value} {d : DataW H} {ps : List MemPlace} (hval : Value.okWide Try.prog W r b0 36 v) (hd : DataW.Trod enc Try.prog W 0 (fun _ => true) true 36 v d ps) : ∃ l, Rd W v l := by
  obtain ⟨fuel, h⟩ := slice_cells Try.underlying36 hval hd
  exact rdT_bytes h
set_option maxRecDepth 100000 in
theorem rd_ints {r : Reach} {b0 : Nat} {v : Value} {d : DataW H} {ps : List MemPlace} (hval : Value.okWide Try.prog W r b0 22 v) (hd : DataW.Trod enc Try.prog W 0 (fun _ => true) true 22 v d ps) : ∃ l : List Int, RdL W [] v (l.map fun i => .int .i64 i) := by
  obtain ⟨fuel, h⟩ := slice_cells Try.underlying22 hval hd
  exact rdT_ints h
set_option maxRecDepth 100000 in
theorem rd_bools {r : Reach} {b0 : Nat} {v : Value} {d : DataW H} {ps : List MemPlace} (hval : Value.okWide Try.prog W r b0 23 v) (hd : DataW.Trod enc Try.prog W 0 (fun _ => true) true 23 v d ps) : ∃ l : List Bool, RdL W [] v (l.map Value.bool) := by
  obtain ⟨fuel, h⟩ := slice_cells Try.underlying23 hval hd
  exact rdT_bools h
set_option maxRecDepth 100000 in
theorem rd_putss {r : Reach} {b0 : Nat} {v : Value} {d : DataW H} {ps : List MemPlace} (hval : Value.okWide Try.prog W r b0 56 v) (hd : DataW.Trod enc Try.prog W 0 (fun _ => true) true 56 v d ps) : ∃ l : List (List Pz), PzzIn W v l := by
  obtain ⟨fuel, h⟩ := slice_cells Try.underlying56 hval hd
  exact rdT_putss h
end

end Go.Proofs.Ythbgidiblcokhaa
