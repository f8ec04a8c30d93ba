/-
  The arguments of SpaceAll: a list of operations.
-/
import Derived.Test.YtlncfncolkgjfaaSpH
import Derived.Deep.Slices
import Derived.Deep.Strs
namespace Go.Proofs.Ytlncfncolkgjfaa
open Go.ChangeShapes Go.WideShapes Go.ChangeAt Go.RowKit Go.Deep

structure Op8 where
  K : Int
  At : Int
  N : Int
  V : Nat
  lt : V < 4294967296
/-- A list of operations in memory. -/
def OpIn (w : World) (v : Value) (l : List Op8) : Prop :=
  ∃ ao cap, v = .slice ao l.length cap ∧ l.length ≤ cap ∧ (0 < l.length → ∃ b off, ao = some ⟨b, off, none⟩ ∧ ∀ i (h : i < l.length), w.cell? ⟨b, off + i * 4, none⟩ = some (.int .i64 l[i].K) ∧ w.cell? ⟨b, off + i * 4 + 1, none⟩ = some (.int .i64 l[i].At) ∧ w.cell? ⟨b, off + i * 4 + 2, none⟩ = some (.int .i64 l[i].N) ∧ w.cell? ⟨b, off + i * 4 + 3, none⟩ = some (.int .u32 (l[i].V : Int)))
theorem OpIn.below {w w' : World} {v : Value} {l : List Op8} (h : OpIn w v l) (hu : Upd [] w w') : OpIn w' v l := by
  obtain ⟨ao, cap, e, hc, hh⟩ := h
  refine ⟨ao, cap, e, hc, fun hp => ?_⟩
  obtain ⟨b, off, hab, hcell⟩ := hh hp
  have key : ∀ {a : Addr} {u : Value}, w.cell? a = some u → w'.cell? a = some u := fun {a u} c => by rw [World.cell?_of_block (w := w) (hu.block _ (block_lt_of_cell c) (by simp))]; exact c
  refine ⟨b, off, hab, fun i hi => ?_⟩
  obtain ⟨c0, c1, c2, c3⟩ := hcell i hi
  exact ⟨key c0, key c1, key c2, key c3⟩

section
variable {H : Type} {enc : TypeId × Value → H} {W : World}
set_option maxRecDepth 100000 in
theorem rdT_ops {fuel : Nat} {v : Value} {x : DataW H × List MemPlace} (h : DataW.trod enc Try.prog W 0 (fun _ => true) true fuel 39 [v] = some x) : ∃ l : List Op8, OpIn W v l := by
  have hce : Try.prog.cellsOf 48 = 4 := by kernel_rfl
  have hci : Try.prog.cellsOf 3 = 1 := by kernel_rfl
  have hcu : Try.prog.cellsOf 40 = 1 := by kernel_rfl
  rcases open_slice Try.underlying39 h with ⟨e, _⟩ | ⟨a, len, cap, m, n, D, Pl, e, _, hl, _, hm, _, hx⟩
  · cases e; exact ⟨[], none, 0, rfl, Nat.le_refl _, fun q => by simp at q⟩
  · cases e
    simp only [if_true] at hm
    subst hm
    rw [hce] at hx
    by_cases hp : 0 < len
    · have cells : ∀ i, i < len → ∃ u0 u1 u2 u3, W.cell? (a.add (i * 4)) = some u0 ∧ W.cell? ((a.add (i * 4)).add 1) = some u1 ∧ W.cell? ((a.add (i * 4)).add 2) = some u2 ∧ W.cell? ((a.add (i * 4)).add 3) = some u3 ∧ DataW.trod enc Try.prog W 0 (fun _ => true) true n 48 [u0, u1, u2, u3] = some (D i, Pl i) := by
        intro i hi
        obtain ⟨cs, c1, c2⟩ := hx i (by omega)
        obtain ⟨_, hlen, hc⟩ := World.cells?_some c1
        match cs, hlen, hc, c2 with
        | [u0, u1, u2, u3], _, hc, c2 =>
          refine ⟨u0, u1, u2, u3, ?_, by simpa using hc 1 (by omega), by simpa using hc 2 (by omega), by simpa using hc 3 (by omega), c2⟩
          have := hc 0 (by omega)
          rw [show (a.add (i * 4)).add 0 = a.add (i * 4) from by unfold Addr.add; split <;> simp_all] at this
          simpa using this
      have hsp : a.spot = none := by
        obtain ⟨u0, _, _, _, c0, _⟩ := cells 0 hp
        have := World.cell?_spot c0
        cases a; simpa [Addr.add] using this
      obtain ⟨b, off, spot⟩ := a
      simp at hsp; subst hsp
      obtain ⟨l, hlen, hl2⟩ := list_of (p := fun i (c : Op8) => W.cell? ⟨b, off + i * 4, none⟩ = some (.int .i64 c.K) ∧ W.cell? ⟨b, off + i * 4 + 1, none⟩ = some (.int .i64 c.At) ∧ W.cell? ⟨b, off + i * 4 + 2, none⟩ = some (.int .i64 c.N) ∧ W.cell? ⟨b, off + i * 4 + 3, none⟩ = some (.int .u32 (c.V : Int))) len (fun i hi => by
        obtain ⟨u0, u1, u2, u3, c0, c1, c2, c3, ht⟩ := cells i hi
        obtain ⟨xs, n', _, _, _, hln, hf⟩ := DataW.trod_struct Try.underlying48 ht
        match xs, hln, hf with
        | [y0, y1, y2, y3], _, hf =>
          have t0' : DataW.trod enc Try.prog W 0 (fun _ => true) true n' 3 [u0] = some y0 := by simpa [hci] using hf 0 _ rfl
          have t1' : DataW.trod enc Try.prog W 0 (fun _ => true) true n' 3 [u1] = some y1 := by simpa [hci] using hf 1 _ rfl
          have t2' : DataW.trod enc Try.prog W 0 (fun _ => true) true n' 3 [u2] = some y2 := by simpa [hci] using hf 2 _ rfl
          have t3' : DataW.trod enc Try.prog W 0 (fun _ => true) true n' 40 [u3] = some y3 := by simpa [hcu] using hf 3 _ rfl
          obtain ⟨k0, e0, _, _⟩ := DataW.trod_int Try.underlying3 t0'
          obtain ⟨k1, e1, _, _⟩ := DataW.trod_int Try.underlying3 t1'
          obtain ⟨k2, e2, _, _⟩ := DataW.trod_int Try.underlying3 t2'
          obtain ⟨k3, e3, _, hw⟩ := DataW.trod_int Try.underlying40 t3'
          cases e0; cases e1; cases e2; cases e3
          rw [addr_add] at c0 c1 c2 c3
          rw [addr_add] at c1 c2 c3
          have h0 : (0 : Int) ≤ k3 ∧ k3 < 4294967296 := by
            have e0 : IntKind.u32.min = 0 := by decide
            have e1 : IntKind.u32.max = 4294967295 := by decide
            simp only [Lit.wf, decide_eq_true_eq, Bool.and_eq_true] at hw
            rw [e0, e1] at hw
            omega
          obtain ⟨V, rfl⟩ := Int.eq_ofNat_of_zero_le h0.1
          exact ⟨⟨k0, k1, k2, V, by omega⟩, c0, c1, c2, c3⟩)
      exact ⟨l, _, m, by rw [hlen], by omega, fun _ => ⟨b, off, rfl, hl2⟩⟩
    · obtain rfl : len = 0 := by omega
      exact ⟨[], some a, m, rfl, by simp, fun q => by simp at q⟩
set_option maxRecDepth 100000 in
theorem rd_ops {r : Reach} {b0 : Nat} {v : Value} {d : DataW H} {ps : List MemPlace} (hval : Value.okWide Try.prog W r b0 39 v) (hd : DataW.Trod enc Try.prog W 0 (fun _ => true) true 39 v d ps) : ∃ l : List Op8, OpIn W v l := by
  obtain ⟨fuel, h⟩ := slice_cells Try.underlying39 hval hd
  exact rdT_ops h
end

end Go.Proofs.Ytlncfncolkgjfaa
