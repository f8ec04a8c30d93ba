/-
  The document's answer to space: cofferref8.
-/
import Derived.Test.YtlncfncolkgjfaaSpH
namespace Go.Proofs.Ytlncfncolkgjfaa
open Go.RowKit Go.MapKept Go.ChangeMaps

/-- A value of Space: sixteen numbers. -/
def spCells (sl : Value) (r : Nat → Nat) : Array Value := #[sl, .int .u32 (r 0 : Int), .int .u32 (r 1 : Int), .int .u32 (r 2 : Int), .int .u32 (r 3 : Int), .int .u32 (r 4 : Int), .int .u32 (r 5 : Int), .int .u32 (r 6 : Int), .int .u32 (r 7 : Int), .int .u32 (r 8 : Int), .int .u32 (r 9 : Int), .int .u32 (r 10 : Int), .int .u32 (r 11 : Int), .int .u32 (r 12 : Int), .int .u32 (r 13 : Int), .int .u32 (r 14 : Int), .int .u32 (r 15 : Int)]
def spZ (sl : Value) : Array Value := #[sl, .int .u32 0, .int .u32 0, .int .u32 0, .int .u32 0, .int .u32 0, .int .u32 0, .int .u32 0, .int .u32 0, .int .u32 0, .int .u32 0, .int .u32 0, .int .u32 0, .int .u32 0, .int .u32 0, .int .u32 0, .int .u32 0]
theorem spZ_eq (sl : Value) : spCells sl (fun _ => 0) = spZ sl := rfl
theorem spz_cells {w : World} {b : Nat} {sl : Value} {T : TypeId} (h : w.heap[b]? = some (.cells (spZ sl) T (0, 0))) : w.cell? ⟨b, 0, none⟩ = some sl ∧ w.cell? ⟨b, 1, none⟩ = some (.int .u32 0) ∧ w.cell? ⟨b, 2, none⟩ = some (.int .u32 0) ∧ w.cell? ⟨b, 3, none⟩ = some (.int .u32 0) ∧ w.cell? ⟨b, 4, none⟩ = some (.int .u32 0) ∧ w.cell? ⟨b, 5, none⟩ = some (.int .u32 0) ∧ w.cell? ⟨b, 6, none⟩ = some (.int .u32 0) ∧ w.cell? ⟨b, 7, none⟩ = some (.int .u32 0) ∧ w.cell? ⟨b, 8, none⟩ = some (.int .u32 0) ∧ w.cell? ⟨b, 9, none⟩ = some (.int .u32 0) ∧ w.cell? ⟨b, 10, none⟩ = some (.int .u32 0) ∧ w.cell? ⟨b, 11, none⟩ = some (.int .u32 0) ∧ w.cell? ⟨b, 12, none⟩ = some (.int .u32 0) ∧ w.cell? ⟨b, 13, none⟩ = some (.int .u32 0) ∧ w.cell? ⟨b, 14, none⟩ = some (.int .u32 0) ∧ w.cell? ⟨b, 15, none⟩ = some (.int .u32 0) ∧ w.cell? ⟨b, 16, none⟩ = some (.int .u32 0) := by
  refine ⟨?_, ?_, ?_, ?_, ?_, ?_, ?_, ?_, ?_, ?_, ?_, ?_, ?_, ?_, ?_, ?_, ?_⟩ <;> (rw [blk_cell h]; rfl)
theorem sp_cells {w : World} {b : Nat} {sl : Value} {r : Nat → Nat} {T : TypeId} (h : w.heap[b]? = some (.cells (spCells sl r) T (0, 0))) : w.cell? ⟨b, 0, none⟩ = some sl ∧ w.cell? ⟨b, 1, none⟩ = some (.int .u32 (r 0 : Int)) ∧ w.cell? ⟨b, 2, none⟩ = some (.int .u32 (r 1 : Int)) ∧ w.cell? ⟨b, 3, none⟩ = some (.int .u32 (r 2 : Int)) ∧ w.cell? ⟨b, 4, none⟩ = some (.int .u32 (r 3 : Int)) ∧ w.cell? ⟨b, 5, none⟩ = some (.int .u32 (r 4 : Int)) ∧ w.cell? ⟨b, 6, none⟩ = some (.int .u32 (r 5 : Int)) ∧ w.cell? ⟨b, 7, none⟩ = some (.int .u32 (r 6 : Int)) ∧ w.cell? ⟨b, 8, none⟩ = some (.int .u32 (r 7 : Int)) ∧ w.cell? ⟨b, 9, none⟩ = some (.int .u32 (r 8 : Int)) ∧ w.cell? ⟨b, 10, none⟩ = some (.int .u32 (r 9 : Int)) ∧ w.cell? ⟨b, 11, none⟩ = some (.int .u32 (r 10 : Int)) ∧ w.cell? ⟨b, 12, none⟩ = some (.int .u32 (r 11 : Int)) ∧ w.cell? ⟨b, 13, none⟩ = some (.int .u32 (r 12 : Int)) ∧ w.cell? ⟨b, 14, none⟩ = some (.int .u32 (r 13 : Int)) ∧ w.cell? ⟨b, 15, none⟩ = some (.int .u32 (r 14 : Int)) ∧ w.cell? ⟨b, 16, none⟩ = some (.int .u32 (r 15 : Int)) := by
  refine ⟨?_, ?_, ?_, ?_, ?_, ?_, ?_, ?_, ?_, ?_, ?_, ?_, ?_, ?_, ?_, ?_, ?_⟩ <;> (rw [blk_cell h]; rfl)
theorem upd_set {w w' : World} {S : List Nat} {b : Nat} (h : Upd S w w') (hb : b ∈ S) (i : Nat) (v : Value) : Upd S w (w'.setCell ⟨b, i, none⟩ v) := h.set _ (.inl hb)
/-- A row of bools of h cells, and room behind them. -/
def BlG (w : World) (b h : Nat) (f : Nat → Bool) : Prop := ∃ rest, w.heap[b]? = some (.cells (((List.range h).map fun i => Value.bool (f i)) ++ rest).toArray 4 (0, 0))
theorem BlF.g {w : World} {b h : Nat} {f : Nat → Bool} (hb : BlF w b h f) : BlG w b h f := ⟨[], by rw [List.append_nil]; exact hb⟩
theorem BlG.lt {w : World} {b h : Nat} {f : Nat → Bool} (hb : BlG w b h f) : b < w.heap.size := by obtain ⟨_, e⟩ := hb; exact blk_lt e
theorem BlG.cell {w : World} {b h : Nat} {f : Nat → Bool} (hb : BlG w b h f) {i : Nat} (hi : i < h) : w.cell? ⟨b, i, none⟩ = some (.bool (f i)) ∧ w.frozen? ⟨b, i, none⟩ = false := by
  obtain ⟨rest, hb⟩ := hb
  refine ⟨?_, blk_free hb i⟩
  rw [blk_cell hb, List.getElem?_toArray, List.getElem?_append_left (by simpa using hi)]
  simp [hi]
theorem BlG.set {w : World} {b h : Nat} {f : Nat → Bool} (hb : BlG w b h f) {i : Nat} (hi : i < h) (x : Bool) : BlG (w.setCell ⟨b, i, none⟩ (.bool x)) b h (fun j => if j = i then x else f j) := by
  obtain ⟨rest, hb⟩ := hb
  refine ⟨rest, ?_⟩
  rw [blk_set hb]
  congr 2
  rw [List.setIfInBounds_toArray, List.set_append_left _ _ (by simpa using hi)]
  congr 2
  apply List.ext_getElem?
  intro j
  rw [List.getElem?_set]
  by_cases e : i = j
  · subst e; simp [hi]
  · rw [if_neg e]
    simp only [List.getElem?_map]
    by_cases hj : j < h
    · simp [hj, Ne.symm e]
    · simp [hj]
theorem BlG.ext {w : World} {b h : Nat} {f f' : Nat → Bool} (hb : BlG w b h f) (he : ∀ i, i < h → f' i = f i) : BlG w b h f' := by
  obtain ⟨rest, hb⟩ := hb
  refine ⟨rest, ?_⟩
  rw [hb]
  congr 4
  apply List.map_congr_left
  intro i hi
  rw [he i (by simpa using hi)]
theorem BlG.upd {w w' : World} {b h : Nat} {f : Nat → Bool} (hb : BlG w b h f) {S : List Nat} (hu : Upd S w w') (hS : b ∉ S) : BlG w' b h f := by
  obtain ⟨rest, e⟩ := hb
  exact ⟨rest, (hu.block _ (blk_lt e) hS).trans e⟩

/-- The document's Space in memory: block b, its row in block sb. -/
structure RfAt (w : World) (b sb h : Nat) (f : Nat → Bool) (r : Nat → Nat) : Prop where
  st : ∃ c, h ≤ c ∧ w.heap[b]? = some (.cells (spCells (.slice (some ⟨sb, 0, none⟩) h c) r) 43 (0, 0))
  row : BlG w sb h f
theorem RfAt.below {w w' : World} {b sb h : Nat} {f : Nat → Bool} {r : Nat → Nat} (H : RfAt w b sb h f r) {S : List Nat} (hu : Upd S w w') (h1 : b ∉ S) (h2 : sb ∉ S) : RfAt w' b sb h f r := by
  obtain ⟨⟨c, hc, e⟩, hr⟩ := H
  exact ⟨⟨c, hc, (hu.block _ (blk_lt e) h1).trans e⟩, hr.upd hu h2⟩
theorem RfAt.ne {w : World} {b sb h : Nat} {f : Nat → Bool} {r : Nat → Nat} (H : RfAt w b sb h f r) : sb ≠ b := by
  rintro rfl
  obtain ⟨⟨c, hc, e⟩, ⟨rest, e2⟩⟩ := H
  rw [e] at e2; simp at e2
theorem RfAt.set {w : World} {b sb h : Nat} {f : Nat → Bool} {r : Nat → Nat} (H : RfAt w b sb h f r) {i : Nat} (hi : i < h) (x : Bool) : RfAt (w.setCell ⟨sb, i, none⟩ (.bool x)) b sb h (fun j => if j = i then x else f j) r := by
  have hne := H.ne
  obtain ⟨⟨c, hc, e⟩, hr⟩ := H
  exact ⟨⟨c, hc, ((((Upd.refl [sb] w).set _ (.inl (by simp)) : Upd [sb] w (w.setCell ⟨sb, i, none⟩ (.bool x))).block _ (blk_lt e) (by simpa using fun q => hne q.symm))).trans e⟩, hr.set hi x⟩
theorem RfAt.ext {w : World} {b sb h : Nat} {f f' : Nat → Bool} {r : Nat → Nat} (H : RfAt w b sb h f r) (he : ∀ i, i < h → f' i = f i) : RfAt w b sb h f' r := ⟨H.st, H.row.ext he⟩
end Go.Proofs.Ytlncfncolkgjfaa
