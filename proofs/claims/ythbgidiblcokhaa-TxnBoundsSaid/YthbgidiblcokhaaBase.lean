/-
  Frames of blocks, byte rows and small facts on worlds that all later texts of this seat use.
-/
import Derived.Test.YthbgidiblcokhaaRows
import Derived.WalkKit
import Derived.WalkSpells
import Derived.WalkLawsBesides
import Derived.Lib.Hide
import Derived.Laws.CopyOwn
namespace Go.Proofs.Ythbgidiblcokhaa
open Go.RowKit

/-! ## blocks and cells -/

theorem blk_cell {w : World} {b : Nat} {c : Array Value} {e : TypeId} {f : Nat × Nat} (h : w.heap[b]? = some (.cells c e f)) (o : Nat) : w.cell? ⟨b, o, none⟩ = c[o]? := by
  simp [World.cell?, h]
theorem blk_free {w : World} {b : Nat} {c : Array Value} {e : TypeId} (h : w.heap[b]? = some (.cells c e (0, 0))) (o : Nat) : w.frozen? ⟨b, o, none⟩ = false := by
  simp [World.frozen?, h]
theorem blk_lt {w : World} {b : Nat} {o : Obj} (h : w.heap[b]? = some o) : b < w.heap.size := by
  exact (Array.getElem?_eq_some_iff.1 h).1
theorem blk_set {w : World} {b : Nat} {c : Array Value} {e : TypeId} {f : Nat × Nat} (h : w.heap[b]? = some (.cells c e f)) (o : Nat) (v : Value) :
    (w.setCell ⟨b, o, none⟩ v).heap[b]? = some (.cells (c.setIfInBounds o v) e f) := by
  simp [World.setCell, Array.getElem?_modify, h]
theorem blk_set_ne {w : World} {b k : Nat} (o : Nat) (v : Value) (h : k ≠ b) : (w.setCell ⟨b, o, none⟩ v).heap[k]? = w.heap[k]? := heap_setCell_other _ _ _ _ h
theorem blk_alloc_ne {w : World} {o : Obj} {k : Nat} (h : k < w.heap.size) : (w.alloc o).heap[k]? = w.heap[k]? := Below.heap_alloc _ _ _ h
theorem blk_alloc {w : World} (o : Obj) : (w.alloc o).heap[w.heap.size]? = some o := heap_alloc_new _ _
theorem blk_drew {w : World} {k : Nat} : w.drew.heap[k]? = w.heap[k]? := rfl

/-- Only the blocks of S, and new ones, have turned. -/
structure Upd (S : List Nat) (w w' : World) : Prop where
  os : w'.os = w.os
  tape : w'.tape = w.tape
  output : w'.output = w.output
  size : w.heap.size ≤ w'.heap.size
  block : ∀ k, k < w.heap.size → k ∉ S → w'.heap[k]? = w.heap[k]?

theorem Upd.refl (S : List Nat) (w : World) : Upd S w w := ⟨rfl, rfl, rfl, Nat.le_refl _, fun _ _ _ => rfl⟩
theorem Upd.trans {S : List Nat} {a b c : World} (h : Upd S a b) (k : Upd S b c) : Upd S a c :=
  ⟨k.os.trans h.os, k.tape.trans h.tape, k.output.trans h.output, Nat.le_trans h.size k.size,
   fun i hi hs => (k.block i (Nat.lt_of_lt_of_le hi h.size) hs).trans (h.block i hi hs)⟩
theorem Upd.mono {S T : List Nat} {a b : World} (h : Upd S a b) (hs : ∀ k, k ∈ S → k ∈ T) : Upd T a b :=
  ⟨h.os, h.tape, h.output, h.size, fun i hi ht => h.block i hi fun q => ht (hs _ q)⟩
/-- Blocks that are new since a need not be named. -/
theorem Upd.late {S T : List Nat} {a b c : World} (h : Upd S a b) (k : Upd T b c) (hT : ∀ i, i ∈ T → i ∈ S ∨ a.heap.size ≤ i) : Upd S a c :=
  ⟨k.os.trans h.os, k.tape.trans h.tape, k.output.trans h.output, Nat.le_trans h.size k.size,
   fun i hi hs => (k.block i (Nat.lt_of_lt_of_le hi h.size) (fun q => by rcases hT i q with r | r; exact hs r; omega)).trans (h.block i hi hs)⟩
theorem Upd.alloc {S : List Nat} {a w : World} (h : Upd S a w) (o : Obj) : Upd S a (w.alloc o) :=
  h.trans ⟨rfl, rfl, rfl, by simp, fun k hk _ => blk_alloc_ne hk⟩
theorem Upd.drew {S : List Nat} {a w : World} (h : Upd S a w) : Upd S a w.drew := ⟨h.os, h.tape, h.output, h.size, h.block⟩
theorem Upd.drewN {S : List Nat} {a w : World} (h : Upd S a w) (n : Nat) : Upd S a (w.drewN n) := ⟨h.os, h.tape, h.output, h.size, h.block⟩
theorem Upd.set {S : List Nat} {a w : World} (h : Upd S a w) {b o : Nat} (v : Value) (hb : b ∈ S ∨ a.heap.size ≤ b) : Upd S a (w.setCell ⟨b, o, none⟩ v) :=
  ⟨h.os, h.tape, h.output, by simpa using h.size, fun k hk hs => by
    rw [blk_set_ne _ _ (by rintro rfl; rcases hb with q | q; exact hs q; omega)]; exact h.block k hk hs⟩
theorem Upd.below {S : List Nat} {w w' : World} (h : Below w.heap.size w w') : Upd S w w' := ⟨h.os, h.tape, h.output, h.size, fun k hk _ => h.block k hk⟩
theorem Upd.toBelow {w w' : World} (h : Upd [] w w') : Below w.heap.size w w' := ⟨h.os, h.tape, h.output, h.size, fun k hk => h.block k hk (by simp)⟩
theorem Upd.grown {S : List Nat} {a w w' : World} {row : Option Nat} (h : Upd S a w) (hg : w.grownBy w' row) (hr : ∀ k, row = some k → k ∈ S ∨ a.heap.size ≤ k) : Upd S a w' :=
  ⟨hg.os.trans h.os, hg.tape.trans h.tape, hg.output.trans h.output, Nat.le_trans h.size hg.size, fun k hk hs =>
    (hg.block k (Nat.lt_of_lt_of_le hk h.size) (fun e => by rcases hr k e.symm with q | q; exact hs q; omega)).trans (h.block k hk hs)⟩

/-- The world with block r laid anew (a map, an iterator). -/
def setObjAt (w : World) (r : Nat) (o : Obj) : World := { w with heap := w.heap.setIfInBounds r o }
@[simp] theorem setObjAt_size (w : World) (r : Nat) (o : Obj) : (setObjAt w r o).heap.size = w.heap.size := by simp [setObjAt]
theorem setObjAt_same {w : World} {r : Nat} (o : Obj) (h : r < w.heap.size) : (setObjAt w r o).heap[r]? = some o := by simp [setObjAt, h]
theorem setObjAt_ne {w : World} {r k : Nat} (o : Obj) (h : k ≠ r) : (setObjAt w r o).heap[k]? = w.heap[k]? := by
  simp only [setObjAt, Array.getElem?_setIfInBounds]; rw [if_neg (by omega)]
theorem Upd.setObj {S : List Nat} {a w : World} (h : Upd S a w) {r : Nat} (o : Obj) (hb : r ∈ S ∨ a.heap.size ≤ r) : Upd S a (setObjAt w r o) :=
  ⟨h.os, h.tape, h.output, by simpa using h.size, fun k hk hs => by
    rw [setObjAt_ne _ (by rintro rfl; rcases hb with q | q; exact hs q; omega)]; exact h.block k hk hs⟩

/-! ## bytes -/

/-- A byte as a value. -/
def bv (c : UInt8) : Value := .int .u8 (c.toNat : Int)
def bts (l : List UInt8) : List Value := l.map bv
@[simp] theorem bts_length (l : List UInt8) : (bts l).length = l.length := by simp [bts]
@[simp] theorem bts_append (a b : List UInt8) : bts (a ++ b) = bts a ++ bts b := by simp [bts]
@[simp] theorem bts_nil : bts [] = [] := rfl
theorem bts_get (l : List UInt8) (i : Nat) : (bts l)[i]? = l[i]?.map bv := by simp [bts]
theorem bts_one (l : List UInt8) : ∀ v ∈ bts l, v.oneCell' = true := by
  intro v hv
  obtain ⟨c, _, rfl⟩ := List.mem_map.1 hv
  rfl

/-- The slice value v reads, byte by byte, as l. -/
def Rd (w : World) (v : Value) (l : List UInt8) : Prop :=
  ∃ ao cap, v = .slice ao l.length cap ∧ l.length ≤ cap ∧
    (0 < l.length → ∃ b off, ao = some ⟨b, off, none⟩ ∧ ∀ i (h : i < l.length), w.cell? ⟨b, off + i, none⟩ = some (bv l[i]))

theorem Rd.nil (w : World) : Rd w (.slice none 0 0) [] := ⟨none, 0, rfl, Nat.le_refl _, fun h => absurd h (by simp)⟩

/-- A row of bytes of the program's own, from its block's head on, in a block of F; there may be room behind. -/
def Own (w : World) (u8 : TypeId) (F : Nat → Prop) (v : Value) (l : List UInt8) : Prop :=
  ∃ k rest, F k ∧ v = .slice (some ⟨k, 0, none⟩) l.length (l.length + rest.length) ∧ w.heap[k]? = some (.cells (bts l ++ rest).toArray u8 (0, 0))

theorem Own.rd {w : World} {u8 : TypeId} {F : Nat → Prop} {v : Value} {l : List UInt8} (h : Own w u8 F v l) : Rd w v l := by
  obtain ⟨k, rest, _, rfl, hb⟩ := h
  refine ⟨_, _, rfl, by omega, fun _ => ⟨k, 0, rfl, fun i hi => ?_⟩⟩
  rw [blk_cell hb]
  simp [List.getElem?_append_left, bts, hi]
theorem Own.mono {w : World} {u8 : TypeId} {F G : Nat → Prop} {v : Value} {l : List UInt8} (h : Own w u8 F v l) (hFG : ∀ k, F k → G k) : Own w u8 G v l := by
  obtain ⟨k, rest, hF, h1, h2⟩ := h
  exact ⟨k, rest, hFG _ hF, h1, h2⟩
theorem Own.world {w w' : World} {u8 : TypeId} {F : Nat → Prop} {v : Value} {l : List UInt8} (h : Own w u8 F v l) (ha : ∀ k c, F k → w.heap[k]? = some (.cells c u8 (0, 0)) → w'.heap[k]? = w.heap[k]?) : Own w' u8 F v l := by
  obtain ⟨k, rest, hF, h1, h2⟩ := h
  exact ⟨k, rest, hF, h1, by rw [ha k _ hF h2]; exact h2⟩

end Go.Proofs.Ythbgidiblcokhaa
