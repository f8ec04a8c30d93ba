/-
  The disk as plain data: what lasts, what waits, when the power fails. No program in sight.
-/
import Derived.Test.YthbgidiblcokhaaBase
namespace Go.Proofs.Ythbgidiblcokhaa
open Go.RowKit

abbrev Sec := List UInt8
def zsec : Sec := List.replicate 512 0
@[simp] theorem zsec_length : zsec.length = 512 := List.length_replicate
/-- A sector with l at its beginning. -/
def pad (l : List UInt8) : Sec := (l ++ zsec).take 512
@[simp] theorem pad_length (l : List UInt8) : (pad l).length = 512 := by rw [pad, List.length_take, List.length_append, zsec_length]; omega
theorem pad_full {l : List UInt8} (h : l.length = 512) : pad l = l := by
  unfold pad; rw [← h]; exact List.take_left
theorem pad_nil : pad [] = zsec := by rw [pad, List.nil_append]; exact List.take_of_length_le (by rw [zsec_length]; omega)

/-- A disk: sectors; what lasts; what waits; whether the power is off; how many operations go yet; how much of a failing write is written; the sector on its way, and what is written of it; how many writes and powers there were. -/
structure Dk where
  n : Nat
  last : Nat → Sec
  wait : Nat → Option Sec
  off : Bool
  armed : Int
  part : Nat
  way : Option Nat
  front : List UInt8
  writes : Int
  lives : Int

structure Dk.Ok (D : Dk) : Prop where
  n0 : 32 ≤ D.n
  n1 : D.n ≤ 4096
  last : ∀ i, (D.last i).length = 512
  wait : ∀ i s, D.wait i = some s → i < D.n ∧ s.length = 512
  armed0 : -1 ≤ D.armed
  armed1 : D.armed ≤ 9223372036854775807
  part : D.part ≤ 512
  way : ∀ i, D.way = some i → i < D.n
  front : D.front.length ≤ 512

namespace Dk
def new (n : Nat) : Dk := { n, last := fun _ => zsec, wait := fun _ => none, off := false, armed := -1, part := 0, way := none, front := [], writes := 0, lives := 0 }
def may (D : Dk) (i : Int) : Int := if D.off then 8 else if i < 0 ∨ (D.n : Int) ≤ i then 1 else 0
/-- What stands in sector i. -/
def now (D : Dk) (i : Nat) : Sec := (D.wait i).getD (D.last i)
def read (D : Dk) (i : Int) : List UInt8 × Int := if D.may i = 0 then (D.now i.toNat, 0) else ([], D.may i)
def step (D : Dk) : Dk := if 0 < D.armed then { D with armed := D.armed - 1 } else D
def write (D : Dk) (i : Int) (b : List UInt8) : Dk × Int :=
  if D.may i ≠ 0 then (D, D.may i) else if b.length ≠ 512 then (D, 9)
  else if D.armed = 0 then ({ D with off := true, way := some i.toNat, front := b.take D.part }, 8)
  else ({ D.step with wait := fun j => if j = i.toNat then some b else D.wait j, writes := wrap64 (D.writes + 1) }, 0)
def flush (D : Dk) : Dk × Int :=
  if D.off then (D, 8) else if D.armed = 0 then ({ D with off := true }, 8)
  else ({ D.step with last := D.now, wait := fun _ => none }, 0)
def arm (D : Dk) (n part : Int) : Dk := { D with armed := max n (-1), part := (min (max part 0) 512).toNat }
/-- The sectors that wait, rising. -/
def waiting (D : Dk) : List Nat := (List.range D.n).filter fun i => (D.wait i).isSome
/-- Of what waits the k-th lasts, if keep says so. -/
def kept (D : Dk) (keep : List Bool) (i : Nat) : Sec :=
  if keep.getD (D.waiting.idxOf i) false = true then D.now i else D.last i
def power (D : Dk) (keep : List Bool) : Dk :=
  { D with
    last := fun i => if D.way = some i then D.front ++ (D.kept keep i).drop D.front.length else D.kept keep i
    wait := fun _ => none, off := false, armed := -1, way := none, front := [], lives := wrap64 (D.lives + 1) }
end Dk

end Go.Proofs.Ythbgidiblcokhaa
