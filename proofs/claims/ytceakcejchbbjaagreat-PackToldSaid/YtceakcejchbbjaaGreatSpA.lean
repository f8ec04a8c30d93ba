/-
  Bits in bytes, and extents of them. No program in sight.
-/
import Derived.Test.YtceakcejchbbjaaGreatGA
namespace Go.Proofs.YtceakcejchbbjaaGreat
open Go.RowKit

/-- Bit i of bytes. -/
def bitB (l : List UInt8) (i : Nat) : Bool := (l.getD (i / 8) 0).toNat.testBit (i % 8)
def clrN (c k : Nat) : Nat := c &&& (255 - 2 ^ k)
def setN (c k : Nat) (on : Bool) : Nat := if on then clrN c k ||| 2 ^ k else clrN c k
def setB (l : List UInt8) (i : Nat) (on : Bool) : List UInt8 := l.set (i / 8) (UInt8.ofNat (setN (l.getD (i / 8) 0).toNat (i % 8) on))
/-- n bits from s on. -/
def setR (l : List UInt8) (s : Nat) (on : Bool) : Nat → List UInt8
  | 0 => l
  | n + 1 => setB (setR l s on n) (s + n) on
/-- The first four bits are set. -/
def fixB (l : List UInt8) : List UInt8 := l.set 0 (UInt8.ofNat ((l.getD 0 0).toNat ||| 15))

theorem clrN_lt {c k : Nat} (hc : c < 256) : clrN c k < 256 := Nat.lt_of_le_of_lt Nat.and_le_left hc
theorem pow_lt8 {k : Nat} (hk : k < 8) : 2 ^ k < 256 := Nat.lt_of_lt_of_le (Nat.pow_lt_pow_right (by omega) hk) (by decide)
theorem setN_lt {c k : Nat} (hc : c < 256) (hk : k < 8) (on : Bool) : setN c k on < 256 := by
  unfold setN
  split
  · exact Nat.or_lt_two_pow (n := 8) (clrN_lt hc) (pow_lt8 hk)
  · exact clrN_lt hc
theorem setN_all : ∀ c : Fin 256, ∀ k k' : Fin 8, ∀ on : Bool, (setN c.val k.val on).testBit k'.val = if k' = k then on else c.val.testBit k'.val := by decide +kernel
theorem setN_bit {c k k' : Nat} (hc : c < 256) (hk : k < 8) (hk' : k' < 8) (on : Bool) : (setN c k on).testBit k' = if k' = k then on else c.testBit k' := by
  have := setN_all ⟨c, hc⟩ ⟨k, hk⟩ ⟨k', hk'⟩ on
  simp only [Fin.mk.injEq] at this
  exact this
theorem or15_all : ∀ c : Fin 256, ∀ k : Fin 8, (c.val ||| 15).testBit k.val = (decide (k.val < 4) || c.val.testBit k.val) := by decide +kernel
theorem ofNat_toNat {x : Nat} (h : x < 256) : (UInt8.ofNat x).toNat = x := by simp; omega
theorem setB_length (l : List UInt8) (i : Nat) (on : Bool) : (setB l i on).length = l.length := by unfold setB; rw [List.length_set]
theorem setR_length (l : List UInt8) (s : Nat) (on : Bool) : ∀ n, (setR l s on n).length = l.length
  | 0 => rfl
  | n + 1 => by show (setB _ _ _).length = _; rw [setB_length, setR_length l s on n]
theorem fixB_length (l : List UInt8) : (fixB l).length = l.length := by unfold fixB; rw [List.length_set]
theorem getD_set {l : List UInt8} {i j : Nat} {x : UInt8} (hi : i < l.length) : (l.set i x).getD j 0 = if j = i then x else l.getD j 0 := by
  rw [List.getD_eq_getElem?_getD, List.getD_eq_getElem?_getD]
  by_cases e : j = i
  · subst e; rw [if_pos rfl, List.getElem?_set_self hi]; rfl
  · rw [if_neg e, List.getElem?_set_ne (fun q => e q.symm)]
theorem bitB_setB {l : List UInt8} {i : Nat} (hi : i < 8 * l.length) (on : Bool) (j : Nat) : bitB (setB l i on) j = if j = i then on else bitB l j := by
  unfold bitB setB
  rw [getD_set (by omega)]
  have hc := (l.getD (i / 8) 0).toNat_lt
  by_cases e : j / 8 = i / 8
  · rw [if_pos e, ofNat_toNat (setN_lt (by omega) (by omega) on), setN_bit (by omega) (by omega) (by omega), e]
    by_cases e2 : j % 8 = i % 8
    · rw [if_pos e2, if_pos (by omega)]
    · rw [if_neg e2, if_neg (by omega)]
  · rw [if_neg e, if_neg (by omega)]
theorem bitB_setR {l : List UInt8} {s : Nat} (on : Bool) : ∀ {n : Nat}, s + n ≤ 8 * l.length → ∀ j, bitB (setR l s on n) j = if s ≤ j ∧ j < s + n then on else bitB l j
  | 0, _, j => by rw [if_neg (by omega)]; rfl
  | n + 1, h, j => by
    show bitB (setB _ _ _) j = _
    rw [bitB_setB (by rw [setR_length]; omega), bitB_setR on (by omega)]
    by_cases e : j = s + n
    · rw [if_pos e, if_pos (by omega)]
    · rw [if_neg e]
      by_cases e2 : s ≤ j ∧ j < s + n
      · rw [if_pos e2, if_pos (by omega)]
      · rw [if_neg e2, if_neg (by omega)]
theorem bitB_fix {l : List UInt8} (hl : 0 < l.length) (j : Nat) : bitB (fixB l) j = (decide (j < 4) || bitB l j) := by
  unfold bitB fixB
  rw [getD_set hl]
  have hc := (l.getD 0 0).toNat_lt
  by_cases e : j / 8 = 0
  · rw [if_pos e, ofNat_toNat (Nat.or_lt_two_pow (n := 8) (by omega) (by decide)), e]
    have := or15_all ⟨(l.getD 0 0).toNat, by omega⟩ ⟨j % 8, by omega⟩
    simp only at this
    rw [this]
    congr 1
    rw [decide_eq_decide]; omega
  · rw [if_neg e]
    have : decide (j < 4) = false := decide_eq_false (by omega)
    rw [this, Bool.false_or]
theorem bitB_zsec (j : Nat) : bitB zsec j = false := by
  unfold bitB zsec
  rw [List.getD_eq_getElem?_getD, List.getElem?_replicate]
  split <;> simp

/-! ## extents -/

/-- Is the extent of k sectors from s on free? -/
def FreeAt (T : Nat → Bool) (s k : Nat) : Prop := ∀ q, q < k → T (s + q) = false
/-- s is the first free extent of k sectors below h; none: there is none. -/
def FirstFit (T : Nat → Bool) (h k : Nat) : Option Nat → Prop
  | some s => s + k ≤ h ∧ FreeAt T s k ∧ ∀ s', s' < s → ¬ FreeAt T s' k
  | none => ∀ s', s' + k ≤ h → ¬ FreeAt T s' k
theorem FirstFit.uniq {T : Nat → Bool} {h k : Nat} {a b : Option Nat} (ha : FirstFit T h k a) (hb : FirstFit T h k b) : a = b := by
  cases a with
  | none =>
    cases b with
    | none => rfl
    | some t => exact absurd hb.2.1 (ha t hb.1)
  | some s =>
    cases b with
    | none => exact absurd ha.2.1 (hb s ha.1)
    | some t =>
      have h1 : ¬ t < s := fun q => ha.2.2 t q hb.2.1
      have h2 : ¬ s < t := fun q => hb.2.2 s q ha.2.1
      congr 1; omega
/-- The walk over the bits: behind i of them r are free at the end, and no extent of k. -/
structure Run (T : Nat → Bool) (k i r : Nat) : Prop where
  le : r ≤ i
  lt : r < k
  free : ∀ q, q < r → T (i - 1 - q) = false
  stop : r < i → T (i - 1 - r) = true
  none : ∀ s', s' + k ≤ i → ¬ FreeAt T s' k
theorem Run.zero {T : Nat → Bool} {k : Nat} (hk : 1 ≤ k) : Run T k 0 0 := ⟨Nat.le_refl _, hk, fun q h => by omega, fun h => by omega, fun s' h => by omega⟩
theorem Run.set {T : Nat → Bool} {k i r : Nat} (h : Run T k i r) (ht : T i = true) : Run T k (i + 1) 0 := by
  have hk : 1 ≤ k := by have := h.lt; omega
  refine ⟨by omega, hk, fun q hq => by omega, fun _ => by simpa using ht, fun s' hs hf => ?_⟩
  by_cases e : s' + k ≤ i
  · exact h.none s' e hf
  · have := hf (k - 1) (by omega)
    rw [show s' + (k - 1) = i from by omega, ht] at this
    simp at this
theorem Run.next {T : Nat → Bool} {k i r : Nat} (h : Run T k i r) (ht : T i = false) (hr : r + 1 < k) : Run T k (i + 1) (r + 1) := by
  have h1 := h.le
  refine ⟨by omega, hr, fun q hq => ?_, fun hlt => ?_, fun s' hs hf => ?_⟩
  · cases q with
    | zero => simpa using ht
    | succ q =>
      have := h.free q (by omega)
      rw [show i + 1 - 1 - (q + 1) = i - 1 - q from by omega]; exact this
  · have := h.stop (by omega)
    rw [show i + 1 - 1 - (r + 1) = i - 1 - r from by omega]; exact this
  · by_cases e : s' + k ≤ i
    · exact h.none s' e hf
    · have hst := h.stop (by omega)
      have := hf (i - 1 - r - s') (by omega)
      rw [show s' + (i - 1 - r - s') = i - 1 - r from by omega, hst] at this
      simp at this
theorem Run.found {T : Nat → Bool} {k i r h0 : Nat} (h : Run T k i r) (ht : T i = false) (hr : r + 1 = k) (hi : i < h0) : FirstFit T h0 k (some (i + 1 - k)) := by
  have h1 := h.le
  refine ⟨by omega, fun q hq => ?_, fun s' hs => h.none s' (by omega)⟩
  by_cases e : q = k - 1
  · rw [show i + 1 - k + q = i from by omega]; exact ht
  · have := h.free (r - 1 - q) (by omega)
    rw [show i - 1 - (r - 1 - q) = i + 1 - k + q from by omega] at this; exact this
theorem Run.full {T : Nat → Bool} {k i r : Nat} (h : Run T k i r) : FirstFit T i k Option.none := h.none

end Go.Proofs.YtceakcejchbbjaaGreat

