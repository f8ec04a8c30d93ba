/-
  Package pack, plain: the packs that stand in the sectors; what a note, a piece, a look for room makes of them.
-/
import Derived.Test.YtceakcejchbbjaaGreatPkA
set_option linter.unusedSimpArgs false
set_option linter.unusedVariables false
namespace Go.Proofs.YtceakcejchbbjaaGreat
open Go.RowKit Go.MapKept Go.ChangeMaps

/-- The packs with one of them turned. -/
def setP (K : Nat → Option Pk) (n : Nat) (p : Option Pk) : Nat → Option Pk := fun m => if m = n then p else K m
theorem setP_same (K : Nat → Option Pk) (n : Nat) (p : Option Pk) : setP K n p n = p := by unfold setP; rw [if_pos rfl]
theorem setP_ne (K : Nat → Option Pk) {n m : Nat} (p : Option Pk) (h : m ≠ n) : setP K n p m = K m := by unfold setP; rw [if_neg h]
/-- What look tells of a pack. -/
def entK : Option Pk → Nat × Nat × Nat
  | none => (0, 0, 0)
  | some p => (p.start, p.data.length, p.live)
/-- The packs K stand in the sectors c, of which T are taken. -/
structure PksAt (c : Nat → Sec) (h : Nat) (T : Nat → Bool) (K : Nat → Option Pk) : Prop where
  len : ∀ i, (c i).length = 512
  look : ∀ n, n < 64 → lookP c h n = entK (K n)
  high : ∀ n, 64 ≤ n → K n = Option.none
  data : ∀ n p, K n = some p → PkD c p.start p.data
  low : ∀ n p, K n = some p → 4 ≤ p.start ∧ p.start + 16 ≤ h ∧ p.data.length ≤ 8192 ∧ p.live ≤ p.data.length
  apart : ∀ n p m q, K n = some p → K m = some q → n ≠ m → p.start + 16 ≤ q.start ∨ q.start + 16 ≤ p.start
  taken : ∀ n p, K n = some p → ∀ i, i < 16 → T (p.start + i) = true
theorem PksAt.lt {c : Nat → Sec} {h : Nat} {T : Nat → Bool} {K : Nat → Option Pk} (k : PksAt c h T K) {n : Nat} {p : Pk} (hn : K n = some p) : n < 64 := by
  rcases Nat.lt_or_ge n 64 with h1 | h1
  · exact h1
  · rw [k.high n h1] at hn; cases hn
theorem lookP_congr {c c' : Nat → Sec} {h n : Nat} (he : c' (2 + n / 32) = c (2 + n / 32)) : lookP c' h n = lookP c h n := by unfold lookP; rw [he]
/-- The same packs in sectors of which none of theirs has turned, and with their bits. -/
theorem PksAt.turn {c c' : Nat → Sec} {h : Nat} {T T' : Nat → Bool} {K : Nat → Option Pk} (k : PksAt c h T K) (hl : ∀ i, (c' i).length = 512) (h2 : c' 2 = c 2) (h3 : c' 3 = c 3)
    (hd : ∀ n p, K n = some p → ∀ i, p.start ≤ i → i < p.start + 16 → c' i = c i) (ht : ∀ n p, K n = some p → ∀ i, i < 16 → T' (p.start + i) = true) : PksAt c' h T' K := by
  refine ⟨hl, fun n hn => ?_, k.high, fun n p hp => (k.data n p hp).congr (k.low n p hp).2.2.1 (hd n p hp), k.low, k.apart, ht⟩
  rw [← k.look n hn]
  apply lookP_congr
  have : n / 32 = 0 ∨ n / 32 = 1 := by omega
  rcases this with e | e <;> rw [e]
  · exact h2
  · exact h3
/-- A pack p that is there, or one that may be: of the number n. -/
structure Ext (c : Nat → Sec) (h : Nat) (T : Nat → Bool) (K : Nat → Option Pk) (n : Nat) (p : Pk) : Prop where
  lt : n < 64
  data : PkD c p.start p.data
  low : 4 ≤ p.start ∧ p.start + 16 ≤ h ∧ p.data.length ≤ 8192 ∧ p.live ≤ p.data.length
  apart : ∀ m q, K m = some q → m ≠ n → p.start + 16 ≤ q.start ∨ q.start + 16 ≤ p.start
  taken : ∀ i, i < 16 → T (p.start + i) = true
theorem PksAt.ext {c : Nat → Sec} {h : Nat} {T : Nat → Bool} {K : Nat → Option Pk} (k : PksAt c h T K) {n : Nat} {p : Pk} (hn : K n = some p) : Ext c h T K n p :=
  ⟨k.lt hn, k.data n p hn, k.low n p hn, fun m q hq hm => k.apart n p m q hn hq (Ne.symm hm), k.taken n p hn⟩
/-- The pack behind a note: its bytes stand already. -/
theorem PksAt.note {c c' : Nat → Sec} {h : Nat} {T : Nat → Bool} {K : Nat → Option Pk} {n : Nat} {p p' : Pk} (k : PksAt c h T K) (hh : h ≤ 4096) (e : Ext c h T K n p) (hs : p'.start = p.start)
    (hl : ∀ i, (c' i).length = 512) (hlow : p'.data.length ≤ 8192 ∧ p'.live ≤ p'.data.length) (hd : PkD c' p.start p'.data)
    (hn : c' (2 + n / 32) = putE (c (2 + n / 32)) (16 * (n % 32)) p.start p'.data.length p'.live) (ho : ∀ i, i ≠ 2 + n / 32 → ¬ (p.start ≤ i ∧ i < p.start + 16) → c' i = c i) : PksAt c' h T (setP K n (some p')) := by
  have hlt := e.lt
  have hlw := e.low
  have hcl := k.len (2 + n / 32)
  refine ⟨hl, fun m hm => ?_, fun m hm => ?_, fun m q hq => ?_, fun m q hq => ?_, fun m q m' q' hq hq' hmm => ?_, fun m q hq => ?_⟩
  · by_cases hmn : m = n
    · subst hmn
      rw [setP_same]
      unfold lookP
      rw [hn, entW_put (by omega) (by omega) (by omega) (by omega)]
      dsimp only
      rw [if_neg (by omega)]
      show (p.start, p'.data.length, p'.live) = (p'.start, p'.data.length, p'.live)
      rw [hs]
    · rw [setP_ne _ _ hmn, ← k.look m hm]
      by_cases hmd : m / 32 = n / 32
      · unfold lookP
        rw [hmd, hn, entW_ne (by omega) (by omega)]
      · exact lookP_congr (ho _ (by omega) (by omega))
  · rw [setP_ne _ _ (by omega)]; exact k.high m hm
  · by_cases hmn : m = n
    · subst hmn; rw [setP_same] at hq; cases hq; rw [hs]; exact hd
    · rw [setP_ne _ _ hmn] at hq
      have h1 := e.apart m q hq hmn
      have h2 := k.low m q hq
      exact (k.data m q hq).congr h2.2.2.1 fun i i1 i2 => ho i (by omega) (by omega)
  · by_cases hmn : m = n
    · subst hmn; rw [setP_same] at hq; cases hq; exact ⟨by omega, by omega, hlow.1, hlow.2⟩
    · rw [setP_ne _ _ hmn] at hq; exact k.low m q hq
  · by_cases hmn : m = n
    · subst hmn; rw [setP_same] at hq; cases hq
      rw [setP_ne _ _ (Ne.symm hmm)] at hq'
      rw [hs]; exact e.apart m' q' hq' (Ne.symm hmm)
    · rw [setP_ne _ _ hmn] at hq
      by_cases hmn' : m' = n
      · subst hmn'; rw [setP_same] at hq'; cases hq'
        rw [hs]; exact (e.apart m q hq hmn).symm
      · rw [setP_ne _ _ hmn'] at hq'
        exact k.apart m q m' q' hq hq' hmm
  · by_cases hmn : m = n
    · subst hmn; rw [setP_same] at hq; cases hq; rw [hs]; exact e.taken
    · rw [setP_ne _ _ hmn] at hq; exact k.taken m q hq
/-- No pack of the number n behind a note of zeros. -/
theorem PksAt.noteNo {c c' : Nat → Sec} {h : Nat} {T T' : Nat → Bool} {K : Nat → Option Pk} {n : Nat} (k : PksAt c h T K) (hn64 : n < 64)
    (hl : ∀ i, (c' i).length = 512) (hn : c' (2 + n / 32) = putE (c (2 + n / 32)) (16 * (n % 32)) 0 0 0) (ho : ∀ i, 2 ≤ i → i ≠ 2 + n / 32 → c' i = c i)
    (ht : ∀ m p, K m = some p → m ≠ n → ∀ i, i < 16 → T' (p.start + i) = true) : PksAt c' h T' (setP K n Option.none) := by
  have hcl := k.len (2 + n / 32)
  refine ⟨hl, fun m hm => ?_, fun m hm => ?_, fun m q hq => ?_, fun m q hq => ?_, fun m q m' q' hq hq' hmm => ?_, fun m q hq => ?_⟩
  · by_cases hmn : m = n
    · subst hmn
      rw [setP_same]
      unfold lookP
      rw [hn, entW_put (by omega) (by omega) (by omega) (by omega)]
      dsimp only
      rw [if_neg (by omega)]
      rfl
    · rw [setP_ne _ _ hmn, ← k.look m hm]
      by_cases hmd : m / 32 = n / 32
      · unfold lookP
        rw [hmd, hn, entW_ne (by omega) (by omega)]
      · exact lookP_congr (ho _ (by omega) (by omega))
  · rw [setP_ne _ _ (by omega)]; exact k.high m hm
  · by_cases hmn : m = n
    · subst hmn; rw [setP_same] at hq; cases hq
    · rw [setP_ne _ _ hmn] at hq
      have h2 := k.low m q hq
      exact (k.data m q hq).congr h2.2.2.1 fun i i1 i2 => ho i (by omega) (by omega)
  · by_cases hmn : m = n
    · subst hmn; rw [setP_same] at hq; cases hq
    · rw [setP_ne _ _ hmn] at hq; exact k.low m q hq
  · by_cases hmn : m = n
    · subst hmn; rw [setP_same] at hq; cases hq
    · rw [setP_ne _ _ hmn] at hq
      by_cases hmn' : m' = n
      · subst hmn'; rw [setP_same] at hq'; cases hq'
      · rw [setP_ne _ _ hmn'] at hq'
        exact k.apart m q m' q' hq hq' hmm
  · by_cases hmn : m = n
    · subst hmn; rw [setP_same] at hq; cases hq
    · rw [setP_ne _ _ hmn] at hq; exact ht m q hq hmn
/-- One piece laid: k bytes of f, of which a0 - a were laid ahead. -/
theorem PkD.lay {c c' : Nat → Sec} {s : Nat} {d f : List UInt8} {k o j : Nat} (h : PkD c s d) (hl : (c (s + j)).length = 512) (ho : d.length = 512 * j + o) (hk : o + (f.take k).length ≤ 512)
    (hc : c' (s + j) = layS (c (s + j)) o (f.take k)) (he : ∀ i, i ≠ s + j → c' i = c i) : PkD c' s (d ++ f.take k) := by
  intro i x hx
  have hlen := (List.getElem?_eq_some_iff.1 hx).1
  rw [List.length_append] at hlen
  by_cases hi : i < d.length
  · rw [List.getElem?_append_left hi] at hx
    have h0 := h i x hx
    by_cases hij : i / 512 = j
    · rw [hij] at h0 ⊢
      rw [hc, layS_get (by omega), if_neg (by omega)]
      exact h0
    · rw [he _ (by omega)]; exact h0
  · rw [List.getElem?_append_right (by omega)] at hx
    have hij : i / 512 = j := by omega
    rw [hij, hc, layS_get (by omega), if_pos (by omega)]
    rw [← hx]
    congr 1; omega
theorem layS_length {l : Sec} {o : Nat} {f : List UInt8} (h : o + f.length ≤ l.length) : (layS l o f).length = l.length := over_length h
/-- What stands in a sector of a pack's bytes, from o on. -/
theorem PkD.part {c : Nat → Sec} {s : Nat} {d : List UInt8} {a k : Nat} (h : PkD c s d) (hk : a % 512 + k ≤ 512) (hd : a + k ≤ d.length) (hl : (c (s + a / 512)).length = 512) :
    ((c (s + a / 512)).drop (a % 512)).take k = (d.drop a).take k := by
  apply List.ext_getElem?
  intro i
  by_cases hi : i < k
  · rw [List.getElem?_take_of_lt hi, List.getElem?_take_of_lt hi, List.getElem?_drop, List.getElem?_drop]
    have h1 : a + i < d.length := by omega
    have := h (a + i) d[a + i] (List.getElem?_eq_getElem h1)
    rw [List.getElem?_eq_getElem h1, ← this]
    have e1 : (a + i) / 512 = a / 512 := by omega
    have e2 : (a + i) % 512 = a % 512 + i := by omega
    rw [e1, e2]
  · rw [List.getElem?_eq_none (by rw [List.length_take]; omega), List.getElem?_eq_none (by rw [List.length_take]; omega)]
/-- Has pack n room for l bytes more? -/
def FitsP (K : Nat → Option Pk) (but : Int) (l n : Nat) : Prop := (n : Int) ≠ but ∧ ∃ p, K n = some p ∧ p.data.length + l ≤ 8192
/-- What room has found: a pack with room (64: none), and the least number without a pack below it (64: none). -/
structure RoomR (K : Nat → Option Pk) (but : Int) (l n free : Nat) : Prop where
  le : n ≤ 64
  fits : n < 64 → FitsP K but l n
  first : ∀ m, m < n → ¬ FitsP K but l m
  free_le : free ≤ 64
  free_none : free < 64 → K free = Option.none
  free_first : ∀ m, m < n → m < free → K m ≠ Option.none
end Go.Proofs.YtceakcejchbbjaaGreat
