/-
  Package pack, plain: the packs that stand in the sectors; what a note, a piece, a look for room makes of them. A transaction: which sectors a piece of work has written, how many; blocks that are none of its own may turn. Package pack, plain: the round of room; results that hold a stat.
-/
import Derived.Test.YtceakcejchbbjaaGreatPkA
section
set_option linter.unusedSimpArgs false
set_option linter.unusedVariables false
namespace Go.Proofs.YtceakcejchbbjaaGreat
open Go.RowKit Go.MapKept Go.ChangeMaps

/-- The packs with one of them turned. -/
def setP (K : Nat → Option Pk) (n : Nat) (p : Option Pk) : Nat → Option Pk := fun m => if m = n then p else K m
theorem setP_same (K : Nat → Option Pk) (n : Nat) (p : Option Pk) : setP K n p n = p := by unfold setP; rw [if_pos rfl]
theorem setP_ne (K : Nat → Option Pk) {n m : Nat} (p : Option Pk) (h : m ≠ n) : setP K n p m = K m := by unfold setP; rw [if_neg h]
/-- What look tells of a pack. -/
def entK : Option Pk → Nat × Nat × Nat
  | none => (0, 0, 0)
  | some p => (p.start, p.data.length, p.live)
/-- The packs K stand in the sectors c, of which T are taken. -/
structure PksAt (c : Nat → Sec) (h : Nat) (T : Nat → Bool) (K : Nat → Option Pk) : Prop where
  len : ∀ i, (c i).length = 512
  look : ∀ n, n < 64 → lookP c h n = entK (K n)
  high : ∀ n, 64 ≤ n → K n = Option.none
  data : ∀ n p, K n = some p → PkD c p.start p.data
  low : ∀ n p, K n = some p → 4 ≤ p.start ∧ p.start + 16 ≤ h ∧ p.data.length ≤ 8192 ∧ p.live ≤ p.data.length
  apart : ∀ n p m q, K n = some p → K m = some q → n ≠ m → p.start + 16 ≤ q.start ∨ q.start + 16 ≤ p.start
  taken : ∀ n p, K n = some p → ∀ i, i < 16 → T (p.start + i) = true
theorem PksAt.lt {c : Nat → Sec} {h : Nat} {T : Nat → Bool} {K : Nat → Option Pk} (k : PksAt c h T K) {n : Nat} {p : Pk} (hn : K n = some p) : n < 64 := by
  rcases Nat.lt_or_ge n 64 with h1 | h1
  · exact h1
  · rw [k.high n h1] at hn; cases hn
theorem lookP_congr {c c' : Nat → Sec} {h n : Nat} (he : c' (2 + n / 32) = c (2 + n / 32)) : lookP c' h n = lookP c h n := by unfold lookP; rw [he]
/-- The same packs in sectors of which none of theirs has turned, and with their bits. -/
theorem PksAt.turn {c c' : Nat → Sec} {h : Nat} {T T' : Nat → Bool} {K : Nat → Option Pk} (k : PksAt c h T K) (hl : ∀ i, (c' i).length = 512) (h2 : c' 2 = c 2) (h3 : c' 3 = c 3)
    (hd : ∀ n p, K n = some p → ∀ i, p.start ≤ i → i < p.start + 16 → c' i = c i) (ht : ∀ n p, K n = some p → ∀ i, i < 16 → T' (p.start + i) = true) : PksAt c' h T' K := by
  refine ⟨hl, fun n hn => ?_, k.high, fun n p hp => (k.data n p hp).congr (k.low n p hp).2.2.1 (hd n p hp), k.low, k.apart, ht⟩
  rw [← k.look n hn]
  apply lookP_congr
  have : n / 32 = 0 ∨ n / 32 = 1 := by omega
  rcases this with e | e <;> rw [e]
  · exact h2
  · exact h3
/-- A pack p that is there, or one that may be: of the number n. -/
structure Ext (c : Nat → Sec) (h : Nat) (T : Nat → Bool) (K : Nat → Option Pk) (n : Nat) (p : Pk) : Prop where
  lt : n < 64
  data : PkD c p.start p.data
  low : 4 ≤ p.start ∧ p.start + 16 ≤ h ∧ p.data.length ≤ 8192 ∧ p.live ≤ p.data.length
  apart : ∀ m q, K m = some q → m ≠ n → p.start + 16 ≤ q.start ∨ q.start + 16 ≤ p.start
  taken : ∀ i, i < 16 → T (p.start + i) = true
theorem PksAt.ext {c : Nat → Sec} {h : Nat} {T : Nat → Bool} {K : Nat → Option Pk} (k : PksAt c h T K) {n : Nat} {p : Pk} (hn : K n = some p) : Ext c h T K n p :=
  ⟨k.lt hn, k.data n p hn, k.low n p hn, fun m q hq hm => k.apart n p m q hn hq (Ne.symm hm), k.taken n p hn⟩
/-- The pack behind a note: its bytes stand already. -/
theorem PksAt.note {c c' : Nat → Sec} {h : Nat} {T : Nat → Bool} {K : Nat → Option Pk} {n : Nat} {p p' : Pk} (k : PksAt c h T K) (hh : h ≤ 4096) (e : Ext c h T K n p) (hs : p'.start = p.start)
    (hl : ∀ i, (c' i).length = 512) (hlow : p'.data.length ≤ 8192 ∧ p'.live ≤ p'.data.length) (hd : PkD c' p.start p'.data)
    (hn : c' (2 + n / 32) = putE (c (2 + n / 32)) (16 * (n % 32)) p.start p'.data.length p'.live) (ho : ∀ i, i ≠ 2 + n / 32 → ¬ (p.start ≤ i ∧ i < p.start + 16) → c' i = c i) : PksAt c' h T (setP K n (some p')) := by
  have hlt := e.lt
  have hlw := e.low
  have hcl := k.len (2 + n / 32)
  refine ⟨hl, fun m hm => ?_, fun m hm => ?_, fun m q hq => ?_, fun m q hq => ?_, fun m q m' q' hq hq' hmm => ?_, fun m q hq => ?_⟩
  · by_cases hmn : m = n
    · subst hmn
      rw [setP_same]
      unfold lookP
      rw [hn, entW_put (by omega) (by omega) (by omega) (by omega)]
      dsimp only
      rw [if_neg (by omega)]
      show (p.start, p'.data.length, p'.live) = (p'.start, p'.data.length, p'.live)
      rw [hs]
    · rw [setP_ne _ _ hmn, ← k.look m hm]
      by_cases hmd : m / 32 = n / 32
      · unfold lookP
        rw [hmd, hn, entW_ne (by omega) (by omega)]
      · exact lookP_congr (ho _ (by omega) (by omega))
  · rw [setP_ne _ _ (by omega)]; exact k.high m hm
  · by_cases hmn : m = n
    · subst hmn; rw [setP_same] at hq; cases hq; rw [hs]; exact hd
    · rw [setP_ne _ _ hmn] at hq
      have h1 := e.apart m q hq hmn
      have h2 := k.low m q hq
      exact (k.data m q hq).congr h2.2.2.1 fun i i1 i2 => ho i (by omega) (by omega)
  · by_cases hmn : m = n
    · subst hmn; rw [setP_same] at hq; cases hq; exact ⟨by omega, by omega, hlow.1, hlow.2⟩
    · rw [setP_ne _ _ hmn] at hq; exact k.low m q hq
  · by_cases hmn : m = n
    · subst hmn; rw [setP_same] at hq; cases hq
      rw [setP_ne _ _ (Ne.symm hmm)] at hq'
      rw [hs]; exact e.apart m' q' hq' (Ne.symm hmm)
    · rw [setP_ne _ _ hmn] at hq
      by_cases hmn' : m' = n
      · subst hmn'; rw [setP_same] at hq'; cases hq'
        rw [hs]; exact (e.apart m q hq hmn).symm
      · rw [setP_ne _ _ hmn'] at hq'
        exact k.apart m q m' q' hq hq' hmm
  · by_cases hmn : m = n
    · subst hmn; rw [setP_same] at hq; cases hq; rw [hs]; exact e.taken
    · rw [setP_ne _ _ hmn] at hq; exact k.taken m q hq
/-- No pack of the number n behind a note of zeros. -/
theorem PksAt.noteNo {c c' : Nat → Sec} {h : Nat} {T T' : Nat → Bool} {K : Nat → Option Pk} {n : Nat} (k : PksAt c h T K) (hn64 : n < 64)
    (hl : ∀ i, (c' i).length = 512) (hn : c' (2 + n / 32) = putE (c (2 + n / 32)) (16 * (n % 32)) 0 0 0) (ho : ∀ i, 2 ≤ i → i ≠ 2 + n / 32 → c' i = c i)
    (ht : ∀ m p, K m = some p → m ≠ n → ∀ i, i < 16 → T' (p.start + i) = true) : PksAt c' h T' (setP K n Option.none) := by
  have hcl := k.len (2 + n / 32)
  refine ⟨hl, fun m hm => ?_, fun m hm => ?_, fun m q hq => ?_, fun m q hq => ?_, fun m q m' q' hq hq' hmm => ?_, fun m q hq => ?_⟩
  · by_cases hmn : m = n
    · subst hmn
      rw [setP_same]
      unfold lookP
      rw [hn, entW_put (by omega) (by omega) (by omega) (by omega)]
      dsimp only
      rw [if_neg (by omega)]
      rfl
    · rw [setP_ne _ _ hmn, ← k.look m hm]
      by_cases hmd : m / 32 = n / 32
      · unfold lookP
        rw [hmd, hn, entW_ne (by omega) (by omega)]
      · exact lookP_congr (ho _ (by omega) (by omega))
  · rw [setP_ne _ _ (by omega)]; exact k.high m hm
  · by_cases hmn : m = n
    · subst hmn; rw [setP_same] at hq; cases hq
    · rw [setP_ne _ _ hmn] at hq
      have h2 := k.low m q hq
      exact (k.data m q hq).congr h2.2.2.1 fun i i1 i2 => ho i (by omega) (by omega)
  · by_cases hmn : m = n
    · subst hmn; rw [setP_same] at hq; cases hq
    · rw [setP_ne _ _ hmn] at hq; exact k.low m q hq
  · by_cases hmn : m = n
    · subst hmn; rw [setP_same] at hq; cases hq
    · rw [setP_ne _ _ hmn] at hq
      by_cases hmn' : m' = n
      · subst hmn'; rw [setP_same] at hq'; cases hq'
      · rw [setP_ne _ _ hmn'] at hq'
        exact k.apart m q m' q' hq hq' hmm
  · by_cases hmn : m = n
    · subst hmn; rw [setP_same] at hq; cases hq
    · rw [setP_ne _ _ hmn] at hq; exact ht m q hq hmn
/-- One piece laid: k bytes of f, of which a0 - a were laid ahead. -/
theorem PkD.lay {c c' : Nat → Sec} {s : Nat} {d f : List UInt8} {k o j : Nat} (h : PkD c s d) (hl : (c (s + j)).length = 512) (ho : d.length = 512 * j + o) (hk : o + (f.take k).length ≤ 512)
    (hc : c' (s + j) = layS (c (s + j)) o (f.take k)) (he : ∀ i, i ≠ s + j → c' i = c i) : PkD c' s (d ++ f.take k) := by
  intro i x hx
  have hlen := (List.getElem?_eq_some_iff.1 hx).1
  rw [List.length_append] at hlen
  by_cases hi : i < d.length
  · rw [List.getElem?_append_left hi] at hx
    have h0 := h i x hx
    by_cases hij : i / 512 = j
    · rw [hij] at h0 ⊢
      rw [hc, layS_get (by omega), if_neg (by omega)]
      exact h0
    · rw [he _ (by omega)]; exact h0
  · rw [List.getElem?_append_right (by omega)] at hx
    have hij : i / 512 = j := by omega
    rw [hij, hc, layS_get (by omega), if_pos (by omega)]
    rw [← hx]
    congr 1; omega
theorem layS_length {l : Sec} {o : Nat} {f : List UInt8} (h : o + f.length ≤ l.length) : (layS l o f).length = l.length := over_length h
/-- What stands in a sector of a pack's bytes, from o on. -/
theorem PkD.part {c : Nat → Sec} {s : Nat} {d : List UInt8} {a k : Nat} (h : PkD c s d) (hk : a % 512 + k ≤ 512) (hd : a + k ≤ d.length) (hl : (c (s + a / 512)).length = 512) :
    ((c (s + a / 512)).drop (a % 512)).take k = (d.drop a).take k := by
  apply List.ext_getElem?
  intro i
  by_cases hi : i < k
  · rw [List.getElem?_take_of_lt hi, List.getElem?_take_of_lt hi, List.getElem?_drop, List.getElem?_drop]
    have h1 : a + i < d.length := by omega
    have := h (a + i) d[a + i] (List.getElem?_eq_getElem h1)
    rw [List.getElem?_eq_getElem h1, ← this]
    have e1 : (a + i) / 512 = a / 512 := by omega
    have e2 : (a + i) % 512 = a % 512 + i := by omega
    rw [e1, e2]
  · rw [List.getElem?_eq_none (by rw [List.length_take]; omega), List.getElem?_eq_none (by rw [List.length_take]; omega)]
/-- Has pack n room for l bytes more? -/
def FitsP (K : Nat → Option Pk) (but : Int) (l n : Nat) : Prop := (n : Int) ≠ but ∧ ∃ p, K n = some p ∧ p.data.length + l ≤ 8192
/-- What room has found: a pack with room (64: none), and the least number without a pack below it (64: none). -/
structure RoomR (K : Nat → Option Pk) (but : Int) (l n free : Nat) : Prop where
  le : n ≤ 64
  fits : n < 64 → FitsP K but l n
  first : ∀ m, m < n → ¬ FitsP K but l m
  free_le : free ≤ 64
  free_none : free < 64 → K free = Option.none
  free_first : ∀ m, m < n → m < free → K m ≠ Option.none
end Go.Proofs.YtceakcejchbbjaaGreat
end

section
set_option linter.unusedSimpArgs false
set_option linter.unusedVariables false
namespace Go.Proofs.YtceakcejchbbjaaGreat
open Go.RowKit Go.MapKept Go.ChangeMaps

def wr1 (M : Nat → Option Sec) (i : Nat) (s : Sec) : Nat → Option Sec := fun k => if k = i then some s else M k
theorem cur_wr1 (g : Sg) (M : Nat → Option Sec) (i : Nat) (s : Sec) (j : Nat) : g.cur (wr1 M i s) j = if j = i then s else g.cur M j := by
  unfold Sg.cur wr1
  by_cases h : j = i
  · rw [if_pos h, if_pos h]; rfl
  · rw [if_neg h, if_neg h]
theorem wr1_ne {M : Nat → Option Sec} {i j : Nat} {s : Sec} (h : j ≠ i) : wr1 M i s j = M j := by unfold wr1; rw [if_neg h]
theorem wr1_eq (M : Nat → Option Sec) (i : Nat) (s : Sec) : wr1 M i s i = some s := by unfold wr1; rw [if_pos rfl]
theorem T_wr1 (g : Sg) (M : Nat → Option Sec) {i : Nat} (s : Sec) (h : i ≠ 1) : g.T (wr1 M i s) = g.T M := by
  funext k
  unfold Sg.T
  rw [cur_wr1, if_neg (Ne.symm h)]
theorem cur_congr (g : Sg) {M M' : Nat → Option Sec} {i : Nat} (h : M' i = M i) : g.cur M' i = g.cur M i := by unfold Sg.cur; rw [h]
theorem T_congr (g : Sg) {M M' : Nat → Option Sec} (h : M' 1 = M 1) : g.T M' = g.T M := by
  funext k
  unfold Sg.T
  rw [cur_congr g h]
/-- What is written behind: what was written ahead, and some of L. -/
def Touch (M M' : Nat → Option Sec) (L : List Nat) : Prop := ∀ i, (M' i).isSome = true → (M i).isSome = true ∨ i ∈ L
theorem Touch.refl (M : Nat → Option Sec) (L : List Nat) : Touch M M L := fun i h => .inl h
theorem Touch.trans {M M' M'' : Nat → Option Sec} {L : List Nat} (h : Touch M M' L) (k : Touch M' M'' L) : Touch M M'' L := fun i hi => by
  rcases k i hi with q | q
  · exact h i q
  · exact .inr q
theorem Touch.mono {M M' : Nat → Option Sec} {L L' : List Nat} (h : Touch M M' L) (hL : ∀ i, i ∈ L → i ∈ L') : Touch M M' L' := fun i hi => (h i hi).imp id (hL i)
theorem Touch.wr1 {M M' : Nat → Option Sec} {L : List Nat} (h : Touch M M' L) {i : Nat} (hi : i ∈ L) (s : Sec) : Touch M (wr1 M' i s) L := fun k hk => by
  by_cases e : k = i
  · subst e; exact .inr hi
  · rw [wr1_ne e] at hk; exact h k hk
theorem len_le_sub : ∀ {A B : List Nat}, A.Nodup → (∀ a, a ∈ A → a ∈ B) → A.length ≤ B.length
  | [], B, _, _ => Nat.zero_le _
  | a :: A, B, hn, hs => by
    have ha := hs a (List.mem_cons_self ..)
    have hn' := List.nodup_cons.1 hn
    have h1 : A.length ≤ (B.erase a).length := len_le_sub hn'.2 fun x hx => by
      have hne : x ≠ a := fun e => hn'.1 (e ▸ hx)
      exact (List.mem_erase_of_ne hne).2 (hs x (List.mem_cons_of_mem _ hx))
    rw [List.length_erase_of_mem ha] at h1
    have := List.length_pos_of_mem ha
    rw [List.length_cons]; omega
theorem Touch.cnt {M M' : Nat → Option Sec} {L : List Nat} (h : Touch M M' L) {n : Nat} (ho : MOk M n) (ho' : MOk M' n) : cntM M' n ≤ cntM M n + L.length := by
  have := len_le_sub (B := keysM M n ++ L) (keysM_nodup M' n) fun i hi => by
    rw [List.mem_append]
    rcases h i ((mem_keysM ho').1 hi) with q | q
    · exact .inl ((mem_keysM ho).2 q)
    · exact .inr q
  rw [List.length_append] at this
  exact this
theorem SpAt.turnedR {w w' : World} {g : Sg} {M : Nat → Option Sec} (h : SpAt w g M) {S : List Nat} (hu : Upd S w w') (h1 : ∀ k, k ∈ S → k ∉ g.S ∧ k ≠ g.x.tb) (h2 : ∀ k, k ∈ S → ∀ c, w.heap[k]? ≠ some (.cells c 5 (0, 0))) : SpAt w' g M := by
  have hj : ∀ k, k ∈ g.j.all → k ∉ S := fun k hk hs => (h1 k hs).1 (by simp [Sg.S, hk])
  have hl := h.jr.at_.lt
  have hd := h.jr.at_.disk.lt
  exact ⟨h.jr.of (h.jr.at_.world (hu.block _ hl.1 (hj _ (by simp [JG.all]))) (hu.block _ hl.2 (hj _ (by simp [JG.all]))) (hu.block _ hd.1 (hj _ (by simp [JG.all]))) (hu.block _ hd.2.1 (hj _ (by simp [JG.all]))) (hu.block _ hd.2.2 (hj _ (by simp [JG.all])))
      (fun k c _ e => hu.block _ (blk_lt e) (fun q => h2 k q c e))),
    h.tx.upd hu (fun q => (h1 _ q).2 rfl) (fun q => (h1 _ q).1 (by simp [Sg.S])) (fun k c hk => h2 k hk c), h.ne, h.ok, h.len⟩
/-- All blocks of a transaction and its journal are there already. -/
theorem SpAt.lt {w : World} {g : Sg} {M : Nat → Option Sec} (h : SpAt w g M) : (∀ k, k ∈ g.S → k < w.heap.size) ∧ g.x.tb < w.heap.size := by
  have hl := h.jr.at_.lt
  have hd := h.jr.at_.disk.lt
  have ht := h.tx.lt
  refine ⟨fun k hk => ?_, ht.1⟩
  simp only [Sg.S, List.mem_cons, JG.all, List.not_mem_nil, or_false] at hk
  rcases hk with rfl | rfl | rfl | rfl | rfl | rfl
  · exact ht.2
  · exact hl.1
  · exact hl.2
  · exact hd.1
  · exact hd.2.1
  · exact hd.2.2
end Go.Proofs.YtceakcejchbbjaaGreat
end

section
set_option linter.unusedSimpArgs false
set_option linter.unusedVariables false
namespace Go.Proofs.YtceakcejchbbjaaGreat
open Go.RowKit Go.MapKept Go.ChangeMaps

theorem cell_updP {w w' : World} {S : List Nat} {a : Addr} {v : Value} (h : w.cell? a = some v) (hu : Upd S w w') (hS : a.block ∉ S) : w'.cell? a = some v := by
  rw [World.cell?_of_block (w := w) (hu.block _ (block_lt_of_cell h) hS)]; exact h
/-- A stat as a value. -/
def stV (x : Nat × Nat × Nat) : Value := .agg #[.int .i64 (x.1 : Int), .int .i64 (x.2.1 : Int), .int .i64 (x.2.2 : Int)]
/-- What room has found when q packs are looked at. -/
structure RoomI (K : Nat → Option Pk) (but : Int) (l q free : Nat) : Prop where
  le : free ≤ 64
  none_ : free < 64 → K free = Option.none ∧ free < q
  some_ : ∀ m, m < q → m < free → K m ≠ Option.none
  fit : ∀ m, m < q → ¬ FitsP K but l m
theorem RoomI.zero (K : Nat → Option Pk) (but : Int) (l : Nat) : RoomI K but l 0 64 := ⟨Nat.le_refl _, fun h => by omega, fun _ h => by omega, fun _ h => by omega⟩
theorem RoomI.stepNone {K : Nat → Option Pk} {but : Int} {l q free : Nat} (h : RoomI K but l q free) (hq : q < 64) (hk : K q = Option.none) : RoomI K but l (q + 1) (min free q) := by
  have hfit : ∀ m, m < q + 1 → ¬ FitsP K but l m := fun m hm => by
    by_cases e : m = q
    · subst e; rintro ⟨_, p, hp, _⟩; rw [hk] at hp; cases hp
    · exact h.fit m (by omega)
  by_cases hf : free < 64
  · obtain ⟨h1, h2⟩ := h.none_ hf
    have e : min free q = free := by omega
    rw [e]
    exact ⟨h.le, fun _ => ⟨h1, by omega⟩, fun m hm hm2 => h.some_ m (by omega) hm2, hfit⟩
  · have e : min free q = q := by have := h.le; omega
    rw [e]
    exact ⟨by omega, fun _ => ⟨hk, by omega⟩, fun m hm hm2 => h.some_ m hm2 (by have := h.le; omega), hfit⟩
theorem RoomI.stepSome {K : Nat → Option Pk} {but : Int} {l q free : Nat} (h : RoomI K but l q free) {p : Pk} (hk : K q = some p) (hn : ¬ FitsP K but l q) : RoomI K but l (q + 1) free := by
  refine ⟨h.le, fun hf => ⟨(h.none_ hf).1, by have := (h.none_ hf).2; omega⟩, fun m hm hm2 => ?_, fun m hm => ?_⟩
  · by_cases e : m = q
    · subst e; rw [hk]; exact fun e => by cases e
    · exact h.some_ m (by omega) hm2
  · by_cases e : m = q
    · subst e; exact hn
    · exact h.fit m (by omega)
theorem RoomI.found {K : Nat → Option Pk} {but : Int} {l q free : Nat} (h : RoomI K but l q free) (hq : q < 64) (hf : FitsP K but l q) : RoomR K but l q free :=
  ⟨by omega, fun _ => hf, h.fit, h.le, fun hf => (h.none_ hf).1, h.some_⟩
theorem RoomI.done {K : Nat → Option Pk} {but : Int} {l free : Nat} (h : RoomI K but l 64 free) : RoomR K but l 64 free :=
  ⟨Nat.le_refl _, fun h => by omega, h.fit, h.le, fun hf => (h.none_ hf).1, h.some_⟩
theorem results_st {fn : Func} {p u : Tmp} (h : fn.results = #[.cell p 119, .tmp u]) (tmps : Array Value) (w : World) (g : Nat) (x y z : Value)
    (hp : tmps.getD p undef = .pointer (some ⟨g, 0, none⟩)) (hg : w.heap[g]? = some (.cells #[x, y, z] 119 (0, 0))) :
    (results fn tmps).run Tryz.prog w = .ok (.tuple #[.agg #[x, y, z], tmps.getD u undef]) w := by
  have hp' : tmps[p]?.getD undef = .pointer (some ⟨g, 0, none⟩) := by simpa using hp
  have c0 : w.cell? ⟨g, 0, none⟩ = some x := by rw [blk_cell hg]; rfl
  have c1 : w.cell? ⟨g, 1, none⟩ = some y := by rw [blk_cell hg]; rfl
  have c2 : w.cell? ⟨g, 2, none⟩ = some z := by rw [blk_cell hg]; rfl
  simp [results, h, hp', asAddr, go_sem, c0, c1, c2]
theorem results_st3 {fn : Func} {p u v x : Tmp} (h : fn.results = #[.cell p 119, .tmp u, .tmp v, .tmp x]) (tmps : Array Value) (w : World) (g : Nat) (a b c : Value)
    (hp : tmps.getD p undef = .pointer (some ⟨g, 0, none⟩)) (hg : w.heap[g]? = some (.cells #[a, b, c] 119 (0, 0))) :
    (results fn tmps).run Tryz.prog w = .ok (.tuple #[.agg #[a, b, c], tmps.getD u undef, tmps.getD v undef, tmps.getD x undef]) w := by
  have hp' : tmps[p]?.getD undef = .pointer (some ⟨g, 0, none⟩) := by simpa using hp
  have c0 : w.cell? ⟨g, 0, none⟩ = some a := by rw [blk_cell hg]; rfl
  have c1 : w.cell? ⟨g, 1, none⟩ = some b := by rw [blk_cell hg]; rfl
  have c2 : w.cell? ⟨g, 2, none⟩ = some c := by rw [blk_cell hg]; rfl
  simp [results, h, hp', asAddr, go_sem, c0, c1, c2]
end Go.Proofs.YtceakcejchbbjaaGreat
end
