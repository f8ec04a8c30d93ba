/-
  The journal's contracts as the laws use them (the power stays); Place and Full.
-/
import Derived.Test.YtceakcejchbbjaaGreatGP
namespace Go.Proofs.YtceakcejchbbjaaGreat
open Go.RowKit

def AnyF : Nat → Prop := fun _ => True
theorem DiskAt.any {w : World} {F : Nat → Prop} {g : DG} {D : Dk} (h : DiskAt w F g D) : DiskAt w AnyF g D := h.mono fun _ _ => trivial
theorem JnAt.any {w : World} {F : Nat → Prop} {j : JG} {J : Jn} {D : Dk} (h : JnAt w F j J D) : JnAt w AnyF j J D := h.mono fun _ _ => trivial

/-- A disk in memory that holds a journal of n sectors, a ring, turn t, an anchor of a number of at most m, home sectors H. -/
structure DsAt (w : World) (g : DG) (J : Jn) (D : Dk) (n ring : Nat) (t m : Int) (H : Nat → Sec) : Prop where
  disk : DiskAt w AnyF g D
  held : Held D J
  arm : D.armed = -1
  n : D.n = n
  ring : J.last.ring = ring
  turn : J.turn = t
  num : J.last.number ≤ m
  home : J.home D = H
/-- A journal in memory, on its disk. -/
structure JrAt (w : World) (j : JG) (J : Jn) (D : Dk) (n ring : Nat) (t m : Int) (H : Nat → Sec) : Prop where
  at_ : JnAt w AnyF j J D
  live : Live D J
  arm : D.armed = -1
  n : D.n = n
  ring : J.last.ring = ring
  turn : J.turn = t
  num : J.last.number ≤ m
  home : J.home D = H
theorem JrAt.ds {w : World} {j : JG} {J : Jn} {D : Dk} {n ring : Nat} {t m : Int} {H : Nat → Sec} (h : JrAt w j J D n ring t m H) : DsAt w j.d J D n ring t m H :=
  ⟨h.at_.disk, h.live.held, h.arm, h.n, h.ring, h.turn, h.num, h.home⟩
theorem JrAt.of {w w' : World} {j : JG} {J : Jn} {D : Dk} {n ring : Nat} {t m : Int} {H : Nat → Sec} (h : JrAt w j J D n ring t m H) (ha : JnAt w' AnyF j J D) : JrAt w' j J D n ring t m H :=
  ⟨ha, h.live, h.arm, h.n, h.ring, h.turn, h.num, h.home⟩
theorem JrAt.below {w w' : World} {j : JG} {J : Jn} {D : Dk} {n ring : Nat} {t m : Int} {H : Nat → Sec} (h : JrAt w j J D n ring t m H) (hu : Upd [] w w') : JrAt w' j J D n ring t m H := h.of (h.at_.below hu)
theorem DsAt.below {w w' : World} {g : DG} {J : Jn} {D : Dk} {n ring : Nat} {t m : Int} {H : Nat → Sec} (h : DsAt w g J D n ring t m H) (hu : Upd [] w w') : DsAt w' g J D n ring t m H :=
  ⟨h.disk.world (hu.block _ h.disk.lt.1 (by simp)) (hu.block _ h.disk.lt.2.1 (by simp)) (hu.block _ h.disk.lt.2.2 (by simp)) (fun _ _ _ hk => hu.block _ (blk_lt hk) (by simp)), h.held, h.arm, h.n, h.ring, h.turn, h.num, h.home⟩
/-- Blocks of other kinds may turn. -/
theorem JrAt.own {w w' : World} {j : JG} {J : Jn} {D : Dk} {n ring : Nat} {t m : Int} {H : Nat → Sec} (h : JrAt w j J D n ring t m H) {S : List Nat} (hu : Upd S w w')
    (hS : ∀ k, k ∈ S → ∃ c t fr, w.heap[k]? = some (.cells c t fr) ∧ t ≠ 197 ∧ t ≠ 234 ∧ t ≠ 37 ∧ t ≠ 5) : JrAt w' j J D n ring t m H := by
  have hk : ∀ k, k ∈ j.all → k ∉ S := fun k hk hs => by
    obtain ⟨c, t, fr, e, e1, e2, e3, _⟩ := hS k hs
    exact h.at_.kind e e1 e2 e3 hk
  exact h.of (h.at_.world (hu.block _ h.at_.lt.1 (hk _ (by simp [JG.all]))) (hu.block _ h.at_.lt.2 (hk _ (by simp [JG.all]))) (hu.block _ h.at_.disk.lt.1 (hk _ (by simp [JG.all]))) (hu.block _ h.at_.disk.lt.2.1 (hk _ (by simp [JG.all]))) (hu.block _ h.at_.disk.lt.2.2 (hk _ (by simp [JG.all])))
    (fun k c _ e => hu.block _ (blk_lt e) (fun q => by
      obtain ⟨c', t, fr, e', _, _, _, e4⟩ := hS k q
      rw [e] at e'; simp at e'; exact e4 e'.2.1.symm)))

theorem open_hi {w : World} {g : DG} {J : Jn} {D : Dk} {n ring : Nat} {t m : Int} {H : Nat → Sec} (h : DsAt w g J D n ring t m H) (ht : t < 1000000) (hm : m < 1000000) :
    Calls Tryz.prog 100 #[.pointer (some ⟨g.db, 0, none⟩)] w fun e w' => ∃ jb ab, e = .returned (.tuple #[.pointer (some ⟨jb, 0, none⟩), .int .i64 0]) ∧ w.heap.size ≤ jb ∧ w.heap.size ≤ ab ∧ (∃ J' D', JrAt w' ⟨jb, ab, g⟩ J' D' n ring t (m + 1) H ∧ J'.used = 0) ∧ Upd [g.db, g.lb, g.mb] w w' := by
  refine (open_main h.disk h.held.calm.off).mono ?_
  rintro e w' ⟨D', r, err, ho, hat, hu⟩
  have h1 := h.num
  have h2 := h.turn
  rcases h.held.open ⟨by omega, by omega⟩ ho with ⟨rfl, J', rfl, q1, q2, q3, q4, q5, q6, q7, q8⟩ | ⟨_, _, q, _⟩
  · obtain ⟨jb, ab, e1, e2, e3, e4⟩ := hat
    exact ⟨jb, ab, e1, e2, e3, ⟨J', D', ⟨e4.any, q1, q8 h.arm, q7.trans h.n, q5.trans h.ring, q4.trans h.turn, by omega, q2.trans h.home⟩, q3⟩, hu⟩
  · exact absurd h.arm q

theorem new_fmt_hi {w : World} {F : Nat → Prop} {g : DG} {n : Nat} (h : DiskAt w F g (Dk.new n)) (h0 : 32 ≤ n) (h1 : n ≤ 4096) (ring : Nat) (r0 : 8 ≤ ring) (r1 : ring ≤ 1024) (r2 : ring + 10 ≤ n) :
    Calls Tryz.prog 99 #[.pointer (some ⟨g.db, 0, none⟩), .int .i64 (ring : Int)] w fun e w' => e = .returned (.int .i64 0) ∧ DsAt w' g (Jn.fresh ring) ((Dk.new n).fmt ring) n ring 1 1 (fun _ => zsec) ∧ Upd [g.db, g.lb, g.mb] w w' := by
  obtain ⟨a1, a2, a3, a4⟩ := fmt_live h0 h1 r0 r1 r2
  refine (fmt_ok h ⟨rfl, rfl⟩ ring r0 r1 r2).mono ?_
  rintro e w' ⟨e1, e2, e3⟩
  exact ⟨e1, ⟨e2.any, a1.held, a4, a3, rfl, rfl, by show (1 : Int) ≤ 1; omega, a2⟩, e3⟩

/-- May a list be committed? 0: it may. -/
def fitsR (n ring : Nat) (l : List Put) : Int :=
  if fitsL (n - 2 - ring) [] l ≠ 0 then fitsL (n - 2 - ring) [] l else if 40 < l.length ∨ ring ≤ l.length then 2 else 0
theorem JrAt.fits {w : World} {j : JG} {J : Jn} {D : Dk} {n ring : Nat} {t m : Int} {H : Nat → Sec} (h : JrAt w j J D n ring t m H) (l : List Put) : J.fits D.n l = fitsR n ring l := by
  unfold Jn.fits Jn.homes fitsR; rw [h.n, h.ring]
theorem JrAt.used {w : World} {j : JG} {J : Jn} {D : Dk} {n ring : Nat} {t m : Int} {H : Nat → Sec} (h : JrAt w j J D n ring t m H) : J.used ≤ 1024 := by
  have := h.live.held.used
  have := h.live.held.jok.ring1
  omega
theorem com_hi {w : World} {j : JG} {J : Jn} {D : Dk} {n ring : Nat} {t m : Int} {H : Nat → Sec} (h : JrAt w j J D n ring t m H) (v : Value) (l : List Put) (hp : PutsAt w v l) (hf : fitsR n ring l = 0) (h0 : l ≠ []) (ht : t < 1000000) (hm : m < 1000000) :
    Calls Tryz.prog 68 #[.pointer (some ⟨j.jb, 0, none⟩), v] w fun e w' => e = .returned (.int .i64 0) ∧ (∃ J' D', JrAt w' j J' D' n ring (t + 1) (m + 1) (putsH H l) ∧ (J.used = 0 → J'.used = 1 + l.length)) ∧ Upd j.all w w' := by
  have hf' : J.fits D.n l = 0 := (h.fits l).trans hf
  have hu := h.used
  have h1 := h.num
  have h2 := h.turn
  refine (com_spec h.at_ v l hp (by have := (fits_parts hf').1; omega) (by omega)).mono ?_
  rintro e w' ⟨rfl, e2, e3⟩
  rcases h.live.com ⟨by omega, by omega⟩ (by omega) hf' h0 with ⟨q1, q2, q3, q4, q5, q6, q7, q8, q9⟩ | ⟨_, q, _⟩
  · rw [q1]
    exact ⟨rfl, ⟨_, _, ⟨e2.any, q2, q8 h.arm, q7.trans h.n, q5.trans h.ring, by omega, by omega, by rw [q3, h.home]⟩, q9⟩, e3⟩
  · exact absurd h.arm q
theorem comNo_hi {w : World} {j : JG} {J : Jn} {D : Dk} {n ring : Nat} {t m : Int} {H : Nat → Sec} (h : JrAt w j J D n ring t m H) (v : Value) (l : List Put) (hp : PutsAt w v l) (hl : l.length ≤ 1000000) (hf : fitsR n ring l ≠ 0 ∨ l = []) :
    Calls Tryz.prog 68 #[.pointer (some ⟨j.jb, 0, none⟩), v] w fun e w' => e = .returned (.int .i64 (fitsR n ring l)) ∧ JrAt w' j J D n ring t m H ∧ Upd j.all w w' := by
  have hu := h.used
  obtain ⟨q1, q2⟩ := h.live.comNo (l := l) (hf.imp (fun q => by rw [h.fits]; exact q) id)
  refine (com_spec h.at_ v l hp hl (by omega)).mono ?_
  rintro e w' ⟨rfl, e2, e3⟩
  rw [q1, q2] at e2
  rw [q1]
  exact ⟨by show Ending.returned (.int .i64 (J.fits D.n l)) = _; rw [h.fits], h.of e2.any, e3⟩
theorem read_hi {w : World} {j : JG} {J : Jn} {D : Dk} {n ring : Nat} {t m : Int} {H : Nat → Sec} (h : JrAt w j J D n ring t m H) (i : Nat) (hi : i + 2 + ring < n) :
    Calls Tryz.prog 162 #[.pointer (some ⟨j.jb, 0, none⟩), .int .i64 (i : Int)] w fun e w' => ∃ v, e = .returned (.tuple #[v, .int .i64 0]) ∧ OwnN w' 5 (fun k => w.heap.size ≤ k) v (H i) ∧ JrAt w' j J D n ring t m H ∧ Upd [j.jb] w w' := by
  refine (readJ_spec h.at_ (i : Int)).mono ?_
  rintro e w' ⟨v, e1, e2, e3, e4⟩
  have hd := h.live.held.done
  have hr : J.read D (i : Int) = (H i, 0, false) := by
    unfold Jn.read
    have hm := h.live.held.may
    have h1 := h.n
    have h2 := h.ring
    rw [if_neg (by rw [hm]; decide), if_neg (by unfold Jn.homes; omega)]
    have hh : J.home D (i : Int).toNat = H i := by rw [h.home]; rfl
    split
    · rw [hh, hd]
    · rw [if_neg (by rw [h.live.held.calm.off]; decide), hh]
  rw [hr] at e1 e2 e3
  have : ({ J with done := false } : Jn) = J := by rw [← hd]
  exact ⟨v, e1, e2, h.of (by rw [← this]; exact e3), e4⟩
theorem homes_hi {w : World} {j : JG} {J : Jn} {D : Dk} {n ring : Nat} {t m : Int} {H : Nat → Sec} (h : JrAt w j J D n ring t m H) :
    Calls Tryz.prog 102 #[.pointer (some ⟨j.jb, 0, none⟩)] w fun e w' => e = .returned (.int .i64 ((n - 2 - ring : Nat) : Int)) ∧ ∃ k, w' = w.drewN k := by
  have := homes_spec h.at_
  unfold Jn.homes at this
  rw [h.n, h.ring] at this
  exact this
theorem turn_hi {w : World} {j : JG} {J : Jn} {D : Dk} {n ring : Nat} {t m : Int} {H : Nat → Sec} (h : JrAt w j J D n ring t m H) :
    Calls Tryz.prog 65 #[.pointer (some ⟨j.jb, 0, none⟩)] w fun e w' => e = .returned (.int .u64 (t - 1)) ∧ w = w' := by
  have := turn_spec h.at_
  rw [h.turn] at this
  exact this
theorem RdL.nil (w : World) (S : List Nat) : RdL w S (.slice none 0 0) [] := ⟨none, 0, rfl, Nat.le_refl _, fun h => absurd h (by simp)⟩

/-- A number from 0 to n - 1, whatever k. -/
def placeN (k : Int) (n : Nat) : Nat := (k % (n : Int)).toNat
theorem placeN_lt {k : Int} {n : Nat} (h : 1 ≤ n) : placeN k n < n := by
  unfold placeN
  have := Int.emod_lt_of_pos k (show (0 : Int) < n by omega)
  have := Int.emod_nonneg k (show (n : Int) ≠ 0 by omega)
  omega
theorem placeN_int {k : Int} {n : Nat} (h : 1 ≤ n) : ((placeN k n : Nat) : Int) = k % (n : Int) := by
  unfold placeN
  have := Int.emod_nonneg k (show (n : Int) ≠ 0 by omega)
  omega
set_option maxHeartbeats 400000 in
theorem place_spec (k : Int) (n : Nat) (w : World) (hn : 1 ≤ n) (hn2 : n ≤ 1000000) :
    Calls Tryz.prog 13 #[.int .i64 k, .int .i64 (n : Int)] w fun e w' => e = .returned (.int .i64 ((placeN k n : Nat) : Int)) ∧ w = w' := by
  have hdiv : k.tmod (n : Int) = k % (n : Int) - ((if 0 ≤ k ∨ (n : Int) ∣ k then 0 else (n : Int).natAbs : Nat) : Int) := Int.tmod_eq_emod ..
  have hp := placeN_int (k := k) hn
  have hlt := placeN_lt (k := k) hn
  have habs : (n : Int).natAbs = n := by omega
  rw [habs, ← hp] at hdiv
  by_cases hc : k.tmod (n : Int) < 0
  · have HE : Hid (k.tmod (n : Int) + (n : Int) = ((placeN k n : Nat) : Int)) := by
      show _ = _
      split at hdiv <;> omega
    have hb : decide (k.tmod (n : Int) < 0) = true := by simpa using hc
    have hlo : -1000000 ≤ k.tmod (n : Int) := by split at hdiv <;> omega
    clear hdiv hp
    go_enter Tryz.func13, Tryz.ntmps13
    go_wp2
    go_ret
    exact ⟨ret_int HE.out, rfl⟩
  · have HE : Hid (k.tmod (n : Int) = ((placeN k n : Nat) : Int)) := by
      show _ = _
      split at hdiv <;> omega
    have hb : decide (k.tmod (n : Int) < 0) = false := by simpa using hc
    clear hdiv hp
    go_enter Tryz.func13, Tryz.ntmps13
    go_wp2
    go_ret
    exact ⟨ret_int HE.out, rfl⟩

end Go.Proofs.YtceakcejchbbjaaGreat

namespace Go.Proofs.YtceakcejchbbjaaGreat
open Go.RowKit

theorem run_build_9 (w : World) : (Instr.buildSlice 37 1 #[(0, .int .u8 9)]).run Tryz.prog w = .ok (.slice (some ⟨w.heap.size, 0, none⟩) 1 1) (w.alloc (.cells #[.int .u8 9] 5)) := by kernel_rfl
theorem run_build_put (i : Int) (ad : Option Addr) (n c : Nat) (w : World) : (Instr.buildSlice 131 1 #[(0, .agg #[.int .i64 i, .slice ad n c])]).run Tryz.prog w = .ok (.slice (some ⟨w.heap.size, 0, none⟩) 1 1) (w.alloc (.cells #[.int .i64 i, .slice ad n c] 137)) := by kernel_rfl

theorem putsAt_one {w : World} (i : Int) (ad : Option Addr) (n c : Nat) (b : List UInt8) (h : Rd w (.slice ad n c) b) :
    PutsAt (w.alloc (.cells #[.int .i64 i, .slice ad n c] 137)) (.slice (some ⟨w.heap.size, 0, none⟩) 1 1) [(i, b)] := by
  refine ⟨[(i, .slice ad n c)], ⟨by simp [putCells], .inr ⟨w.heap.size, 1, #[.int .i64 i, .slice ad n c], rfl, Nat.zero_le _, blk_alloc _, Nat.le_refl _, by unfold maxLen; omega, by simp, by simp [putCells]⟩⟩, rfl, fun k p hp => ?_⟩
  cases k with
  | zero => simp at hp; subst hp; exact ⟨(i, b), rfl, rfl, h.alloc _⟩
  | succ k => simp at hp

theorem alloc_size (w : World) (o : Obj) : (w.alloc o).heap.size = w.heap.size + 1 := by simp
theorem blk_alloc2 {w : World} (o o2 : Obj) : ((w.alloc o).alloc o2).heap[w.heap.size + 1]? = some o2 := by rw [← alloc_size w o]; exact blk_alloc _
theorem rd_row {w : World} {k : Nat} {l : List UInt8} (h : w.heap[k]? = some (.cells (bts l).toArray 5 (0, 0))) {n : Nat} (hn : l.length = n) : Rd w (.slice (some ⟨k, 0, none⟩) n n) l := by
  subst hn
  have : Own w 5 (fun _ => True) (.slice (some ⟨k, 0, none⟩) l.length l.length) l := ⟨k, [], trivial, rfl, by simpa using h⟩
  exact this.rd
theorem new_hi (n : Nat) (h0 : 32 ≤ n) (h1 : n ≤ 4096) (w : World) :
    Calls Tryz.prog 98 #[.int .i64 (n : Int)] w fun e w' => ∃ g : DG, e = .returned (.pointer (some ⟨g.db, 0, none⟩)) ∧ DiskAt w' (fun _ => False) g (Dk.new n) ∧ w.heap.size ≤ g.db ∧ w.heap.size ≤ g.lb ∧ w.heap.size ≤ g.mb ∧ Upd [] w w' := by
  refine (new_spec n h0 h1 w).mono ?_
  rintro e w' ⟨e1, e2, e3⟩
  exact ⟨_, e1, e2, by show w.heap.size ≤ w.heap.size + 2; omega, by show w.heap.size ≤ w.heap.size; omega, by show w.heap.size ≤ w.heap.size + 1; omega, e3⟩
/-- A sector's row: its shape and its cells. -/
theorem OwnN.sec {w : World} {F : Nat → Prop} {v : Value} {l : Sec} (h : OwnN w 5 F v l) (hl : l.length = 512) : ∃ k c, v = .slice (some ⟨k, 0, none⟩) 512 c ∧ 512 ≤ c ∧ F k ∧ ∀ i (q : i < 512), w.cell? ⟨k, i, none⟩ = some (bv (l[i]'(by omega))) := by
  obtain ⟨k, rest, hF, hv, hb⟩ := h.own (by omega)
  refine ⟨k, l.length + rest.length, by rw [hv, hl], by omega, hF, fun i q => ?_⟩
  rw [blk_cell hb]
  simp [List.getElem?_append_left, bts, hl, q]
/-- All blocks of a disk are new since w. -/
def DG.Late (g : DG) (w : World) : Prop := w.heap.size ≤ g.db ∧ w.heap.size ≤ g.lb ∧ w.heap.size ≤ g.mb
def JG.Late (j : JG) (w : World) : Prop := w.heap.size ≤ j.jb ∧ w.heap.size ≤ j.ab ∧ j.d.Late w
theorem Upd.lateD {a b c : World} {g : DG} (h : Upd [] a b) (k : Upd [g.db, g.lb, g.mb] b c) (hg : g.Late a) : Upd [] a c :=
  h.late k fun i hi => by
    obtain ⟨h1, h2, h3⟩ := hg
    simp at hi; rcases hi with rfl | rfl | rfl
    · exact .inr h1
    · exact .inr h2
    · exact .inr h3
theorem Upd.lateJ {a b c : World} {j : JG} (h : Upd [] a b) (k : Upd j.all b c) (hj : j.Late a) : Upd [] a c :=
  h.late k fun i hi => by
    obtain ⟨h0, h00, h1, h2, h3⟩ := hj
    simp [JG.all] at hi; rcases hi with rfl | rfl | rfl | rfl | rfl
    · exact .inr h0
    · exact .inr h00
    · exact .inr h1
    · exact .inr h2
    · exact .inr h3
theorem Upd.lateR {a b c : World} {j : JG} (h : Upd [] a b) (k : Upd [j.jb] b c) (hj : j.Late a) : Upd [] a c :=
  h.late k fun i hi => by simp at hi; subst hi; exact .inr hj.1

end Go.Proofs.YtceakcejchbbjaaGreat

namespace Go.Proofs.YtceakcejchbbjaaGreat
open Go.RowKit

/-- A journal without a disk: none, or a zero one. -/
def zeroJ : Array Value := #[.pointer none, .int .i64 0, .bool false, .int .u64 0, .int .u64 0, .int .i64 0, .int .i64 0, .int .u64 0, .int .i64 0, .int .i64 0, .map none]

set_option maxHeartbeats 400000 in
theorem mayJ_nil (w : World) : Calls Tryz.prog 111 #[.pointer none] w fun e w' => e = .returned (.int .i64 1) ∧ ∃ n, w' = w.drewN n := by
  go_enter Tryz.func111, Tryz.ntmps111
  go_wp2
  go_ret
  exact ⟨rfl, 0, rfl⟩
set_option maxHeartbeats 400000 in
theorem mayJ_zero {w : World} {b : Nat} (h : w.heap[b]? = some (.cells zeroJ 197 (0, 0))) : Calls Tryz.prog 111 #[.pointer (some ⟨b, 0, none⟩)] w fun e w' => e = .returned (.int .i64 1) ∧ ∃ n, w' = w.drewN n := by
  have hc := blk_cell h
  simp only [zeroJ] at hc
  clear h
  go_enter Tryz.func111, Tryz.ntmps111
  go_wp2
  go_ret
  exact ⟨rfl, 0, rfl⟩
set_option maxHeartbeats 400000 in
theorem readJ_nil (i : Int) (w : World) : Calls Tryz.prog 162 #[.pointer none, .int .i64 i] w fun e w' => e = .returned (.tuple #[.slice none 0 0, .int .i64 1]) ∧ ∃ n, w' = w.drewN n := by
  have H := Lib.hid (mayJ_nil w)
  go_enter Tryz.func162, Tryz.ntmps162
  go_wp2_with fail
  refine H.out.mono ?_
  rintro e w1 ⟨rfl, n, rfl⟩
  go_wp2_with fail
  go_ret2
  exact ⟨rfl, _, rfl⟩
set_option maxHeartbeats 400000 in
theorem readJ_zero (i : Int) {w : World} {b : Nat} (h : w.heap[b]? = some (.cells zeroJ 197 (0, 0))) : Calls Tryz.prog 162 #[.pointer (some ⟨b, 0, none⟩), .int .i64 i] w fun e w' => e = .returned (.tuple #[.slice none 0 0, .int .i64 1]) ∧ ∃ n, w' = w.drewN n := by
  have H := Lib.hid (mayJ_zero h)
  clear h
  go_enter Tryz.func162, Tryz.ntmps162
  go_wp2_with fail
  refine H.out.mono ?_
  rintro e w1 ⟨rfl, n, rfl⟩
  go_wp2_with fail
  go_ret2
  exact ⟨rfl, _, rfl⟩
set_option maxRecDepth 100000 in
set_option maxHeartbeats 400000 in
theorem com_nil (v : Value) (w : World) : Calls Tryz.prog 68 #[.pointer none, v] w fun e w' => e = .returned (.int .i64 1) ∧ ∃ n, w' = w.drewN n := by
  have H := Lib.hid (mayJ_nil w)
  go_enter Tryz.func68, Tryz.ntmps68
  go_wp2_with fail
  refine H.out.mono ?_
  rintro e w1 ⟨rfl, n, rfl⟩
  go_wp2_with fail
  go_ret
  exact ⟨rfl, _, rfl⟩
set_option maxHeartbeats 400000 in
theorem ck_zero {w : World} {b : Nat} (h : w.heap[b]? = some (.cells zeroJ 197 (0, 0))) : Calls Tryz.prog 114 #[.pointer (some ⟨b, 0, none⟩)] w fun e w' => e = .returned (.int .i64 1) ∧ ∃ n, w' = w.drewN n := by
  have H := Lib.hid (mayJ_zero h)
  clear h
  go_enter Tryz.func114, Tryz.ntmps114
  go_wp2_with fail
  refine H.out.mono ?_
  rintro e w1 ⟨rfl, n, rfl⟩
  go_wp2_with fail
  go_ret
  exact ⟨rfl, _, rfl⟩
set_option maxHeartbeats 400000 in
theorem homes_nil (w : World) : Calls Tryz.prog 102 #[.pointer none] w fun e w' => e = .returned (.int .i64 0) ∧ ∃ n, w' = w.drewN n := by
  go_enter Tryz.func102, Tryz.ntmps102
  go_wp2
  go_ret
  exact ⟨rfl, 0, rfl⟩
set_option maxHeartbeats 400000 in
theorem homes_zero {w : World} {b : Nat} (h : w.heap[b]? = some (.cells zeroJ 197 (0, 0))) : Calls Tryz.prog 102 #[.pointer (some ⟨b, 0, none⟩)] w fun e w' => e = .returned (.int .i64 0) ∧ ∃ n, w' = w.drewN n := by
  have hc := blk_cell h
  simp only [zeroJ] at hc
  clear h
  go_enter Tryz.func102, Tryz.ntmps102
  go_wp2
  go_ret
  exact ⟨rfl, 0, rfl⟩
set_option maxHeartbeats 400000 in
theorem free_nil (w : World) : Calls Tryz.prog 113 #[.pointer none] w fun e w' => e = .returned (.int .i64 0) ∧ ∃ n, w' = w.drewN n := by
  go_enter Tryz.func113, Tryz.ntmps113
  go_wp2
  go_ret
  exact ⟨rfl, 0, rfl⟩
set_option maxHeartbeats 400000 in
theorem free_zero {w : World} {b : Nat} (h : w.heap[b]? = some (.cells zeroJ 197 (0, 0))) : Calls Tryz.prog 113 #[.pointer (some ⟨b, 0, none⟩)] w fun e w' => e = .returned (.int .i64 0) ∧ ∃ n, w' = w.drewN n := by
  have hc := blk_cell h
  simp only [zeroJ] at hc
  clear h
  go_enter Tryz.func113, Tryz.ntmps113
  go_wp2
  go_ret
  exact ⟨rfl, 0, rfl⟩
set_option maxHeartbeats 400000 in
theorem turn_nil (w : World) : Calls Tryz.prog 65 #[.pointer none] w fun e w' => e = .returned (.int .u64 0) ∧ ∃ n, w' = w.drewN n := by
  go_enter Tryz.func65, Tryz.ntmps65
  go_wp2
  go_ret
  exact ⟨rfl, 0, rfl⟩
set_option maxHeartbeats 400000 in
theorem turn_zero {w : World} {b : Nat} (h : w.heap[b]? = some (.cells zeroJ 197 (0, 0))) : Calls Tryz.prog 65 #[.pointer (some ⟨b, 0, none⟩)] w fun e w' => e = .returned (.int .u64 0) ∧ ∃ n, w' = w.drewN n := by
  have hc := blk_cell h
  simp only [zeroJ] at hc
  clear h
  go_enter Tryz.func65, Tryz.ntmps65
  go_wp2
  go_ret
  exact ⟨rfl, 0, rfl⟩

/-- A ring that leaves fewer than eight home sectors. -/
theorem fmt_bad {w : World} {F : Nat → Prop} {g : DG} {D : Dk} (h : DiskAt w F g D) (ring : Nat) (h0 : 8 ≤ ring) (h1 : ring ≤ 1024) (h2 : D.n < ring + 10) :
    Calls Tryz.prog 99 #[.pointer (some ⟨g.db, 0, none⟩), .int .i64 (ring : Int)] w fun e w' => e = .returned (.int .i64 1) ∧ w = w' := by
  have H := Lib.hid h
  have hn := h.ok.n0
  have hn1 := h.ok.n1
  have hn' : ((D.n : Int) == 0) = false := beq_eq_false_iff_ne.2 (by omega)
  clear h
  go_enter Tryz.func99, Tryz.ntmps99
  go_wp2_with (go_at_call 150; refine (len_spec H.out).mono ?_; rintro e w' ⟨rfl, rfl⟩)
  go_ret
  exact ⟨rfl, rfl⟩
set_option maxRecDepth 100000 in
theorem open_none {w : World} {F : Nat → Prop} {g : DG} {n : Nat} (h : DiskAt w F g (Dk.new n)) :
    Calls Tryz.prog 100 #[.pointer (some ⟨g.db, 0, none⟩)] w fun e w' => e = .returned (.tuple #[.pointer none, .int .i64 5]) ∧ Upd [g.db, g.lb, g.mb] w w' := by
  refine (open_main h rfl).mono ?_
  rintro e w' ⟨D', r, err, ho, hat, hu⟩
  have hz : tagOf zsec = 0 := by
    have a : num zsec 0 8 = 0 := by decide +kernel
    have b : num zsec 504 8 = 0 := by decide +kernel
    unfold tagOf numI; rw [a, b]; rfl
  have hanc : (Dk.new n).anc.number = 0 := by
    have hs : ∀ i, (Dk.new n).ancStep ⟨0, 0, 0, 0⟩ i = ⟨0, 0, 0, 0⟩ := fun i => by
      unfold Dk.ancStep
      rw [if_neg]
      rintro ⟨_, q⟩
      have q2 : (0 : Int) < tagOf zsec := q
      rw [hz] at q2
      exact absurd q2 (by decide)
    show ((Dk.new n).ancStep ((Dk.new n).ancStep ⟨0, 0, 0, 0⟩ 0) 1).number = 0
    rw [hs, hs]
  cases ho with
  | off q => simp [Dk.new] at q
  | none _ _ => exact ⟨hat.1, hu⟩
  | keep _ q _ => exact absurd hanc q
  | full _ q _ _ _ => exact absurd hanc q
  | fail _ q _ _ _ _ _ => exact absurd hanc q
  | ok _ q _ _ _ _ _ => exact absurd hanc q

end Go.Proofs.YtceakcejchbbjaaGreat

namespace Go.Proofs.YtceakcejchbbjaaGreat
open Go.RowKit

theorem JrAt.kept {w w' : World} {j : JG} {J : Jn} {D : Dk} {n ring : Nat} {t m : Int} {H : Nat → Sec} (h : JrAt w j J D n ring t m H) (hk : ∀ k, k < w.heap.size → (∀ c, w.heap[k]? ≠ some (.cells c 137 (0, 0))) → w'.heap[k]? = w.heap[k]?) : JrAt w' j J D n ring t m H := h.of (h.at_.kept hk)
/-- A put is appended to a list of the law's own. -/
theorem puts_push {w w0 : World} {B : Nat} {v : Value} {l : List Put} (hp : PutsOwnB w B AnyF v l) (hl : l.length ≤ 100000) (hB : B ≤ w.heap.size) (h0 : Upd [] w0 w) (hB0 : w0.heap.size ≤ B) (i : Int) (k n c : Nat) (s : List UInt8) (hd : Own w 5 AnyF (.slice (some ⟨k, 0, none⟩) n c) s) :
    ∃ a b c' w', (∀ ty, (Builtin.append_ #[131, 131] ty #[v, .slice (some ⟨w.heap.size, 0, none⟩) 1 1]).run Tryz.prog (w.alloc (.cells #[.int .i64 i, .slice (some ⟨k, 0, none⟩) n c] 137)) = .ok (.slice a b c') w') ∧ PutsOwnB w' B AnyF (.slice a b c') (l ++ [(i, s)]) ∧
      (∀ k, k < w.heap.size → (∀ c, w.heap[k]? ≠ some (.cells c 137 (0, 0))) → w'.heap[k]? = w.heap[k]?) ∧ Upd [] w0 w' ∧ B ≤ w'.heap.size := by
  obtain ⟨v', w', hrun, hm', hk', hl', hg'⟩ := (PutsOwnB.keep (w' := w.alloc (.cells #[.int .i64 i, .slice (some ⟨k, 0, none⟩) n c] 137)) hp (fun q c hq => blk_alloc_ne (blk_lt hq)) (fun q c _ hq => blk_alloc_ne (blk_lt hq))).append hl (by simp; omega) w.heap.size i (.slice (some ⟨k, 0, none⟩) n c) s (blk_alloc _)
    (hd.world fun q c _ hq => blk_alloc_ne (blk_lt hq)) rfl
  obtain ⟨a, b, c', rfl⟩ := hm'.shape3
  have hsz := hg'.size
  refine ⟨a, b, c', w', hrun, hm', fun q hq ht => ?_, (h0.alloc _).low (fun q hq => hl' q (by omega) (by have := h0.size; simp; omega)) ⟨hg'.size, hg'.os, hg'.tape, hg'.output⟩, by simp at hsz; omega⟩
  rw [hk' q (by simp; omega) (fun c e => ht c (by rw [blk_alloc_ne hq] at e; exact e)), blk_alloc_ne hq]

theorem new_fmt_hiI {w : World} {F : Nat → Prop} {g : DG} {n : Nat} (h : DiskAt w F g (Dk.new n)) (h0 : 32 ≤ n) (h1 : n ≤ 4096) (ri : Int) (ring : Nat) (hri : ri = (ring : Int)) (r0 : 8 ≤ ring) (r1 : ring ≤ 1024) (r2 : ring + 10 ≤ n) :
    Calls Tryz.prog 99 #[.pointer (some ⟨g.db, 0, none⟩), .int .i64 ri] w fun e w' => e = .returned (.int .i64 0) ∧ DsAt w' g (Jn.fresh ring) ((Dk.new n).fmt ring) n ring 1 1 (fun _ => zsec) ∧ Upd [g.db, g.lb, g.mb] w w' := by
  subst hri; exact new_fmt_hi h h0 h1 ring r0 r1 r2
theorem PutsOwnB.block {w : World} {B : Nat} {F : Nat → Prop} {v : Value} {l : List Put} (h : PutsOwnB w B F v l) (hne : l ≠ []) : ∃ g cap cur ps, v = .slice (some ⟨g, 0, none⟩) l.length cap ∧ B ≤ g ∧ w.heap[g]? = some (.cells cur 137 (0, 0)) ∧ l.length ≤ cap ∧ cap ≤ maxLen ∧ cur.size = cap * 2 ∧ cur.toList.take (l.length * 2) = putCells ps ∧ ps.length = l.length ∧
    ∀ (k : Nat) (p : Int × Value), ps[k]? = some p → ∃ q : Put, l[k]? = some q ∧ p.1 = q.1 ∧ Own w 5 F p.2 q.2 := by
  obtain ⟨ps, g1, g2, g3⟩ := h
  rcases g1.2 with ⟨_, h0⟩ | ⟨g, cap, cur, e, hb, hg, hc, hmx, hs, ht⟩
  · exact absurd (List.eq_nil_of_length_eq_zero (g2.symm.trans h0)) hne
  · exact ⟨g, cap, cur, ps, by rw [e, g2], hb, hg, by omega, hmx, hs, by rw [← g2]; exact ht, g2, g3⟩
/-- The first k of a list of zeros. -/
def zl (k : Nat) : List Put := (List.range k).map fun (i : Nat) => ((i : Int), zsec)
theorem zl_succ (k : Nat) : zl (k + 1) = zl k ++ [((k : Int), zsec)] := by unfold zl; rw [List.range_succ, List.map_append]; rfl
theorem zl_length (k : Nat) : (zl k).length = k := by simp [zl]
theorem zl_get (k : Nat) {i : Nat} (h : i < (zl k).length) : (zl k)[i] = ((i : Int), zsec) := by simp [zl]

theorem take_set2 {L : List Value} {n : Nat} {A B : Value} (h : n * 2 + 2 ≤ L.length) : ((L.set (n * 2) A).set (n * 2 + 1) B).take ((n + 1) * 2) = L.take (n * 2) ++ [A, B] := by
  apply List.ext_getElem?
  intro i
  rw [List.getElem?_take, List.getElem?_append, List.length_take]
  have hmin : min (n * 2) L.length = n * 2 := by omega
  rw [hmin]
  by_cases h1 : i < n * 2
  · rw [if_pos (by omega), if_pos h1, List.getElem?_set_ne (by omega), List.getElem?_set_ne (by omega), List.getElem?_take_of_lt h1]
  · rw [if_neg h1]
    by_cases h2 : i = n * 2
    · subst h2
      rw [if_pos (by omega), List.getElem?_set_ne (by omega), List.getElem?_set_self (by omega), Nat.sub_self]; rfl
    · by_cases h3 : i = n * 2 + 1
      · subst h3
        rw [if_pos (by omega), List.getElem?_set_self (by rw [List.length_set]; omega), show n * 2 + 1 - n * 2 = 1 from by omega]; rfl
      · rw [if_neg (by omega), List.getElem?_eq_none (by simp; omega)]
theorem puts_set {W : World} {gb cap n : Nat} {cur cur' : Array Value} {ps : List (Int × Value)} {l : List Put} {AT : Int} {d : Value} {s : List UInt8} (htk : cur.toList.take ((n + 1) * 2) = putCells ps) (hps : ps.length = n + 1) (hl : l.length = n + 1)
    (hget : ∀ (k : Nat) (p : Int × Value), ps[k]? = some p → ∃ q : Put, l[k]? = some q ∧ p.1 = q.1 ∧ Rd W p.2 q.2) (hb : W.heap[gb]? = some (.cells cur' 137 (0, 0))) (hc : cur'.toList.take ((n + 1) * 2) = cur.toList.take (n * 2) ++ [.int .i64 AT, d])
    (hcap : n + 1 ≤ cap) (hmx : cap ≤ maxLen) (hsz : cur'.size = cap * 2) (hd : Rd W d s) : PutsAt W (.slice (some ⟨gb, 0, none⟩) (n + 1) cap) (l.take n ++ [(AT, s)]) := by
  have hlt : (ps.take n).length = n := by rw [List.length_take]; omega
  have hsplit : cur.toList.take (n * 2) = putCells (ps.take n) := by
    have e1 : ps = ps.take n ++ ps.drop n := (List.take_append_drop n ps).symm
    have e2 : cur.toList.take (n * 2) = (cur.toList.take ((n + 1) * 2)).take (n * 2) := by rw [List.take_take]; congr 1; omega
    rw [e2, htk]
    conv => lhs; rw [e1, putCells_append]
    rw [List.take_append_of_le_length (by rw [putCells_length, hlt]; omega), List.take_of_length_le (by rw [putCells_length, hlt]; omega)]
  refine ⟨ps.take n ++ [(AT, d)], ⟨?_, .inr ⟨gb, cap, cur', ?_, Nat.zero_le _, hb, ?_, hmx, hsz, ?_⟩⟩, ?_, fun k p hp => ?_⟩
  · rw [putCells_length]
  · rw [List.length_append, hlt]; rfl
  · rw [List.length_append, hlt]; exact hcap
  · rw [List.length_append, hlt, putCells_append, ← hsplit]; exact hc
  · rw [List.length_append, List.length_append, hlt, List.length_take, hl]; simp
  · by_cases h1 : k < n
    · rw [List.getElem?_append_left (by omega), List.getElem?_take_of_lt h1] at hp
      obtain ⟨q, a, b, c⟩ := hget k p hp
      exact ⟨q, by rw [List.getElem?_append_left (by rw [List.length_take]; omega), List.getElem?_take_of_lt h1]; exact a, b, c⟩
    · rw [List.getElem?_append_right (by omega), hlt] at hp
      have hk0 : k - n = 0 := by have := (List.getElem?_eq_some_iff.1 hp).1; simp at this; omega
      rw [hk0] at hp
      simp at hp; subst hp
      exact ⟨(AT, s), by rw [List.getElem?_append_right (by rw [List.length_take]; omega), List.length_take, hl, show k - min n (n + 1) = 0 from by omega]; rfl, rfl, hd⟩
theorem zl_take {n k : Nat} (h : n ≤ k) : (zl k).take n = zl n := by
  unfold zl; rw [← List.map_take, List.take_range, Nat.min_eq_left h]
theorem mem_zl {n : Nat} {x : Int} : x ∈ ((zl n).map (·.1)).reverse ↔ 0 ≤ x ∧ x < (n : Int) := by
  rw [List.mem_reverse, List.mem_map]
  unfold zl
  constructor
  · rintro ⟨p, hp, rfl⟩
    obtain ⟨i, hi, rfl⟩ := List.mem_map.1 hp
    have : i < n := by simpa using hi
    show 0 ≤ (i : Int) ∧ (i : Int) < n
    omega
  · rintro ⟨h0, h1⟩
    exact ⟨(x, zsec), List.mem_map.2 ⟨x.toNat, by simp; omega, by ext; exact Int.toNat_of_nonneg h0; rfl⟩, rfl⟩
theorem fitsL_cons (homes : Nat) (seen : List Int) (i : Int) (b : List UInt8) (l : List Put) : fitsL homes seen ((i, b) :: l) = if i < 0 ∨ (homes : Int) ≤ i ∨ i ∈ seen then 1 else if b.length ≠ 512 then 9 else fitsL homes (i :: seen) l := rfl
theorem fits_zl {homes : Nat} : ∀ (k : Nat) (rest : List Put), k ≤ homes → fitsL homes [] (zl k ++ rest) = fitsL homes ((zl k).map (·.1)).reverse rest
  | 0, _, _ => rfl
  | k + 1, rest, hk => by
    rw [zl_succ, List.append_assoc, fits_zl k _ (by omega)]
    show fitsL homes _ (((k : Int), zsec) :: rest) = _
    rw [fitsL_cons, if_neg (by rw [mem_zl]; omega), if_neg (by rw [zsec_length]; simp), List.map_append, List.reverse_append]; rfl
def wantN (homes R n : Nat) (AT : Int) (len : Nat) : Int := if AT < 0 ∨ (homes : Int) ≤ AT ∨ AT < (n : Int) then 1 else if len ≠ 512 then 9 else if 40 < n + 1 ∨ R ≤ n + 1 then 2 else 0
theorem fits_want {nn R n : Nat} {AT : Int} {s : List UInt8} (hn : n ≤ nn - 2 - R) : fitsR nn R (zl n ++ [(AT, s)]) = wantN (nn - 2 - R) R n AT s.length := by
  have e : fitsL (nn - 2 - R) [] (zl n ++ [(AT, s)]) = if AT < 0 ∨ ((nn - 2 - R : Nat) : Int) ≤ AT ∨ AT < (n : Int) then 1 else if s.length ≠ 512 then 9 else 0 := by
    rw [fits_zl n _ hn]
    rw [fitsL_cons]
    have hq : (AT < 0 ∨ ((nn - 2 - R : Nat) : Int) ≤ AT ∨ AT ∈ ((zl n).map (·.1)).reverse) ↔ (AT < 0 ∨ ((nn - 2 - R : Nat) : Int) ≤ AT ∨ AT < (n : Int)) := by rw [mem_zl]; omega
    by_cases q : AT < 0 ∨ ((nn - 2 - R : Nat) : Int) ≤ AT ∨ AT < (n : Int)
    · rw [if_pos (hq.2 q), if_pos q]
    · rw [if_neg (fun r => q (hq.1 r)), if_neg q]; rfl
  unfold fitsR wantN
  rw [e, List.length_append, zl_length]
  split
  · simp
  · split
    · simp
    · simp

end Go.Proofs.YtceakcejchbbjaaGreat

