/-
  The journal's contracts as the laws use them (the power stays); Place and Full.
-/
import Derived.Test.YthbgidiblcokhaaPlE
namespace Go.Proofs.Ythbgidiblcokhaa
open Go.RowKit

def AnyF : Nat → Prop := fun _ => True
theorem DiskAt.any {w : World} {F : Nat → Prop} {g : DG} {D : Dk} (h : DiskAt w F g D) : DiskAt w AnyF g D := h.mono fun _ _ => trivial
theorem JnAt.any {w : World} {F : Nat → Prop} {j : JG} {J : Jn} {D : Dk} (h : JnAt w F j J D) : JnAt w AnyF j J D := h.mono fun _ _ => trivial

/-- A disk in memory that holds a journal of n sectors, a ring, turn t, an anchor of a number of at most m, home sectors H. -/
structure DsAt (w : World) (g : DG) (J : Jn) (D : Dk) (n ring : Nat) (t m : Int) (H : Nat → Sec) : Prop where
  disk : DiskAt w AnyF g D
  held : Held D J
  arm : D.armed = -1
  n : D.n = n
  ring : J.last.ring = ring
  turn : J.turn = t
  num : J.last.number ≤ m
  home : J.home D = H
/-- A journal in memory, on its disk. -/
structure JrAt (w : World) (j : JG) (J : Jn) (D : Dk) (n ring : Nat) (t m : Int) (H : Nat → Sec) : Prop where
  at_ : JnAt w AnyF j J D
  live : Live D J
  arm : D.armed = -1
  n : D.n = n
  ring : J.last.ring = ring
  turn : J.turn = t
  num : J.last.number ≤ m
  home : J.home D = H
theorem JrAt.ds {w : World} {j : JG} {J : Jn} {D : Dk} {n ring : Nat} {t m : Int} {H : Nat → Sec} (h : JrAt w j J D n ring t m H) : DsAt w j.d J D n ring t m H :=
  ⟨h.at_.disk, h.live.held, h.arm, h.n, h.ring, h.turn, h.num, h.home⟩
theorem JrAt.of {w w' : World} {j : JG} {J : Jn} {D : Dk} {n ring : Nat} {t m : Int} {H : Nat → Sec} (h : JrAt w j J D n ring t m H) (ha : JnAt w' AnyF j J D) : JrAt w' j J D n ring t m H :=
  ⟨ha, h.live, h.arm, h.n, h.ring, h.turn, h.num, h.home⟩
theorem JrAt.below {w w' : World} {j : JG} {J : Jn} {D : Dk} {n ring : Nat} {t m : Int} {H : Nat → Sec} (h : JrAt w j J D n ring t m H) (hu : Upd [] w w') : JrAt w' j J D n ring t m H := h.of (h.at_.below hu)
theorem DsAt.below {w w' : World} {g : DG} {J : Jn} {D : Dk} {n ring : Nat} {t m : Int} {H : Nat → Sec} (h : DsAt w g J D n ring t m H) (hu : Upd [] w w') : DsAt w' g J D n ring t m H :=
  ⟨h.disk.world (hu.block _ h.disk.lt.1 (by simp)) (hu.block _ h.disk.lt.2.1 (by simp)) (hu.block _ h.disk.lt.2.2 (by simp)) (fun _ _ _ hk => hu.block _ (blk_lt hk) (by simp)), h.held, h.arm, h.n, h.ring, h.turn, h.num, h.home⟩
/-- Blocks of other kinds may turn. -/
theorem JrAt.own {w w' : World} {j : JG} {J : Jn} {D : Dk} {n ring : Nat} {t m : Int} {H : Nat → Sec} (h : JrAt w j J D n ring t m H) {S : List Nat} (hu : Upd S w w')
    (hS : ∀ k, k ∈ S → ∃ c t fr, w.heap[k]? = some (.cells c t fr) ∧ t ≠ 51 ∧ t ≠ 86 ∧ t ≠ 36 ∧ t ≠ 5) : JrAt w' j J D n ring t m H := by
  have hk : ∀ k, k ∈ j.all → k ∉ S := fun k hk hs => by
    obtain ⟨c, t, fr, e, e1, e2, e3, _⟩ := hS k hs
    exact h.at_.kind e e1 e2 e3 hk
  exact h.of (h.at_.world (hu.block _ h.at_.lt.1 (hk _ (by simp [JG.all]))) (hu.block _ h.at_.lt.2 (hk _ (by simp [JG.all]))) (hu.block _ h.at_.disk.lt.1 (hk _ (by simp [JG.all]))) (hu.block _ h.at_.disk.lt.2.1 (hk _ (by simp [JG.all]))) (hu.block _ h.at_.disk.lt.2.2 (hk _ (by simp [JG.all])))
    (fun k c _ e => hu.block _ (blk_lt e) (fun q => by
      obtain ⟨c', t, fr, e', _, _, _, e4⟩ := hS k q
      rw [e] at e'; simp at e'; exact e4 e'.2.1.symm)))

theorem open_hi {w : World} {g : DG} {J : Jn} {D : Dk} {n ring : Nat} {t m : Int} {H : Nat → Sec} (h : DsAt w g J D n ring t m H) (ht : t < 1000000) (hm : m < 1000000) :
    Calls Try.prog 18 #[.pointer (some ⟨g.db, 0, none⟩)] w fun e w' => ∃ jb ab, e = .returned (.tuple #[.pointer (some ⟨jb, 0, none⟩), .int .i64 0]) ∧ w.heap.size ≤ jb ∧ w.heap.size ≤ ab ∧ (∃ J' D', JrAt w' ⟨jb, ab, g⟩ J' D' n ring t (m + 1) H ∧ J'.used = 0) ∧ Upd [g.db, g.lb, g.mb] w w' := by
  refine (open_main h.disk h.held.calm.off).mono ?_
  rintro e w' ⟨D', r, err, ho, hat, hu⟩
  have h1 := h.num
  have h2 := h.turn
  rcases h.held.open ⟨by omega, by omega⟩ ho with ⟨rfl, J', rfl, q1, q2, q3, q4, q5, q6, q7, q8⟩ | ⟨_, _, q, _⟩
  · obtain ⟨jb, ab, e1, e2, e3, e4⟩ := hat
    exact ⟨jb, ab, e1, e2, e3, ⟨J', D', ⟨e4.any, q1, q8 h.arm, q7.trans h.n, q5.trans h.ring, q4.trans h.turn, by omega, q2.trans h.home⟩, q3⟩, hu⟩
  · exact absurd h.arm q

theorem new_fmt_hi {w : World} {F : Nat → Prop} {g : DG} {n : Nat} (h : DiskAt w F g (Dk.new n)) (h0 : 32 ≤ n) (h1 : n ≤ 4096) (ring : Nat) (r0 : 8 ≤ ring) (r1 : ring ≤ 1024) (r2 : ring + 10 ≤ n) :
    Calls Try.prog 17 #[.pointer (some ⟨g.db, 0, none⟩), .int .i64 (ring : Int)] w fun e w' => e = .returned (.int .i64 0) ∧ DsAt w' g (Jn.fresh ring) ((Dk.new n).fmt ring) n ring 1 1 (fun _ => zsec) ∧ Upd [g.db, g.lb, g.mb] w w' := by
  obtain ⟨a1, a2, a3, a4⟩ := fmt_live h0 h1 r0 r1 r2
  refine (fmt_ok h ⟨rfl, rfl⟩ ring r0 r1 r2).mono ?_
  rintro e w' ⟨e1, e2, e3⟩
  exact ⟨e1, ⟨e2.any, a1.held, a4, a3, rfl, rfl, by show (1 : Int) ≤ 1; omega, a2⟩, e3⟩

/-- May a list be committed? 0: it may. -/
def fitsR (n ring : Nat) (l : List Put) : Int :=
  if fitsL (n - 2 - ring) [] l ≠ 0 then fitsL (n - 2 - ring) [] l else if 40 < l.length ∨ ring ≤ l.length then 2 else 0
theorem JrAt.fits {w : World} {j : JG} {J : Jn} {D : Dk} {n ring : Nat} {t m : Int} {H : Nat → Sec} (h : JrAt w j J D n ring t m H) (l : List Put) : J.fits D.n l = fitsR n ring l := by
  unfold Jn.fits Jn.homes fitsR; rw [h.n, h.ring]
theorem JrAt.used {w : World} {j : JG} {J : Jn} {D : Dk} {n ring : Nat} {t m : Int} {H : Nat → Sec} (h : JrAt w j J D n ring t m H) : J.used ≤ 1024 := by
  have := h.live.held.used
  have := h.live.held.jok.ring1
  omega
theorem com_hi {w : World} {j : JG} {J : Jn} {D : Dk} {n ring : Nat} {t m : Int} {H : Nat → Sec} (h : JrAt w j J D n ring t m H) (v : Value) (l : List Put) (hp : PutsAt w v l) (hf : fitsR n ring l = 0) (h0 : l ≠ []) (ht : t < 1000000) (hm : m < 1000000) :
    Calls Try.prog 22 #[.pointer (some ⟨j.jb, 0, none⟩), v] w fun e w' => e = .returned (.int .i64 0) ∧ (∃ J' D', JrAt w' j J' D' n ring (t + 1) (m + 1) (putsH H l) ∧ (J.used = 0 → J'.used = 1 + l.length)) ∧ Upd j.all w w' := by
  have hf' : J.fits D.n l = 0 := (h.fits l).trans hf
  have hu := h.used
  have h1 := h.num
  have h2 := h.turn
  refine (com_spec h.at_ v l hp (by have := (fits_parts hf').1; omega) (by omega)).mono ?_
  rintro e w' ⟨rfl, e2, e3⟩
  rcases h.live.com ⟨by omega, by omega⟩ (by omega) hf' h0 with ⟨q1, q2, q3, q4, q5, q6, q7, q8, q9⟩ | ⟨_, q, _⟩
  · rw [q1]
    exact ⟨rfl, ⟨_, _, ⟨e2.any, q2, q8 h.arm, q7.trans h.n, q5.trans h.ring, by omega, by omega, by rw [q3, h.home]⟩, q9⟩, e3⟩
  · exact absurd h.arm q
theorem comNo_hi {w : World} {j : JG} {J : Jn} {D : Dk} {n ring : Nat} {t m : Int} {H : Nat → Sec} (h : JrAt w j J D n ring t m H) (v : Value) (l : List Put) (hp : PutsAt w v l) (hl : l.length ≤ 1000000) (hf : fitsR n ring l ≠ 0 ∨ l = []) :
    Calls Try.prog 22 #[.pointer (some ⟨j.jb, 0, none⟩), v] w fun e w' => e = .returned (.int .i64 (fitsR n ring l)) ∧ JrAt w' j J D n ring t m H ∧ Upd j.all w w' := by
  have hu := h.used
  obtain ⟨q1, q2⟩ := h.live.comNo (l := l) (hf.imp (fun q => by rw [h.fits]; exact q) id)
  refine (com_spec h.at_ v l hp hl (by omega)).mono ?_
  rintro e w' ⟨rfl, e2, e3⟩
  rw [q1, q2] at e2
  rw [q1]
  exact ⟨by show Ending.returned (.int .i64 (J.fits D.n l)) = _; rw [h.fits], h.of e2.any, e3⟩
theorem read_hi {w : World} {j : JG} {J : Jn} {D : Dk} {n ring : Nat} {t m : Int} {H : Nat → Sec} (h : JrAt w j J D n ring t m H) (i : Nat) (hi : i + 2 + ring < n) :
    Calls Try.prog 26 #[.pointer (some ⟨j.jb, 0, none⟩), .int .i64 (i : Int)] w fun e w' => ∃ v, e = .returned (.tuple #[v, .int .i64 0]) ∧ OwnN w' 5 (fun k => w.heap.size ≤ k) v (H i) ∧ JrAt w' j J D n ring t m H ∧ Upd [j.jb] w w' := by
  refine (readJ_spec h.at_ (i : Int)).mono ?_
  rintro e w' ⟨v, e1, e2, e3, e4⟩
  have hd := h.live.held.done
  have hr : J.read D (i : Int) = (H i, 0, false) := by
    unfold Jn.read
    have hm := h.live.held.may
    have h1 := h.n
    have h2 := h.ring
    rw [if_neg (by rw [hm]; decide), if_neg (by unfold Jn.homes; omega)]
    have hh : J.home D (i : Int).toNat = H i := by rw [h.home]; rfl
    split
    · rw [hh, hd]
    · rw [if_neg (by rw [h.live.held.calm.off]; decide), hh]
  rw [hr] at e1 e2 e3
  have : ({ J with done := false } : Jn) = J := by rw [← hd]
  exact ⟨v, e1, e2, h.of (by rw [← this]; exact e3), e4⟩
theorem power_hi {w : World} {j : JG} {J : Jn} {D : Dk} {n ring : Nat} {t m : Int} {H : Nat → Sec} (h : JrAt w j J D n ring t m H) (v : Value) (keep : List Bool) (hr : RdL w [j.d.db, j.d.lb, j.d.mb] v (keep.map Value.bool)) :
    Calls Try.prog 23 #[.pointer (some ⟨j.d.db, 0, none⟩), v] w fun e w' => e = .returned (.tuple #[]) ∧ DsAt w' j.d (J.anew (D.power keep)) (D.power keep) n ring t m H ∧ Upd [j.d.db, j.d.lb, j.d.mb] w w' := by
  refine (power_spec h.at_.disk v keep hr).mono ?_
  rintro e w' ⟨e1, e2, e3⟩
  obtain ⟨q1, q2, q3, q4⟩ := h.live.held.power keep
  exact ⟨e1, ⟨e2.any, q1, q4, q3.trans h.n, h.ring, h.turn, h.num, q2.trans h.home⟩, e3⟩
theorem homes_hi {w : World} {j : JG} {J : Jn} {D : Dk} {n ring : Nat} {t m : Int} {H : Nat → Sec} (h : JrAt w j J D n ring t m H) :
    Calls Try.prog 28 #[.pointer (some ⟨j.jb, 0, none⟩)] w fun e w' => e = .returned (.int .i64 ((n - 2 - ring : Nat) : Int)) ∧ ∃ k, w' = w.drewN k := by
  have := homes_spec h.at_
  unfold Jn.homes at this
  rw [h.n, h.ring] at this
  exact this
theorem turn_hi {w : World} {j : JG} {J : Jn} {D : Dk} {n ring : Nat} {t m : Int} {H : Nat → Sec} (h : JrAt w j J D n ring t m H) :
    Calls Try.prog 25 #[.pointer (some ⟨j.jb, 0, none⟩)] w fun e w' => e = .returned (.int .u64 (t - 1)) ∧ w = w' := by
  have := turn_spec h.at_
  rw [h.turn] at this
  exact this
theorem RdL.nil (w : World) (S : List Nat) : RdL w S (.slice none 0 0) [] := ⟨none, 0, rfl, Nat.le_refl _, fun h => absurd h (by simp)⟩

set_option maxHeartbeats 400000 in
theorem full_spec (v : Value) (l : List UInt8) (w : World) (hr : Rd w v l) :
    Calls Try.prog 20 #[v] w fun e w' => e = .returned (.slice (some ⟨w.heap.size, 0, none⟩) 512 512) ∧ w.alloc (.cells (bts (pad l)).toArray 5) = w' := by
  have hmk := run_make_512
  have hcp : ∀ ty, (Builtin.copy_ #[36, 36] ty #[.slice (some ⟨w.heap.size, 0, none⟩) 512 512, v]).run Try.prog (w.alloc (.cells (bts zsec).toArray 5)) = .ok (goInt ((min l.length 512 : Nat) : Int)) (w.alloc (.cells (bts (pad l)).toArray 5)) := by
    intro ty
    rw [run_copy_rd (u8 := 5) Try.underlying36 sizeU8 w.heap.size 0 512 512 (bts zsec) (blk_alloc _) (by rw [bts_length, zsec_length]; omega) (hr.alloc _), setRow_alloc, splice_pad]
  clear hr
  generalize (bts zsec).toArray = Z at *
  generalize (bts (pad l)).toArray = Y at *
  go_enter Try.func20, Try.ntmps20
  go_wp2
  go_ret
  exact ⟨rfl, rfl⟩

/-- A number from 0 to n - 1, whatever k. -/
def placeN (k : Int) (n : Nat) : Nat := (k % (n : Int)).toNat
theorem placeN_lt {k : Int} {n : Nat} (h : 1 ≤ n) : placeN k n < n := by
  unfold placeN
  have := Int.emod_lt_of_pos k (show (0 : Int) < n by omega)
  have := Int.emod_nonneg k (show (n : Int) ≠ 0 by omega)
  omega
theorem placeN_int {k : Int} {n : Nat} (h : 1 ≤ n) : ((placeN k n : Nat) : Int) = k % (n : Int) := by
  unfold placeN
  have := Int.emod_nonneg k (show (n : Int) ≠ 0 by omega)
  omega
set_option maxHeartbeats 400000 in
theorem place_spec (k : Int) (n : Nat) (w : World) (hn : 1 ≤ n) (hn2 : n ≤ 1000000) :
    Calls Try.prog 15 #[.int .i64 k, .int .i64 (n : Int)] w fun e w' => e = .returned (.int .i64 ((placeN k n : Nat) : Int)) ∧ w = w' := by
  have hdiv : k.tmod (n : Int) = k % (n : Int) - ((if 0 ≤ k ∨ (n : Int) ∣ k then 0 else (n : Int).natAbs : Nat) : Int) := Int.tmod_eq_emod ..
  have hp := placeN_int (k := k) hn
  have hlt := placeN_lt (k := k) hn
  have habs : (n : Int).natAbs = n := by omega
  rw [habs, ← hp] at hdiv
  by_cases hc : k.tmod (n : Int) < 0
  · have HE : Hid (k.tmod (n : Int) + (n : Int) = ((placeN k n : Nat) : Int)) := by
      show _ = _
      split at hdiv <;> omega
    have hb : decide (k.tmod (n : Int) < 0) = true := by simpa using hc
    have hlo : -1000000 ≤ k.tmod (n : Int) := by split at hdiv <;> omega
    clear hdiv hp
    go_enter Try.func15, Try.ntmps15
    go_wp2
    go_ret
    exact ⟨ret_int HE.out, rfl⟩
  · have HE : Hid (k.tmod (n : Int) = ((placeN k n : Nat) : Int)) := by
      show _ = _
      split at hdiv <;> omega
    have hb : decide (k.tmod (n : Int) < 0) = false := by simpa using hc
    clear hdiv hp
    go_enter Try.func15, Try.ntmps15
    go_wp2
    go_ret
    exact ⟨ret_int HE.out, rfl⟩

end Go.Proofs.Ythbgidiblcokhaa
