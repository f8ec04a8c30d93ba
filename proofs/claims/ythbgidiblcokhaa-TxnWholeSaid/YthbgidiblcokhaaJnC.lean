/-
  The journal in memory ('JnAt'), and what Homes, Turn, Free, at, may do.
-/
import Derived.Test.YthbgidiblcokhaaJnB
import Derived.Deep.QuietTactic
import Derived.BigQuiet
namespace Go.Proofs.Ythbgidiblcokhaa
open Go.RowKit

/-- The blocks of a journal: its struct, its map of what is away, its disk. -/
structure JG where
  jb : Nat
  ab : Nat
  d : DG

/-- A journal: the lives of its disk at its opening; whether it is done; the last anchor; turn and place of the next commit; how much of the ring is used; what is away. -/
structure Jn where
  lives : Int
  done : Bool
  last : Anc
  turn : Int
  place : Nat
  used : Nat
  away : Nat → Option Sec

structure Jn.Ok (J : Jn) (n : Nat) : Prop where
  ring0 : 8 ≤ J.last.ring
  ring1 : J.last.ring ≤ 1024
  fits : J.last.ring + 10 ≤ n
  lplace : J.last.place < J.last.ring
  place : J.place < J.last.ring
  num0 : 1 ≤ J.last.number
  num1 : J.last.number < 18446744073709551616
  lturn0 : 1 ≤ J.last.turn
  turn0 : 1 ≤ J.turn
  turn1 : J.turn < 4611686018427389000
  used : J.used ≤ 100000000
  away : ∀ i s, J.away i = some s → i + 2 + J.last.ring < n ∧ s.length = 512

def Jn.homes (J : Jn) (n : Nat) : Nat := n - 2 - J.last.ring

structure JnAt (w : World) (F : Nat → Prop) (j : JG) (J : Jn) (D : Dk) : Prop where
  disk : DiskAt w F j.d D
  st : w.heap[j.jb]? = some (.cells #[.pointer (some ⟨j.d.db, 0, none⟩), .int .i64 J.lives, .bool J.done, .int .u64 J.last.number, .int .u64 J.last.turn, .int .i64 (J.last.place : Int), .int .i64 (J.last.ring : Int), .int .u64 J.turn, .int .i64 (J.place : Int), .int .i64 (J.used : Int), .map (some j.ab)] 51 (0, 0))
  away : WaitM w F j.ab J.away
  ne : j.ab ≠ j.d.mb
  ok : J.Ok D.n

/-- Nothing but the count of draws has moved. -/
structure Qt (w w' : World) : Prop where
  heap : w'.heap = w.heap
  upd : Upd [] w w'
theorem Qt.refl (w : World) : Qt w w := ⟨rfl, Upd.refl _ _⟩
theorem Qt.of_drewN {w w' : World} {n : Nat} (h : w' = w.drewN n) : Qt w w' := by subst h; exact ⟨rfl, (Upd.refl _ _).drewN n⟩
theorem Qt.drew (w : World) : Qt w w.drew := ⟨rfl, (Upd.refl _ _).drew⟩
theorem Qt.trans {a b c : World} (h : Qt a b) (k : Qt b c) : Qt a c := ⟨k.heap.trans h.heap, h.upd.trans k.upd⟩

theorem JnAt.world {w w' : World} {F : Nat → Prop} {j : JG} {J : Jn} {D : Dk} (h : JnAt w F j J D) (h0 : w'.heap[j.jb]? = w.heap[j.jb]?) (h1 : w'.heap[j.ab]? = w.heap[j.ab]?) (h2 : w'.heap[j.d.db]? = w.heap[j.d.db]?) (h3 : w'.heap[j.d.lb]? = w.heap[j.d.lb]?) (h4 : w'.heap[j.d.mb]? = w.heap[j.d.mb]?)
    (ha : ∀ k c, F k → w.heap[k]? = some (.cells c 5 (0, 0)) → w'.heap[k]? = w.heap[k]?) : JnAt w' F j J D :=
  ⟨h.disk.world h2 h3 h4 ha, h0.trans h.st, h.away.world h1 ha, h.ne, h.ok⟩
theorem JnAt.qt {w w' : World} {F : Nat → Prop} {j : JG} {J : Jn} {D : Dk} (h : JnAt w F j J D) (hq : Qt w w') : JnAt w' F j J D :=
  h.world (by rw [hq.heap]) (by rw [hq.heap]) (by rw [hq.heap]) (by rw [hq.heap]) (by rw [hq.heap]) (fun _ _ _ _ => by rw [hq.heap])
theorem JnAt.mono {w : World} {F G : Nat → Prop} {j : JG} {J : Jn} {D : Dk} (h : JnAt w F j J D) (hFG : ∀ k, F k → G k) : JnAt w G j J D :=
  ⟨h.disk.mono hFG, h.st, h.away.mono hFG, h.ne, h.ok⟩
/-- All blocks of a journal are there. -/
theorem JnAt.lt {w : World} {F : Nat → Prop} {j : JG} {J : Jn} {D : Dk} (h : JnAt w F j J D) : j.jb < w.heap.size ∧ j.ab < w.heap.size := by
  obtain ⟨f, hf, _⟩ := h.away
  exact ⟨blk_lt h.st, hf.lt⟩
theorem JnAt.below {w w' : World} {F : Nat → Prop} {j : JG} {J : Jn} {D : Dk} (h : JnAt w F j J D) (hu : Upd [] w w') : JnAt w' F j J D :=
  h.world (hu.block _ h.lt.1 (by simp)) (hu.block _ h.lt.2 (by simp)) (hu.block _ h.disk.lt.1 (by simp)) (hu.block _ h.disk.lt.2.1 (by simp)) (hu.block _ h.disk.lt.2.2 (by simp)) (fun _ _ _ hk => hu.block _ (blk_lt hk) (by simp))

theorem DiskAt.drewN {w : World} {F : Nat → Prop} {g : DG} {D : Dk} (h : DiskAt w F g D) (n : Nat) : DiskAt (w.drewN n) F g D :=
  h.world rfl rfl rfl (fun _ _ _ _ => rfl)
theorem JnAt.drewN {w : World} {F : Nat → Prop} {j : JG} {J : Jn} {D : Dk} (h : JnAt w F j J D) (n : Nat) : JnAt (w.drewN n) F j J D :=
  h.world rfl rfl rfl rfl rfl (fun _ _ _ _ => rfl)

set_option maxHeartbeats 400000 in
theorem homes_spec {w : World} {F : Nat → Prop} {j : JG} {J : Jn} {D : Dk} (h : JnAt w F j J D) :
    Calls Try.prog 28 #[.pointer (some ⟨j.jb, 0, none⟩)] w fun e w' => e = .returned (.int .i64 (J.homes D.n : Int)) ∧ ∃ n, w' = w.drewN n := by
  have H := Lib.hid h
  have hc := blk_cell h.st
  have hn := h.disk.ok.n0
  have hn1 := h.disk.ok.n1
  have hr0 := h.ok.ring0
  have hr1 := h.ok.ring1
  have hfit := h.ok.fits
  have HE : Hid ((J.homes D.n : Int) = (D.n : Int) - 2 - (J.last.ring : Int)) := by show _ = _; unfold Jn.homes; omega
  clear h
  go_enter Try.func28, Try.ntmps28
  go_wp2
  go_quiet ((go_at_call 46; exact Calls.quiet_of_same ((len_spec (H.out.disk.drewN _)).mono fun _ _ ⟨a, b⟩ => ⟨a, b.symm⟩)))
  go_wp2
  go_ret
  exact ⟨ret_int HE.out.symm, _, rfl⟩

set_option maxHeartbeats 400000 in
theorem turn_spec {w : World} {F : Nat → Prop} {j : JG} {J : Jn} {D : Dk} (h : JnAt w F j J D) :
    Calls Try.prog 25 #[.pointer (some ⟨j.jb, 0, none⟩)] w fun e w' => e = .returned (.int .u64 (J.turn - 1)) ∧ w = w' := by
  have hc := blk_cell h.st
  have h0 := h.ok.turn0
  have h1 := h.ok.turn1
  have hw := u64_wrap_in (J.turn - 1) (by omega) (by omega)
  have HW := Lib.hid hw
  clear h hw h1
  go_enter Try.func25, Try.ntmps25
  go_wp2
  go_ret
  exact ⟨ret_int HW.out, rfl⟩

set_option maxHeartbeats 400000 in
theorem free_spec {w : World} {F : Nat → Prop} {j : JG} {J : Jn} {D : Dk} (h : JnAt w F j J D) :
    Calls Try.prog 29 #[.pointer (some ⟨j.jb, 0, none⟩)] w fun e w' => e = .returned (.int .i64 ((J.last.ring : Int) - (J.used : Int))) ∧ ∃ n, w' = w.drewN n := by
  have hc := blk_cell h.st
  have hr1 := h.ok.ring1
  have hu := h.ok.used
  clear h
  go_enter Try.func29, Try.ntmps29
  go_wp2
  go_quiet (fail)
  go_wp2
  go_ret
  exact ⟨rfl, _, rfl⟩

/-- The disk's sector of a place of the ring. -/
def Jn.at (J : Jn) (place : Nat) : Nat := 2 + place % J.last.ring

set_option maxHeartbeats 400000 in
theorem atP_spec {w : World} {F : Nat → Prop} {j : JG} {J : Jn} {D : Dk} (h : JnAt w F j J D) (p : Nat) (hp : p ≤ 100000) :
    Calls Try.prog 59 #[.pointer (some ⟨j.jb, 0, none⟩), .int .i64 (p : Int)] w fun e w' => e = .returned (.int .i64 (J.at p : Int)) ∧ w = w' := by
  have hc := blk_cell h.st
  have hr0 := h.ok.ring0
  have hr1 := h.ok.ring1
  have hm : p % J.last.ring < J.last.ring := Nat.mod_lt _ (by omega)
  have HE : Hid ((J.at p : Int) = 2 + (p : Int) % (J.last.ring : Int)) := by show _ = _; unfold Jn.at; omega
  clear h
  go_enter Try.func59, Try.ntmps59
  go_wp2
  go_ret
  exact ⟨ret_int (by rw [HE.out]), rfl⟩

/-- May the journal do anything? -/
def Jn.may (J : Jn) (D : Dk) : Int := if J.done = true ∨ D.lives ≠ J.lives then 8 else 0

set_option maxHeartbeats 1000000 in
theorem mayJ_spec {w : World} {F : Nat → Prop} {j : JG} {J : Jn} {D : Dk} (h : JnAt w F j J D) :
    Calls Try.prog 56 #[.pointer (some ⟨j.jb, 0, none⟩)] w fun e w' => e = .returned (.int .i64 (J.may D)) ∧ ∃ n, w' = w.drewN n := by
  have H := Lib.hid h
  have hc := blk_cell h.st
  clear h
  cases hd : J.done with
  | true =>
    rw [hd] at hc
    have HE : Hid (J.may D = 8) := by show _ = _; unfold Jn.may; rw [if_pos (.inl hd)]
    clear hd
    go_enter Try.func56, Try.ntmps56
    go_wp2
    go_quiet (fail)
    go_wp2
    go_ret
    exact ⟨ret_int HE.out.symm, _, rfl⟩
  | false =>
    rw [hd] at hc
    by_cases hl : D.lives = J.lives
    · have hb : (D.lives != J.lives) = false := by simp [hl]
      have HE : Hid (J.may D = 0) := by show _ = _; unfold Jn.may; rw [if_neg (by simp [hd, hl])]
      clear hd hl
      go_enter Try.func56, Try.ntmps56
      go_wp2
      go_quiet ((go_at_call 50; exact Calls.quiet_of_same ((lives_spec (H.out.disk.drewN _)).mono fun _ _ ⟨a, b⟩ => ⟨a, b.symm⟩)))
      go_wp2
      go_ret
      exact ⟨ret_int HE.out.symm, _, rfl⟩
    · have hb : (D.lives != J.lives) = true := by simpa using hl
      have HE : Hid (J.may D = 8) := by show _ = _; unfold Jn.may; rw [if_pos (.inr hl)]
      clear hd hl
      go_enter Try.func56, Try.ntmps56
      go_wp2
      go_quiet ((go_at_call 50; exact Calls.quiet_of_same ((lives_spec (H.out.disk.drewN _)).mono fun _ _ ⟨a, b⟩ => ⟨a, b.symm⟩)))
      go_wp2
      go_ret
      exact ⟨ret_int HE.out.symm, _, rfl⟩

end Go.Proofs.Ythbgidiblcokhaa
