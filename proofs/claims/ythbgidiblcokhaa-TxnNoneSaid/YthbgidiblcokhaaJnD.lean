/-
  Disk.Write and Flush in one contract each; Journal.write, flush, Read.
-/
import Derived.Test.YthbgidiblcokhaaJnC
namespace Go.Proofs.Ythbgidiblcokhaa
open Go.RowKit

theorem Dk.write_n (D : Dk) (i : Int) (b : List UInt8) : (D.write i b).1.n = D.n := by
  unfold Dk.write; repeat' split
  all_goals first | rfl | exact Dk.step_n D
theorem Dk.flush_n (D : Dk) : D.flush.1.n = D.n := by
  unfold Dk.flush; repeat' split
  all_goals first | rfl | exact Dk.step_n D

theorem write_spec {w : World} {F : Nat → Prop} {g : DG} {D : Dk} (h : DiskAt w F g D) (i : Int) (v : Value) (b : List UInt8) (hr : Rd w v b) :
    Calls Try.prog 48 #[.pointer (some ⟨g.db, 0, none⟩), .int .i64 i, v] w fun e w' => e = .returned (.int .i64 (D.write i b).2) ∧ DiskAt w' (Gr F w.heap.size) g (D.write i b).1 ∧ Upd [g.db, g.mb] w w' := by
  by_cases hm : D.may i = 0
  · obtain ⟨hoff, h0, h1⟩ := Dk.may_zero hm
    obtain ⟨k, rfl⟩ := Int.eq_ofNat_of_zero_le h0
    by_cases hb : b.length = 512
    · by_cases ha : D.armed = 0
      · have e : D.write (k : Int) b = ({ D with off := true, way := some k, front := b.take D.part }, 8) := by
          unfold Dk.write; rw [if_neg (by simpa using hm), if_neg (by simpa using hb), if_pos ha]; simp
        rw [e]
        exact (write_fail h k v b hr hoff (by omega) hb ha).mono fun _ _ ⟨a, b, c⟩ => ⟨a, b, c.mono (by simp)⟩
      · have e : D.write (k : Int) b = ({ D.step with wait := fun j => if j = k then some b else D.wait j, writes := wrap64 (D.writes + 1) }, 0) := by
          unfold Dk.write; rw [if_neg (by simpa using hm), if_neg (by simpa using hb), if_neg ha]; simp
        rw [e]
        exact write_ok h k v b hr hoff (by omega) hb ha
    · have e : D.write (k : Int) b = (D, 9) := by
        unfold Dk.write; rw [if_neg (by simpa using hm), if_pos (by simpa using hb)]
      rw [e]
      obtain ⟨ao, cap, rfl, _⟩ := hr
      exact (write_size h k ao b.length cap hm hb).mono fun _ _ ⟨a, b⟩ => ⟨a, by rw [← b]; exact h.mono Gr.old, by rw [← b]; exact Upd.refl _ _⟩
  · have e : D.write i b = (D, D.may i) := by unfold Dk.write; rw [if_pos hm]
    rw [e]
    exact (write_err h i v hm).mono fun _ _ ⟨a, b⟩ => ⟨a, by rw [← b]; exact h.mono Gr.old, by rw [← b]; exact Upd.refl _ _⟩

theorem flush_spec {w : World} {F : Nat → Prop} {g : DG} {D : Dk} (h : DiskAt w F g D) :
    Calls Try.prog 47 #[.pointer (some ⟨g.db, 0, none⟩)] w fun e w' => e = .returned (.int .i64 D.flush.2) ∧ DiskAt w' F g D.flush.1 ∧ Upd [g.db, g.lb, g.mb] w w' := by
  cases hoff : D.off with
  | true =>
    have e : D.flush = (D, 8) := by unfold Dk.flush; rw [hoff]; simp
    rw [e]
    exact (flush_err h hoff).mono fun _ _ ⟨a, b⟩ => ⟨a, by rw [← b]; exact h, by rw [← b]; exact Upd.refl _ _⟩
  | false =>
    by_cases ha : D.armed = 0
    · have e : D.flush = ({ D with off := true }, 8) := by unfold Dk.flush; rw [hoff]; simp [ha]
      rw [e]
      exact (flush_fail h hoff ha).mono fun _ _ ⟨a, b, c⟩ => ⟨a, b, c.mono (by simp)⟩
    · have e : D.flush = ({ D.step with last := D.now, wait := fun _ => none }, 0) := by unfold Dk.flush; rw [hoff]; simp [ha]
      rw [e]
      exact flush_ok h hoff ha

/-- The disk has moved on; the journal's own is as it was. -/
theorem JnAt.step {w w' : World} {F G : Nat → Prop} {j : JG} {J : Jn} {D D' : Dk} (h : JnAt w F j J D) (hD : DiskAt w' G j.d D') (hu : Upd [j.d.db, j.d.lb, j.d.mb] w w') (hFG : ∀ k, F k → G k) (hn : D'.n = D.n) : JnAt w' G j J D' := by
  have hjb : j.jb ∉ [j.d.db, j.d.lb, j.d.mb] := by
    obtain ⟨⟨fv, a1, _⟩, ⟨lv, b1, _⟩, ⟨f, hf, _⟩, _⟩ := h.disk
    simp only [List.mem_cons, List.not_mem_nil, or_false, not_or]
    refine ⟨?_, ?_, hf.not_cells h.st⟩
    · intro e; have := h.st; rw [e, a1] at this; simp at this
    · intro e; have := h.st; rw [e, b1] at this; simp at this
  have hab : j.ab ∉ [j.d.db, j.d.lb, j.d.mb] := by
    obtain ⟨⟨fv, a1, _⟩, ⟨lv, b1, _⟩, _, _⟩ := h.disk
    obtain ⟨f, hf, _⟩ := h.away
    simp only [List.mem_cons, List.not_mem_nil, or_false, not_or]
    exact ⟨Ne.symm (hf.not_cells a1), Ne.symm (hf.not_cells b1), h.ne⟩
  refine ⟨hD, (hu.block _ h.lt.1 hjb).trans h.st, (h.away.world (hu.block _ h.lt.2 hab) (fun k c _ hk => hu.block _ (blk_lt hk) (h.disk.byte hk))).mono hFG, h.ne, ?_⟩
  rw [hn]; exact h.ok

/-- The struct of the journal is laid anew. -/
theorem JnAt.re {w w' : World} {F : Nat → Prop} {j : JG} {J J' : Jn} {D : Dk} (h : JnAt w F j J D)
    (hst : w'.heap[j.jb]? = some (.cells #[.pointer (some ⟨j.d.db, 0, none⟩), .int .i64 J'.lives, .bool J'.done, .int .u64 J'.last.number, .int .u64 J'.last.turn, .int .i64 (J'.last.place : Int), .int .i64 (J'.last.ring : Int), .int .u64 J'.turn, .int .i64 (J'.place : Int), .int .i64 (J'.used : Int), .map (some j.ab)] 51 (0, 0)))
    (ho : ∀ k, k < w.heap.size → k ≠ j.jb → w'.heap[k]? = w.heap[k]?) (haw : J'.away = J.away) (hok : J'.Ok D.n) : JnAt w' F j J' D := by
  have ha : ∀ k c, F k → w.heap[k]? = some (.cells c 5 (0, 0)) → w'.heap[k]? = w.heap[k]? := fun k c _ hk => ho k (blk_lt hk) (by rintro rfl; rw [h.st] at hk; simp at hk)
  have hlt := h.disk.lt
  have hd : ∀ k, k ∈ [j.d.db, j.d.lb, j.d.mb] → k ≠ j.jb := by
    obtain ⟨⟨fv, a1, _⟩, ⟨lv, b1, _⟩, ⟨f, hf, _⟩, _⟩ := h.disk
    intro k hk e
    simp only [List.mem_cons, List.not_mem_nil, or_false] at hk
    have hst' := h.st
    rcases hk with rfl | rfl | rfl
    · rw [← e, a1] at hst'; simp at hst'
    · rw [← e, b1] at hst'; simp at hst'
    · exact hf.not_cells hst' e.symm
  obtain ⟨f, hf, _⟩ := id h.away
  refine ⟨h.disk.world (ho _ hlt.1 (hd _ (by simp))) (ho _ hlt.2.1 (hd _ (by simp))) (ho _ hlt.2.2 (hd _ (by simp))) ha, hst, ?_, h.ne, hok⟩
  rw [haw]
  exact h.away.world (ho _ hf.lt (Ne.symm (hf.not_cells h.st))) ha

theorem JnAt.done {w : World} {F : Nat → Prop} {j : JG} {J : Jn} {D : Dk} (h : JnAt w F j J D) (b : Bool) : JnAt (w.setCell ⟨j.jb, 2, none⟩ (.bool b)) F j { J with done := b } D := by
  refine h.re ?_ (fun k _ hk => blk_set_ne _ _ hk) rfl ?_
  · rw [blk_set h.st]; simp
  · have ok := h.ok
    exact ⟨ok.ring0, ok.ring1, ok.fits, ok.lplace, ok.place, ok.num0, ok.num1, ok.lturn0, ok.turn0, ok.turn1, ok.used, ok.away⟩

/-- The journal behind an answer of its disk. -/
def Jn.hear (J : Jn) (e : Int) : Jn := { J with done := J.done || (e != 0) }

set_option maxHeartbeats 400000 in
theorem writeJ_spec {w : World} {F : Nat → Prop} {j : JG} {J : Jn} {D : Dk} (h : JnAt w F j J D) (i : Int) (v : Value) (b : List UInt8) (hr : Rd w v b) :
    Calls Try.prog 58 #[.pointer (some ⟨j.jb, 0, none⟩), .int .i64 i, v] w fun e w' => e = .returned (.int .i64 (D.write i b).2) ∧ JnAt w' (Gr F w.heap.size) j (J.hear (D.write i b).2) (D.write i b).1 ∧ Upd [j.jb, j.d.db, j.d.mb] w w' := by
  have H := Lib.hid h
  have HR := Lib.hid hr
  have hc := blk_cell h.st
  have HN := Lib.hid (Dk.write_n D i b)
  have HW := Lib.hid (write_spec h.disk i v b hr)
  clear h hr
  generalize D.write i b = R at *
  obtain ⟨D', e'⟩ := R
  simp only at HW HN ⊢
  go_enter Try.func58, Try.ntmps58
  go_wp2_with fail
  refine HW.out.mono ?_
  rintro e w1 ⟨rfl, hD1, hu1⟩
  have hJ1 := H.out.step hD1 (hu1.mono (by simp)) Gr.old HN.out
  have hc1 := blk_cell hJ1.st
  have hf1 := blk_free hJ1.st
  have HJ1 := Lib.hid hJ1
  have HU1 := Lib.hid hu1
  clear hD1 hu1 hJ1 hc
  cases hd : J.done with
  | true =>
    rw [hd] at hc1
    have HD := Lib.hid hd
    clear hd
    go_wp2
    go_ret
    refine ⟨rfl, ?_, (HU1.out.mono (by simp)).set _ (.inl (by simp))⟩
    have e1 : J.hear e' = { J with done := true } := by unfold Jn.hear; rw [HD.out]; rfl
    rw [e1]; exact HJ1.out.done true
  | false =>
    rw [hd] at hc1
    have HD := Lib.hid hd
    clear hd
    go_wp2
    go_ret
    refine ⟨rfl, ?_, (HU1.out.mono (by simp)).set _ (.inl (by simp))⟩
    have e1 : J.hear e' = { J with done := (e' != 0) } := by unfold Jn.hear; rw [HD.out]; rfl
    rw [e1]; exact HJ1.out.done _

set_option maxHeartbeats 400000 in
theorem flushJ_spec {w : World} {F : Nat → Prop} {j : JG} {J : Jn} {D : Dk} (h : JnAt w F j J D) :
    Calls Try.prog 63 #[.pointer (some ⟨j.jb, 0, none⟩)] w fun e w' => e = .returned (.int .i64 D.flush.2) ∧ JnAt w' F j (J.hear D.flush.2) D.flush.1 ∧ Upd [j.jb, j.d.db, j.d.lb, j.d.mb] w w' := by
  have H := Lib.hid h
  have hc := blk_cell h.st
  have HN := Lib.hid (Dk.flush_n D)
  have HW := Lib.hid (flush_spec h.disk)
  clear h
  generalize D.flush = R at *
  obtain ⟨D', e'⟩ := R
  simp only at HW HN ⊢
  go_enter Try.func63, Try.ntmps63
  go_wp2_with fail
  refine HW.out.mono ?_
  rintro e w1 ⟨rfl, hD1, hu1⟩
  have hJ1 := H.out.step hD1 hu1 (fun _ h => h) HN.out
  have hc1 := blk_cell hJ1.st
  have hf1 := blk_free hJ1.st
  have HJ1 := Lib.hid hJ1
  have HU1 := Lib.hid hu1
  clear hD1 hu1 hJ1 hc
  cases hd : J.done with
  | true =>
    rw [hd] at hc1
    have HD := Lib.hid hd
    clear hd
    go_wp2
    go_ret
    refine ⟨rfl, ?_, (HU1.out.mono (by simp)).set _ (.inl (by simp))⟩
    have e1 : J.hear e' = { J with done := true } := by unfold Jn.hear; rw [HD.out]; rfl
    rw [e1]; exact HJ1.out.done true
  | false =>
    rw [hd] at hc1
    have HD := Lib.hid hd
    clear hd
    go_wp2
    go_ret
    refine ⟨rfl, ?_, (HU1.out.mono (by simp)).set _ (.inl (by simp))⟩
    have e1 : J.hear e' = { J with done := (e' != 0) } := by unfold Jn.hear; rw [HD.out]; rfl
    rw [e1]; exact HJ1.out.done _

end Go.Proofs.Ythbgidiblcokhaa
