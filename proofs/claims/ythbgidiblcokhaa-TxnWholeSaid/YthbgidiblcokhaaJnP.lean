/-
  What journal.Format does on a disk whose power stays.
-/
import Derived.Test.YthbgidiblcokhaaJnO
namespace Go.Proofs.Ythbgidiblcokhaa
open Go.RowKit

/-- The disk behind k sectors of zeros. -/
def Dk.zeroK (D : Dk) : Nat → Dk
  | 0 => D
  | k + 1 => ((if k = 2 then (D.zeroK k).flush.1 else D.zeroK k).write (k : Int) zsec).1
/-- The disk behind a Format. -/
def Dk.fmt (D : Dk) (ring : Nat) : Dk := ((D.zeroK D.n).flush.1.write 1 (Anc.sector ⟨1, 1, 0, ring⟩)).1.flush.1

/-- Power that stays. -/
def Dk.On (D : Dk) : Prop := D.off = false ∧ D.armed = -1
theorem Dk.On.flush {D : Dk} (h : D.On) : D.flush = ({ D with last := D.now, wait := fun _ => none }, 0) := by
  unfold Dk.flush Dk.step
  rw [if_neg (by rw [h.1]; decide), if_neg (by rw [h.2]; decide), if_neg (by rw [h.2]; decide)]
theorem Dk.On.write {D : Dk} (h : D.On) {i : Nat} (hi : i < D.n) {b : Sec} (hb : b.length = 512) : D.write (i : Int) b = ({ D with wait := fun j => if j = i then some b else D.wait j, writes := wrap64 (D.writes + 1) }, 0) := by
  have hm : D.may (i : Int) = 0 := Dk.may_of h.1 (by omega) (by omega)
  unfold Dk.write Dk.step
  rw [if_neg (by simpa using hm), if_neg (by simpa using hb), if_neg (by rw [h.2]; decide), if_neg (by rw [h.2]; decide)]
  simp
theorem Dk.On.flushed {D : Dk} (h : D.On) : D.flush.1.On ∧ D.flush.2 = 0 := by rw [h.flush]; exact ⟨h, rfl⟩
theorem Dk.On.written {D : Dk} (h : D.On) {i : Nat} (hi : i < D.n) {b : Sec} (hb : b.length = 512) : (D.write (i : Int) b).1.On ∧ (D.write (i : Int) b).2 = 0 := by rw [h.write hi hb]; exact ⟨h, rfl⟩
theorem Dk.zeroK_n (D : Dk) : ∀ k, (D.zeroK k).n = D.n
  | 0 => rfl
  | k + 1 => by
    show ((if k = 2 then (D.zeroK k).flush.1 else D.zeroK k).write (k : Int) zsec).1.n = D.n
    rw [Dk.write_n]
    split
    · rw [Dk.flush_n]; exact D.zeroK_n k
    · exact D.zeroK_n k
theorem Dk.On.zeroK {D : Dk} (h : D.On) : ∀ k, k ≤ D.n → (D.zeroK k).On
  | 0, _ => h
  | k + 1, hk => by
    have ih := h.zeroK k (by omega)
    show ((if k = 2 then (D.zeroK k).flush.1 else D.zeroK k).write (k : Int) zsec).1.On
    split
    · exact (ih.flushed.1.written (by rw [Dk.flush_n, Dk.zeroK_n]; omega) zsec_length).1
    · exact (ih.written (by rw [Dk.zeroK_n]; omega) zsec_length).1

/-- The loop of Format. -/
structure FmRel (w : World) (F : Nat → Prop) (g : DG) (D : Dk) (k : Nat) (wr : World) : Prop where
  disk : DiskAt wr (Gr F w.heap.size) g (D.zeroK k)
  zero : wr.heap[w.heap.size]? = some (.cells (bts zsec).toArray 5 (0, 0))
  upd : Upd [g.db, g.lb, g.mb] w wr

theorem fmt_nil (ring : Int) (w : World) : Calls Try.prog 17 #[.pointer none, .int .i64 ring] w fun e w' => e = .returned (.int .i64 1) ∧ w = w' := by
  go_enter Try.func17, Try.ntmps17
  go_wp2_with (go_at_call 46; refine (len_nil _).mono ?_; rintro e w' ⟨rfl, rfl⟩)
  go_ret
  exact ⟨rfl, rfl⟩

set_option maxRecDepth 100000 in
set_option maxHeartbeats 1000000 in
theorem fmt_ok {w : World} {F : Nat → Prop} {g : DG} {D : Dk} (h : DiskAt w F g D) (hon : D.On) (ring : Nat) (h0 : 8 ≤ ring) (h1 : ring ≤ 1024) (h2 : ring + 10 ≤ D.n) :
    Calls Try.prog 17 #[.pointer (some ⟨g.db, 0, none⟩), .int .i64 (ring : Int)] w fun e w' => e = .returned (.int .i64 0) ∧ DiskAt w' (Gr F w.heap.size) g (D.fmt ring) ∧ Upd [g.db, g.lb, g.mb] w w' := by
  have H := Lib.hid h
  have HON := Lib.hid hon
  have hn := h.ok.n0
  have hn1 := h.ok.n1
  have hn' : ((D.n : Int) == 0) = false := beq_eq_false_iff_ne.2 (by omega)
  have hmk := run_make_512
  clear h hon
  go_enter Try.func17, Try.ntmps17
  have hA : Upd [] w (w.alloc (.cells (bts zsec).toArray 5)) := (Upd.refl _ _).alloc _
  have HA := Lib.hid hA
  have HZ : Hid ((w.alloc (.cells (bts zsec).toArray 5)).heap[w.heap.size]? = some (.cells (bts zsec).toArray 5 (0, 0))) := blk_alloc _
  have HDA : Hid (DiskAt (w.alloc (.cells (bts zsec).toArray 5)) F g D) := H.out.world (hA.block _ H.out.lt.1 (by simp)) (hA.block _ H.out.lt.2.1 (by simp)) (hA.block _ H.out.lt.2.2 (by simp)) (fun _ _ _ hk => hA.block _ (blk_lt hk) (by simp))
  clear hA
  go_wp2_with (first | (go_at_call 46; (first | refine (len_spec H.out).mono ?_ | refine (len_spec HDA.out).mono ?_); rintro e w' ⟨rfl, rfl⟩))
  go_loopw [33] (fun i wr => ∃ k : Nat, k ≤ D.n ∧ i = .int .i64 (k : Int) ∧ FmRel w F g D k wr) (fun i _ => D.n - (intOf i).toNat)
  case atStart => exact ⟨0, by omega, rfl, HDA.out.mono Gr.old, HZ.out, HA.out.mono (by simp)⟩
  case round =>
    obtain ⟨k, hk, rfl, hrel⟩ := hrel
    have HREL := Lib.hid hrel
    clear hrel
    by_cases hlt : k < D.n
    · have hlt' : decide ((k : Int) < (D.n : Int)) = true := by simpa using hlt
      have HOK := Lib.hid (HON.out.zeroK k hk)
      have hsz : w.heap.size ≤ wr.heap.size := HREL.out.upd.size
      have hz0 : ∀ {wq : World}, Upd [g.db, g.lb, g.mb] wr wq → wq.heap[w.heap.size]? = some (.cells (bts zsec).toArray 5 (0, 0)) := fun hq => (hq.block _ (blk_lt HREL.out.zero) (HREL.out.disk.byte HREL.out.zero)).trans HREL.out.zero
      by_cases h2 : k = 2
      · have d2 : ((k : Int) == 2) = true := by rw [h2]; rfl
        have H2 := Lib.hid h2
        clear h2
        have HFL := Lib.hid (flush_spec HREL.out.disk)
        rw [HOK.out.flushed.2] at HFL
        go_wp2_with fail
        refine HFL.out.mono ?_
        rintro e w1 ⟨rfl, hd1, hu1⟩
        have HWR := Lib.hid (write_spec hd1 (k : Int) _ zsec (rd_of_block (hz0 hu1) zsec_length))
        rw [(HOK.out.flushed.1.written (by rw [Dk.flush_n, Dk.zeroK_n]; exact hlt) zsec_length).2] at HWR
        have HU1 := Lib.hid hu1
        clear hd1 hu1
        go_wp2_with fail
        refine HWR.out.mono ?_
        rintro e w2 ⟨rfl, hd2, hu2⟩
        have hu12 : Upd [g.db, g.lb, g.mb] wr w2 := HU1.out.trans (hu2.mono (by simp))
        have HR : Hid (FmRel w F g D (k + 1) w2) := ⟨by
          have e : D.zeroK (k + 1) = ((D.zeroK k).flush.1.write (k : Int) zsec).1 := by show ((if k = 2 then _ else _ : Dk).write _ _).1 = _; rw [if_pos H2.out]
          rw [e]; exact hd2.mono (Gr.gr2 (Nat.le_trans hsz HU1.out.size)), hz0 hu12, HREL.out.upd.trans hu12⟩
        clear hd2 hu2 hu12
        go_wp2_with fail
        exact ⟨⟨k + 1, by omega, by go_num, HR.out⟩, by simp [intOf]; omega⟩
      · have d2 : ((k : Int) == 2) = false := by rw [beq_eq_false_iff_ne]; omega
        have HWR := Lib.hid (write_spec HREL.out.disk (k : Int) _ zsec (rd_of_block HREL.out.zero zsec_length))
        rw [(HOK.out.written (by rw [Dk.zeroK_n]; exact hlt) zsec_length).2] at HWR
        go_wp2_with fail
        refine HWR.out.mono ?_
        rintro e w1 ⟨rfl, hd1, hu1⟩
        have hu1' : Upd [g.db, g.lb, g.mb] wr w1 := hu1.mono (by simp)
        have HR : Hid (FmRel w F g D (k + 1) w1) := ⟨by
          have e : D.zeroK (k + 1) = ((D.zeroK k).write (k : Int) zsec).1 := by show ((if k = 2 then _ else _ : Dk).write _ _).1 = _; rw [if_neg h2]
          rw [e]; exact hd1.mono (Gr.gr2 hsz), hz0 hu1', HREL.out.upd.trans hu1'⟩
        clear hd1 hu1 hu1'
        go_wp2_with fail
        exact ⟨⟨k + 1, by omega, by go_num, HR.out⟩, by simp [intOf]; omega⟩
    · obtain rfl : k = D.n := by omega
      have hlt' : decide ((D.n : Int) < (D.n : Int)) = false := by simp
      have HOK := Lib.hid (HON.out.zeroK D.n (Nat.le_refl _))
      have HFL := Lib.hid (flush_spec HREL.out.disk)
      rw [HOK.out.flushed.2] at HFL
      go_wp2_with fail
      refine HFL.out.mono ?_
      rintro e w1 ⟨rfl, hd1, hu1⟩
      have HU1 := Lib.hid hu1
      have HD1 := Lib.hid hd1
      have HSE := Lib.hid (sector_spec ⟨1, 1, 0, ring⟩ w1 (by show 0 < _; omega) (by show ring < _; omega) (by show (0 : Int) ≤ 1; omega) (by show (0 : Int) ≤ 1; omega))
      clear hd1 hu1
      go_wp2_with fail
      refine HSE.out.mono ?_
      rintro e w2 ⟨rfl, hs2, hu2⟩
      have hd2 : DiskAt w2 (Gr F w.heap.size) g (D.zeroK D.n).flush.1 := HD1.out.world (hu2.block _ HD1.out.lt.1 (by simp)) (hu2.block _ HD1.out.lt.2.1 (by simp)) (hu2.block _ HD1.out.lt.2.2 (by simp)) (fun _ _ _ hk => hu2.block _ (blk_lt hk) (by simp))
      have HWR := Lib.hid (write_spec hd2 1 _ _ (rd_of_block hs2 (Anc.sector_length _)))
      have hwe : ((D.zeroK D.n).flush.1.write 1 (Anc.sector ⟨1, 1, 0, ring⟩)).1.On ∧ ((D.zeroK D.n).flush.1.write 1 (Anc.sector ⟨1, 1, 0, ring⟩)).2 = 0 := HOK.out.flushed.1.written (i := 1) (by rw [Dk.flush_n, Dk.zeroK_n]; omega) (Anc.sector_length _)
      rw [hwe.2] at HWR
      have HO3 := Lib.hid hwe.1
      have HU2 := Lib.hid (HREL.out.upd.trans (HU1.out.trans (hu2.mono (by simp))))
      clear hd2 hs2 hu2 hwe
      go_wp2_with fail
      refine HWR.out.mono ?_
      rintro e w3 ⟨rfl, hd3, hu3⟩
      have HFL3 := Lib.hid (flush_spec hd3)
      rw [HO3.out.flushed.2] at HFL3
      have HU3 := Lib.hid (HU2.out.trans (hu3.mono (by simp)))
      have hsz2 : w.heap.size ≤ w2.heap.size := HU2.out.size
      have HSZ2 := Lib.hid hsz2
      clear hd3 hu3 hsz2
      go_wp2_with fail
      refine HFL3.out.mono ?_
      rintro e w4 ⟨rfl, hd4, hu4⟩
      have HD4 := Lib.hid (hd4.mono (Gr.gr2 HSZ2.out))
      have HU4 := Lib.hid (HU3.out.trans hu4)
      clear hd4 hu4
      go_wp2_with fail
      go_ret
      exact ⟨rfl, HD4.out, HU4.out⟩

end Go.Proofs.Ythbgidiblcokhaa
