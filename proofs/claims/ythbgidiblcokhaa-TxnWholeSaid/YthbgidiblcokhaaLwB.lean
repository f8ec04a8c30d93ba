/-
  cofferlaw6.begun answers true.
-/
import Derived.Test.YthbgidiblcokhaaLwA
namespace Go.Proofs.Ythbgidiblcokhaa
open Go.RowKit

theorem run_build_9 (w : World) : (Instr.buildSlice 36 1 #[(0, .int .u8 9)]).run Try.prog w = .ok (.slice (some ⟨w.heap.size, 0, none⟩) 1 1) (w.alloc (.cells #[.int .u8 9] 5)) := by kernel_rfl
theorem run_build_put (i : Int) (ad : Option Addr) (n c : Nat) (w : World) : (Instr.buildSlice 35 1 #[(0, .agg #[.int .i64 i, .slice ad n c])]).run Try.prog w = .ok (.slice (some ⟨w.heap.size, 0, none⟩) 1 1) (w.alloc (.cells #[.int .i64 i, .slice ad n c] 40)) := by kernel_rfl

theorem putsAt_one {w : World} (i : Int) (ad : Option Addr) (n c : Nat) (b : List UInt8) (h : Rd w (.slice ad n c) b) :
    PutsAt (w.alloc (.cells #[.int .i64 i, .slice ad n c] 40)) (.slice (some ⟨w.heap.size, 0, none⟩) 1 1) [(i, b)] := by
  refine ⟨[(i, .slice ad n c)], ⟨by simp [putCells], .inr ⟨w.heap.size, 1, #[.int .i64 i, .slice ad n c], rfl, Nat.zero_le _, blk_alloc _, Nat.le_refl _, by unfold maxLen; omega, by simp, by simp [putCells]⟩⟩, rfl, fun k p hp => ?_⟩
  cases k with
  | zero => simp at hp; subst hp; exact ⟨(i, b), rfl, rfl, h.alloc _⟩
  | succ k => simp at hp

theorem alloc_size (w : World) (o : Obj) : (w.alloc o).heap.size = w.heap.size + 1 := by simp
theorem blk_alloc2 {w : World} (o o2 : Obj) : ((w.alloc o).alloc o2).heap[w.heap.size + 1]? = some o2 := by rw [← alloc_size w o]; exact blk_alloc _
theorem rd_row {w : World} {k : Nat} {l : List UInt8} (h : w.heap[k]? = some (.cells (bts l).toArray 5 (0, 0))) {n : Nat} (hn : l.length = n) : Rd w (.slice (some ⟨k, 0, none⟩) n n) l := by
  subst hn
  have : Own w 5 (fun _ => True) (.slice (some ⟨k, 0, none⟩) l.length l.length) l := ⟨k, [], trivial, rfl, by simpa using h⟩
  exact this.rd
theorem new_hi (n : Nat) (h0 : 32 ≤ n) (h1 : n ≤ 4096) (w : World) :
    Calls Try.prog 16 #[.int .i64 (n : Int)] w fun e w' => ∃ g : DG, e = .returned (.pointer (some ⟨g.db, 0, none⟩)) ∧ DiskAt w' (fun _ => False) g (Dk.new n) ∧ w.heap.size ≤ g.db ∧ w.heap.size ≤ g.lb ∧ w.heap.size ≤ g.mb ∧ Upd [] w w' := by
  refine (new_spec n h0 h1 w).mono ?_
  rintro e w' ⟨e1, e2, e3⟩
  exact ⟨_, e1, e2, by show w.heap.size ≤ w.heap.size + 2; omega, by show w.heap.size ≤ w.heap.size; omega, by show w.heap.size ≤ w.heap.size + 1; omega, e3⟩
/-- A sector's row: its shape and its cells. -/
theorem OwnN.sec {w : World} {F : Nat → Prop} {v : Value} {l : Sec} (h : OwnN w 5 F v l) (hl : l.length = 512) : ∃ k c, v = .slice (some ⟨k, 0, none⟩) 512 c ∧ 512 ≤ c ∧ F k ∧ ∀ i (q : i < 512), w.cell? ⟨k, i, none⟩ = some (bv (l[i]'(by omega))) := by
  obtain ⟨k, rest, hF, hv, hb⟩ := h.own (by omega)
  refine ⟨k, l.length + rest.length, by rw [hv, hl], by omega, hF, fun i q => ?_⟩
  rw [blk_cell hb]
  simp [List.getElem?_append_left, bts, hl, q]
/-- All blocks of a disk are new since w. -/
def DG.Late (g : DG) (w : World) : Prop := w.heap.size ≤ g.db ∧ w.heap.size ≤ g.lb ∧ w.heap.size ≤ g.mb
def JG.Late (j : JG) (w : World) : Prop := w.heap.size ≤ j.jb ∧ w.heap.size ≤ j.ab ∧ j.d.Late w
theorem Upd.lateD {a b c : World} {g : DG} (h : Upd [] a b) (k : Upd [g.db, g.lb, g.mb] b c) (hg : g.Late a) : Upd [] a c :=
  h.late k fun i hi => by
    obtain ⟨h1, h2, h3⟩ := hg
    simp at hi; rcases hi with rfl | rfl | rfl
    · exact .inr h1
    · exact .inr h2
    · exact .inr h3
theorem Upd.lateJ {a b c : World} {j : JG} (h : Upd [] a b) (k : Upd j.all b c) (hj : j.Late a) : Upd [] a c :=
  h.late k fun i hi => by
    obtain ⟨h0, h00, h1, h2, h3⟩ := hj
    simp [JG.all] at hi; rcases hi with rfl | rfl | rfl | rfl | rfl
    · exact .inr h0
    · exact .inr h00
    · exact .inr h1
    · exact .inr h2
    · exact .inr h3
theorem Upd.lateR {a b c : World} {j : JG} (h : Upd [] a b) (k : Upd [j.jb] b c) (hj : j.Late a) : Upd [] a c :=
  h.late k fun i hi => by simp at hi; subst hi; exact .inr hj.1

set_option maxRecDepth 100000 in
set_option maxHeartbeats 1000000 in
theorem begun6_spec (w : World) : Calls Try.prog 14 #[] w fun e w' => e = .returned (.bool true) ∧ Upd [] w w' := by
  have hb9 := run_build_9
  have hbp := run_build_put
  have HN := Lib.hid (new_hi 64 (by omega) (by omega) w)
  go_enter Try.func14, Try.ntmps14
  go_wp2_with fail
  refine HN.out.mono ?_
  rintro e w1 ⟨g, rfl, hd1, hg1, hg2, hg3, hu1⟩
  have HG : Hid (g.Late w) := ⟨hg1, hg2, hg3⟩
  have HF := Lib.hid (new_fmt_hi hd1 (by omega) (by omega) 16 (by omega) (by omega) (by omega))
  have HU1 := Lib.hid hu1
  clear hd1 hg1 hg2 hg3 hu1
  go_wp2_with fail
  refine HF.out.mono ?_
  rintro e w2 ⟨rfl, hd2, hu2⟩
  have HO := Lib.hid (open_hi hd2 (by omega) (by omega))
  have HU2 := Lib.hid (HU1.out.lateD hu2 HG.out)
  clear hd2 hu2
  go_wp2_with fail
  refine HO.out.mono ?_
  rintro e w3 ⟨jb, ab, rfl, hj1, hj2, ⟨J3, D3, hr3, _⟩, hu3⟩
  have HJ : Hid (JG.Late ⟨jb, ab, g⟩ w) := ⟨Nat.le_trans HU2.out.size hj1, Nat.le_trans HU2.out.size hj2, HG.out⟩
  have HU3 := Lib.hid (HU2.out.lateD hu3 HG.out)
  have HR3 := Lib.hid hr3
  clear hj1 hj2 hr3 hu3
  go_wp2_with fail
  refine (full_spec _ [9] _ (rd_row (blk_alloc _) rfl)).mono ?_
  rintro e w4 ⟨rfl, h4⟩
  have HU4 : Hid (Upd [] w3 w4) := by show Upd _ _ _; rw [← h4]; exact ((Upd.refl _ _).alloc _).alloc _
  have HB4 : Hid (w4.heap[w3.heap.size + 1]? = some (.cells (bts (pad [9])).toArray 5 (0, 0))) := by show _ = _; rw [← h4]; exact blk_alloc2 _ _
  clear h4
  go_wp2_with fail
  have hputs := putsAt_one 5 _ 512 512 (pad [9]) (rd_row HB4.out (pad_length _))
  have hr4 := HR3.out.below (HU4.out.alloc (.cells #[.int .i64 5, .slice (some ⟨w3.heap.size + 1, 0, none⟩) 512 512] 40))
  refine (com_hi hr4 _ _ hputs (by decide +kernel) (by simp) (by omega) (by omega)).mono ?_
  rintro e w5 ⟨rfl, ⟨J5, D5, hr5, _⟩, hu5⟩
  have HU5 := Lib.hid ((HU3.out.trans (HU4.out.alloc _)).lateJ hu5 HJ.out)
  have HP := Lib.hid (power_hi hr5 _ [] (RdL.nil _ _))
  clear hputs hr4 hr5 hu5
  go_wp2_with fail
  refine HP.out.mono ?_
  rintro e w6 ⟨rfl, hd6, hu6⟩
  have HU6 := Lib.hid (HU5.out.lateD hu6 HG.out)
  have HO6 := Lib.hid (open_hi hd6 (by omega) (by omega))
  clear hd6 hu6
  go_wp2_with fail
  refine HO6.out.mono ?_
  rintro e w7 ⟨kb, kab, rfl, hk1, hk2, ⟨J7, D7, hr7, _⟩, hu7⟩
  have HK : Hid (JG.Late ⟨kb, kab, g⟩ w) := ⟨Nat.le_trans HU6.out.size hk1, Nat.le_trans HU6.out.size hk2, HG.out⟩
  have HU7 := Lib.hid (HU6.out.lateD hu7 HG.out)
  have HR7 := Lib.hid (read_hi hr7 5 (by omega))
  clear hk1 hk2 hr7 hu7
  go_wp2_with fail
  refine HR7.out.mono ?_
  rintro e w8 ⟨v8, rfl, ho8, hr8, hu8⟩
  have hH5 : putsH (fun _ => zsec) [(5, pad [9])] 5 = pad [9] := rfl
  rw [hH5] at ho8
  obtain ⟨k8, c8, rfl, hc8, _, hcell⟩ := ho8.sec (pad_length _)
  have hc0 : w8.cell? ⟨k8, 0, none⟩ = some (.int .u8 9) := (hcell 0 (by omega)).trans (by
    have h9 : (pad [9])[0]? = some 9 := by decide +kernel
    rw [List.getElem?_eq_getElem (by rw [pad_length]; omega)] at h9
    rw [Option.some.inj h9]; rfl)
  have HU8 := Lib.hid (HU7.out.lateR hu8 HK.out)
  have HH8 := fun k => Lib.hid (homes_hi (hr8.of (hr8.at_.drewN k)))
  have HT8 := fun k => Lib.hid (turn_hi (hr8.of (hr8.at_.drewN k)))
  clear ho8 hcell hr8 hu8 hH5
  go_wp2_with fail
  refine (HH8 0).out.mono ?_
  rintro e w9 ⟨rfl, k9, rfl⟩
  go_wp2_with fail
  refine (HT8 k9).out.mono ?_
  rintro e w10 ⟨rfl, rfl⟩
  go_wp2_with fail
  go_ret
  exact ⟨rfl, HU8.out.drewN _⟩

end Go.Proofs.Ythbgidiblcokhaa
