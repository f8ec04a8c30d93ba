/-
  JournalNone answers true.
-/
import Derived.Test.YthbgidiblcokhaaLwC
namespace Go.Proofs.Ythbgidiblcokhaa
open Go.RowKit

theorem run_build_zeroJ (w : World) : (Instr.build 51 #[]).run Try.prog w = .ok (.agg zeroJ) w := by kernel_rfl

set_option maxRecDepth 100000 in
set_option maxHeartbeats 2000000 in
theorem none6_spec (w : World) : Calls Try.prog 4 #[] w fun e w' => e = .returned (.bool true) ∧ Upd [] w w' := by
  have hbz := run_build_zeroJ
  go_enter Try.func4, Try.ntmps4
  have HA : Hid (Upd [] w (w.alloc (.cells zeroJ 51))) := (Upd.refl _ _).alloc _
  have HB : Hid ((w.alloc (.cells zeroJ 51)).heap[w.heap.size]? = some (.cells zeroJ 51 (0, 0))) := blk_alloc _
  obtain ⟨w0, hw0⟩ : ∃ w0, w0 = w.alloc (.cells zeroJ 51) := ⟨_, rfl⟩
  rw [← hw0] at HA HB
  have HZ : ∀ {wk : World}, Upd [] w0 wk → wk.heap[w.heap.size]? = some (.cells zeroJ 51 (0, 0)) := fun h => (h.block _ (blk_lt HB.out) (by simp)).trans HB.out
  have HW0 := Lib.hid hw0
  clear hw0
  go_wp2_with fail
  rw [show (#[Value.pointer none, Value.int IntKind.i64 0, Value.bool false, Value.int IntKind.u64 0, Value.int IntKind.u64 0, Value.int IntKind.i64 0, Value.int IntKind.i64 0, Value.int IntKind.u64 0, Value.int IntKind.i64 0, Value.int IntKind.i64 0, Value.map none] : Array Value) = zeroJ from rfl, ← HW0.out]
  refine (open_nil _).mono ?_
  rintro e w1 ⟨rfl, rfl⟩
  have HU0 : Hid (Upd [] w0 w0) := Upd.refl _ _
  have HN1 := Lib.hid (new_hi 40 (by omega) (by omega) w0)
  go_wp2_with fail
  refine HN1.out.mono ?_
  rintro e w2 ⟨g, rfl, hd2, hg1, hg2, hg3, hu2⟩
  have HG2 : Hid (g.Late w0) := ⟨hg1, hg2, hg3⟩
  have HU2 := Lib.hid hu2
  have HO2 := Lib.hid (open_none hd2)
  clear hd2 hg1 hg2 hg3 hu2
  go_wp2_with fail
  refine HO2.out.mono ?_
  rintro e w3 ⟨rfl, hu3⟩
  have HU3 := Lib.hid (HU2.out.lateD hu3 HG2.out)
  clear hu3
  go_wp2_with fail
  refine (readJ_nil _ _).mono ?_
  rintro e w4 ⟨rfl, n4, hn4⟩
  have HU4 : Hid (Upd [] w0 w4) := by show Upd _ _ _; rw [hn4]; exact HU3.out.drewN n4
  clear hn4
  go_wp2_with fail
  refine (readJ_zero _ (HZ HU4.out)).mono ?_
  rintro e w5 ⟨rfl, n5, hn5⟩
  have HU5 : Hid (Upd [] w0 w5) := by show Upd _ _ _; rw [hn5]; exact HU4.out.drewN n5
  clear hn5
  go_wp2_with fail
  refine (begun6_spec _).mono ?_
  rintro e w6 ⟨rfl, hu6⟩
  have HU6 := Lib.hid (HU5.out.trans hu6)
  clear hu6
  go_wp2_with fail
  refine (fmt_nil _ _).mono ?_
  rintro e w7 ⟨rfl, rfl⟩
  go_wp2_with fail
  refine (new_hi 32 (by omega) (by omega) _).mono ?_
  rintro e w8 ⟨g8, rfl, hd8, _, _, _, hu8⟩
  have HU8 := Lib.hid (HU6.out.trans hu8)
  have HF8 := Lib.hid (fmt_bad hd8 23 (by omega) (by omega) (by show 32 < 33; omega))
  clear hd8 hu8
  go_wp2_with fail
  refine HF8.out.mono ?_
  rintro e w9 ⟨rfl, rfl⟩
  go_wp2_with fail
  refine (new_hi 32 (by omega) (by omega) _).mono ?_
  rintro e w10 ⟨g10, rfl, hd10, hg1, hg2, hg3, hu10⟩
  have HG10 : Hid (g10.Late w0) := ⟨Nat.le_trans HU8.out.size hg1, Nat.le_trans HU8.out.size hg2, Nat.le_trans HU8.out.size hg3⟩
  have HU10 := Lib.hid (HU8.out.trans hu10)
  have HF10 := Lib.hid (new_fmt_hi hd10 (by omega) (by omega) 22 (by omega) (by omega) (by omega))
  clear hd10 hg1 hg2 hg3 hu10
  go_wp2_with fail
  refine HF10.out.mono ?_
  rintro e w11 ⟨rfl, _, hu11⟩
  have HU11 := Lib.hid (HU10.out.lateD hu11 HG10.out)
  clear hu11
  go_wp2_with fail
  refine (com_nil _ _).mono ?_
  rintro e w12 ⟨rfl, n12, hn12⟩
  have HU12 : Hid (Upd [] w0 w12) := by show Upd _ _ _; rw [hn12]; exact HU11.out.drewN n12
  clear hn12
  go_wp2_with fail
  refine (ck_zero (HZ HU12.out)).mono ?_
  rintro e w13 ⟨rfl, n13, hn13⟩
  have HU13 : Hid (Upd [] w0 w13) := by show Upd _ _ _; rw [hn13]; exact HU12.out.drewN n13
  clear hn13
  go_wp2_with fail
  refine (homes_nil _).mono ?_
  rintro e w14 ⟨rfl, n14, hn14⟩
  have HU14 : Hid (Upd [] w0 w14) := by show Upd _ _ _; rw [hn14]; exact HU13.out.drewN n14
  clear hn14
  go_wp2_with fail
  refine (homes_zero (HZ HU14.out)).mono ?_
  rintro e w15 ⟨rfl, n15, hn15⟩
  have HU15 : Hid (Upd [] w0 w15) := by show Upd _ _ _; rw [hn15]; exact HU14.out.drewN n15
  clear hn15
  go_wp2_with fail
  refine (free_nil _).mono ?_
  rintro e w16 ⟨rfl, n16, hn16⟩
  have HU16 : Hid (Upd [] w0 w16) := by show Upd _ _ _; rw [hn16]; exact HU15.out.drewN n16
  clear hn16
  go_wp2_with fail
  refine (free_zero (HZ HU16.out)).mono ?_
  rintro e w17 ⟨rfl, n17, hn17⟩
  have HU17 : Hid (Upd [] w0 w17) := by show Upd _ _ _; rw [hn17]; exact HU16.out.drewN n17
  clear hn17
  go_wp2_with fail
  refine (turn_nil _).mono ?_
  rintro e w18 ⟨rfl, n18, hn18⟩
  have HU18 : Hid (Upd [] w0 w18) := by show Upd _ _ _; rw [hn18]; exact HU17.out.drewN n18
  clear hn18
  go_wp2_with fail
  refine (turn_zero (HZ HU18.out)).mono ?_
  rintro e w19 ⟨rfl, n19, hn19⟩
  have HU19 : Hid (Upd [] w0 w19) := by show Upd _ _ _; rw [hn19]; exact HU18.out.drewN n19
  clear hn19
  go_wp2_with fail
  go_ret
  exact ⟨rfl, HA.out.trans HU19.out⟩

end Go.Proofs.Ythbgidiblcokhaa
