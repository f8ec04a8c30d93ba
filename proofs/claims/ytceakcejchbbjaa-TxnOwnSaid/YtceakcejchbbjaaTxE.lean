/-
  cofferlaw7.begun answers true; TxnNone answers true.
-/
import Derived.Test.YtceakcejchbbjaaGT
namespace Go.Proofs.Ytceakcejchbbjaa
open Go.RowKit Go.MapKept Go.ChangeMaps

theorem run_build_1 (w : World) : (Instr.buildSlice 22 1 #[(0, .int .u8 1)]).run Try.prog w = .ok (.slice (some ⟨w.heap.size, 0, none⟩) 1 1) (w.alloc (.cells #[.int .u8 1] 5)) := by kernel_rfl
theorem run_build_2 (w : World) : (Instr.buildSlice 22 1 #[(0, .int .u8 2)]).run Try.prog w = .ok (.slice (some ⟨w.heap.size, 0, none⟩) 1 1) (w.alloc (.cells #[.int .u8 2] 5)) := by kernel_rfl
theorem wrE_zero {M : Nat → Option Sec} {hm : Nat} {i : Nat} {n : Nat} (h0 : i < hm) (h1 : n = 512) (h2 : (M i).isSome = true ∨ cntM M hm < 40) : wrE M hm (i : Int) n = 0 := by
  unfold wrE
  rw [if_neg (by omega), if_neg (by omega), if_neg]
  rintro ⟨a, b⟩
  rw [Int.toNat_natCast] at a
  rcases h2 with q | q
  · rw [a] at q; simp at q
  · omega
theorem wrM_zero {M : Nat → Option Sec} {hm : Nat} {i : Nat} {b : List UInt8} (h : wrE M hm (i : Int) b.length = 0) : wrM M hm (i : Int) b = fun k => if k = i then some b else M k := by
  unfold wrM; rw [if_pos h, Int.toNat_natCast]

set_option maxRecDepth 100000 in
set_option maxHeartbeats 2000000 in
theorem begun7_spec (w : World) : Calls Try.prog 4 #[] w fun e w' => e = .returned (.bool true) ∧ Upd [] w w' := by
  have hb1 := run_build_1
  have hb2 := run_build_2
  have HN := Lib.hid (made_hi 64 16 (by omega) (by omega) (by omega) (by omega) (by omega) w)
  go_enter Try.func4, Try.ntmps4
  go_wp2_with fail
  refine HN.out.mono ?_
  rintro e w1 ⟨j, rfl, hj, ⟨J1, D1, hr1, _⟩, hu1⟩
  have HJ := Lib.hid hj
  have HB := Lib.hid (begin_hi hr1)
  have HR1 := Lib.hid hr1
  have HU1 := Lib.hid hu1
  clear hj hr1 hu1
  go_wp2_with fail
  refine HB.out.mono ?_
  rintro e w2 ⟨x, rfl, hx1, hx2, hx, hr2, hu2⟩
  have HNX := Lib.hid (HR1.out.at_.late hx2)
  have HX2 := Lib.hid hx
  have HU2 := Lib.hid (HU1.out.lateJ hu2 HJ.out)
  have HB2 := Lib.hid (begin_hi hr2)
  have HR2 := Lib.hid hr2
  have HXL : Hid (w.heap.size ≤ x.tb ∧ w.heap.size ≤ x.wb) := ⟨Nat.le_trans HU1.out.size hx1, Nat.le_trans HU1.out.size hx2⟩
  clear hx1 hx2 hx hr2 hu2
  go_wp2_with fail
  refine HB2.out.mono ?_
  rintro e w3 ⟨y, rfl, hy1, hy2, hy, hr3, hu3⟩
  have HNY := Lib.hid (HR2.out.at_.late hy2)
  have HX3 := Lib.hid (HX2.out.jn HR2.out.at_ HNX.out hu3 (fun _ q => q))
  have HY3 := Lib.hid hy
  have HU3 := Lib.hid (HU2.out.lateJ hu3 HJ.out)
  have HNE : Hid (y.wb ≠ x.wb) := by have := HX2.out.lt.2; show _ ≠ _; omega
  have HNT : Hid (y.tb ≠ x.tb) := by have := HX2.out.lt.1; show _ ≠ _; omega
  have HYL : Hid (w.heap.size ≤ y.tb ∧ w.heap.size ≤ y.wb) := ⟨Nat.le_trans HU2.out.size hy1, Nat.le_trans HU2.out.size hy2⟩
  have HR3 := Lib.hid hr3
  clear hy1 hy2 hy hr3 hu3
  go_wp2_with fail
  refine (full_spec _ [1] _ (rd_row (blk_alloc _) rfl)).mono ?_
  rintro e w4 ⟨rfl, h4⟩
  have HU34 : Hid (Upd [] w3 w4) := by show Upd _ _ _; rw [← h4]; exact ((Upd.refl _ _).alloc _).alloc _
  have hb4 : w4.heap[w3.heap.size + 1]? = some (.cells (bts (pad [1])).toArray 5 (0, 0)) := by rw [← h4]; exact blk_alloc2 _ _
  have HW4 := Lib.hid (write_hi (HR3.out.below HU34.out) (HX3.out.below HU34.out) HNX.out (MOk.none _) 3 _ (pad [1]) (rd_row hb4 (pad_length _)) (by rw [pad_length]; omega))
  have e4 : wrE (fun _ => none) (64 - 2 - 16) 3 (pad [1]).length = 0 := wrE_zero (i := 3) (by omega) (pad_length _) (.inr (by rw [cntM_none]; omega))
  have e4' : wrM (fun _ => none) (64 - 2 - 16) 3 (pad [1]) = fun k => if k = 3 then some (pad [1]) else none := wrM_zero (i := 3) e4
  have HE4 := Lib.hid e4
  have HM4 := Lib.hid e4'
  clear h4 hb4 e4 e4'
  go_wp2_with fail
  refine HW4.out.mono ?_
  rintro e w5 ⟨rfl, hx5, hr5, hu5⟩
  have HX5 := Lib.hid hx5
  have HR5 := Lib.hid hr5
  have HY5 := Lib.hid ((HY3.out.below HU34.out).other (HX3.out.below HU34.out) HNE.out hu5)
  have HU5 := Lib.hid ((HU3.out.trans HU34.out).late hu5 (fun q hq => by simp at hq; subst hq; exact .inr HXL.out.2))
  rw [HE4.out]
  clear hx5 hr5 hu5
  go_wp2_with fail
  refine (full_spec _ [2] _ (rd_row (blk_alloc _) rfl)).mono ?_
  rintro e w6 ⟨rfl, h6⟩
  have HU56 : Hid (Upd [] w5 w6) := by show Upd _ _ _; rw [← h6]; exact ((Upd.refl _ _).alloc _).alloc _
  have hb6 : w6.heap[w5.heap.size + 1]? = some (.cells (bts (pad [2])).toArray 5 (0, 0)) := by rw [← h6]; exact blk_alloc2 _ _
  have HW6 := Lib.hid (write_hi (HR5.out.below HU56.out) (HY5.out.below HU56.out) HNY.out (MOk.none _) 3 _ (pad [2]) (rd_row hb6 (pad_length _)) (by rw [pad_length]; omega))
  clear h6 hb6
  go_wp2_with fail
  refine HW6.out.mono ?_
  rintro e w7 ⟨rfl, hy7, hr7, hu7⟩
  have HX7 := Lib.hid ((HX5.out.below HU56.out).other (HY5.out.below HU56.out) (Ne.symm HNE.out) hu7)
  have HR7 := Lib.hid hr7
  have HY7 := Lib.hid hy7
  have HU7 := Lib.hid ((HU5.out.trans HU56.out).late hu7 (fun q hq => by simp at hq; subst hq; exact .inr HYL.out.2))
  have hox : MOk (wrM (fun _ => none) (64 - 2 - 16) 3 (pad [1])) (64 - 2 - 16) := (MOk.none _).wr _ _
  have hcx : cntM (wrM (fun _ => none) (64 - 2 - 16) 3 (pad [1])) (64 - 2 - 16) = 1 := by
    rw [HM4.out, cntM_put (MOk.none _) (by omega), cntM_none]; rfl
  have HC := Lib.hid (commit_hi HR7.out HX7.out HNX.out hox (by omega) (by omega) (by omega) (by omega) (by omega))
  have HCX := Lib.hid hcx
  clear hy7 hr7 hu7 hox hcx
  go_wp2_with fail
  refine HC.out.mono ?_
  rintro e w8 ⟨rfl, hov8, ⟨J8, D8, t8, hr8, ht8⟩, hu8⟩
  have HY8 := Lib.hid (HY7.out.over HX7.out.st HNT.out HR7.out.at_ HNY.out hu8 (fun k hk => by simpa using hk))
  have HU8 := Lib.hid (HU7.out.late hu8 (fun q hq => by
    have := HXL.out; have := HJ.out
    simp [JG.all] at hq
    obtain ⟨k1, k2, k3, k4, k5⟩ := HJ.out
    rcases hq with rfl | rfl | rfl | rfl | rfl | rfl
    · exact .inr HXL.out.1
    · exact .inr k1
    · exact .inr k2
    · exact .inr k3
    · exact .inr k4
    · exact .inr k5))
  have hoy : MOk (wrM (fun _ => none) (64 - 2 - 16) 3 (pad [2])) (64 - 2 - 16) := (MOk.none _).wr _ _
  have HL := Lib.hid (commit_late hr8 HY8.out HNY.out hoy (by omega) (by rw [ht8, HCX.out]; decide))
  have HR8 := Lib.hid hr8
  clear hov8 hr8 ht8 hu8 hoy
  go_wp2_with fail
  refine HL.out.mono ?_
  rintro e w9 ⟨rfl, hov9, hr9, hu9⟩
  have HO9 := Lib.hid (commitT_over hov9)
  have HU9 := Lib.hid (HU8.out.late hu9 (fun q hq => by
    obtain ⟨k1, k2, k3, k4, k5⟩ := HJ.out
    simp [JG.all] at hq
    rcases hq with rfl | rfl | rfl | rfl | rfl | rfl
    · exact .inr HYL.out.1
    · exact .inr k1
    · exact .inr k2
    · exact .inr k3
    · exact .inr k4
    · exact .inr k5))
  clear hov9 hr9 hu9
  go_wp2_with fail
  refine HO9.out.mono ?_
  rintro e w10 ⟨rfl, n10, rfl⟩
  go_wp2_with fail
  go_ret
  exact ⟨rfl, HU9.out.drewN _⟩

end Go.Proofs.Ytceakcejchbbjaa

