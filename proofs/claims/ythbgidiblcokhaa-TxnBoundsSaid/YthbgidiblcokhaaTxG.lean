/-
  TxnBounds answers true: the walk.
-/
import Derived.Test.YthbgidiblcokhaaTxE
namespace Go.Proofs.Ythbgidiblcokhaa
open Go.RowKit Go.MapKept Go.ChangeMaps

/-- The first k sectors, all alike. -/
def Mb (k : Nat) (s : Sec) : Nat → Option Sec := fun i => if i < k then some s else none
theorem Mb_ok {k h : Nat} {s : Sec} (hk : k ≤ h) (hs : s.length = 512) : MOk (Mb k s) h := by
  intro i x hx
  unfold Mb at hx
  split at hx
  · cases hx; exact ⟨by omega, hs⟩
  · simp at hx
theorem Mb_cnt {k h : Nat} {s : Sec} (hk : k ≤ h) : cntM (Mb k s) h = k := by
  have hp : (keysM (Mb k s) h).Perm (List.range k) := by
    refine (List.perm_ext_iff_of_nodup (keysM_nodup _ _) List.nodup_range).2 fun i => ?_
    unfold keysM Mb
    rw [List.mem_filter, List.mem_range, List.mem_range]
    constructor
    · rintro ⟨_, q⟩
      by_cases r : i < k
      · exact r
      · rw [if_neg r] at q; simp at q
    · intro q; exact ⟨by omega, by rw [if_pos q]; rfl⟩
  unfold cntM
  rw [hp.length_eq, List.length_range]
theorem Mb_put {k : Nat} {s : Sec} : (fun i => if i = k then some s else Mb k s i) = Mb (k + 1) s := by
  funext i
  unfold Mb
  by_cases h1 : i = k
  · rw [if_pos h1, if_pos (by omega)]
  · rw [if_neg h1]
    by_cases h2 : i < k
    · rw [if_pos h2, if_pos (by omega)]
    · rw [if_neg h2, if_neg (by omega)]
theorem Mb_zero (s : Sec) : Mb 0 s = fun _ => none := by funext i; unfold Mb; rw [if_neg (by omega)]

set_option maxRecDepth 100000 in
set_option maxHeartbeats 4000000 in
theorem bounds7_spec (a0 : Int) {v : Value} {b : List UInt8} (w : World) (hv : Rd w v b) : Calls Try.prog 10 #[.int .i64 a0, v] w fun e w' => e = .returned (.bool true) ∧ Upd [] w w' := by
  obtain ⟨av, cv, rfl, _⟩ := id hv
  have HV := Lib.hid hv
  clear hv
  by_cases h1 : 512 < b.length
  · have dh1 : decide (512 < (b.length : Int)) = true := by simp; omega
    go_enter Try.func10, Try.ntmps10
    go_wp2_with fail
    refine (begun7_spec w).mono ?_
    rintro e w1 ⟨rfl, hu1⟩
    have HU1 := Lib.hid hu1
    clear hu1
    go_wp2_with fail
    go_ret
    exact ⟨rfl, HU1.out⟩
  have dh1 : decide (512 < (b.length : Int)) = false := by simp; omega
  have hP := placeN_lt (k := a0) (n := 61) (by omega)
  have HP := fun w => Lib.hid (place_spec a0 61 w (by omega) (by omega))
  generalize placeN a0 61 = N at *
  go_enter Try.func10, Try.ntmps10
  go_wp2_with fail
  refine (begun7_spec w).mono ?_
  rintro e w1 ⟨rfl, hu1⟩
  have HU1 := Lib.hid hu1
  clear hu1
  go_wp2_with fail
  refine (made_hi 128 60 (by omega) (by omega) (by omega) (by omega) (by omega) w1).mono ?_
  rintro e w2 ⟨j, rfl, hj, ⟨J2, D2, hr2, _⟩, hu2⟩
  have HJ : Hid (j.Late w) := by
    have := HU1.out.size
    obtain ⟨k1, k2, k3, k4, k5⟩ := hj
    exact ⟨Nat.le_trans this k1, Nat.le_trans this k2, Nat.le_trans this k3, Nat.le_trans this k4, Nat.le_trans this k5⟩
  have HU2 := Lib.hid (HU1.out.trans hu2)
  have HB := Lib.hid (begin_hi hr2)
  have HR2 := Lib.hid hr2
  clear hj hr2 hu2
  go_wp2_with fail
  refine HB.out.mono ?_
  rintro e w3 ⟨x, rfl, hx1, hx2, hx, hr3, hu3⟩
  have HNX := Lib.hid (HR2.out.at_.late hx2)
  have HXL : Hid (w.heap.size ≤ x.tb ∧ w.heap.size ≤ x.wb) := ⟨Nat.le_trans HU2.out.size hx1, Nat.le_trans HU2.out.size hx2⟩
  have HX3 := Lib.hid hx
  have HU3 := Lib.hid (HU2.out.lateJ hu3 HJ.out)
  have HR3 := Lib.hid hr3
  clear hx1 hx2 hx hr3 hu3
  go_wp2_with fail
  refine (HP _).out.mono ?_
  rintro e w' ⟨rfl, rfl⟩
  obtain ⟨s, hs⟩ : ∃ s, s = pad b := ⟨_, rfl⟩
  have hsl : s.length = 512 := by rw [hs, pad_length]
  have HS := Lib.hid hs
  clear hs
  go_wp2_with fail
  go_loopw [9] (fun i wr => ∃ k : Nat, k ≤ N ∧ i = .int .i64 (k : Int) ∧ TxAt wr x j.jb (1 - 1) (Mb (min k 40) s) ∧ JrAt wr j J2 D2 128 60 1 2 (fun _ => zsec) ∧ Upd [] w wr) (fun i _ => N - (intOf i).toNat)
  case atStart => exact ⟨0, Nat.zero_le _, rfl, by rw [show min 0 40 = 0 from rfl, Mb_zero]; exact HX3.out, HR3.out, HU3.out⟩
  case round =>
    obtain ⟨k, hk, rfl, hx, hr, hu⟩ := hrel
    have HX := Lib.hid hx
    have HR := Lib.hid hr
    have HU := Lib.hid hu
    clear hx hr hu
    by_cases hlt : k < N
    · have hlt' : decide ((k : Int) < (N : Int)) = true := by simpa using hlt
      go_wp2_with fail
      refine (full_spec _ b wr (HV.out.below HU.out)).mono ?_
      rintro e w4 ⟨rfl, h4⟩
      have hb4 : w4.heap[wr.heap.size]? = some (.cells (bts s).toArray 5 (0, 0)) := by rw [← h4, HS.out]; exact blk_alloc _
      have hu4 : Upd [] wr w4 := by rw [← h4]; exact (Upd.refl _ _).alloc _
      have HW := Lib.hid (write_hi (HR.out.below hu4) (HX.out.below hu4) HNX.out (Mb_ok (h := 128 - 2 - 60) (by omega) hsl) (k : Int) _ s (rd_row hb4 hsl) (by omega))
      have HU4 := Lib.hid (HU.out.trans hu4)
      clear h4 hb4 hu4
      by_cases h40 : k < 40
      · have d40 : decide ((k : Int) < 40) = true := by simp; omega
        have d40' : decide (40 ≤ (k : Int)) = false := by simp; omega
        have hE : wrE (Mb (min k 40) s) (128 - 2 - 60) (k : Int) s.length = 0 := wrE_zero (by omega) hsl (.inr (by rw [Mb_cnt (by omega)]; omega))
        have hM : wrM (Mb (min k 40) s) (128 - 2 - 60) (k : Int) s = Mb (min (k + 1) 40) s := by
          rw [wrM_zero hE, show min k 40 = k from by omega, Mb_put, show min (k + 1) 40 = k + 1 from by omega]
        rw [hE, hM] at HW
        clear hE hM
        go_wp2_with fail
        refine HW.out.mono ?_
        rintro e w5 ⟨rfl, hx5, hr5, hu5⟩
        have HX5 := Lib.hid hx5
        have HR5 := Lib.hid hr5
        have HU5 := Lib.hid (HU4.out.late hu5 (fun q hq => by simp at hq; subst hq; exact .inr HXL.out.2))
        clear hx5 hr5 hu5
        go_wp2_with fail
        exact ⟨⟨k + 1, by omega, by go_num, HX5.out, HR5.out, HU5.out⟩, by simp [intOf]; omega⟩
      · have d40 : decide ((k : Int) < 40) = false := by simp; omega
        have d40' : decide (40 ≤ (k : Int)) = true := by simp; omega
        have hE : wrE (Mb (min k 40) s) (128 - 2 - 60) (k : Int) s.length = 2 := by
          unfold wrE
          rw [if_neg (by omega), if_neg (by simpa using hsl), if_pos]
          refine ⟨?_, by rw [Mb_cnt (by omega)]; omega⟩
          rw [Int.toNat_natCast]; unfold Mb; rw [if_neg (by omega)]
        have hM : wrM (Mb (min k 40) s) (128 - 2 - 60) (k : Int) s = Mb (min (k + 1) 40) s := by
          unfold wrM
          rw [if_neg (by rw [hE]; decide), show min k 40 = 40 from by omega, show min (k + 1) 40 = 40 from by omega]
        rw [hE, hM] at HW
        clear hE hM
        go_wp2_with fail
        refine HW.out.mono ?_
        rintro e w5 ⟨rfl, hx5, hr5, hu5⟩
        have HX5 := Lib.hid hx5
        have HR5 := Lib.hid hr5
        have HU5 := Lib.hid (HU4.out.late hu5 (fun q hq => by simp at hq; subst hq; exact .inr HXL.out.2))
        clear hx5 hr5 hu5
        go_wp2_with fail
        exact ⟨⟨k + 1, by omega, by go_num, HX5.out, HR5.out, HU5.out⟩, by simp [intOf]; omega⟩
    · obtain rfl : k = N := by omega
      have hlt' : decide ((k : Int) < (k : Int)) = false := by simp
      have HTC := Lib.hid (touched_spec HX.out (Mb_ok (h := 128 - 2 - 60) (k := min k 40) (by omega) hsl))
      rw [Mb_cnt (by omega)] at HTC
      have hmin : (((min k 40 : Nat) : Int) == min (k : Int) 40) = true := by rw [beq_iff_eq]; omega
      have hm40 : min k 40 ≤ 40 := by omega
      have hm1 : 0 < k → 0 < min k 40 := fun q => by omega
      have HM1 := Lib.hid hm1
      clear hm1
      generalize min k 40 = K at *
      go_wp2_with fail
      refine HTC.out.mono ?_
      rintro e w4 ⟨rfl, n4, hn4⟩
      have hu4 : Upd [] wr w4 := by rw [hn4]; exact (Upd.refl _ _).drewN _
      have HX4 := Lib.hid (HX.out.below hu4)
      have HR4 := Lib.hid (HR.out.below hu4)
      have HU4 := Lib.hid (HU.out.trans hu4)
      clear hn4 hu4
      -- the rest, behind the write of sector 0
      by_cases h0 : k = 0
      · have d0 : ((k : Int) == 0) = true := by simp [h0]
        have HX7 := HX4
        have HR7 := HR4
        have HU7 := HU4
        have hok : MOk (Mb K s) (128 - 2 - 60) := Mb_ok (by omega) hsl
        have hcn : cntM (Mb K s) (128 - 2 - 60) = K := Mb_cnt (by omega)
        clear h0
        generalize Mb K s = M at *
        have HOK := Lib.hid hok
        have HCN := Lib.hid hcn
        clear hok hcn
        go_wp2_with fail
        refine (full_spec _ b w4 (HV.out.below HU7.out)).mono ?_
        rintro e w8 ⟨rfl, h8⟩
        have hb8 : w8.heap[w4.heap.size]? = some (.cells (bts s).toArray 5 (0, 0)) := by rw [← h8, HS.out]; exact blk_alloc _
        have hu8 : Upd [] w4 w8 := by rw [← h8]; exact (Upd.refl _ _).alloc _
        have hE8 : wrE M (128 - 2 - 60) (-1) s.length = 1 := by unfold wrE; rw [if_pos (.inl (by omega))]
        have hM8 : wrM M (128 - 2 - 60) (-1) s = M := by unfold wrM; rw [if_neg (by rw [hE8]; decide)]
        have HW8 := Lib.hid (write_hi (HR7.out.below hu8) (HX7.out.below hu8) HNX.out HOK.out (-1) _ s (rd_row hb8 hsl) (by omega))
        rw [hE8, hM8] at HW8
        have HU8 := Lib.hid (HU7.out.trans hu8)
        clear h8 hb8 hu8 hE8 hM8
        go_wp2_with fail
        refine HW8.out.mono ?_
        rintro e w9 ⟨rfl, hx9, hr9, hu9⟩
        have HX9 := Lib.hid hx9
        have HR9 := Lib.hid hr9
        have HU9 := Lib.hid (HU8.out.late hu9 (fun q hq => by simp at hq; subst hq; exact .inr HXL.out.2))
        clear hx9 hr9 hu9
        have HHM := Lib.hid (homesT_spec HX9.out HR9.out.at_)
        rw [HR9.out.homes] at HHM
        go_wp2_with fail
        refine HHM.out.mono ?_
        rintro e w10 ⟨rfl, n10, hn10⟩
        have hu10 : Upd [] w9 w10 := by rw [hn10]; exact (Upd.refl _ _).drewN _
        have HX10 := Lib.hid (HX9.out.below hu10)
        have HR10 := Lib.hid (HR9.out.below hu10)
        have HU10 := Lib.hid (HU9.out.trans hu10)
        clear hn10 hu10
        go_wp2_with fail
        refine (full_spec _ b w10 (HV.out.below HU10.out)).mono ?_
        rintro e w11 ⟨rfl, h11⟩
        have hb11 : w11.heap[w10.heap.size]? = some (.cells (bts s).toArray 5 (0, 0)) := by rw [← h11, HS.out]; exact blk_alloc _
        have hu11 : Upd [] w10 w11 := by rw [← h11]; exact (Upd.refl _ _).alloc _
        have hE11 : wrE M (128 - 2 - 60) 66 s.length = 1 := by unfold wrE; rw [if_pos (.inr (by omega))]
        have hM11 : wrM M (128 - 2 - 60) 66 s = M := by unfold wrM; rw [if_neg (by rw [hE11]; decide)]
        have HW11 := Lib.hid (write_hi (HR10.out.below hu11) (HX10.out.below hu11) HNX.out HOK.out 66 _ s (rd_row hb11 hsl) (by omega))
        rw [hE11, hM11] at HW11
        have HU11 := Lib.hid (HU10.out.trans hu11)
        clear h11 hb11 hu11 hE11 hM11
        go_wp2_with fail
        refine HW11.out.mono ?_
        rintro e w12 ⟨rfl, hx12, hr12, hu12⟩
        have HU12 := Lib.hid (HU11.out.late hu12 (fun q hq => by simp at hq; subst hq; exact .inr HXL.out.2))
        have HC := Lib.hid (commit_hi hr12 hx12 HNX.out HOK.out (by omega) (by rw [HCN.out]; omega) (by rw [HCN.out]; omega) (by omega) (by omega))
        clear hx12 hr12 hu12
        go_wp2_with fail
        refine HC.out.mono ?_
        rintro e w13 ⟨rfl, hov, _, hu13⟩
        have HU13 := Lib.hid (HU12.out.late hu13 (fun q hq => by
          obtain ⟨k1, k2, k3, k4, k5⟩ := HJ.out
          simp [JG.all] at hq
          rcases hq with rfl | rfl | rfl | rfl | rfl | rfl
          · exact .inr HXL.out.1
          · exact .inr k1
          · exact .inr k2
          · exact .inr k3
          · exact .inr k4
          · exact .inr k5))
        have HTO := Lib.hid (touched_over hov)
        clear hov hu13
        go_wp2_with fail
        refine HTO.out.mono ?_
        rintro e w14 ⟨rfl, n14, rfl⟩
        go_wp2_with fail
        go_ret
        exact ⟨rfl, HU13.out.drewN _⟩
      · have d0 : ((k : Int) == 0) = false := by rw [beq_eq_false_iff_ne]; omega
        go_wp2_with fail
        refine (full_spec _ [] _ (Rd.nil _)).mono ?_
        rintro e w6 ⟨rfl, h6⟩
        have hb6 : w6.heap[w4.heap.size]? = some (.cells (bts (pad [])).toArray 5 (0, 0)) := by rw [← h6]; exact blk_alloc _
        have hu6 : Upd [] w4 w6 := by rw [← h6]; exact (Upd.refl _ _).alloc _
        have hE : wrE (Mb K s) (128 - 2 - 60) ((0 : Nat) : Int) (pad []).length = 0 := wrE_zero (by omega) (pad_length _) (.inl (by have := HM1.out (by omega); unfold Mb; rw [if_pos this]; rfl))
        have HW := Lib.hid (write_hi (HR4.out.below hu6) (HX4.out.below hu6) HNX.out (Mb_ok (h := 128 - 2 - 60) (by omega) hsl) ((0 : Nat) : Int) _ (pad []) (rd_row hb6 (pad_length _)) (by rw [pad_length]; omega))
        rw [hE, wrM_zero hE] at HW
        have HU6 := Lib.hid (HU4.out.trans hu6)
        have hok : MOk (fun i => if i = 0 then some (pad []) else Mb K s i) (128 - 2 - 60) := (Mb_ok (by omega) hsl).put (by omega) (pad_length _)
        have hcn : cntM (fun i => if i = 0 then some (pad []) else Mb K s i) (128 - 2 - 60) = K := by
          rw [cntM_put (Mb_ok (by omega) hsl) (by omega), if_pos (by have := HM1.out (by omega); unfold Mb; rw [if_pos this]; rfl), Mb_cnt (by omega)]
        generalize (fun i => if i = 0 then some (pad []) else Mb K s i) = M at *
        have HOK := Lib.hid hok
        have HCN := Lib.hid hcn
        clear h6 hb6 hu6 hE h0 hok hcn
        go_wp2_with fail
        refine HW.out.mono ?_
        rintro e w7 ⟨rfl, hx7, hr7, hu7⟩
        have HX7 := Lib.hid hx7
        have HR7 := Lib.hid hr7
        have HU7 := Lib.hid (HU6.out.late hu7 (fun q hq => by simp at hq; subst hq; exact .inr HXL.out.2))
        clear hx7 hr7 hu7
        go_wp2_with fail
        refine (full_spec _ b w7 (HV.out.below HU7.out)).mono ?_
        rintro e w8 ⟨rfl, h8⟩
        have hb8 : w8.heap[w7.heap.size]? = some (.cells (bts s).toArray 5 (0, 0)) := by rw [← h8, HS.out]; exact blk_alloc _
        have hu8 : Upd [] w7 w8 := by rw [← h8]; exact (Upd.refl _ _).alloc _
        have hE8 : wrE M (128 - 2 - 60) (-1) s.length = 1 := by unfold wrE; rw [if_pos (.inl (by omega))]
        have hM8 : wrM M (128 - 2 - 60) (-1) s = M := by unfold wrM; rw [if_neg (by rw [hE8]; decide)]
        have HW8 := Lib.hid (write_hi (HR7.out.below hu8) (HX7.out.below hu8) HNX.out HOK.out (-1) _ s (rd_row hb8 hsl) (by omega))
        rw [hE8, hM8] at HW8
        have HU8 := Lib.hid (HU7.out.trans hu8)
        clear h8 hb8 hu8 hE8 hM8
        go_wp2_with fail
        refine HW8.out.mono ?_
        rintro e w9 ⟨rfl, hx9, hr9, hu9⟩
        have HX9 := Lib.hid hx9
        have HR9 := Lib.hid hr9
        have HU9 := Lib.hid (HU8.out.late hu9 (fun q hq => by simp at hq; subst hq; exact .inr HXL.out.2))
        clear hx9 hr9 hu9
        have HHM := Lib.hid (homesT_spec HX9.out HR9.out.at_)
        rw [HR9.out.homes] at HHM
        go_wp2_with fail
        refine HHM.out.mono ?_
        rintro e w10 ⟨rfl, n10, hn10⟩
        have hu10 : Upd [] w9 w10 := by rw [hn10]; exact (Upd.refl _ _).drewN _
        have HX10 := Lib.hid (HX9.out.below hu10)
        have HR10 := Lib.hid (HR9.out.below hu10)
        have HU10 := Lib.hid (HU9.out.trans hu10)
        clear hn10 hu10
        go_wp2_with fail
        refine (full_spec _ b w10 (HV.out.below HU10.out)).mono ?_
        rintro e w11 ⟨rfl, h11⟩
        have hb11 : w11.heap[w10.heap.size]? = some (.cells (bts s).toArray 5 (0, 0)) := by rw [← h11, HS.out]; exact blk_alloc _
        have hu11 : Upd [] w10 w11 := by rw [← h11]; exact (Upd.refl _ _).alloc _
        have hE11 : wrE M (128 - 2 - 60) 66 s.length = 1 := by unfold wrE; rw [if_pos (.inr (by omega))]
        have hM11 : wrM M (128 - 2 - 60) 66 s = M := by unfold wrM; rw [if_neg (by rw [hE11]; decide)]
        have HW11 := Lib.hid (write_hi (HR10.out.below hu11) (HX10.out.below hu11) HNX.out HOK.out 66 _ s (rd_row hb11 hsl) (by omega))
        rw [hE11, hM11] at HW11
        have HU11 := Lib.hid (HU10.out.trans hu11)
        clear h11 hb11 hu11 hE11 hM11
        go_wp2_with fail
        refine HW11.out.mono ?_
        rintro e w12 ⟨rfl, hx12, hr12, hu12⟩
        have HU12 := Lib.hid (HU11.out.late hu12 (fun q hq => by simp at hq; subst hq; exact .inr HXL.out.2))
        have HC := Lib.hid (commit_hi hr12 hx12 HNX.out HOK.out (by omega) (by rw [HCN.out]; omega) (by rw [HCN.out]; omega) (by omega) (by omega))
        clear hx12 hr12 hu12
        go_wp2_with fail
        refine HC.out.mono ?_
        rintro e w13 ⟨rfl, hov, _, hu13⟩
        have HU13 := Lib.hid (HU12.out.late hu13 (fun q hq => by
          obtain ⟨k1, k2, k3, k4, k5⟩ := HJ.out
          simp [JG.all] at hq
          rcases hq with rfl | rfl | rfl | rfl | rfl | rfl
          · exact .inr HXL.out.1
          · exact .inr k1
          · exact .inr k2
          · exact .inr k3
          · exact .inr k4
          · exact .inr k5))
        have HTO := Lib.hid (touched_over hov)
        clear hov hu13
        go_wp2_with fail
        refine HTO.out.mono ?_
        rintro e w14 ⟨rfl, n14, rfl⟩
        go_wp2_with fail
        go_ret
        exact ⟨rfl, HU13.out.drewN _⟩

end Go.Proofs.Ythbgidiblcokhaa
