/-
  TxnOwn answers true: the walk.
-/
import Derived.Test.YtceakcejchbbjaaTxE
import Derived.Test.YtceakcejchbbjaaGW
namespace Go.Proofs.Ytceakcejchbbjaa
open Go.RowKit Go.MapKept Go.ChangeMaps

theorem late_tx {w w5 w6 : World} {x : TG} {j : JG} (h5 : Upd [] w w5) (hx : w.heap.size ≤ x.tb) (hj : j.Late w) (h6 : Upd (x.tb :: j.all) w5 w6) : Upd [] w w6 := h5.late h6 (fun q hq => by
  obtain ⟨k1, k2, k3, k4, k5⟩ := hj
  simp [JG.all] at hq
  rcases hq with rfl | rfl | rfl | rfl | rfl | rfl
  · exact .inr hx
  · exact .inr k1
  · exact .inr k2
  · exact .inr k3
  · exact .inr k4
  · exact .inr k5)
/-- Rows of bytes of the law's own stay. -/
theorem Own.jn {w w' : World} {G : Nat → Prop} {v : Value} {l : List UInt8} (h : Own w 5 G v l) {F : Nat → Prop} {j : JG} {J : Jn} {D : Dk} (hj : JnAt w F j J D) {S : List Nat} (hu : Upd S w w') (hS : ∀ k, k ∈ S → k ∈ j.all) : Own w' 5 G v l :=
  h.world fun k c _ e => hu.block _ (blk_lt e) fun q => hj.kind e (by decide) (by decide) (by decide) (hS k q)

theorem Own.below {w w' : World} {G : Nat → Prop} {v : Value} {l : List UInt8} (h : Own w 5 G v l) (hu : Upd [] w w') : Own w' 5 G v l := h.world fun k c _ e => hu.block _ (blk_lt e) (by simp)
theorem Own.conv {w : World} {G : Nat → Prop} {k c : Nat} {l : List UInt8} (h : Own w 5 G (.slice (some ⟨k, 0, none⟩) 512 c) l) (hl : l.length = 512) : (convert 22 9 (.slice (some ⟨k, 0, none⟩) 512 c)).run Try.prog w = .ok (.string (str l)) w := run_str h.rd (by omega)
theorem Own.convS {w : World} {G : Nat → Prop} {k c : Nat} {l : List UInt8} {S : ByteArray} (h : Own w 5 G (.slice (some ⟨k, 0, none⟩) 512 c) l) (hl : l.length = 512) (hS : S = str l) : (convert 22 9 (.slice (some ⟨k, 0, none⟩) 512 c)).run Try.prog w = .ok (.string S) w := by rw [hS]; exact h.conv hl
theorem row_convS {w : World} {k : Nat} {l : List UInt8} {S : ByteArray} (h : w.heap[k]? = some (.cells (bts l).toArray 5 (0, 0))) (hl : l.length = 512) (hS : S = str l) : (convert 22 9 (.slice (some ⟨k, 0, none⟩) 512 512)).run Try.prog w = .ok (.string S) w := by rw [hS]; exact run_str (rd_row h hl) (by omega)
theorem Own.first {w : World} {G : Nat → Prop} {k c : Nat} {l : List UInt8} (h : Own w 5 G (.slice (some ⟨k, 0, none⟩) 512 c) l) (hl : l.length = 512) : w.cell? ⟨k, 0, none⟩ = some (bv (l.headD 0)) := by
  obtain ⟨ao, cap, e, _, hh⟩ := h.rd
  obtain ⟨b, off, hab, hc⟩ := hh (by omega)
  have hk := congrArg (fun v => match v with | Value.slice a _ _ => a | _ => none) e
  simp only at hk
  rw [hab] at hk
  obtain ⟨rfl, rfl⟩ : k = b ∧ 0 = off := by simpa using hk
  have := hc 0 (by omega)
  rw [this]
  cases l with
  | nil => simp at hl
  | cons a l => rfl

/-- The conversion of what the call in the last region makes: by a name of its own, so that it is not tried ahead of the call. -/
def own111 : Op := .convert 22 9 (.tmp 110)
theorem own111_eq : Op.convert 22 9 (.tmp 110) = own111 := rfl
def mv13 : Op := .move (.tmp 13)
def mv23 : Op := .move (.tmp 23)
def own135 : Op := .convert 22 9 (.tmp 134)
def own137 : Op := .binOp .eql 9 (.tmp 135) (.tmp 136) 9
theorem own135_eq : Op.convert 22 9 (.tmp 134) = own135 := rfl
theorem own137_eq : Op.binOp .eql 9 (.tmp 135) (.tmp 136) 9 = own137 := rfl
theorem own134_eq (T p a g) : Oper.mk (some 134) (.move (.tmp 13)) T p a g = Oper.mk (some 134) mv13 T p a g := rfl
theorem own136_eq (T p a g) : Oper.mk (some 136) (.move (.tmp 23)) T p a g = Oper.mk (some 136) mv23 T p a g := rfl
attribute [local go_sem] own111 own135 own137 mv13 mv23

set_option maxRecDepth 100000 in
set_option maxHeartbeats 4000000 in
theorem own7_spec (a0 : Int) (a2 : Bool) {v : Value} {b : List UInt8} (w : World) (hv : Rd w v b) : Calls Try.prog 3 #[.int .i64 a0, v, .bool a2] w fun e w' => e = .returned (.bool true) ∧ Upd [] w w' := by
  obtain ⟨av, cv, rfl, _⟩ := id hv
  have HV := Lib.hid hv
  clear hv
  by_cases h1 : 512 < b.length
  · have dh1 : decide (512 < (b.length : Int)) = true := by simp; omega
    go_enter Try.func3, Try.ntmps3
    go_wp2_with fail
    refine (begun7_spec w).mono ?_
    rintro e w1 ⟨rfl, hu1⟩
    have HU1 := Lib.hid hu1
    clear hu1
    go_wp2_with fail
    go_ret
    exact ⟨rfl, HU1.out⟩
  have dh1 : decide (512 < (b.length : Int)) = false := by simp; omega
  have hP := placeN_lt (k := a0) (n := 46) (by omega)
  have HP := fun w => Lib.hid (place_spec a0 46 w (by omega) (by omega))
  generalize placeN a0 46 = at_ at *
  obtain ⟨s, hs⟩ : ∃ s, s = pad b := ⟨_, rfl⟩
  have hsl : s.length = 512 := by rw [hs, pad_length]
  have HS := Lib.hid hs
  clear hs
  go_enter Try.func3, Try.ntmps3
  go_wp2_with fail
  refine (begun7_spec w).mono ?_
  rintro e w1 ⟨rfl, hu1⟩
  have HU1 := Lib.hid hu1
  clear hu1
  go_wp2_with fail
  refine (made_hi 64 16 (by omega) (by omega) (by omega) (by omega) (by omega) w1).mono ?_
  rintro e w2 ⟨j, rfl, hj, ⟨J2, D2, hr2, _⟩, hu2⟩
  have HJ : Hid (j.Late w) := by
    have := HU1.out.size
    obtain ⟨k1, k2, k3, k4, k5⟩ := hj
    exact ⟨Nat.le_trans this k1, Nat.le_trans this k2, Nat.le_trans this k3, Nat.le_trans this k4, Nat.le_trans this k5⟩
  have HU2 := Lib.hid (HU1.out.trans hu2)
  have HB := Lib.hid (begin_hi hr2)
  have HR2 := Lib.hid hr2
  clear hj hr2 hu2
  go_wp2_with fail
  refine (HP _).out.mono ?_
  rintro e w' ⟨rfl, rfl⟩
  go_wp2_with fail
  refine HB.out.mono ?_
  rintro e w3 ⟨x, rfl, hx1, hx2, hx, hr3, hu3⟩
  have HNX := Lib.hid (HR2.out.at_.late hx2)
  have HXL : Hid (w.heap.size ≤ x.tb ∧ w.heap.size ≤ x.wb) := ⟨Nat.le_trans HU2.out.size hx1, Nat.le_trans HU2.out.size hx2⟩
  have HX3 := Lib.hid hx
  have HU3 := Lib.hid (HU2.out.lateJ hu3 HJ.out)
  have HB3 := Lib.hid (begin_hi hr3)
  have HR3 := Lib.hid hr3
  clear hx1 hx2 hx hr3 hu3
  go_wp2_with fail
  refine HB3.out.mono ?_
  rintro e w4 ⟨y, rfl, hy1, hy2, hy, hr4, hu4⟩
  have HNY := Lib.hid (HR3.out.at_.late hy2)
  have HX4 := Lib.hid (HX3.out.jn HR3.out.at_ HNX.out hu4 (fun _ q => q))
  have HY4 := Lib.hid hy
  have HU4 := Lib.hid (HU3.out.lateJ hu4 HJ.out)
  have HNE : Hid (y.wb ≠ x.wb) := by have := HX3.out.lt.2; show _ ≠ _; omega
  have HR4 := Lib.hid hr4
  clear hy1 hy2 hy hr4 hu4
  go_wp2_with fail
  refine (full_spec _ b w4 (HV.out.below HU4.out)).mono ?_
  rintro e w5 ⟨rfl, h5⟩
  have hb5 : w5.heap[w4.heap.size]? = some (.cells (bts s).toArray 5 (0, 0)) := by rw [← h5, HS.out]; exact blk_alloc _
  have hu5 : Upd [] w4 w5 := by rw [← h5]; exact (Upd.refl _ _).alloc _
  have hE : wrE (fun _ => none) (64 - 2 - 16) (at_ : Int) s.length = 0 := wrE_zero (by omega) hsl (.inr (by rw [cntM_none]; omega))
  have HW := Lib.hid (write_hi (HR4.out.below hu5) (HX4.out.below hu5) HNX.out (MOk.none _) (at_ : Int) _ s (rd_row hb5 hsl) (by omega))
  rw [hE, wrM_zero hE] at HW
  have HY5 := Lib.hid (HY4.out.below hu5)
  have HX5 := Lib.hid (HX4.out.below hu5)
  have HU5 := Lib.hid (HU4.out.trans hu5)
  have hok : MOk (fun k => if k = at_ then some s else none) (64 - 2 - 16) := (MOk.none _).put (by omega) hsl
  have hcn : cntM (fun k => if k = at_ then some s else none) (64 - 2 - 16) = 1 := by rw [cntM_put (MOk.none _) (by omega), cntM_none]; rfl
  have hMx : (fun k => if k = at_ then some s else none) at_ = some s := if_pos rfl
  generalize (fun k => if k = at_ then some s else none) = M at *
  have HOK := Lib.hid hok
  have HCN := Lib.hid hcn
  have HMX := Lib.hid hMx
  clear h5 hb5 hu5 hE hok hcn hMx
  go_wp2_with fail
  refine HW.out.mono ?_
  rintro e w6 ⟨rfl, hx6, hr6, hu6⟩
  have HX6 := Lib.hid hx6
  have HR6 := Lib.hid hr6
  have HY6 := Lib.hid (HY5.out.other HX5.out HNE.out hu6)
  have HU6 := Lib.hid (HU5.out.late hu6 (fun q hq => by simp at hq; subst hq; exact .inr HXL.out.2))
  clear hx6 hr6 hu6
  have HRX := Lib.hid (readT_hi HR6.out HX6.out HNX.out HOK.out at_ (by omega))
  rw [HMX.out] at HRX
  go_wp2_with fail
  refine HRX.out.mono ?_
  rintro e w7 ⟨vx, rfl, hox, hr7, hx7, hu7⟩
  replace hox : OwnN w7 5 (fun k => w6.heap.size ≤ k) vx s := hox
  obtain ⟨kx, cx, rfl, hcx, hFx, -⟩ := hox.sec hsl
  have HOX7 := Lib.hid (hox.own (by omega))
  have HR7 := Lib.hid hr7
  have HX7 := Lib.hid hx7
  have HY7 := Lib.hid (HY6.out.jn HR6.out.at_ HNY.out hu7 (by intro k hk; simp at hk; simp [JG.all, hk]))
  have HU7 := Lib.hid (HU6.out.lateR hu7 HJ.out)
  clear hox hr7 hx7 hu7
  have HRY := Lib.hid (readT_hi HR7.out HY7.out HNY.out (MOk.none _) at_ (by omega))
  go_wp2_with fail
  refine HRY.out.mono ?_
  rintro e w8 ⟨vy, rfl, hoy, hr8, hy8, hu8⟩
  replace hoy : OwnN w8 5 (fun k => w7.heap.size ≤ k) vy zsec := hoy
  obtain ⟨ky, cy, rfl, hcy, hFy, -⟩ := hoy.sec zsec_length
  have HOY8 := Lib.hid (hoy.own (by rw [zsec_length]; omega))
  have HOX8 := Lib.hid (HOX7.out.jn HR7.out.at_ hu8 (by intro k hk; simp at hk; simp [JG.all, hk]))
  have HX8 := Lib.hid (HX7.out.jn HR7.out.at_ HNX.out hu8 (by intro k hk; simp at hk; simp [JG.all, hk]))
  have HR8 := Lib.hid hr8
  have HU8 := Lib.hid (HU7.out.lateR hu8 HJ.out)
  clear hoy hr8 hy8 hu8
  have HRZ := Lib.hid (read_hi HR8.out at_ (by omega))
  go_wp2_with fail
  refine HRZ.out.mono ?_
  rintro e w9 ⟨vz, rfl, hoz, hr9, hu9⟩
  obtain ⟨kz, cz, rfl, hcz, hFz, -⟩ := hoz.sec zsec_length
  have HOZ9 := Lib.hid (hoz.own (by rw [zsec_length]; omega))
  have HOX9 := Lib.hid (HOX8.out.jn HR8.out.at_ hu9 (by intro k hk; simp at hk; simp [JG.all, hk]))
  have HOY9 := Lib.hid (HOY8.out.jn HR8.out.at_ hu9 (by intro k hk; simp at hk; simp [JG.all, hk]))
  have HX9 := Lib.hid (HX8.out.jn HR8.out.at_ HNX.out hu9 (by intro k hk; simp at hk; simp [JG.all, hk]))
  have HR9 := Lib.hid hr9
  have HU9 := Lib.hid (HU8.out.lateR hu9 HJ.out)
  clear hoz hr9 hu9
  cases a2
  · have HC := Lib.hid (abort_spec HX9.out)
    go_wp2_with fail
    refine HC.out.mono ?_
    rintro e w10 ⟨rfl, hov0, _, hu10⟩
    have hov : OverV w10 (.pointer (some ⟨x.tb, 0, none⟩)) := .inr ⟨_, _, rfl, hov0⟩
    have hr10 := HR9.out.own hu10 (fun k hk => by simp at hk; subst hk; exact ⟨_, _, _, HX9.out.st, by decide, by decide, by decide, by decide⟩)
    have keepO : ∀ {v : Value} {l : List UInt8} {G : Nat → Prop}, Own w9 5 G v l → Own w10 5 G v l := fun h => h.world fun k c _ e => hu10.block _ (blk_lt e) fun q => by
      simp at q; subst q; rw [HX9.out.st] at e; simp at e
    have HOX10 := Lib.hid (keepO HOX9.out)
    have HOY10 := Lib.hid (keepO HOY9.out)
    have HOZ10 := Lib.hid (keepO HOZ9.out)
    have HU10 := Lib.hid (late_tx HU9.out HXL.out.1 HJ.out (hu10.mono (by simp)))
    have HOV := Lib.hid hov
    have HR10 := Lib.hid hr10
    have HRW := Lib.hid (read_hi hr10 at_ (by omega))
    clear hov0 hov hr10 hu10 keepO
    go_wp2_with fail
    refine HRW.out.mono ?_
    rintro e w11 ⟨vw, rfl, how, hr11, hu11⟩
    replace how : OwnN w11 5 (fun k => w10.heap.size ≤ k) vw zsec := how
    obtain ⟨kw, cw, rfl, hcw, hFw, -⟩ := how.sec zsec_length
    have HOW11 := Lib.hid (how.own (by rw [zsec_length]; omega))
    have HOX11 := Lib.hid (HOX10.out.jn HR10.out.at_ hu11 (by intro k hk; simp at hk; simp [JG.all, hk]))
    have HOY11 := Lib.hid (HOY10.out.jn HR10.out.at_ hu11 (by intro k hk; simp at hk; simp [JG.all, hk]))
    have HOZ11 := Lib.hid (HOZ10.out.jn HR10.out.at_ hu11 (by intro k hk; simp at hk; simp [JG.all, hk]))
    have HOV11 := Lib.hid (HOV.out.jn HR10.out.at_ hu11 (by intro k hk; simp at hk; simp [JG.all, hk]))
    have HU11 := Lib.hid (HU10.out.lateR hu11 HJ.out)
    clear how hr11 hu11
    go_wp2_with fail
    refine (readT_over HOV11.out _).mono ?_
    rintro e w12 ⟨rfl, n12, hn12⟩
    have hu12 : Upd [] w11 w12 := by rw [hn12]; exact (Upd.refl _ _).drewN _
    have hk12 : ∀ {v : Value} {l : List UInt8} {G : Nat → Prop}, Own w11 5 G v l → Own w12 5 G v l := fun h => h.world fun k c _ e => hu12.block _ (blk_lt e) (by simp)
    have HOW12 := Lib.hid (hk12 HOW11.out)
    have HOX12 := Lib.hid (hk12 HOX11.out)
    have HOY12 := Lib.hid (hk12 HOY11.out)
    have HOZ12 := Lib.hid (hk12 HOZ11.out)
    have HU12 := Lib.hid (HU11.out.trans hu12)
    clear hn12 hu12 hk12
    go_wp2_with fail
    refine (full_spec _ [] w12 (Rd.nil _)).mono ?_
    rintro e w13 ⟨rfl, h13⟩
    have hb13 : w13.heap[w12.heap.size]? = some (.cells (bts zsec).toArray 5 (0, 0)) := by rw [← h13, ← pad_nil]; exact blk_alloc _
    obtain ⟨Z, hZ⟩ : ∃ Z, Z = str zsec := ⟨_, rfl⟩
    obtain ⟨S1, hS1⟩ : ∃ S1, S1 = str s := ⟨_, rfl⟩
    have HZ := Lib.hid hZ
    have HS1 := Lib.hid hS1
    have hcv := row_convS hb13 zsec_length hZ
    clear hZ hS1
    have hu13 : Upd [] w12 w13 := by rw [← h13]; exact (Upd.refl _ _).alloc _
    have HU13 := Lib.hid (HU12.out.trans hu13)
    have HOW13 := Lib.hid ((HOW12.out.below hu13).below (Upd.refl _ _).drew)
    have HOX13 := Lib.hid ((HOX12.out.below hu13).below (Upd.refl _ _).drew)
    have HOY13 := Lib.hid ((HOY12.out.below hu13).below (Upd.refl _ _).drew)
    have HOZ13 := Lib.hid ((HOZ12.out.below hu13).below (Upd.refl _ _).drew)
    have HRV := Lib.hid ((HV.out.below HU13.out).below (Upd.refl _ _).drew)
    clear h13 hb13 hu13
    go_wp2_with fail
    clear hcv
    have gx13 := HOX13.out.convS hsl HS1.out
    have gw13 := HOW13.out.convS zsec_length HZ.out
    have gy13 := HOY13.out.convS zsec_length HZ.out
    have gz13 := HOZ13.out.convS zsec_length HZ.out
    rw [own111_eq]
    go_region_held3 (fun w' => (convert 22 9 (.slice (some ⟨kx, 0, none⟩) 512 cx)).run Try.prog w' = .ok (.string S1) w' ∧ (convert 22 9 (.slice (some ⟨ky, 0, none⟩) 512 cy)).run Try.prog w' = .ok (.string Z) w' ∧ (convert 22 9 (.slice (some ⟨kz, 0, none⟩) 512 cz)).run Try.prog w' = .ok (.string Z) w' ∧ (convert 22 9 (.slice (some ⟨kw, 0, none⟩) 512 cw)).run Try.prog w' = .ok (.string Z) w') (refine ⟨?_, ?_, ?_, ?_⟩ <;> assumption)
      (first | (go_at_call 9; (with_reducible refine (full_spec _ b _ ?_).mono ?_); exact HRV.out; rintro e w14 ⟨rfl, h14⟩; have hu14 : Upd [] w13.drew w14 := by { rw [← h14]; exact (Upd.refl _ _).alloc _ }; have hb14 : w14.heap[w13.heap.size]? = some (.cells (bts s).toArray 5 (0, 0)) := by { rw [← h14, HS.out]; exact blk_alloc _ }; have gn14 := row_convS hb14 hsl HS1.out; have gw14 := (HOW13.out.below hu14).convS zsec_length HZ.out; have gx14 := (HOX13.out.below hu14).convS hsl HS1.out; have gy14 := (HOY13.out.below hu14).convS zsec_length HZ.out; have gz14 := (HOZ13.out.below hu14).convS zsec_length HZ.out; have HU14 := Lib.hid hu14; clear h14 hb14 hu14))
    all_goals
      go_wp2_with fail
      go_ret
      have hsy : ((Z.toList == S1.toList) == (S1.toList == Z.toList)) = true := by rw [BEq.comm (a := Z.toList)]; simp
      refine ⟨?_, (HU13.out.drew).trans HU14.out⟩
      show Ending.returned (Value.bool ((Z.toList == S1.toList) == (S1.toList == Z.toList))) = _
      rw [hsy]
  · have HC := Lib.hid (commit_hi HR9.out HX9.out HNX.out HOK.out (by omega) (by rw [HCN.out]; omega) (by rw [HCN.out]; omega) (by omega) (by omega))
    go_wp2_with fail
    refine HC.out.mono ?_
    rintro e w10 ⟨rfl, hov, ⟨J10, D10, t10, hr10, _⟩, hu10⟩
    have hS : ∀ k, k ∈ x.tb :: j.all → k = x.tb ∨ k ∈ j.all := by simp
    have keepO : ∀ {v : Value} {l : List UInt8} {G : Nat → Prop}, Own w9 5 G v l → Own w10 5 G v l := fun h => h.world fun k c _ e => hu10.block _ (blk_lt e) fun q => by
      rcases hS k q with r | r
      · subst r; rw [HX9.out.st] at e; simp at e
      · exact HR9.out.at_.kind e (by decide) (by decide) (by decide) r
    have HOX10 := Lib.hid (keepO HOX9.out)
    have HOY10 := Lib.hid (keepO HOY9.out)
    have HOZ10 := Lib.hid (keepO HOZ9.out)
    have HU10 := Lib.hid (late_tx HU9.out HXL.out.1 HJ.out hu10)
    have HOV := Lib.hid hov
    have HR10 := Lib.hid hr10
    have HRW := Lib.hid (read_hi hr10 at_ (by omega))
    clear hov hr10 hu10 hS keepO
    go_wp2_with fail
    refine HRW.out.mono ?_
    rintro e w11 ⟨vw, rfl, how, hr11, hu11⟩
    replace how : OwnN w11 5 (fun k => w10.heap.size ≤ k) vw s := by
      have : (M at_).getD zsec = s := by rw [HMX.out]; rfl
      rw [← this]; exact how
    obtain ⟨kw, cw, rfl, hcw, hFw, -⟩ := how.sec hsl
    have HOW11 := Lib.hid (how.own (by omega))
    have HOX11 := Lib.hid (HOX10.out.jn HR10.out.at_ hu11 (by intro k hk; simp at hk; simp [JG.all, hk]))
    have HOY11 := Lib.hid (HOY10.out.jn HR10.out.at_ hu11 (by intro k hk; simp at hk; simp [JG.all, hk]))
    have HOZ11 := Lib.hid (HOZ10.out.jn HR10.out.at_ hu11 (by intro k hk; simp at hk; simp [JG.all, hk]))
    have HOV11 := Lib.hid (HOV.out.jn HR10.out.at_ hu11 (by intro k hk; simp at hk; simp [JG.all, hk]))
    have HU11 := Lib.hid (HU10.out.lateR hu11 HJ.out)
    clear how hr11 hu11
    go_wp2_with fail
    refine (readT_over HOV11.out _).mono ?_
    rintro e w12 ⟨rfl, n12, hn12⟩
    have hu12 : Upd [] w11 w12 := by rw [hn12]; exact (Upd.refl _ _).drewN _
    have hk12 : ∀ {v : Value} {l : List UInt8} {G : Nat → Prop}, Own w11 5 G v l → Own w12 5 G v l := fun h => h.world fun k c _ e => hu12.block _ (blk_lt e) (by simp)
    have HOW12 := Lib.hid (hk12 HOW11.out)
    have HOX12 := Lib.hid (hk12 HOX11.out)
    have HOY12 := Lib.hid (hk12 HOY11.out)
    have HOZ12 := Lib.hid (hk12 HOZ11.out)
    have HU12 := Lib.hid (HU11.out.trans hu12)
    clear hn12 hu12 hk12
    go_wp2_with fail
    refine (full_spec _ [] w12 (Rd.nil _)).mono ?_
    rintro e w13 ⟨rfl, h13⟩
    have hb13 : w13.heap[w12.heap.size]? = some (.cells (bts zsec).toArray 5 (0, 0)) := by rw [← h13, ← pad_nil]; exact blk_alloc _
    obtain ⟨Z, hZ⟩ : ∃ Z, Z = str zsec := ⟨_, rfl⟩
    obtain ⟨S1, hS1⟩ : ∃ S1, S1 = str s := ⟨_, rfl⟩
    have HZ := Lib.hid hZ
    have HS1 := Lib.hid hS1
    have hcv := row_convS hb13 zsec_length hZ
    clear hZ hS1
    have hu13 : Upd [] w12 w13 := by rw [← h13]; exact (Upd.refl _ _).alloc _
    have HU13 := Lib.hid (HU12.out.trans hu13)
    have HOW13 := Lib.hid ((HOW12.out.below hu13).below (Upd.refl _ _).drew)
    have HOX13 := Lib.hid ((HOX12.out.below hu13).below (Upd.refl _ _).drew)
    have HOY13 := Lib.hid ((HOY12.out.below hu13).below (Upd.refl _ _).drew)
    have HOZ13 := Lib.hid ((HOZ12.out.below hu13).below (Upd.refl _ _).drew)
    have HRV := Lib.hid ((HV.out.below HU13.out).below (Upd.refl _ _).drew)
    clear h13 hb13 hu13
    go_wp2_with fail
    clear hcv
    have gx13 := HOX13.out.convS hsl HS1.out
    have gw13 := HOW13.out.convS hsl HS1.out
    have gy13 := HOY13.out.convS zsec_length HZ.out
    have gz13 := HOZ13.out.convS zsec_length HZ.out
    rw [own111_eq, own135_eq, own137_eq, own134_eq, own136_eq]
    go_region_held3 (fun w' => (convert 22 9 (.slice (some ⟨kx, 0, none⟩) 512 cx)).run Try.prog w' = .ok (.string S1) w' ∧ (convert 22 9 (.slice (some ⟨ky, 0, none⟩) 512 cy)).run Try.prog w' = .ok (.string Z) w' ∧ (convert 22 9 (.slice (some ⟨kz, 0, none⟩) 512 cz)).run Try.prog w' = .ok (.string Z) w' ∧ (convert 22 9 (.slice (some ⟨kw, 0, none⟩) 512 cw)).run Try.prog w' = .ok (.string S1) w') (refine ⟨?_, ?_, ?_, ?_⟩ <;> assumption)
      (first | (go_at_call 9; (with_reducible refine (full_spec _ b _ ?_).mono ?_); exact HRV.out; rintro e w14 ⟨rfl, h14⟩; have hu14 : Upd [] w13.drew w14 := by { rw [← h14]; exact (Upd.refl _ _).alloc _ }; have hb14 : w14.heap[w13.heap.size]? = some (.cells (bts s).toArray 5 (0, 0)) := by { rw [← h14, HS.out]; exact blk_alloc _ }; have gn14 := row_convS hb14 hsl HS1.out; have gw14 := (HOW13.out.below hu14).convS hsl HS1.out; have gx14 := (HOX13.out.below hu14).convS hsl HS1.out; have gy14 := (HOY13.out.below hu14).convS zsec_length HZ.out; have gz14 := (HOZ13.out.below hu14).convS zsec_length HZ.out; have HU14 := Lib.hid hu14; clear h14 hb14 hu14))
    all_goals
      go_wp2_with fail
      go_ret
      exact ⟨rfl, (HU13.out.drew).trans HU14.out⟩

end Go.Proofs.Ytceakcejchbbjaa
