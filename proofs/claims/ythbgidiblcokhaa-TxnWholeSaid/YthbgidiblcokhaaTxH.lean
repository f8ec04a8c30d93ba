/-
  TxnWhole answers true: the walk.
-/
import Derived.Test.YthbgidiblcokhaaTxE
import Derived.Test.YthbgidiblcokhaaLwN
namespace Go.Proofs.Ythbgidiblcokhaa
open Go.RowKit Go.MapKept Go.ChangeMaps

theorem JaAt.comm {w w' : World} {j : JG} {J : Jn} {D : Dk} {n ring : Nat} {t m : Int} {H : Nat → Sec} (h : JaAt w j J D n ring t m H) {l : List Put} (hf : fitsR n ring l = 0) (ht : t < 1000000) (hm : m < 1000000) (hj : JnAt w' AnyF j (J.com D l) (J.comD D l).1) :
    ((J.comD D l).2 = 0 ∧ ∃ J' D' t', JaAt w' j J' D' n ring t' (m + 1) (putsH H l) ∧ t' ≤ t + 1 ∧ D'.off = false) ∨
    ((J.comD D l).2 = 8 ∧ (PwAt w' j.d n ring (m + 2) fun t' H' => t' ≤ t + 1 ∧ (H' = H ∨ H' = putsH H l)) ∧ ∃ D', DiskAt w' AnyF j.d D' ∧ D'.off = true) := by
  have hfe : J.fits D.n l = fitsR n ring l := by unfold Jn.fits Jn.homes fitsR; rw [h.n, h.ring]
  have hu : J.used ≤ 1024 := by have := h.live.held.used; have := h.live.held.jok.ring1; omega
  have h1 := h.num
  have h2 := h.turn
  by_cases h0 : l = []
  · obtain ⟨q1, q2⟩ := h.live.comNo (l := l) (.inr h0)
    rw [q1] at hj ⊢
    rw [q2] at hj
    exact .inl ⟨by show J.fits D.n l = 0; rw [hfe, hf], J, D, t, ⟨hj, h.live, h.n, h.ring, h.turn, by omega, by rw [h0]; exact h.home⟩, by omega, h.live.held.calm.off⟩
  · rcases h.live.com ⟨by omega, by omega⟩ (by omega) (hfe.trans hf) h0 with ⟨q1, q2, q3, q4, q5, q6, q7, q8, q9⟩ | ⟨q1, q, b1, b2, b3, b4⟩
    · exact .inl ⟨q1, _, _, t + 1, ⟨hj, q2, q7.trans h.n, q5.trans h.ring, by omega, by omega, by rw [q3, h.home]⟩, by omega, q2.held.calm.off⟩
    · refine .inr ⟨q1, ⟨_, hj.disk.any, fun keep => ?_⟩, _, hj.disk.any, b1⟩
      obtain ⟨J', a1, a2, a3, a4, a5, a6⟩ := b4 keep
      refine ⟨J', a1, a2.trans h.ring, by omega, a4.trans h.n, a5, ?_⟩
      rw [h.home] at a6
      rcases a6 with ⟨c1, c2⟩ | ⟨c1, c2⟩
      · exact ⟨by omega, .inl c2⟩
      · exact ⟨by omega, .inr c2⟩
/-- A Commit where the power may fail. -/
theorem commitA_hi {w : World} {x : TG} {M : Nat → Option Sec} {j : JG} {J : Jn} {D : Dk} {n ring : Nat} {t m : Int} {H : Nat → Sec} (h : JaAt w j J D n ring t m H) (hx : TxAt w x j.jb (t - 1) M) (hne : x.wb ∉ j.all) (ho : MOk M (n - 2 - ring)) (hn : n ≤ 5000) (h1 : cntM M (n - 2 - ring) ≤ 40) (h2 : cntM M (n - 2 - ring) < ring) (ht : t < 1000000) (hm : m < 1000000) :
    Calls Try.prog 43 #[.pointer (some ⟨x.tb, 0, none⟩)] w fun e w' => Upd (x.tb :: j.all) w w' ∧
      ((e = .returned (.int .i64 0) ∧ ∃ J' D' t', JaAt w' j J' D' n ring t' (m + 1) (fun i => (M i).getD (H i)) ∧ t' ≤ t + 1 ∧ D'.off = false) ∨
       (e = .returned (.int .i64 8) ∧ (PwAt w' j.d n ring (m + 2) fun t' H' => t' ≤ t + 1 ∧ (H' = H ∨ H' = fun i => (M i).getD (H i))) ∧ ∃ D', DiskAt w' AnyF j.d D' ∧ D'.off = true)) := by
  have hu : J.used ≤ 1024 := by have := h.live.held.used; have := h.live.held.jok.ring1; omega
  refine (commitT_spec hx h.at_ hne ho (by omega) (by omega)).mono ?_
  rintro e w' ⟨e1, e2, e3, e4⟩
  have r1 : J.txD D (t - 1) (txL M (n - 2 - ring)) = J.comD D (txL M (n - 2 - ring)) := by unfold Jn.txD; rw [if_neg (by rw [h.turn]; simp)]
  have r2 : J.txJ D (t - 1) (txL M (n - 2 - ring)) = J.com D (txL M (n - 2 - ring)) := by unfold Jn.txJ; rw [if_neg (by rw [h.turn]; simp)]
  rw [r1] at e1 e3
  rw [r2] at e3
  have := h.comm (fits_tx ho h1 h2) ht hm e3
  rw [putsH_tx ho] at this
  rcases this with ⟨q1, q2⟩ | ⟨q1, q2⟩
  · rw [q1] at e1; exact ⟨e4, .inl ⟨e1, q2⟩⟩
  · rw [q1] at e1; exact ⟨e4, .inr ⟨e1, q2⟩⟩

theorem zsec_zero {h : 0 < zsec.length} : zsec[0]'h = 0 := by
  have h9 : zsec[0]? = some 0 := by decide +kernel
  rw [List.getElem?_eq_getElem h] at h9
  exact Option.some.inj h9
/-- Sectors of a list, all alike. -/
def Ms (l : List Nat) (s : Sec) : Nat → Option Sec := fun i => if i ∈ l then some s else none
theorem Ms_ok {l : List Nat} {h : Nat} {s : Sec} (hl : ∀ i ∈ l, i < h) (hs : s.length = 512) : MOk (Ms l s) h := by
  intro i x hx
  unfold Ms at hx
  split at hx
  · rename_i q; cases hx; exact ⟨hl i q, hs⟩
  · simp at hx
theorem Ms_put {l : List Nat} {i : Nat} {s : Sec} : (fun k => if k = i then some s else Ms l s k) = Ms (l ++ [i]) s := by
  funext k
  unfold Ms
  by_cases h1 : k = i
  · rw [if_pos h1, if_pos (by simp [h1])]
  · rw [if_neg h1]
    by_cases h2 : k ∈ l
    · rw [if_pos h2, if_pos (by simp [h2])]
    · rw [if_neg h2, if_neg (by simp [h1, h2])]
theorem Ms_nil (s : Sec) : Ms [] s = fun _ => none := by funext i; unfold Ms; simp
theorem Ms_cnt {l : List Nat} {h i : Nat} {s : Sec} (hl : ∀ i ∈ l, i < h) (hs : s.length = 512) (hi : i < h) {k : Nat} (hk : cntM (Ms l s) h ≤ k) : cntM (Ms (l ++ [i]) s) h ≤ k + 1 := by
  rw [← Ms_put, cntM_put (Ms_ok hl hs) hi]
  split <;> omega

set_option maxRecDepth 100000 in
set_option maxHeartbeats 4000000 in
theorem whole7_spec (a1 a2 : Int) {v z : Value} {ss : List Int} {keep : List Bool} (w : World) (hv : RdL w [] v (ss.map fun i => .int .i64 i)) (hk : RdL w [] z (keep.map Value.bool)) : Calls Try.prog 12 #[v, .int .i64 a1, .int .i64 a2, z] w fun e w' => e = .returned (.bool true) ∧ Upd [] w w' := by
  obtain ⟨av, cv, rfl, _⟩ := hv.shape
  obtain ⟨az, cz, rfl, _⟩ := hk.shape
  have HV := Lib.hid hv
  have HK := Lib.hid hk
  clear hv hk
  rw [List.length_map] at HV HK ⊢
  rw [List.length_map]
  by_cases h1 : 40 < ss.length
  · have dh1 : decide (40 < (ss.length : Int)) = true := by simp; omega
    go_enter Try.func12, Try.ntmps12
    go_wp2_with fail
    refine (begun7_spec w).mono ?_
    rintro e w1 ⟨rfl, hu1⟩
    have HU1 := Lib.hid hu1
    clear hu1
    go_wp2_with fail
    go_ret
    exact ⟨rfl, HU1.out⟩
  have dh1 : decide (40 < (ss.length : Int)) = false := by simp; omega
  by_cases h2 : 200 < keep.length
  · have dh2 : decide (200 < (keep.length : Int)) = true := by simp; omega
    go_enter Try.func12, Try.ntmps12
    go_wp2_with fail
    refine (begun7_spec w).mono ?_
    rintro e w1 ⟨rfl, hu1⟩
    have HU1 := Lib.hid hu1
    clear hu1
    go_wp2_with fail
    go_ret
    exact ⟨rfl, HU1.out⟩
  have dh2 : decide (200 < (keep.length : Int)) = false := by simp; omega
  have hb1 := run_build_1
  have hA := placeN_lt (k := a1) (n := 60) (by omega)
  have HPA := fun w => Lib.hid (place_spec a1 60 w (by omega) (by omega))
  generalize placeN a1 60 = pA at *
  go_enter Try.func12, Try.ntmps12
  go_wp2_with fail
  refine (begun7_spec w).mono ?_
  rintro e w1 ⟨rfl, hu1⟩
  have HU1 := Lib.hid hu1
  clear hu1
  go_wp2_with fail
  refine (made_hi 128 60 (by omega) (by omega) (by omega) (by omega) (by omega) w1).mono ?_
  rintro e w2 ⟨j, rfl, hj, ⟨J2, D2, hr2, _⟩, hu2⟩
  have HJ : Hid (j.Late w) := by
    have := HU1.out.size
    obtain ⟨k1, k2, k3, k4, k5⟩ := hj
    exact ⟨Nat.le_trans this k1, Nat.le_trans this k2, Nat.le_trans this k3, Nat.le_trans this k4, Nat.le_trans this k5⟩
  have HU2 := Lib.hid (HU1.out.trans hu2)
  have HB := Lib.hid (begin_hi hr2)
  have HR2 := Lib.hid hr2
  clear hj hr2 hu2
  go_wp2_with fail
  refine HB.out.mono ?_
  rintro e w3 ⟨x, rfl, hx1, hx2, hx, hr3, hu3⟩
  have HNX := Lib.hid (HR2.out.at_.late hx2)
  have HXL : Hid (w.heap.size ≤ x.tb ∧ w.heap.size ≤ x.wb) := ⟨Nat.le_trans HU2.out.size hx1, Nat.le_trans HU2.out.size hx2⟩
  have HX3 := Lib.hid hx
  have HU3 := Lib.hid (HU2.out.lateJ hu3 HJ.out)
  have HHM := Lib.hid (homesT_spec hx hr3.at_)
  rw [hr3.homes] at HHM
  have HR3 := Lib.hid hr3
  clear hx1 hx2 hx hr3 hu3
  go_wp2_with fail
  refine HHM.out.mono ?_
  rintro e w4 ⟨rfl, n4, hn4⟩
  have hu4 : Upd [] w3 w4 := by rw [hn4]; exact (Upd.refl _ _).drewN _
  have HX4 := Lib.hid (HX3.out.below hu4)
  have HR4 := Lib.hid (HR3.out.below hu4)
  have HU4 := Lib.hid (HU3.out.trans hu4)
  clear hn4 hu4
  obtain ⟨s, hs⟩ : ∃ s, s = pad [1] := ⟨_, rfl⟩
  have hsl : s.length = 512 := by rw [hs, pad_length]
  have hs0 : s[0]'(by omega) = 1 := by
    have h9 : (pad [1])[0]? = some 1 := by decide +kernel
    rw [← hs, List.getElem?_eq_getElem (by omega)] at h9
    exact Option.some.inj h9
  have HS := Lib.hid hs
  have HS0 := Lib.hid hs0
  clear hs hs0
  obtain ⟨pl, hpl⟩ : ∃ pl : List Nat, pl = ss.map fun i => placeN i 66 := ⟨_, rfl⟩
  have hpll : ∀ i ∈ pl, i < 66 := by
    rw [hpl]; intro i hi
    obtain ⟨x, _, rfl⟩ := List.mem_map.1 hi
    exact placeN_lt (by omega)
  have hpln : pl.length = ss.length := by rw [hpl, List.length_map]
  have HPL := Lib.hid hpl
  have HPLL := Lib.hid hpll
  have HPLN := Lib.hid hpln
  clear hpl hpll hpln
  go_wp2_with fail
  go_loopw [14] (fun i wr => ∃ k : Nat, k ≤ ss.length ∧ i = .int .i64 (k : Int) ∧ TxAt wr x j.jb (1 - 1) (Ms (pl.take k) s) ∧ cntM (Ms (pl.take k) s) (128 - 2 - 60) ≤ k ∧ JrAt wr j J2 D2 128 60 1 2 (fun _ => zsec) ∧ Upd [] w wr) (fun i _ => ss.length - (intOf i).toNat)
  case atStart => exact ⟨0, Nat.zero_le _, rfl, by rw [List.take_zero, Ms_nil]; exact HX4.out, by rw [List.take_zero, Ms_nil, cntM_none]; omega, HR4.out, HU4.out⟩
  case round =>
    obtain ⟨k, hk, rfl, hx, hcn, hr, hu⟩ := hrel
    have HX := Lib.hid hx
    have HR := Lib.hid hr
    have HU := Lib.hid hu
    clear hx hr hu
    by_cases hlt : k < ss.length
    · have hlt' : decide ((k : Int) < (ss.length : Int)) = true := by simpa using hlt
      obtain ⟨b, o, rfl, c0⟩ := (HV.out.lateS (S := []) HU.out (by simp)).cell k (by rw [List.length_map]; exact hlt)
      rw [List.getElem_map] at c0
      have i0 : (0 : Int) ≤ (k : Int) := by omega
      have i1 : (k : Int) < (ss.length : Int) := by omega
      have hP := placeN_lt (k := ss[k]) (n := 66) (by omega)
      have HP := fun w => Lib.hid (place_spec ss[k] 66 w (by omega) (by omega))
      have htk : pl.take (k + 1) = pl.take k ++ [placeN ss[k] 66] := by
        rw [List.take_succ_eq_append_getElem (by rw [HPLN.out]; exact hlt)]
        congr 2
        have := HPL.out
        subst this
        rw [List.getElem_map]
      have HTK := Lib.hid htk
      generalize ss[k] = xk at *
      generalize placeN xk 66 = p at *
      have hlm : ∀ i ∈ pl.take k, i < 66 := fun i hi => HPLL.out i (List.mem_of_mem_take hi)
      have HLM := Lib.hid hlm
      have HCN := Lib.hid hcn
      clear htk hlm
      go_wp2_with fail
      refine (HP _).out.mono ?_
      rintro e w' ⟨rfl, rfl⟩
      go_wp2_with fail
      refine (full_spec _ [1] _ (rd_row (blk_alloc _) rfl)).mono ?_
      rintro e w5 ⟨rfl, h5⟩
      have hb5 : w5.heap[wr.heap.size + 1]? = some (.cells (bts s).toArray 5 (0, 0)) := by rw [← h5, HS.out]; exact blk_alloc2 _ _
      have hu5 : Upd [] wr w5 := by rw [← h5]; exact ((Upd.refl _ _).alloc _).alloc _
      have hE : wrE (Ms (pl.take k) s) (128 - 2 - 60) (p : Int) s.length = 0 := wrE_zero (by omega) hsl (.inr (by omega))
      have HW := Lib.hid (write_hi (HR.out.below hu5) (HX.out.below hu5) HNX.out (Ms_ok (h := 128 - 2 - 60) HLM.out hsl) (p : Int) _ s (rd_row hb5 hsl) (by omega))
      rw [hE, wrM_zero hE, Ms_put, ← HTK.out] at HW
      have HCN2 : Hid (cntM (Ms (pl.take (k + 1)) s) (128 - 2 - 60) ≤ k + 1) := by
        show _ ≤ _
        rw [HTK.out]; exact Ms_cnt HLM.out hsl (by omega) hcn
      have HU5 := Lib.hid (HU.out.trans hu5)
      clear h5 hb5 hu5 hE
      go_wp2_with fail
      refine HW.out.mono ?_
      rintro e w6 ⟨rfl, hx6, hr6, hu6⟩
      have HX6 := Lib.hid hx6
      have HR6 := Lib.hid hr6
      have HU6 := Lib.hid (HU5.out.late hu6 (fun q hq => by simp at hq; subst hq; exact .inr HXL.out.2))
      clear hx6 hr6 hu6
      go_wp2_with fail
      exact ⟨⟨k + 1, by omega, by go_num, HX6.out, HCN2.out, HR6.out, HU6.out⟩, by simp [intOf]; omega⟩
    · obtain rfl : k = ss.length := by omega
      have hlt' : decide ((ss.length : Int) < (ss.length : Int)) = false := by simp
      have htk : pl.take ss.length = pl := List.take_of_length_le (by rw [HPLN.out]; exact Nat.le_refl _)
      rw [htk] at HX hcn
      clear htk
      go_wp2_with fail
      refine (HPA _).out.mono ?_
      rintro e w' ⟨rfl, rfl⟩
      have HAR := Lib.hid (armJ_hi HR.out.ja (pA : Int) a2 (by omega))
      go_wp2_with fail
      refine HAR.out.mono ?_
      rintro e w5 ⟨rfl, hr5, hu5⟩
      have hx5 := HX.out.jn HR.out.at_ HNX.out hu5 (fun q hq => by simp at hq; simp [hq, JG.all])
      have HU5 := Lib.hid (HU.out.late hu5 (fun q hq => by simp at hq; subst hq; exact .inr HJ.out.2.2.1))
      have HC := Lib.hid (commitA_hi hr5 hx5 HNX.out (Ms_ok (h := 128 - 2 - 60) HPLL.out hsl) (by omega) (by omega) (by omega) (by omega) (by omega))
      clear hr5 hu5 hx5
      have lateC : ∀ {w5 w6 : World}, Upd [] w w5 → Upd (x.tb :: j.all) w5 w6 → Upd [] w w6 := fun h5 h6 => h5.late h6 (fun q hq => by
        obtain ⟨k1, k2, k3, k4, k5⟩ := HJ.out
        simp [JG.all] at hq
        rcases hq with rfl | rfl | rfl | rfl | rfl | rfl
        · exact .inr HXL.out.1
        · exact .inr k1
        · exact .inr k2
        · exact .inr k3
        · exact .inr k4
        · exact .inr k5)
      go_wp2_with fail
      refine HC.out.mono ?_
      rintro e w6 ⟨hu6, ⟨rfl, J6, D6, t6, hr6, ht6, hoff⟩ | ⟨rfl, hp6, D6, hd6, hoff⟩⟩
      · have HU6 := Lib.hid (lateC HU5.out hu6)
        have HDE := Lib.hid (dead_spec hr6.at_.disk)
        rw [hoff] at HDE
        have HP6 := Lib.hid (hr6.pw.mono (m' := 100) (by omega) (Q' := fun t' H' => t' ≤ 100 ∧ H' = (fun i => (Ms pl s i).getD zsec)) (fun t' H' q => ⟨by omega, q.2⟩))
        clear hu6 hr6 ht6 hoff lateC
        go_wp2_with fail
        refine HDE.out.mono ?_
        rintro e w' ⟨rfl, rfl⟩
        have HPW := Lib.hid (pw_hi HP6.out (.slice az keep.length cz) keep (HK.out.lateS HU6.out (fun q hq => by have := HJ.out.2.2; simp at hq; rcases hq with rfl | rfl | rfl; exact this.1; exact this.2.1; exact this.2.2)))
        go_wp2_with fail
        refine HPW.out.mono ?_
        rintro e w7 ⟨rfl, ⟨J7, D7, t7, H7, hd7, ht7, hQ7⟩, hu7⟩
        have HQ7 : Hid (∀ i ∈ pl, H7 i = s) := by
          show ∀ i ∈ pl, _
          intro i hi
          rw [hQ7]; show (Ms pl s i).getD zsec = s
          unfold Ms; rw [if_pos hi]; rfl
        have HLEN : Hid (∀ i, (H7 i).length = 512) := by
          show ∀ i, _
          intro i; rw [hQ7]; show ((Ms pl s i).getD zsec).length = 512
          unfold Ms; split
          · exact hsl
          · exact zsec_length
        have HU7 := Lib.hid (HU6.out.lateD hu7 HJ.out.2.2)
        have HO7 := Lib.hid (open_hi hd7 (by omega) (by omega))
        clear hd7 hu7 hQ7
        go_wp2_with fail
        refine HO7.out.mono ?_
        rintro e w8 ⟨jbK, abK, rfl, hK1, hK2, ⟨J8, D8, hr8, _⟩, hu8⟩
        have HJK : Hid (JG.Late ⟨jbK, abK, j.d⟩ w) := ⟨Nat.le_trans HU7.out.size hK1, Nat.le_trans HU7.out.size hK2, HJ.out.2.2⟩
        have HU8 := Lib.hid (HU7.out.lateD hu8 HJ.out.2.2)
        have HR8 := Lib.hid hr8
        clear hK1 hK2 hr8 hu8
        go_wp2_with fail
        go_loopw [19, 17, 18] (fun i so al wr => ∃ k : Nat, k ≤ ss.length ∧ i = .int .i64 (k : Int) ∧ so = .bool (true && decide (0 < k)) ∧ al = .bool (true || decide (k = 0)) ∧ JrAt wr ⟨jbK, abK, j.d⟩ J8 D8 128 60 t7 (100 + 1) H7 ∧ Upd [] w wr) (fun i _ _ _ => ss.length - (intOf i).toNat)
        case atStart => exact ⟨0, Nat.zero_le _, rfl, rfl, rfl, HR8.out, HU8.out⟩
        case round =>
          obtain ⟨k, hk, rfl, rfl, rfl, hr, hu⟩ := hrel
          have HRr := Lib.hid hr
          have HUr := Lib.hid hu
          clear hr hu
          by_cases hlt : k < ss.length
          · have hlt' : decide ((k : Int) < (ss.length : Int)) = true := by simpa using hlt
            obtain ⟨b, o, rfl, c0⟩ := (HV.out.lateS (S := []) HUr.out (by simp)).cell k (by rw [List.length_map]; exact hlt)
            rw [List.getElem_map] at c0
            have i0 : (0 : Int) ≤ (k : Int) := by omega
            have i1 : (k : Int) < (ss.length : Int) := by omega
            have hP := placeN_lt (k := ss[k]) (n := 66) (by omega)
            have HP := fun w => Lib.hid (place_spec ss[k] 66 w (by omega) (by omega))
            have hmem : placeN ss[k] 66 ∈ pl := by rw [HPL.out]; exact List.mem_map.2 ⟨_, List.getElem_mem hlt, rfl⟩
            have HM := Lib.hid (HQ7.out _ hmem)
            clear hmem
            generalize ss[k] = xk at *
            generalize placeN xk 66 = p at *
            have HRD := Lib.hid (read_hi HRr.out p (by omega))
            rw [HM.out] at HRD
            go_wp2_with fail
            refine (HP _).out.mono ?_
            rintro e w' ⟨rfl, rfl⟩
            go_wp2_with fail
            refine HRD.out.mono ?_
            rintro e w9 ⟨v9, rfl, ho9, hr9, hu9⟩
            obtain ⟨k9, c9, rfl, hc9, _, hcell⟩ := ho9.sec hsl
            have hc0 : w9.cell? ⟨k9, 0, none⟩ = some (.int .u8 1) := (hcell 0 (by omega)).trans (by rw [HS0.out]; rfl)
            have HU9 := Lib.hid (HUr.out.lateR hu9 HJK.out)
            have HR9 := Lib.hid hr9
            clear ho9 hcell hr9 hu9
            rcases Nat.eq_zero_or_pos k with rfl | hk0
            · have d1 : decide (0 < 0) = false := rfl
              have d2 : decide (0 = 0) = true := rfl
              go_wp2_with fail
              go_quiet (fail)
              go_wp2_with fail
              exact ⟨⟨0 + 1, by omega, by go_num, by simp, by simp, HR9.out.below ((Upd.refl _ _).drewN _), HU9.out.drewN _⟩, by simp [intOf]; omega⟩
            · have d1 : decide (0 < k) = true := decide_eq_true hk0
              have d2 : decide (k = 0) = false := decide_eq_false (by omega)
              go_wp2_with fail
              go_quiet (fail)
              go_wp2_with fail
              exact ⟨⟨k + 1, by omega, by go_num, by simp, by simp, HR9.out.below ((Upd.refl _ _).drewN _), HU9.out.drewN _⟩, by simp [intOf]; omega⟩
          · obtain rfl : k = ss.length := by omega
            have hlt' : decide ((ss.length : Int) < (ss.length : Int)) = false := by simp
            by_cases h0 : 0 < ss.length
            · have d0 : decide (0 < (ss.length : Int)) = true := decide_eq_true (by omega)
              have d1 : decide (0 < ss.length) = true := decide_eq_true h0
              have d2 : decide (ss.length = 0) = false := decide_eq_false (by omega)
              clear h0
              go_wp2_with fail
              all_goals
                go_ret
                exact ⟨by simp, HUr.out⟩
            · have d0 : decide (0 < (ss.length : Int)) = false := decide_eq_false (by omega)
              have d1 : decide (0 < ss.length) = false := decide_eq_false h0
              have d2 : decide (ss.length = 0) = true := decide_eq_true (by omega)
              clear h0
              go_wp2_with fail
              all_goals
                go_ret
                exact ⟨by simp, HUr.out⟩
      · have HU6 := Lib.hid (lateC HU5.out hu6)
        have HDE := Lib.hid (dead_spec hd6)
        rw [hoff] at HDE
        have HP6 := Lib.hid (hp6.mono (m' := 100) (by omega) (Q' := fun t' H' => t' ≤ 100 ∧ (H' = (fun _ => zsec) ∨ H' = (fun i => (Ms pl s i).getD zsec))) (fun t' H' q => ⟨by omega, q.2⟩))
        clear hu6 hp6 hd6 hoff lateC
        go_wp2_with fail
        refine HDE.out.mono ?_
        rintro e w' ⟨rfl, rfl⟩
        have HPW := Lib.hid (pw_hi HP6.out (.slice az keep.length cz) keep (HK.out.lateS HU6.out (fun q hq => by have := HJ.out.2.2; simp at hq; rcases hq with rfl | rfl | rfl; exact this.1; exact this.2.1; exact this.2.2)))
        go_wp2_with fail
        refine HPW.out.mono ?_
        rintro e w7 ⟨rfl, ⟨J7, D7, t7, H7, hd7, ht7, hQ7⟩, hu7⟩
        rcases hQ7 with hQ7 | hQ7
        · have HQ7 : Hid (∀ i ∈ pl, H7 i = zsec) := by
            show ∀ i ∈ pl, _
            intro i hi
            rw [hQ7]
          have HLEN : Hid (∀ i, (H7 i).length = 512) := by
            show ∀ i, _
            intro i; rw [hQ7]; exact zsec_length
          have HU7 := Lib.hid (HU6.out.lateD hu7 HJ.out.2.2)
          have HO7 := Lib.hid (open_hi hd7 (by omega) (by omega))
          clear hd7 hu7 hQ7
          go_wp2_with fail
          refine HO7.out.mono ?_
          rintro e w8 ⟨jbK, abK, rfl, hK1, hK2, ⟨J8, D8, hr8, _⟩, hu8⟩
          have HJK : Hid (JG.Late ⟨jbK, abK, j.d⟩ w) := ⟨Nat.le_trans HU7.out.size hK1, Nat.le_trans HU7.out.size hK2, HJ.out.2.2⟩
          have HU8 := Lib.hid (HU7.out.lateD hu8 HJ.out.2.2)
          have HR8 := Lib.hid hr8
          clear hK1 hK2 hr8 hu8
          go_wp2_with fail
          go_loopw [19, 17, 18] (fun i so al wr => ∃ k : Nat, k ≤ ss.length ∧ i = .int .i64 (k : Int) ∧ so = .bool (false && decide (0 < k)) ∧ al = .bool (false || decide (k = 0)) ∧ JrAt wr ⟨jbK, abK, j.d⟩ J8 D8 128 60 t7 (100 + 1) H7 ∧ Upd [] w wr) (fun i _ _ _ => ss.length - (intOf i).toNat)
          case atStart => exact ⟨0, Nat.zero_le _, rfl, rfl, rfl, HR8.out, HU8.out⟩
          case round =>
            obtain ⟨k, hk, rfl, rfl, rfl, hr, hu⟩ := hrel
            have HRr := Lib.hid hr
            have HUr := Lib.hid hu
            clear hr hu
            by_cases hlt : k < ss.length
            · have hlt' : decide ((k : Int) < (ss.length : Int)) = true := by simpa using hlt
              obtain ⟨b, o, rfl, c0⟩ := (HV.out.lateS (S := []) HUr.out (by simp)).cell k (by rw [List.length_map]; exact hlt)
              rw [List.getElem_map] at c0
              have i0 : (0 : Int) ≤ (k : Int) := by omega
              have i1 : (k : Int) < (ss.length : Int) := by omega
              have hP := placeN_lt (k := ss[k]) (n := 66) (by omega)
              have HP := fun w => Lib.hid (place_spec ss[k] 66 w (by omega) (by omega))
              have hmem : placeN ss[k] 66 ∈ pl := by rw [HPL.out]; exact List.mem_map.2 ⟨_, List.getElem_mem hlt, rfl⟩
              have HM := Lib.hid (HQ7.out _ hmem)
              clear hmem
              generalize ss[k] = xk at *
              generalize placeN xk 66 = p at *
              have HRD := Lib.hid (read_hi HRr.out p (by omega))
              rw [HM.out] at HRD
              go_wp2_with fail
              refine (HP _).out.mono ?_
              rintro e w' ⟨rfl, rfl⟩
              go_wp2_with fail
              refine HRD.out.mono ?_
              rintro e w9 ⟨v9, rfl, ho9, hr9, hu9⟩
              obtain ⟨k9, c9, rfl, hc9, _, hcell⟩ := ho9.sec zsec_length
              have hc0 : w9.cell? ⟨k9, 0, none⟩ = some (.int .u8 0) := (hcell 0 (by omega)).trans (by rw [zsec_zero]; rfl)
              have HU9 := Lib.hid (HUr.out.lateR hu9 HJK.out)
              have HR9 := Lib.hid hr9
              clear ho9 hcell hr9 hu9
              rcases Nat.eq_zero_or_pos k with rfl | hk0
              · have d1 : decide (0 < 0) = false := rfl
                have d2 : decide (0 = 0) = true := rfl
                go_wp2_with fail
                go_quiet (fail)
                go_wp2_with fail
                exact ⟨⟨0 + 1, by omega, by go_num, by simp, by simp, HR9.out.below ((Upd.refl _ _).drewN _), HU9.out.drewN _⟩, by simp [intOf]; omega⟩
              · have d1 : decide (0 < k) = true := decide_eq_true hk0
                have d2 : decide (k = 0) = false := decide_eq_false (by omega)
                go_wp2_with fail
                go_quiet (fail)
                go_wp2_with fail
                exact ⟨⟨k + 1, by omega, by go_num, by simp, by simp, HR9.out.below ((Upd.refl _ _).drewN _), HU9.out.drewN _⟩, by simp [intOf]; omega⟩
            · obtain rfl : k = ss.length := by omega
              have hlt' : decide ((ss.length : Int) < (ss.length : Int)) = false := by simp
              by_cases h0 : 0 < ss.length
              · have d0 : decide (0 < (ss.length : Int)) = true := decide_eq_true (by omega)
                have d1 : decide (0 < ss.length) = true := decide_eq_true h0
                have d2 : decide (ss.length = 0) = false := decide_eq_false (by omega)
                clear h0
                go_wp2_with fail
                all_goals
                  go_ret
                  exact ⟨by simp, HUr.out⟩
              · have d0 : decide (0 < (ss.length : Int)) = false := decide_eq_false (by omega)
                have d1 : decide (0 < ss.length) = false := decide_eq_false h0
                have d2 : decide (ss.length = 0) = true := decide_eq_true (by omega)
                clear h0
                go_wp2_with fail
                all_goals
                  go_ret
                  exact ⟨by simp, HUr.out⟩
        · have HQ7 : Hid (∀ i ∈ pl, H7 i = s) := by
            show ∀ i ∈ pl, _
            intro i hi
            rw [hQ7]; show (Ms pl s i).getD zsec = s
            unfold Ms; rw [if_pos hi]; rfl
          have HLEN : Hid (∀ i, (H7 i).length = 512) := by
            show ∀ i, _
            intro i; rw [hQ7]; show ((Ms pl s i).getD zsec).length = 512
            unfold Ms; split
            · exact hsl
            · exact zsec_length
          have HU7 := Lib.hid (HU6.out.lateD hu7 HJ.out.2.2)
          have HO7 := Lib.hid (open_hi hd7 (by omega) (by omega))
          clear hd7 hu7 hQ7
          go_wp2_with fail
          refine HO7.out.mono ?_
          rintro e w8 ⟨jbK, abK, rfl, hK1, hK2, ⟨J8, D8, hr8, _⟩, hu8⟩
          have HJK : Hid (JG.Late ⟨jbK, abK, j.d⟩ w) := ⟨Nat.le_trans HU7.out.size hK1, Nat.le_trans HU7.out.size hK2, HJ.out.2.2⟩
          have HU8 := Lib.hid (HU7.out.lateD hu8 HJ.out.2.2)
          have HR8 := Lib.hid hr8
          clear hK1 hK2 hr8 hu8
          go_wp2_with fail
          go_loopw [19, 17, 18] (fun i so al wr => ∃ k : Nat, k ≤ ss.length ∧ i = .int .i64 (k : Int) ∧ so = .bool (true && decide (0 < k)) ∧ al = .bool (true || decide (k = 0)) ∧ JrAt wr ⟨jbK, abK, j.d⟩ J8 D8 128 60 t7 (100 + 1) H7 ∧ Upd [] w wr) (fun i _ _ _ => ss.length - (intOf i).toNat)
          case atStart => exact ⟨0, Nat.zero_le _, rfl, rfl, rfl, HR8.out, HU8.out⟩
          case round =>
            obtain ⟨k, hk, rfl, rfl, rfl, hr, hu⟩ := hrel
            have HRr := Lib.hid hr
            have HUr := Lib.hid hu
            clear hr hu
            by_cases hlt : k < ss.length
            · have hlt' : decide ((k : Int) < (ss.length : Int)) = true := by simpa using hlt
              obtain ⟨b, o, rfl, c0⟩ := (HV.out.lateS (S := []) HUr.out (by simp)).cell k (by rw [List.length_map]; exact hlt)
              rw [List.getElem_map] at c0
              have i0 : (0 : Int) ≤ (k : Int) := by omega
              have i1 : (k : Int) < (ss.length : Int) := by omega
              have hP := placeN_lt (k := ss[k]) (n := 66) (by omega)
              have HP := fun w => Lib.hid (place_spec ss[k] 66 w (by omega) (by omega))
              have hmem : placeN ss[k] 66 ∈ pl := by rw [HPL.out]; exact List.mem_map.2 ⟨_, List.getElem_mem hlt, rfl⟩
              have HM := Lib.hid (HQ7.out _ hmem)
              clear hmem
              generalize ss[k] = xk at *
              generalize placeN xk 66 = p at *
              have HRD := Lib.hid (read_hi HRr.out p (by omega))
              rw [HM.out] at HRD
              go_wp2_with fail
              refine (HP _).out.mono ?_
              rintro e w' ⟨rfl, rfl⟩
              go_wp2_with fail
              refine HRD.out.mono ?_
              rintro e w9 ⟨v9, rfl, ho9, hr9, hu9⟩
              obtain ⟨k9, c9, rfl, hc9, _, hcell⟩ := ho9.sec hsl
              have hc0 : w9.cell? ⟨k9, 0, none⟩ = some (.int .u8 1) := (hcell 0 (by omega)).trans (by rw [HS0.out]; rfl)
              have HU9 := Lib.hid (HUr.out.lateR hu9 HJK.out)
              have HR9 := Lib.hid hr9
              clear ho9 hcell hr9 hu9
              rcases Nat.eq_zero_or_pos k with rfl | hk0
              · have d1 : decide (0 < 0) = false := rfl
                have d2 : decide (0 = 0) = true := rfl
                go_wp2_with fail
                go_quiet (fail)
                go_wp2_with fail
                exact ⟨⟨0 + 1, by omega, by go_num, by simp, by simp, HR9.out.below ((Upd.refl _ _).drewN _), HU9.out.drewN _⟩, by simp [intOf]; omega⟩
              · have d1 : decide (0 < k) = true := decide_eq_true hk0
                have d2 : decide (k = 0) = false := decide_eq_false (by omega)
                go_wp2_with fail
                go_quiet (fail)
                go_wp2_with fail
                exact ⟨⟨k + 1, by omega, by go_num, by simp, by simp, HR9.out.below ((Upd.refl _ _).drewN _), HU9.out.drewN _⟩, by simp [intOf]; omega⟩
            · obtain rfl : k = ss.length := by omega
              have hlt' : decide ((ss.length : Int) < (ss.length : Int)) = false := by simp
              by_cases h0 : 0 < ss.length
              · have d0 : decide (0 < (ss.length : Int)) = true := decide_eq_true (by omega)
                have d1 : decide (0 < ss.length) = true := decide_eq_true h0
                have d2 : decide (ss.length = 0) = false := decide_eq_false (by omega)
                clear h0
                go_wp2_with fail
                all_goals
                  go_ret
                  exact ⟨by simp, HUr.out⟩
              · have d0 : decide (0 < (ss.length : Int)) = false := decide_eq_false (by omega)
                have d1 : decide (0 < ss.length) = false := decide_eq_false h0
                have d2 : decide (ss.length = 0) = true := decide_eq_true (by omega)
                clear h0
                go_wp2_with fail
                all_goals
                  go_ret
                  exact ⟨by simp, HUr.out⟩

end Go.Proofs.Ythbgidiblcokhaa
