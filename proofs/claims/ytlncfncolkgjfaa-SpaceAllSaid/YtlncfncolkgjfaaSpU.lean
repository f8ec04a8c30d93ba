/-
  cofferlaw8.SpaceAll.
-/
import Derived.Test.YtlncfncolkgjfaaSpT
namespace Go.Proofs.Ytlncfncolkgjfaa
open Go.RowKit Go.MapKept Go.ChangeMaps Go.Deep

/-- A Space that is laid into a block of its own. -/
theorem rf_made {w : World} {sb h c : Nat} {f : Nat → Bool} (hb : BlG w sb h f) (hc : h ≤ c) (r : Nat → Nat) :
    RfAt (w.alloc (.cells (spCells (.slice (some ⟨sb, 0, none⟩) h c) r) 43)) w.heap.size sb h f r ∧ Upd [] w (w.alloc (.cells (spCells (.slice (some ⟨sb, 0, none⟩) h c) r) 43)) := by
  have hu : Upd [] w (w.alloc (.cells (spCells (.slice (some ⟨sb, 0, none⟩) h c) r) 43)) := (Upd.refl _ _).alloc _
  exact ⟨⟨⟨c, hc, blk_alloc _⟩, hb.upd hu (by simp)⟩, hu⟩
theorem op_cells {w : World} {b : Nat} {x0 x1 x2 x3 : Value} {T : TypeId} (h : w.heap[b]? = some (.cells #[x0, x1, x2, x3] T (0, 0))) : w.cell? ⟨b, 0, none⟩ = some x0 ∧ w.cell? ⟨b, 1, none⟩ = some x1 ∧ w.cell? ⟨b, 2, none⟩ = some x2 ∧ w.cell? ⟨b, 3, none⟩ = some x3 := by
  refine ⟨?_, ?_, ?_, ?_⟩ <;> (rw [blk_cell h]; rfl)
theorem pair_cells {w : World} {b : Nat} {x0 x1 : Value} {T : TypeId} (h : w.heap[b]? = some (.cells #[x0, x1] T (0, 0))) : w.cell? ⟨b, 0, none⟩ = some x0 ∧ w.cell? ⟨b, 1, none⟩ = some x1 := by
  refine ⟨?_, ?_⟩ <;> (rw [blk_cell h]; rfl)
theorem num_zero {k : Nat} (hk : k < 16) : num zsec (4 * k) 4 = 0 := by
  unfold num zsec
  rw [List.drop_replicate, List.take_replicate, show min 4 (512 - 4 * k) = 4 from by omega]
  rfl

set_option maxRecDepth 100000 in
set_option maxHeartbeats 4000000 in
theorem all8_spec (a0 : Int) (w : World) {v1 : Value} {l : List Op8} (HV : OpIn w v1 l) : Calls Try.prog 6 #[.int .i64 a0, v1] w fun e w' => e = .returned (.bool true) ∧ Upd [] w w' := by
  obtain ⟨av, cv, rfl, hcv, hcell⟩ := id HV
  have HV0 := Lib.hid HV
  have HCELL := Lib.hid hcell
  clear HV hcell
  by_cases hl : 80 < l.length
  · have hd : decide (80 < (l.length : Int)) = true := decide_eq_true (by omega)
    have hd2 : decide (80 < l.length) = true := decide_eq_true hl
    go_enter Try.func6, Try.ntmps6
    go_wp2_with fail
    refine (begun8_spec w).mono ?_
    rintro e w1 ⟨rfl, hu1⟩
    go_wp2_with fail
    go_ret
    exact ⟨rfl, hu1⟩
  · have hd : decide (80 < (l.length : Int)) = false := decide_eq_false (by omega)
    have hd2 : decide (80 < l.length) = false := decide_eq_false hl
    have hN := placeN_lt (k := a0) (n := 255) (by omega)
    have HN := fun w => Lib.hid (place_spec a0 255 w (by omega) (by omega))
    generalize placeN a0 255 = pN at *
    have HB := fun w => Lib.hid (begunS (64 + pN) 16 (64 + (pN : Int)) (by omega) (by omega) (by omega) (by omega) (by omega) (by omega) w)
    go_enter Try.func6, Try.ntmps6
    go_wp2_with fail
    refine (begun8_spec w).mono ?_
    rintro e w1 ⟨rfl, hu1⟩
    have HU1 := Lib.hid hu1
    clear hu1
    go_wp2_with fail
    refine (HN _).out.mono ?_
    rintro e w' ⟨rfl, rfl⟩
    go_wp2_with fail
    refine (HB _).out.mono ?_
    rintro e w2 ⟨g, rfl, hg, hu2⟩
    obtain ⟨hm, hhm⟩ : ∃ hm, hm = 46 + pN := ⟨_, rfl⟩
    have hgh : g.h = hm := by unfold Sg.h; rw [hg.n, hg.ring]; omega
    have HNEW := Lib.hid (new8_spec hm (64 + (pN : Int) - 18) (by omega) (by omega) (by omega) w2)
    have HG := Lib.hid hg
    have HU2 := Lib.hid (HU1.out.trans hu2)
    have HGH := Lib.hid hgh
    have HNN : Hid (64 ≤ g.n ∧ g.n ≤ 318) := by show _ ∧ _; rw [hg.n]; omega
    have hm1 : 46 ≤ hm := by omega
    have hm2 : hm ≤ 300 := by omega
    clear hg hu2 hgh hhm
    go_wp2_with fail
    refine HNEW.out.mono ?_
    rintro e w3 ⟨sb, rfl, hsb, hbl, hu3⟩
    obtain ⟨ha4, hu4⟩ := rf_made hbl (Nat.le_refl hm) (fun _ => 0)
    rw [spZ_eq] at ha4 hu4 ⊢
    obtain ⟨w4, hw4⟩ : ∃ w4, w4 = w3.alloc (.cells (spZ (.slice (some ⟨sb, 0, none⟩) hm hm)) 43) := ⟨_, rfl⟩
    rw [← hw4] at ha4 hu4
    obtain ⟨b7, hb7⟩ : ∃ b, b = w3.heap.size := ⟨_, rfl⟩
    rw [← hb7] at ha4
    have h7 : w.heap.size ≤ b7 := by rw [hb7]; exact Nat.le_trans HU2.out.size hu3.size
    have hs7 : w.heap.size ≤ sb := Nat.le_trans HU2.out.size hsb
    have HA4 := Lib.hid ha4
    have HU4 := Lib.hid ((HU2.out.trans hu3).trans hu4)
    have HU24 : Hid (Upd [] w2 w4) := Lib.hid (hu3.trans hu4)
    have HW4 := Lib.hid hw4
    have HB7 := Lib.hid hb7
    have HCP := Lib.hid (copy8_spec ha4 (by omega) (by omega))
    clear hsb hbl hu3 ha4 hu4 hw4 hb7
    unfold spZ
    go_wp2_with fail
    have hw4 := HW4.out
    have hb7 := HB7.out
    unfold spZ at hw4
    rw [← hb7, ← hw4]
    clear hw4 hb7
    refine HCP.out.mono ?_
    rintro e w5 ⟨gb, c8, rfl, hc8, hgb, hbl, hu5⟩
    obtain ⟨ha6, hu6⟩ := rf_made hbl hc8 (fun _ => 0)
    rw [spZ_eq] at ha6 hu6 ⊢
    obtain ⟨w6, hw6⟩ : ∃ w6, w6 = w5.alloc (.cells (spZ (.slice (some ⟨gb, 0, none⟩) hm c8)) 43) := ⟨_, rfl⟩
    rw [← hw6] at ha6 hu6
    obtain ⟨b8, hb8⟩ : ∃ b, b = w5.heap.size := ⟨_, rfl⟩
    rw [← hb8] at ha6
    have hu46 := hu5.trans hu6
    have hnb : b7 ≠ b8 := by
      obtain ⟨⟨_, _, e⟩, _⟩ := HA4.out
      have := blk_lt e
      have := hu5.size
      omega
    have hns : sb ≠ gb := by have := HA4.out.row.lt; omega
    have HAL : Hid (AlAt w w6 g (fun _ => none) b7 sb (g.T fun _ => none) (g.R fun _ => none) b8 gb (g.T fun _ => none) (g.R fun _ => none) (.slice none 0 0) []) := by
      show AlAt _ _ _ _ _ _ _ _ _ _ _ _ _ _
      have hT := HG.out.T
      have hR : ∀ j, j < 16 → g.R (fun _ => none) j = 0 := fun j hj => by
        unfold Sg.R
        rw [show g.cur (fun _ => none) 0 = zsec from HG.out.zero]
        exact num_zero hj
      have hu := (HU4.out.trans hu46)
      have hu26 : Upd [] w2 w6 := HU24.out.trans hu46
      refine ⟨HG.out.sp.below hu26, Two.none, ?_, ?_, hns, hnb, HG.out.ring, HNN.out.1, HNN.out.2, HG.out.turn, fun k hk => Nat.le_trans HU1.out.size (HG.out.late k hk), ⟨h7, hs7, by have := HU4.out.size; have := hu5.size; omega, by have := HU4.out.size; omega⟩, PrB.nil _ _, hu⟩
      · rw [HGH.out]; exact ((HA4.out.below hu46 (by simp) (by simp)).ext fun i _ => hT i).extR hR
      · rw [HGH.out]; exact (ha6.ext fun i _ => hT i).extR hR
    have HW6 := Lib.hid hw6
    have HB8 := Lib.hid hb8
    clear hc8 hgb hbl hu5 ha6 hu6 hw6 hb8 hu46 hnb hns HNEW HCP HA4 HU4
    unfold spZ
    go_wp2_with fail
    have hw6 := HW6.out
    have hb8 := HB8.out
    unfold spZ at hw6
    rw [← hb8, ← hw6]
    clear hw6 hb8 HW6 HB8 HW4 HB7 HU24
    obtain ⟨jb, hjb⟩ : ∃ jb, jb = g.j.jb := ⟨_, rfl⟩
    rw [← hjb]
    have HT2 : Hid (g.t ≤ 2 ∧ g.m ≤ 3) := Lib.hid ⟨HG.out.t, HG.out.m⟩
    have HJB := Lib.hid hjb
    clear hjb HNN HG HU1 HU2
    go_loopw [10, 6, 9] (fun i t v wr => ∃ (q : Nat) (g : Sg) (M : Nat → Option Sec) (s7 s8 : Nat) (ps : List (Int × Int)), q ≤ l.length ∧ i = .int .i64 (q : Int) ∧ t = .pointer (some ⟨g.x.tb, 0, none⟩) ∧ g.j.jb = jb ∧ g.h = hm ∧ g.t ≤ 2 + (q : Int) ∧ g.m ≤ 3 + (q : Int) ∧ ps.length ≤ q ∧ AlAt w wr g M b7 s7 (g.T M) (g.R M) b8 s8 (g.T fun _ => none) (g.R fun _ => none) v ps) (fun i _ _ _ => l.length - (intOf i).toNat)
    case atStart => exact ⟨0, g, _, sb, gb, [], Nat.zero_le _, rfl, rfl, HJB.out.symm, HGH.out, by have := HT2.out; omega, by have := HT2.out; omega, Nat.le_refl _, HAL.out⟩
    case round =>
      obtain ⟨q, gg, M, s7, s8, ps, hq, rfl, rfl, hj, hh, ht, hmm, hps, H⟩ := hrel
      by_cases hlt : q < l.length
      · have hlt' : decide ((q : Int) < (l.length : Int)) = true := decide_eq_true (by omega)
        have hlt2 : decide (q < l.length) = true := decide_eq_true hlt
        obtain ⟨ab, off, rfl, hcell⟩ := HCELL.out (by omega)
        obtain ⟨c0, c1, c2, c3⟩ := hcell q hlt
        replace c0 := keep_upd c0 H.upd (by simp)
        replace c1 := keep_upd c1 H.upd (by simp)
        replace c2 := keep_upd c2 H.upd (by simp)
        replace c3 := keep_upd c3 H.upd (by simp)
        clear hcell
        generalize l[q] = o at *
        have i0 : (0 : Int) ≤ (q : Int) := by omega
        have i1 : (q : Int) < (l.length : Int) := by omega
        obtain ⟨ag, cg, rfl⟩ := H.pr.shape
        obtain ⟨wA, hwA⟩ : ∃ wA, wA = wr.alloc (.cells #[.int .i64 o.K, .int .i64 o.At, .int .i64 o.N, .int .u32 (o.V : Int)] 48) := ⟨_, rfl⟩
        have HA := Lib.hid (H.below (w' := wA) (by rw [hwA]; exact (Upd.refl _ _).alloc _))
        obtain ⟨bo, hbo⟩ : ∃ b, b = wr.heap.size := ⟨_, rfl⟩
        have hb : wA.heap[bo]? = some (.cells #[.int .i64 o.K, .int .i64 o.At, .int .i64 o.N, .int .u32 (o.V : Int)] 48 (0, 0)) := by rw [hwA, hbo]; exact blk_alloc _
        have HBO := Lib.hid hb
        have hP := placeN_lt (k := o.K) (n := 8) (by omega)
        obtain ⟨pI, hpI⟩ : ∃ pI : Int, pI = ((placeN o.K 8 : Nat) : Int) := ⟨_, rfl⟩
        have HP := Lib.hid (place_spec o.K 8 wA (by omega) (by omega))
        rw [← hpI] at HP
        have hpp : pI = 0 ∨ pI = 1 ∨ pI = 2 ∨ pI = 3 ∨ pI = 4 ∨ pI = 5 ∨ pI = 6 ∨ pI = 7 := by omega
        have HPP := Lib.hid hpp
        have HWA := Lib.hid hwA
        have HBOE := Lib.hid hbo
        have HH := Lib.hid hh
        have HJ := Lib.hid hj
        have HTM : Hid (gg.t ≤ 2 + (q : Int) ∧ gg.m ≤ 3 + (q : Int)) := Lib.hid ⟨ht, hmm⟩
        clear H hwA hbo hb hP hpI hpp hh hj ht hmm
        go_wp2_with fail
        have hwA := HWA.out
        have hbo := HBOE.out
        rw [← hwA, ← hbo]
        clear hwA hbo c0 c1 c2 c3
        refine HP.out.mono ?_
        rintro e w' ⟨rfl, rfl⟩
        obtain ⟨hK, hAt, hNn, hVv⟩ := op_cells HBO.out
        rcases HPP.out with rfl | rfl | rfl | rfl | rfl | rfl | rfl | rfl
        · as_aux_lemma =>
            have HTK := Lib.hid (takeA HA.out o.N)
            clear hK hVv hAt
            go_wp2_with fail
            refine HTK.out.mono ?_
            rintro e w2 ⟨a, x, M', rfl, hk, h2, hr⟩
            have HB2 := Lib.hid (hk _ _ _ (.inr rfl) HBO.out)
            have HRT := Lib.hid (hr w2 h2)
            clear hk h2 hr hNn
            obtain ⟨-, -, hNn, -⟩ := op_cells HB2.out
            go_wp2_with fail
            refine HRT.out.mono ?_
            rintro e w3 ⟨rfl, hk, h3⟩
            have HB3 := Lib.hid (hk _ _ _ (.inr rfl) HB2.out)
            have H3 := Lib.hid h3
            clear hk h3 hNn
            obtain ⟨-, -, hNn, -⟩ := op_cells HB3.out
            obtain ⟨a', b', c', w4, S, hrun, hp4, hu4, hS4⟩ := pr_push H3.out.pr (by omega) H3.out.upd.size a o.N
            have HSM := Lib.hid (sameA (H3.out.push hp4 hu4 hS4))
            have hbp := run_build_pr a o.N
            clear hp4 hu4 hS4
            go_wp2_with (at_builtin; refine wpList_append_run rfl _ _ _ rfl rfl rfl hrun ?_)
            refine HSM.out.mono ?_
            rintro e w5 ⟨rfl, h5⟩
            have H5 := Lib.hid h5
            clear h5 hrun hbp hNn
            go_wp2_with fail
            exact ⟨⟨q + 1, gg, M', s7, s8, _, by omega, by go_num, rfl, HJ.out, HH.out, by have := HTM.out; omega, by have := HTM.out; omega, by simp; omega, H5.out⟩, by simp [intOf]; omega⟩
        · as_aux_lemma =>
            clear hK hVv
            go_wp2_with fail
            go_region_held3 (fun w' => w'.cell? ⟨bo, 1, none⟩ = some (.int .i64 o.At) ∧ w'.cell? ⟨bo, 2, none⟩ = some (.int .i64 o.N)) (go_keep)
              (first
                | (go_at_call 13; (with_reducible refine (freeA (HA.out.below (Upd.refl _ _).drew) o.At o.N).mono ?_); rintro e w2 ⟨x, M', rfl, hk, h2, hr⟩; have HB2 := Lib.hid (hk _ _ _ (.inr rfl) (HBO.out : wA.drew.heap[bo]? = _)); have H2 := Lib.hid h2; have HR2 := Lib.hid hr; clear hk h2 hr; obtain ⟨-, hA2, hN2, -⟩ := op_cells HB2.out)
                | (go_at_call 18; (with_reducible refine (HR2.out _ H2.out).mono ?_); rintro e w3 ⟨rfl, hk, h3⟩; have HB3 := Lib.hid (hk _ _ _ (.inr rfl) HB2.out); have H3 := Lib.hid h3; clear hk h3; obtain ⟨-, hA3, hN3, -⟩ := op_cells HB3.out))
            all_goals
              have HSM := Lib.hid (sameA H3.out)
              go_wp2_with fail
              refine HSM.out.mono ?_
              rintro e w9 ⟨rfl, h9⟩
              have H9 := Lib.hid h9
              clear h9
              go_wp2_with fail
              exact ⟨⟨q + 1, gg, M', s7, s8, _, by omega, by go_num, rfl, HJ.out, HH.out, by have := HTM.out; omega, by have := HTM.out; omega, by omega, H9.out⟩, by simp [intOf]; omega⟩
        · as_aux_lemma =>
            clear hK hVv hNn
            by_cases hp0 : 0 < ps.length
            · have hp1 : decide (0 < (ps.length : Int)) = true := decide_eq_true (by omega)
              have hp2 : decide (0 < ps.length) = true := decide_eq_true hp0
              have hX := placeN_lt (k := o.At) (n := ps.length) (by omega)
              have HX := Lib.hid (place_spec o.At ps.length wA (by omega) (by omega))
              generalize placeN o.At ps.length = pk at *
              obtain ⟨kg, ck, hv, hx0, hx1⟩ := HA.out.pr.cell pk hX
              cases hv
              generalize ps[pk] = xx at *
              obtain ⟨wB, hwB⟩ : ∃ wB, wB = wA.alloc (.cells #[.int .i64 xx.1, .int .i64 xx.2] 50) := ⟨_, rfl⟩
              obtain ⟨bp, hbp⟩ : ∃ b, b = wA.heap.size := ⟨_, rfl⟩
              have hb : wB.heap[bp]? = some (.cells #[.int .i64 xx.1, .int .i64 xx.2] 50 (0, 0)) := by rw [hwB, hbp]; exact blk_alloc _
              have HBP := Lib.hid hb
              have HB := Lib.hid (HA.out.below (w' := wB) (by rw [hwB]; exact (Upd.refl _ _).alloc _))
              have HWB := Lib.hid hwB
              have HBE := Lib.hid hbp
              have i2 : (0 : Int) ≤ (pk : Int) := by omega
              have i3 : (pk : Int) < (ps.length : Int) := by omega
              clear hb hwB hbp
              go_wp2_with fail
              refine HX.out.mono ?_
              rintro e w' ⟨rfl, rfl⟩
              go_wp2_with fail
              have hwB := HWB.out
              have hbp := HBE.out
              rw [← hwB, ← hbp]
              clear hwB hbp hx0 hx1 hAt
              obtain ⟨p0, p1⟩ := pair_cells HBP.out
              go_region_held3 (fun w' => w'.cell? ⟨bp, 0, none⟩ = some (.int .i64 xx.1) ∧ w'.cell? ⟨bp, 1, none⟩ = some (.int .i64 xx.2)) (go_keep)
                (first
                  | (go_at_call 13; (with_reducible refine (freeA (HB.out.below (Upd.refl _ _).drew) xx.1 xx.2).mono ?_); rintro e w2 ⟨x, M', rfl, hk, h2, hr⟩; have HB2 := Lib.hid (hk _ _ _ (.inl rfl) (HBP.out : wB.drew.heap[bp]? = _)); have H2 := Lib.hid h2; have HR2 := Lib.hid hr; clear hk h2 hr; obtain ⟨hA2, hN2⟩ := pair_cells HB2.out)
                  | (go_at_call 18; (with_reducible refine (HR2.out _ H2.out).mono ?_); rintro e w3 ⟨rfl, hk, h3⟩; have HB3 := Lib.hid (hk _ _ _ (.inl rfl) HB2.out); have H3 := Lib.hid h3; clear hk h3; obtain ⟨hA3, hN3⟩ := pair_cells HB3.out))
              all_goals
                have HSM := Lib.hid (sameA H3.out)
                go_wp2_with fail
                refine HSM.out.mono ?_
                rintro e w9 ⟨rfl, h9⟩
                have H9 := Lib.hid h9
                clear h9
                go_wp2_with fail
                exact ⟨⟨q + 1, gg, M', s7, s8, _, by omega, by go_num, rfl, HJ.out, HH.out, by have := HTM.out; omega, by have := HTM.out; omega, by omega, H9.out⟩, by simp [intOf]; omega⟩
            · have hp1 : decide (0 < (ps.length : Int)) = false := decide_eq_false (by omega)
              have hp2 : decide (0 < ps.length) = false := decide_eq_false hp0
              clear hAt
              have HSM := Lib.hid (sameA HA.out)
              go_wp2_with fail
              refine HSM.out.mono ?_
              rintro e w9 ⟨rfl, h9⟩
              have H9 := Lib.hid h9
              clear h9
              go_wp2_with fail
              exact ⟨⟨q + 1, gg, M, s7, s8, _, by omega, by go_num, rfl, HJ.out, HH.out, by have := HTM.out; omega, by have := HTM.out; omega, by omega, H9.out⟩, by simp [intOf]; omega⟩
        · as_aux_lemma =>
            clear hK hVv hNn
            by_cases h0 : o.At < 0
            · have d1 : decide (0 ≤ o.At) = false := decide_eq_false (by omega)
              have HTK := Lib.hid (takenA_arg HA.out o.At (.inl h0))
              go_wp2_with fail
              refine HTK.out.mono ?_
              rintro e w2 ⟨rfl, hk, h2⟩
              have HB2 := Lib.hid (hk _ _ _ (.inr rfl) HBO.out)
              have H2 := Lib.hid h2
              clear hk h2 hAt
              obtain ⟨-, hAt, -, -⟩ := op_cells HB2.out
              have HSM := Lib.hid (sameA H2.out)
              go_wp2_with fail
              refine HSM.out.mono ?_
              rintro e w9 ⟨rfl, h9⟩
              have H9 := Lib.hid h9
              clear h9
              go_wp2_with fail
              exact ⟨⟨q + 1, gg, M, s7, s8, _, by omega, by go_num, rfl, HJ.out, HH.out, by have := HTM.out; omega, by have := HTM.out; omega, by omega, H9.out⟩, by simp [intOf]; omega⟩
            · have d1 : decide (0 ≤ o.At) = true := decide_eq_true (by omega)
              have j0 : 0 ≤ o.At := by omega
              by_cases h1 : (hm : Int) ≤ o.At
              · have d2 : decide (o.At < (hm : Int)) = false := decide_eq_false (by omega)
                have HTK := Lib.hid (takenA_arg HA.out o.At (.inr (by rw [HH.out]; exact h1)))
                go_wp2_with fail
                refine HTK.out.mono ?_
                rintro e w2 ⟨rfl, hk, h2⟩
                have HB2 := Lib.hid (hk _ _ _ (.inr rfl) HBO.out)
                have H2 := Lib.hid h2
                obtain ⟨cc, _, e7⟩ := h2.a.st
                have s0 := (sp_cells e7).1
                rw [HH.out] at s0
                clear hk h2 hAt e7
                obtain ⟨-, hAt, -, -⟩ := op_cells HB2.out
                have HSM := Lib.hid (sameA H2.out)
                go_wp2_with fail
                refine HSM.out.mono ?_
                rintro e w9 ⟨rfl, h9⟩
                have H9 := Lib.hid h9
                clear h9
                go_wp2_with fail
                exact ⟨⟨q + 1, gg, M, s7, s8, _, by omega, by go_num, rfl, HJ.out, HH.out, by have := HTM.out; omega, by have := HTM.out; omega, by omega, H9.out⟩, by simp [intOf]; omega⟩
              · have d2 : decide (o.At < (hm : Int)) = true := decide_eq_true (by omega)
                have j1 : o.At < (hm : Int) := by omega
                have htk := takenA HA.out o.At.toNat (by rw [HH.out]; omega)
                rw [Int.toNat_of_nonneg j0] at htk
                obtain ⟨tb, htb⟩ : ∃ tb, tb = gg.T M o.At.toNat := ⟨_, rfl⟩
                rw [← htb] at htk
                have HTK := Lib.hid htk
                clear htk
                go_wp2_with fail
                refine HTK.out.mono ?_
                rintro e w2 ⟨rfl, hk, h2⟩
                have HB2 := Lib.hid (hk _ _ _ (.inr rfl) HBO.out)
                have H2 := Lib.hid h2
                obtain ⟨cc, hcc, e7⟩ := h2.a.st
                have s0 := (sp_cells e7).1
                have t0 := (h2.a.row.cell (i := o.At.toNat) (by rw [HH.out]; omega)).1
                rw [HH.out] at s0
                rw [← htb] at t0
                clear hk h2 hAt e7 htb
                obtain ⟨-, hAt, -, -⟩ := op_cells HB2.out
                have HSM := Lib.hid (sameA H2.out)
                go_wp2_with fail
                refine HSM.out.mono ?_
                rintro e w9 ⟨rfl, h9⟩
                have H9 := Lib.hid h9
                clear h9
                go_wp2_with fail
                exact ⟨⟨q + 1, gg, M, s7, s8, _, by omega, by go_num, rfl, HJ.out, HH.out, by have := HTM.out; omega, by have := HTM.out; omega, by omega, H9.out⟩, by simp [intOf]; omega⟩
        · as_aux_lemma =>
            clear hK hNn
            by_cases h0 : o.At < 0
            · have d1 : decide (0 ≤ o.At) = false := decide_eq_false (by omega)
              have HTK := Lib.hid (setA_arg HA.out o.At (.inl h0) o.V)
              go_wp2_with fail
              refine HTK.out.mono ?_
              rintro e w2 ⟨rfl, hk, h2⟩
              have HB2 := Lib.hid (hk _ _ _ (.inr rfl) HBO.out)
              have H2 := Lib.hid h2
              clear hk h2 hAt hVv
              obtain ⟨-, hAt, -, -⟩ := op_cells HB2.out
              have HSM := Lib.hid (sameA H2.out)
              go_wp2_with fail
              refine HSM.out.mono ?_
              rintro e w9 ⟨rfl, h9⟩
              have H9 := Lib.hid h9
              clear h9
              go_wp2_with fail
              exact ⟨⟨q + 1, gg, M, s7, s8, _, by omega, by go_num, rfl, HJ.out, HH.out, by have := HTM.out; omega, by have := HTM.out; omega, by omega, H9.out⟩, by simp [intOf]; omega⟩
            · have d1 : decide (0 ≤ o.At) = true := decide_eq_true (by omega)
              have j0 : 0 ≤ o.At := by omega
              by_cases h1 : 16 ≤ o.At
              · have d2 : decide (o.At < 16) = false := decide_eq_false (by omega)
                have HTK := Lib.hid (setA_arg HA.out o.At (.inr h1) o.V)
                go_wp2_with fail
                refine HTK.out.mono ?_
                rintro e w2 ⟨rfl, hk, h2⟩
                have HB2 := Lib.hid (hk _ _ _ (.inr rfl) HBO.out)
                have H2 := Lib.hid h2
                clear hk h2 hAt hVv
                obtain ⟨-, hAt, -, -⟩ := op_cells HB2.out
                have HSM := Lib.hid (sameA H2.out)
                go_wp2_with fail
                refine HSM.out.mono ?_
                rintro e w9 ⟨rfl, h9⟩
                have H9 := Lib.hid h9
                clear h9
                go_wp2_with fail
                exact ⟨⟨q + 1, gg, M, s7, s8, _, by omega, by go_num, rfl, HJ.out, HH.out, by have := HTM.out; omega, by have := HTM.out; omega, by omega, H9.out⟩, by simp [intOf]; omega⟩
              · have d2 : decide (o.At < 16) = true := decide_eq_true (by omega)
                have j1 : o.At < 16 := by omega
                obtain ⟨kk, hkk⟩ : ∃ kk, kk = o.At.toNat := ⟨_, rfl⟩
                have hk16 : kk < 16 := by omega
                have htk := setA HA.out kk hk16 o.V o.lt
                rw [show ((kk : Nat) : Int) = o.At from by omega] at htk
                have HTK := Lib.hid htk
                clear htk
                go_wp2_with fail
                refine HTK.out.mono ?_
                rintro e w2 ⟨M', rfl, hk, h2, hr⟩
                have HB2 := Lib.hid (hk _ _ _ (.inr rfl) HBO.out)
                obtain ⟨cc, hcc, e7⟩ := h2.a.st
                have s0 := sp_root e7 kk hk16
                have s1 := blk_free e7 (1 + kk)
                have hne : bo ≠ b7 := by
                  rintro rfl
                  have := HB2.out
                  rw [e7] at this; simp at this
                have hA3 : (w2.setCell ⟨b7, 1 + kk, none⟩ (.int .u32 (o.V : Int))).cell? ⟨bo, 1, none⟩ = some (.int .i64 o.At) := by
                  obtain ⟨-, hAt, -, -⟩ := op_cells HB2.out
                  exact keep_upd hAt ((Upd.refl [b7] _).set _ (.inl (by simp))) (by simpa using hne)
                have H3 := Lib.hid (hr w2 h2)
                rw [hkk] at s0 s1 hA3 H3
                clear hk h2 hr hAt hVv e7
                obtain ⟨-, hAt, -, hVv⟩ := op_cells HB2.out
                have HSM := Lib.hid (sameA H3.out)
                go_wp2_with fail
                refine HSM.out.mono ?_
                rintro e w9 ⟨rfl, h9⟩
                have H9 := Lib.hid h9
                clear h9
                go_wp2_with fail
                exact ⟨⟨q + 1, gg, M', s7, s8, _, by omega, by go_num, rfl, HJ.out, HH.out, by have := HTM.out; omega, by have := HTM.out; omega, by omega, H9.out⟩, by simp [intOf]; omega⟩
        · as_aux_lemma =>
            clear hK hNn hVv
            by_cases h0 : o.At < 0
            · have d1 : decide (o.At < 0) = true := decide_eq_true h0
              have HTK := Lib.hid (rootA_arg HA.out o.At (.inl h0))
              go_wp2_with fail
              refine HTK.out.mono ?_
              rintro e w2 ⟨rfl, hk, h2⟩
              have HB2 := Lib.hid (hk _ _ _ (.inr rfl) HBO.out)
              have H2 := Lib.hid h2
              clear hk h2 hAt
              obtain ⟨-, hAt, -, -⟩ := op_cells HB2.out
              have HSM := Lib.hid (sameA H2.out)
              go_wp2_with fail
              refine HSM.out.mono ?_
              rintro e w9 ⟨rfl, h9⟩
              have H9 := Lib.hid h9
              clear h9
              go_wp2_with fail
              exact ⟨⟨q + 1, gg, M, s7, s8, _, by omega, by go_num, rfl, HJ.out, HH.out, by have := HTM.out; omega, by have := HTM.out; omega, by omega, H9.out⟩, by simp [intOf]; omega⟩
            · have d1 : decide (o.At < 0) = false := decide_eq_false h0
              by_cases h1 : 16 ≤ o.At
              · have d2 : decide (16 ≤ o.At) = true := decide_eq_true h1
                have HTK := Lib.hid (rootA_arg HA.out o.At (.inr h1))
                go_wp2_with fail
                refine HTK.out.mono ?_
                rintro e w2 ⟨rfl, hk, h2⟩
                have HB2 := Lib.hid (hk _ _ _ (.inr rfl) HBO.out)
                have H2 := Lib.hid h2
                clear hk h2 hAt
                obtain ⟨-, hAt, -, -⟩ := op_cells HB2.out
                have HSM := Lib.hid (sameA H2.out)
                go_wp2_with fail
                refine HSM.out.mono ?_
                rintro e w9 ⟨rfl, h9⟩
                have H9 := Lib.hid h9
                clear h9
                go_wp2_with fail
                exact ⟨⟨q + 1, gg, M, s7, s8, _, by omega, by go_num, rfl, HJ.out, HH.out, by have := HTM.out; omega, by have := HTM.out; omega, by omega, H9.out⟩, by simp [intOf]; omega⟩
              · have d2 : decide (16 ≤ o.At) = false := decide_eq_false h1
                have htk := rootA HA.out o.At.toNat (by omega)
                rw [Int.toNat_of_nonneg (by omega)] at htk
                obtain ⟨R, hR⟩ : ∃ R : Int, R = (gg.R M o.At.toNat : Int) := ⟨_, rfl⟩
                rw [← hR] at htk
                have HTK := Lib.hid htk
                clear htk hR
                go_wp2_with fail
                refine HTK.out.mono ?_
                rintro e w2 ⟨rfl, hk, h2⟩
                have HB2 := Lib.hid (hk _ _ _ (.inr rfl) HBO.out)
                have H2 := Lib.hid h2
                clear hk h2 hAt
                obtain ⟨-, hAt, -, -⟩ := op_cells HB2.out
                have HSM := Lib.hid (sameA H2.out)
                go_wp2_with fail
                refine HSM.out.mono ?_
                rintro e w9 ⟨rfl, h9⟩
                have H9 := Lib.hid h9
                clear h9
                go_wp2_with fail
                exact ⟨⟨q + 1, gg, M, s7, s8, _, by omega, by go_num, rfl, HJ.out, HH.out, by have := HTM.out; omega, by have := HTM.out; omega, by omega, H9.out⟩, by simp [intOf]; omega⟩
        · as_aux_lemma =>
            clear hK hNn hVv hAt
            have HC := Lib.hid (commitA HA.out (by have := HTM.out; omega) (by have := HTM.out; omega))
            go_wp2_with fail
            refine HC.out.mono ?_
            rintro e w2 ⟨rfl, hbg⟩
            rw [HJ.out] at hbg
            have HBG := Lib.hid hbg
            clear hbg
            go_wp2_with fail
            refine HBG.out.mono ?_
            rintro e w3 ⟨g', rfl, hj', hh', ht', hm', h3⟩
            have hcp := copyA8 h3
            rw [hh', HH.out] at hcp
            have HCP := Lib.hid hcp
            have HT3 : Hid (g'.t ≤ gg.t + 1 ∧ g'.m ≤ gg.m + 1) := Lib.hid ⟨ht', hm'⟩
            have HJ3 := Lib.hid hj'
            have HH3 := Lib.hid (hh'.trans HH.out)
            clear hj' hh' ht' hm' h3 hcp
            go_wp2_with fail
            refine HCP.out.mono ?_
            rintro e w4 ⟨gc, cc, rfl, ⟨gb0, c0, hold⟩, h4⟩
            have HOLD := Lib.hid hold
            have HSM := Lib.hid (sameA h4)
            clear hold h4
            go_wp2_with (refine wpList_store_row (by rfl) 43 (.tmp 8) (.tmp 243) (by rfl) b8 (spCells (.slice (some ⟨gc, 0, none⟩) hm cc) (g'.R fun _ => none)) (by rfl) (by rfl) _ _ HOLD.out infoSp rfl (spCells_one _ _ _ _) ?_)
            refine HSM.out.mono ?_
            rintro e w9 ⟨rfl, h9⟩
            have H9 := Lib.hid h9
            clear h9
            go_wp2_with fail
            exact ⟨⟨q + 1, g', _, _, _, _, by omega, by go_num, rfl, HJ3.out, HH3.out, by have := HTM.out; have := HT3.out; omega, by have := HTM.out; have := HT3.out; omega, by omega, H9.out⟩, by simp [intOf]; omega⟩
        · as_aux_lemma =>
            clear hK hNn hVv hAt
            have HC := Lib.hid (abortA HA.out)
            go_wp2_with fail
            refine HC.out.mono ?_
            rintro e w2 ⟨rfl, hbg⟩
            rw [HJ.out] at hbg
            have HBG := Lib.hid hbg
            clear hbg
            go_wp2_with fail
            refine HBG.out.mono ?_
            rintro e w3 ⟨g', rfl, hj', hh', ht', hm', h3⟩
            have hcp := copyA7 h3
            rw [hh', HH.out] at hcp
            have HCP := Lib.hid hcp
            have HT3 : Hid (g'.t ≤ gg.t + 1 ∧ g'.m ≤ gg.m + 1) := Lib.hid ⟨ht', hm'⟩
            have HJ3 := Lib.hid hj'
            have HH3 := Lib.hid (hh'.trans HH.out)
            clear hj' hh' ht' hm' h3 hcp
            go_wp2_with fail
            refine HCP.out.mono ?_
            rintro e w4 ⟨gc, cc, rfl, ⟨gb0, c0, hold⟩, h4⟩
            have HOLD := Lib.hid hold
            have HSM := Lib.hid (sameA h4)
            clear hold h4
            go_wp2_with (refine wpList_store_row (by rfl) 43 (.tmp 7) (.tmp 62) (by rfl) b7 (spCells (.slice (some ⟨gc, 0, none⟩) hm cc) (g'.R fun _ => none)) (by rfl) (by rfl) _ _ HOLD.out infoSp rfl (spCells_one _ _ _ _) ?_)
            refine HSM.out.mono ?_
            rintro e w9 ⟨rfl, h9⟩
            have H9 := Lib.hid h9
            clear h9
            go_wp2_with fail
            exact ⟨⟨q + 1, g', _, _, _, _, by omega, by go_num, rfl, HJ3.out, HH3.out, by have := HTM.out; have := HT3.out; omega, by have := HTM.out; have := HT3.out; omega, by omega, H9.out⟩, by simp [intOf]; omega⟩
      · obtain rfl : q = l.length := by omega
        have hlt' : decide ((l.length : Int) < (l.length : Int)) = false := by simp
        have HU := Lib.hid H.upd
        clear H
        go_wp2_with fail
        go_ret
        exact ⟨rfl, HU.out⟩

end Go.Proofs.Ytlncfncolkgjfaa
