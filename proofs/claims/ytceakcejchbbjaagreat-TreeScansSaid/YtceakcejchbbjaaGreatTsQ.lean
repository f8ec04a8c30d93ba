/-
  cofferlaw9.TreeScans, walked.
-/
import Derived.Test.YtceakcejchbbjaaGreatTsP
set_option linter.unusedSimpArgs false
set_option linter.unusedVariables false
namespace Go.Proofs.YtceakcejchbbjaaGreat
open Go.RowKit Go.MapKept Go.ChangeMaps
attribute [-go_sem] loadCells storeCells Instr.build Instr.buildSlice
set_option maxRecDepth 100000 in
set_option maxHeartbeats 8000000 in
theorem scans9_spec (ks : List Int) (v : Value) (a1 : Int) (w : World) (hrd : RdL w [] v (ks.map fun i => .int .i64 i)) : Calls Tryz.prog 7 #[v, .int .i64 a1] w fun e w' => e = .returned (.bool true) ∧ Upd [] w w' := by
  obtain ⟨av, cv, rfl, hcv⟩ := hrd.shape
  rw [List.length_map] at hcv hrd ⊢
  have hT := placeN_lt (k := a1) (n := 12) (by omega)
  have HT := fun w => Lib.hid (place_spec a1 12 w (by omega) (by omega))
  generalize placeN a1 12 = pT at *
  obtain ⟨m, hm⟩ : ∃ m : Nat, m = 1 + pT := ⟨_, rfl⟩
  have hm1 : 1 ≤ m := by omega
  have hm2 : m ≤ 12 := by omega
  have hwT : IntKind.i64.wrap (1 + (pT : Int)) = (m : Int) := by rw [IntKind.wrap_i64]; omega
  have HRD := Lib.hid hrd
  clear hm hT hrd
  go_enter Tryz.func7, Tryz.ntmps7
  go_wp2_with fail
  refine (begun9_spec _).mono ?_
  rintro e w1 ⟨rfl, hu1⟩
  have HU1 := Lib.hid hu1
  clear hu1
  rcases Nat.lt_or_ge 100 ks.length with hgt | hle
  · have hb100 : decide ((100 : Int) < (ks.length : Int)) = true := decide_eq_true (by omega)
    have hb101 : decide (100 < ks.length) = true := decide_eq_true hgt
    go_wp2_with fail
    go_ret
    exact ⟨rfl, HU1.out⟩
  have hb100 : decide ((100 : Int) < (ks.length : Int)) = false := decide_eq_false (by omega)
  have hb101 : decide (100 < ks.length) = false := decide_eq_false (by omega)
  have HB : Hid (Calls Tryz.prog 14 #[.int .i64 300, .int .i64 60] w1 fun e w' => ∃ g : Sg, e = .returned (.tuple #[.pointer (some ⟨g.j.jb, 0, none⟩), .pointer (some ⟨g.x.tb, 0, none⟩)]) ∧ BgAt w1 w' g 300 60 ∧ Upd [] w1 w') := Lib.hid (begunS 300 60 300 rfl (by omega) (by omega) (by omega) (by omega) (by omega) w1)
  go_wp2_with fail
  refine HB.out.mono ?_
  rintro e w3 ⟨g0, rfl, hg0, hu3⟩
  have hjl : ∀ k, k ∈ g0.j.all → w1.heap.size ≤ k := fun k hk => hg0.late k (by simp [Sg.S, hk])
  have hrd3 : RdL w3 g0.j.all (.slice av ks.length cv) (ks.map fun i => .int .i64 i) := by
    have h1 : RdL w1 [] (.slice av ks.length cv) (ks.map fun i => .int .i64 i) := HRD.out.upd HU1.out (by simp)
    exact RdL.late9 h1 hu3 hjl
  have HGR := Lib.hid (grown_spec w3 hg0.gr (by omega) (by omega) (by omega) (by omega) ks hrd3 (by omega))
  have HU3 := Lib.hid (HU1.out.trans hu3)
  have HL3 : Hid (∀ k, k ∈ g0.j.all → w.heap.size ≤ k) := by show ∀ k, _; exact fun k hk => by have := hjl k hk; have := HU1.out.size; omega
  clear hg0 hu3 hjl hrd3
  go_wp2_with fail
  refine HGR.out.mono ?_
  rintro e w4 ⟨r, S, rfl, hgr, hu4⟩
  have HU4 := Lib.hid (late_all HU3.out hu4 HL3.out)
  have HB4 := Lib.hid (begin_gr hgr)
  clear hgr hu4
  go_wp2_with fail
  refine HB4.out.mono ?_
  rintro e w5 ⟨g, rfl, hg, h5, ht, hu5⟩
  have hgh : g.h = 238 := hg.h
  have hgl : ∀ k, k ∈ g.S → w.heap.size ≤ k := fun k hk => by
    rcases hg.S k hk with x | x
    · exact HL3.out k x
    · have := HU4.out.size; omega
  have hln := treeL_len ks []
  simp only [List.length_nil] at hln
  have hbi := build_id0
  have HT5 := Lib.hid ht
  have HU5 := Lib.hid (late_all HU4.out hu5 HL3.out)
  have HGL := Lib.hid hgl
  have H5 := Lib.hid h5
  have hgh1 : 1 < g.h := by omega
  have hgh2 : g.h ≤ 4096 := by omega
  have HSC := Lib.hid (scan_spec h5 hgh1 hgh2 ht (by omega) z32_length 1000 (by omega))
  rw [scan_all (by omega)] at HSC
  clear hg h5 ht hu5 hgl
  unfold arr at HSC
  go_wp2_with fail
  refine HSC.out.mono ?_
  rintro e w6 ⟨va, rfl, hpa, h6, hu6⟩
  obtain ⟨aa, ca, rfl⟩ := hpa.shape
  have HPA := Lib.hid hpa
  have H6 := Lib.hid h6
  have HU6 := Lib.hid (late_all HU5.out hu6 (fun k hk => HGL.out k (g.mem k hk)))
  have HZ6 := Lib.hid hu6.size
  clear hpa h6 hu6
  go_wp2_with fail
  refine (HT _).out.mono ?_
  rintro e w' ⟨rfl, rfl⟩
  obtain ⟨w7, hw7⟩ : ∃ w7, w7 = w6.alloc (.cells (bts z32).toArray 35) := ⟨_, rfl⟩
  obtain ⟨b12, hb12⟩ : ∃ b, b = w6.heap.size := ⟨_, rfl⟩
  have h12 : w7.heap[b12]? = some (.cells (bts z32).toArray 35 (0, 0)) := by rw [hw7, hb12]; exact blk_alloc _
  have s12 := store_blk h12 (l := bts z32) (by rw [List.size_toArray]) (bts_one _)
  rw [hw7, hb12, ← z32_lit] at s12
  have HW7 := Lib.hid hw7
  have HB12 := Lib.hid hb12
  have H12 := Lib.hid h12
  have hu8 : Upd [] w6 (w7.setRow b12 (bts z32).toArray) := by
    have a2 : Upd [b12] w7 (w7.setRow b12 (bts z32).toArray) := upd_row (Upd.refl _ _) _ (.inl (by simp))
    have a1 : Upd [] w6 w7 := by rw [hw7]; exact (Upd.refl _ _).alloc _
    exact a1.late a2 (fun k hk => by simp at hk; subst hk; exact .inr (by omega))
  have h8 := setRow_heap w7 b12 (bts z32).toArray (bts z32).toArray 35 (0, 0) h12
  obtain ⟨w8, hw8⟩ : ∃ w8, w8 = w7.setRow b12 (bts z32).toArray := ⟨_, rfl⟩
  rw [← hw8] at hu8 h8
  have HU8 := Lib.hid hu8
  have H8 := Lib.hid h8
  have HW8 := Lib.hid hw8
  have HRA : Hid (RRd w8 (.slice aa (treeL [] ks).length ca) 48 ((treeL [] ks).map pc) ∧ ∀ b, aa = some b → w5.heap.size ≤ b.block ∧ b.block < w6.heap.size) := by
    show _ ∧ _
    have hrr := own_rrd HPA.out (by rw [List.length_map]) (fun e he => by
      rw [List.mem_map] at he
      obtain ⟨p, hp, rfl⟩ := he
      exact pc_length (treeL_low hp).2.1 (treeL_low hp).2.2)
    refine ⟨hrr.keep hu8 (fun _ _ _ _ => by simp), fun b e => ?_⟩
    rcases HPA.out.2 with ⟨e2, _⟩ | ⟨gb, cap, cur, e2, hb, hgb, _⟩
    · injection e2 with q1; rw [q1] at e; cases e
    · injection e2 with q1; rw [q1] at e; cases e; exact ⟨hb, blk_lt hgb⟩
  clear hw7 hb12 h12 hu8 h8 hw8
  go_wp2_with fail
  have hw7 := HW7.out
  have hb12 := HB12.out
  have hw8 := HW8.out
  rw [z32_lit, ← hw7, ← hb12, ← hw8]
  clear hw7 hb12 hw8
  go_loopw [13, 11] (fun i lo wr => ∃ (q : Nat) (fr : Bs), i = .int .i64 (q : Int) ∧ q * m ≤ (treeL [] ks).length ∧ PairsB wr w8.heap.size lo ((treeL [] ks).take (q * m)) ∧ wr.heap[b12]? = some (.cells (bts fr).toArray 35 (0, 0)) ∧ fr.length = 32 ∧
      ((treeL [] ks).filter fun x => !ltB x.1 fr) = (treeL [] ks).drop (q * m) ∧ SpAt wr g (fun _ => none) ∧ RRd wr (.slice aa (treeL [] ks).length ca) 48 ((treeL [] ks).map pc) ∧ Upd [] w wr ∧ w8.heap.size ≤ wr.heap.size) (fun i _ _ => ks.length + 1 - (intOf i).toNat)
  case atStart => exact ⟨0, z32, rfl, by omega, by rw [Nat.zero_mul]; exact own_nil _ _ _ _, H8.out, z32_length, by rw [Nat.zero_mul]; exact filter_zero (fun p hp => (treeL_low hp).2.1), H6.out.below HU8.out, HRA.out.1, HU6.out.trans HU8.out, Nat.le_refl _⟩
  case round =>
    obtain ⟨q, fr, rfl, hq, hpl, h12, hfr, hfl, hsp, hra, hu, h8r⟩ := hrel
    obtain ⟨al, cl, rfl⟩ := hpl.shape
    have hqk : q ≤ ks.length := by
      have h1 : q * 1 ≤ q * m := Nat.mul_le_mul (Nat.le_refl _) hm1
      omega
    have hqb : decide ((q : Int) ≤ (ks.length : Int)) = true := decide_eq_true (by omega)
    have hqb2 : decide (q ≤ ks.length) = true := decide_eq_true hqk
    have lf := run_cells_blk (n := 32) h12 (by rw [bts_length, hfr])
    have HSC2 := Lib.hid (scan_spec hsp hgh1 hgh2 HT5.out (by omega) hfr m hm1)
    rw [scan_next hfl] at HSC2
    unfold arr at HSC2
    have HPL := Lib.hid hpl
    have HFR := Lib.hid h12
    have HSP := Lib.hid hsp
    have HRA2 := Lib.hid hra
    have HU := Lib.hid hu
    clear hpl h12 hsp hra hu
    go_wp2_with fail
    refine HSC2.out.mono ?_
    rintro e wx ⟨vx, rfl, hpx, hspx, hux⟩
    have hXl : (((treeL [] ks).drop (q * m)).take m).length = min m ((treeL [] ks).length - q * m) := by rw [List.length_take, List.length_drop]
    have hTl : ((treeL [] ks).take (q * m)).length = q * m := by rw [List.length_take]; omega
    have hTX : (treeL [] ks).take (q * m) ++ ((treeL [] ks).drop (q * m)).take m = (treeL [] ks).take (q * m + m) := by rw [List.take_add]
    have hjb : g.j.jb < w6.heap.size := H6.out.jr.at_.lt.1
    have hplx := own_upd (S := [g.j.jb]) HPL.out hux (fun k c hk hB => by have := HU8.out.size; simp at hk; omega)
    have h12x := (hux.block _ (blk_lt HFR.out) (by have := HB12.out; simp; omega)).trans HFR.out
    obtain ⟨ax, cx, rfl⟩ := hpx.shape
    have hB8 : w8.heap.size ≤ wx.heap.size := Nat.le_trans h8r hux.size
    obtain ⟨a', c', wy, S9, hrun, hpy, huy, hS9⟩ := pairs_app_any hplx hpx (by rw [hTl, hXl]; omega) hB8
    rw [hTX] at hpy
    rw [hTl] at hrun hpy ⊢
    rw [hXl] at hrun hpy ⊢
    have HPY := Lib.hid hpy
    have HUY := Lib.hid huy
    have HS9 := Lib.hid hS9
    have HUX := Lib.hid hux
    have HSPX := Lib.hid hspx
    have H12X := Lib.hid h12x
    have HPX := Lib.hid hpx
    clear hpx hspx hux hplx h12x hpy huy hS9 hTX
    obtain ⟨xn, hxn⟩ : ∃ xn, min m ((treeL [] ks).length - q * m) = xn := ⟨_, rfl⟩
    rw [hxn] at hrun HPY hXl ⊢
    have hgt : decide ((m : Int) < (xn : Int)) = false := decide_eq_false (by omega)
    have hgt2 : decide (m < xn) = false := decide_eq_false (by omega)
    by_cases hsh : xn < m
    · have hlt : decide ((xn : Int) < (m : Int)) = true := decide_eq_true (by omega)
      have hlt2 : decide (xn < m) = true := decide_eq_true hsh
      have hall : q * m + xn = (treeL [] ks).length := by omega
      have hTl2 : (treeL [] ks).take (q * m + m) = treeL [] ks := List.take_of_length_le (by omega)
      have hy : SpAt wy g (fun _ => none) := HSPX.out.turnedS (fun b hb => by obtain ⟨_, ⟨c, e⟩, _⟩ := HS9.out b hb; exact ⟨c, _, _, e, .inl rfl⟩) HUY.out
      have HLN := Lib.hid (len9_spec hy hgh1 hgh2 HT5.out (by omega))
      have HYY := Lib.hid hy
      have hpy2 := HPY.out
      rw [hTl2, hall] at hpy2
      rw [hall] at hrun
      have HPY2 := Lib.hid hpy2
      clear hy hpy2
      go_wp2_with (at_builtin; refine wpList_append_run rfl _ _ _ rfl rfl rfl hrun ?_)
      refine HLN.out.mono ?_
      rintro e wz ⟨rfl, hz, huz⟩
      have hj5 := H5.out.jr.at_.lt.1
      have h58 : w5.heap.size ≤ w8.heap.size := Nat.le_trans HZ6.out HU8.out.size
      have hvl : RRd wz (.slice a' (treeL [] ks).length c') 48 ((treeL [] ks).map pc) := own_rrd (own_upd (S := [g.j.jb]) HPY2.out huz (fun k c hk hB => by simp at hk; omega)) (by rw [List.length_map]) (fun e he => by
        rw [List.mem_map] at he
        obtain ⟨p, hp, rfl⟩ := he
        exact pc_length (treeL_low hp).2.1 (treeL_low hp).2.2)
      have hva : RRd wz (.slice aa (treeL [] ks).length ca) 48 ((treeL [] ks).map pc) := by
        have k1 := HRA2.out.keep HUX.out (fun a l c e => by cases e; have := HRA.out.2 a rfl; simp; omega)
        have k2 := k1.keep HUY.out (fun a l c e hk => by cases e; have := HRA.out.2 a rfl; have := (HS9.out _ hk).1; have := HU8.out.size; omega)
        exact k2.keep huz (fun a l c e => by cases e; have := HRA.out.2 a rfl; simp; omega)
      have HAL := Lib.hid (alike_spec (w := wz) (l := treeL [] ks) (by omega) (fun p hp => (treeL_low hp).2) hvl hva)
      have HZ : Hid (Upd [] w wz) := by
        show Upd _ _ _
        have g1 := late_all HU.out HUX.out (fun k hk => HGL.out k (g.mem k hk))
        have g2 := late_all g1 HUY.out (fun k hk => by have := (HS9.out k hk).1; have := (HU6.out.trans HU8.out).size; omega)
        exact late_all g2 huz (fun k hk => HGL.out k (g.mem k hk))
      have hnn : (((treeL [] ks).length : Int) == ((treeL [] ks).length : Int)) = true := beq_self_eq_true _
      clear hvl hva hz huz
      go_wp2_with fail
      refine HAL.out.mono ?_
      rintro e we ⟨rfl, hue⟩
      have HE := Lib.hid (HZ.out.trans hue)
      clear hue
      go_wp2_with fail
      go_ret
      exact ⟨rfl, HE.out⟩
    · have hlt : decide ((xn : Int) < (m : Int)) = false := decide_eq_false (by omega)
      have hlt2 : decide (xn < m) = false := decide_eq_false hsh
      obtain rfl : xn = m := by omega
      obtain ⟨p, c, hp, hp1, hp2, h30, h31, hnl, hnf⟩ := piece_last (ks := ks) (m := xn) (q := q * xn) hm1 (by omega)
      have HNX := fun w => Lib.hid (next_spec hp1 h30 h31 w)
      have hrx := own_rrd HPX.out (by rw [List.length_map]) (fun e he => by
        rw [List.mem_map] at he
        obtain ⟨p', hp', rfl⟩ := he
        have := List.mem_of_mem_drop (List.mem_of_mem_take hp')
        exact pc_length (treeL_low this).2.1 (treeL_low this).2.2)
      obtain ⟨bx, ox, rfl, hrg⟩ := hrx.at (i := xn - 1) (e := pc p) (by rw [List.getElem?_map, hp]; rfl)
      obtain ⟨kx, hkx⟩ : ∃ kx, kx = xn - 1 := ⟨_, rfl⟩
      rw [← hkx] at hrg
      have hwk : wrap64 ((xn : Int) - 1) = (kx : Int) := by unfold wrap64; omega
      have hwk2 : IntKind.i64.wrap ((xn : Int) - 1) = (kx : Int) := by rw [IntKind.wrap_i64]; omega
      have hk0 : (0 : Int) ≤ (kx : Int) := by omega
      have hk1 : (kx : Int) < (xn : Int) := by omega
      have hbx : wr.heap.size ≤ bx := by
        rcases HPX.out.2 with ⟨e2, _⟩ | ⟨gb, cap, cur, e2, hb, hgb, _⟩
        · injection e2 with q1; cases q1
        · injection e2 with q1; cases q1; exact hb
      have hbS : bx ∉ S9 := fun hk => by
        obtain ⟨_, _, cap, e⟩ := HS9.out bx hk
        rcases HPL.out.2 with ⟨e2, _⟩ | ⟨gb, cap, cur, e2, hb, hgb, _⟩
        · rw [e] at e2; injection e2 with q1; cases q1
        · rw [e] at e2; injection e2 with q1; cases q1; have := blk_lt hgb; omega
      have hrgy := range_upd hrg HUY.out hbS
      have hrk : wy.rangeAt bx (ox + kx * 48) (bts p.1) := fun j u hj => hrgy j u (by unfold pc; rw [List.getElem?_append_left (by have := (List.getElem?_eq_some_iff.1 hj).1; exact this)]; exact hj)
      have l32 := run_cells32 hrk hp1
      have HKX := Lib.hid hkx
      have hjb8 : w6.heap.size ≤ w8.heap.size := HU8.out.size
      have hHy := HUY.out.size
      have hHx := HUX.out.size
      have HZy : Hid (w8.heap.size ≤ wy.heap.size) := by show _ ≤ _; omega
      have HBX : Hid (wr.heap.size ≤ wx.heap.size) := Lib.hid hHx
      clear hrg hrgy hrk hkx hrx hjb8 hHy hHx hB8
      go_wp2_with (at_builtin; refine wpList_append_run rfl _ _ _ rfl rfl rfl hrun ?_)
      refine (HNX _).out.mono ?_
      unfold arr
      rintro e wz ⟨rfl, huz⟩
      have hb12S : b12 ∉ S9 := fun hk => by
        obtain ⟨_, ⟨c2, e⟩, _⟩ := HS9.out b12 hk
        rw [H12X.out] at e
        injection e with e; injection e with q1 q2
        exact absurd q2 (by decide)
      have h12y := (HUY.out.block _ (blk_lt H12X.out) hb12S).trans H12X.out
      have h12z := (huz.block _ (blk_lt h12y) (by simp)).trans h12y
      have hnk : (nextK p.1 c).length = 32 := hnl
      have s12 := store_blk h12z (l := bts (nextK p.1 c)) (by rw [List.size_toArray, bts_length, bts_length, hnk, hfr]) (bts_one _)
      have h12n := setRow_heap wz b12 (bts fr).toArray (bts (nextK p.1 c)).toArray 35 (0, 0) h12z
      have hun : Upd [b12] wz (wz.setRow b12 (bts (nextK p.1 c)).toArray) := upd_row (Upd.refl _ _) _ (.inl (by simp))
      obtain ⟨wn, hwn⟩ : ∃ wn, wn = wz.setRow b12 (bts (nextK p.1 c)).toArray := ⟨_, rfl⟩
      rw [← hwn] at s12 h12n hun
      have hSPn : SpAt wn g (fun _ => none) := by
        have hy : SpAt wy g (fun _ => none) := HSPX.out.turnedS (fun b hb => by obtain ⟨_, ⟨c, e⟩, _⟩ := HS9.out b hb; exact ⟨c, _, _, e, .inl rfl⟩) HUY.out
        exact (hy.below huz).turned9 (fun b hb => by simp at hb; subst hb; exact ⟨_, _, _, h12z, .inr (.inr (.inl rfl))⟩) hun
      have hPn := own_upd (own_upd (S := []) HPY.out huz (by simp)) hun (fun k cc hk hB e => by simp at hk; subst hk; rw [h12z] at e; injection e with e; injection e with q1 q2; exact absurd q2 (by decide))
      have hb12e := HB12.out
      have hj5 := H5.out.jr.at_.lt.1
      have hRn : RRd wn (.slice aa (treeL [] ks).length ca) 48 ((treeL [] ks).map pc) := by
        have k1 := HRA2.out.keep HUX.out (fun a l c e => by cases e; have := HRA.out.2 a rfl; simp; omega)
        have k2 := k1.keep HUY.out (fun a l c e hk => by cases e; have := HRA.out.2 a rfl; have := (HS9.out _ hk).1; have := HU8.out.size; omega)
        have k3 := k2.keep huz (fun a l c e => by simp)
        exact k3.keep hun (fun a l c e => by cases e; have := HRA.out.2 a rfl; simp; omega)
      have hUn : Upd [] w wn := by
        have g1 := late_all HU.out HUX.out (fun k hk => HGL.out k (g.mem k hk))
        have g2 := late_all g1 HUY.out (fun k hk => by have := (HS9.out k hk).1; have := (HU6.out.trans HU8.out).size; omega)
        exact late_all (g2.trans huz) hun (fun k hk => by simp at hk; subst hk; have := HU6.out.size; omega)
      have hZn : w8.heap.size ≤ wn.heap.size := by have := HZy.out; have := huz.size; have := hun.size; omega
      have H12N := Lib.hid h12n
      have HSPN := Lib.hid hSPn
      have HPN := Lib.hid hPn
      have HRN := Lib.hid hRn
      have HUN := Lib.hid hUn
      have HZN := Lib.hid hZn
      have HNF := Lib.hid hnf
      have hqn : (q + 1) * xn = q * xn + xn := by rw [Nat.add_mul, Nat.one_mul]
      clear h12y h12z huz hun hSPn hPn hRn hUn hZn h12n hb12e hwn hnf
      go_wp2_with fail
      have hxl : q * xn + xn ≤ (treeL [] ks).length := by omega
      exact ⟨⟨q + 1, nextK p.1 c, by simp, by rw [hqn]; exact hxl, by rw [hqn]; exact HPN.out, H12N.out, hnk, by rw [hqn]; exact HNF.out, HSPN.out, HRN.out, HUN.out, HZN.out⟩, by simp [intOf]; omega⟩
end Go.Proofs.YtceakcejchbbjaaGreat
