/-
  JournalForged answers true: the walk.
-/
import Derived.Test.YthbgidiblcokhaaLwO
namespace Go.Proofs.Ythbgidiblcokhaa
open Go.RowKit

theorem two_fits {n ring : Nat} {h : Nat} {b : List UInt8} (hb : b.length = 512) (hh : h < n - 2 - ring) (h2 : 2 ≤ n - 2 - ring) (hr : 2 < ring) : fitsR n ring [((h : Int), b), ((((h + 1) % (n - 2 - ring) : Nat) : Int), b)] = 0 := by
  have hm : (h + 1) % (n - 2 - ring) < n - 2 - ring := Nat.mod_lt _ (by omega)
  have hne : (h + 1) % (n - 2 - ring) ≠ h := by
    intro e
    have := mod_ne (x := h) (d := 1) (r := n - 2 - ring) (by omega) (by omega)
    rw [Nat.mod_eq_of_lt hh] at this
    exact this e
  have e : fitsL (n - 2 - ring) [] [((h : Int), b), ((((h + 1) % (n - 2 - ring) : Nat) : Int), b)] = 0 := fitsL_ok (fun p hp => by
    simp at hp
    rcases hp with rfl | rfl
    · exact ⟨by show (0 : Int) ≤ (h : Int); omega, by show (h : Int) < _; omega, hb, by simp⟩
    · exact ⟨by show (0 : Int) ≤ (((h + 1) % (n - 2 - ring) : Nat) : Int); omega, by show (((h + 1) % (n - 2 - ring) : Nat) : Int) < _; omega, hb, by simp⟩) (by
      rw [List.map_cons, List.map_cons, List.nodup_cons]
      refine ⟨?_, by simp⟩
      simp only [List.map_nil, List.mem_singleton]
      show ¬ ((h : Int) = (((h + 1) % (n - 2 - ring) : Nat) : Int))
      omega)
  unfold fitsR
  rw [e, if_neg (by simp), if_neg (by simp; omega)]
theorem hl_two {H : Nat → Sec} {L a b : Nat} {s : Sec} : hl (putsH H [((a : Int), s), ((b : Int), s)]) L = ((hl H L).set a s).set b s := by
  have e1 : hl (putsH H ([((a : Int), s)] ++ [((b : Int), s)])) L = (hl (putsH H [((a : Int), s)]) L).set b s := hl_set
  have e2 : hl (putsH H ([] ++ [((a : Int), s)])) L = (hl (putsH H []) L).set a s := hl_set
  rw [List.nil_append] at e2
  have e3 : putsH H [] = H := rfl
  rw [e3] at e2
  rw [← e2]; exact e1
theorem StrsB.ne {w w' : World} {B gn n c g2 : Nat} {ss : List (List UInt8)} (h : StrsB w B (.slice (some ⟨gn, 0, none⟩) n c) ss) (hu : Upd [g2] w w') (hne : gn ≠ g2) : StrsB w' B (.slice (some ⟨gn, 0, none⟩) n c) ss := by
  refine ⟨h.1, ?_⟩
  rcases h.2 with h | ⟨g, cap, cur, e, hb, hg, r⟩
  · exact .inl h
  · cases e; exact .inr ⟨gn, c, cur, rfl, hb, (hu.block _ (blk_lt hg) (by simpa using hne)).trans hg, r⟩
theorem strs_two {w : World} {B g cap : Nat} {cur : Array Value} {ss : List (List UInt8)} (hb : B ≤ g) (hg : w.heap[g]? = some (.cells cur 9 (0, 0))) (hc : ss.length ≤ cap) (hm : cap ≤ maxLen) (hs : cur.size = cap) (ht : cur.toList.take ss.length = ss.map sv) (i j : Nat) (s : List UInt8) :
    StrsB ((w.setCell ⟨g, i, none⟩ (.string (str s))).setCell ⟨g, j, none⟩ (.string (str s))) B (.slice (some ⟨g, 0, none⟩) ss.length cap) ((ss.set i s).set j s) := by
  have h1 := strs_set hb hg hc hm hs ht i s
  by_cases h0 : 0 < ss.length
  · obtain ⟨g2, cap2, cur2, hv2, hB2, hg2, hc2, hm2, hs2, ht2⟩ := h1.block (by rw [List.length_set]; exact h0)
    rw [List.length_set] at hv2
    obtain ⟨rfl, rfl⟩ : g = g2 ∧ cap = cap2 := by simpa using hv2
    have := strs_set hB2 hg2 hc2 hm2 hs2 ht2 j s
    rw [List.length_set] at this
    exact this
  · obtain rfl : ss = [] := List.eq_nil_of_length_eq_zero (by omega)
    refine ⟨by simp, .inr ⟨g, cap, _, by simp, hb, blk_set (blk_set hg _ _) _ _, by simp, hm, by simp; omega, by simp⟩⟩
/-- Is one of two lists the third? -/
theorem alike_case {w : World} {v u : Value} {x y : List (List UInt8)} (hx : RdL w [] v (x.map sv)) (hy : RdL w [] u (y.map sv)) (hlx : x.length ≤ 100000) (hly : y.length ≤ 100000) :
    Calls Try.prog 24 #[v, u] w fun e w' => ((e = .returned (.bool true) ∧ x = y) ∨ (e = .returned (.bool false) ∧ x ≠ y)) ∧ Upd [] w w' := by
  refine (alike_spec x y hx hy hlx hly).mono ?_
  rintro e w' ⟨he, n, hn⟩
  refine ⟨?_, by rw [hn]; exact (Upd.refl _ _).drewN _⟩
  by_cases q : x = y
  · left; exact ⟨by rw [he]; simp [q], q⟩
  · right; exact ⟨by rw [he]; simp [q], q⟩

set_option maxRecDepth 100000 in
set_option maxHeartbeats 4000000 in
theorem forged6_spec (a2 a3 : Int) {v u z : Value} {ts hs : List Int} {keep : List Bool} (w : World) (hv : RdL w [] v (ts.map fun i => .int .i64 i)) (hq : RdL w [] u (hs.map fun i => .int .i64 i)) (hk : RdL w [] z (keep.map Value.bool)) : Calls Try.prog 8 #[v, u, .int .i64 a2, .int .i64 a3, z] w fun e w' => e = .returned (.bool true) ∧ Upd [] w w' := by
  obtain ⟨av, cv, rfl, _⟩ := hv.shape
  obtain ⟨au, cu, rfl, _⟩ := hq.shape
  obtain ⟨az, cz, rfl, _⟩ := hk.shape
  have HV := Lib.hid hv
  have HQ := Lib.hid hq
  have HK := Lib.hid hk
  clear hv hq hk
  rw [List.length_map] at HV HQ HK ⊢
  rw [List.length_map, List.length_map]
  by_cases h1 : 12 < ts.length
  · have dh1 : decide (12 < (ts.length : Int)) = true := by simp; omega
    go_enter Try.func8, Try.ntmps8
    go_wp2_with fail
    refine (begun6_spec w).mono ?_
    rintro e w1 ⟨rfl, hu1⟩
    have HU1 := Lib.hid hu1
    clear hu1
    go_wp2_with fail
    go_ret
    exact ⟨rfl, HU1.out⟩
  have dh1 : decide (12 < (ts.length : Int)) = false := by simp; omega
  by_cases h2 : 12 < hs.length
  · have dh2 : decide (12 < (hs.length : Int)) = true := by simp; omega
    go_enter Try.func8, Try.ntmps8
    go_wp2_with fail
    refine (begun6_spec w).mono ?_
    rintro e w1 ⟨rfl, hu1⟩
    have HU1 := Lib.hid hu1
    clear hu1
    go_wp2_with fail
    go_ret
    exact ⟨rfl, HU1.out⟩
  have dh2 : decide (12 < (hs.length : Int)) = false := by simp; omega
  by_cases h3 : 200 < keep.length
  · have dh3 : decide (200 < (keep.length : Int)) = true := by simp; omega
    go_enter Try.func8, Try.ntmps8
    go_wp2_with fail
    refine (begun6_spec w).mono ?_
    rintro e w1 ⟨rfl, hu1⟩
    have HU1 := Lib.hid hu1
    clear hu1
    go_wp2_with fail
    go_ret
    exact ⟨rfl, HU1.out⟩
  have dh3 : decide (200 < (keep.length : Int)) = false := by simp; omega
  have hb2 := run_build_put2
  have hb0 := run_build_strs0
  have HPA := fun w => Lib.hid (place_spec a2 12 w (by omega) (by omega))
  have hA := placeN_lt (k := a2) (n := 12) (by omega)
  generalize placeN a2 12 = pA at *
  go_enter Try.func8, Try.ntmps8
  go_wp2_with fail
  refine (begun6_spec w).mono ?_
  rintro e w1 ⟨rfl, hu1⟩
  have HU1 := Lib.hid hu1
  clear hu1
  go_wp2_with fail
  refine (new_hi 64 (by omega) (by omega) _).mono ?_
  rintro e w2 ⟨g, rfl, hd2, hg1, hg2, hg3, hu2⟩
  have HG : Hid (g.Late w) := ⟨Nat.le_trans HU1.out.size hg1, Nat.le_trans HU1.out.size hg2, Nat.le_trans HU1.out.size hg3⟩
  have HU2 := Lib.hid (HU1.out.trans hu2)
  have HF2 := Lib.hid (new_fmt_hi hd2 (by omega) (by omega) 12 (by omega) (by omega) (by omega))
  clear hd2 hg1 hg2 hg3 hu2
  go_wp2_with fail
  refine HF2.out.mono ?_
  rintro e w3 ⟨rfl, hd3, hu3⟩
  have HU3 := Lib.hid (HU2.out.lateD hu3 HG.out)
  have HO3 := Lib.hid (open_hi hd3 (by omega) (by omega))
  clear hd3 hu3
  go_wp2_with fail
  refine HO3.out.mono ?_
  rintro e w4 ⟨jb, ab, rfl, hj1, hj2, ⟨J0, D0, hr4, _⟩, hu4⟩
  have HJ : Hid (JG.Late ⟨jb, ab, g⟩ w) := ⟨Nat.le_trans HU3.out.size hj1, Nat.le_trans HU3.out.size hj2, HG.out⟩
  have HU4 := Lib.hid (HU3.out.lateD hu4 HG.out)
  have HHO := Lib.hid (homesL_spec hr4 (by omega) (fun _ => zsec_length))
  clear hj1 hj2 hr4 hu4
  go_wp2_with fail
  refine HHO.out.mono ?_
  rintro e w5 ⟨a5, c5, rfl, hs5, hr5, hu5⟩
  have HU5 := Lib.hid (HU4.out.lateR hu5 HJ.out)
  have HS5 := Lib.hid hs5
  have HR5 := Lib.hid hr5
  clear hs5 hr5 hu5
  go_wp2_with fail
  go_loopw [16, 14, 15] (fun i nv lv wr => ∃ (k : Nat) (J : Jn) (D : Dk) (t : Int) (H : Nat → Sec) (a : Option Addr) (c : Nat), k ≤ ts.length ∧ k ≤ hs.length ∧ i = .int .i64 (k : Int) ∧ nv = .slice a 50 c ∧ lv = .slice a 50 c ∧ JaAt wr ⟨jb, ab, g⟩ J D 64 12 t (2 + (k : Int)) H ∧ t ≤ 1 + (k : Int) ∧ StrsB wr w.heap.size (.slice a 50 c) (hl H 50) ∧ (∀ i, (H i).length = 512) ∧ Upd [] w wr) (fun i _ _ _ => ts.length - (intOf i).toNat)
  case atStart => exact ⟨0, J0, D0, 1, _, a5, c5, Nat.zero_le _, Nat.zero_le _, rfl, rfl, rfl, HR5.out.ja, by simp, HS5.out.lower HU4.out.size, fun _ => zsec_length, HU5.out⟩
  case round =>
    obtain ⟨k, J, D, t, H, an, cn, hk1, hk2, rfl, rfl, rfl, hr, ht, hsn, hH, hu⟩ := hrel
    have HR := Lib.hid hr
    have HS := Lib.hid hsn
    have HH := Lib.hid hH
    have HU := Lib.hid hu
    clear hr hsn hH hu
    by_cases hlt1 : k < ts.length
    · have hl1 : decide ((k : Int) < (ts.length : Int)) = true := by simpa using hlt1
      by_cases hlt2 : k < hs.length
      · have hl2 : decide ((k : Int) < (hs.length : Int)) = true := by simpa using hlt2
        obtain ⟨b1, o1, rfl, c1⟩ := (HV.out.lateS (S := []) HU.out (by simp)).cell k (by rw [List.length_map]; exact hlt1)
        obtain ⟨b2, o2, rfl, c2⟩ := (HQ.out.lateS (S := []) HU.out (by simp)).cell k (by rw [List.length_map]; exact hlt2)
        rw [List.getElem_map] at c1 c2
        generalize ts[k] = x1 at *
        generalize hs[k] = x2 at *
        have i0 : (0 : Int) ≤ (k : Int) := by omega
        have i1 : (k : Int) < (ts.length : Int) := by omega
        have i2 : (k : Int) < (hs.length : Int) := by omega
        have hP1 := placeN_lt (k := x1) (n := 20) (by omega)
        have HP1 := fun w => Lib.hid (place_spec x1 20 w (by omega) (by omega))
        generalize placeN x1 20 = p1 at *
        have hP2 := placeN_lt (k := x2) (n := 50) (by omega)
        have HP2 := fun w => Lib.hid (place_spec x2 50 w (by omega) (by omega))
        generalize placeN x2 50 = hh at *
        have hw1 : IntKind.u64.wrap (2 * (p1 : Int) + 1) = 2 * (p1 : Int) + 1 := u64_wrap_in _ (by omega) (by omega)
        go_wp2_with fail
        refine (HP1 _).out.mono ?_
        rintro e w' ⟨rfl, rfl⟩
        go_wp2_with fail
        refine (HP2 _).out.mono ?_
        rintro e w' ⟨rfl, rfl⟩
        go_wp2_with fail
        refine (header_spec _ _ _).mono ?_
        rintro e w6 ⟨rfl, ⟨bs, hbl, hbb⟩, hu6⟩
        have HBL := Lib.hid hbl
        have HBB := Lib.hid hbb
        have HU6 := Lib.hid hu6
        clear hbl hbb hu6
        have HR6 := Lib.hid (HR.out.below HU6.out)
        have HS6 := Lib.hid (HS.out.upd HU6.out (by simp))
        by_cases hb1 : k + 1 = ts.length
        · have e1 : ((k : Int) == (ts.length : Int) - 1) = true := by rw [beq_iff_eq]; omega
          go_wp2_with fail
          refine (HPA _).out.mono ?_
          rintro e w' ⟨rfl, rfl⟩
          have HAR := Lib.hid (armJ_hi HR6.out (pA : Int) a3 (by omega))
          go_wp2_with fail
          refine HAR.out.mono ?_
          rintro e w7 ⟨rfl, hr7, hu7⟩
          have HR7 := Lib.hid hr7
          have HS7 := Lib.hid (HS6.out.upd hu7 (fun q c hq e => HR6.out.at_.disk.notstr e (by simp at hq; simp [hq])))
          have HB7 : Hid (w7.heap[wr.heap.size]? = some (.cells (bts bs).toArray 5 (0, 0))) := (hu7.block _ (blk_lt HBB.out) (fun q => HR6.out.at_.disk.byte HBB.out (by simp at q; simp [q]))).trans HBB.out
          have HU7 := Lib.hid ((HU.out.trans HU6.out).late hu7 (fun q hq => by simp at hq; subst hq; exact .inr HG.out.1))
          clear hr7 hu7
          obtain ⟨h2, hh2⟩ : ∃ h2, h2 = (hh + 1) % 50 := ⟨_, rfl⟩
          have hmod : ((hh : Int) + 1).tmod 50 = (h2 : Int) := by
            rw [Int.tmod_eq_emod_of_nonneg (by omega)]; omega
          have h2lt : h2 < 50 := by omega
          have hne : hh ≠ h2 := by omega
          have hne' : h2 ≠ hh := by omega
          have HF : Hid (fitsR 64 12 [((hh : Int), bs), ((h2 : Int), bs)] = 0) := by
            show _ = _
            rw [hh2]; exact two_fits HBL.out (by omega) (by omega) (by omega)
          have HH2 := Lib.hid hh2
          clear hh2
          go_wp2_with fail
          have hputs := putsAt_two (w := w7) (hh : Int) (h2 : Int) (some ⟨wr.heap.size, 0, none⟩) (some ⟨wr.heap.size, 0, none⟩) 512 512 512 512 bs bs (rd_row HB7.out HBL.out) (rd_row HB7.out HBL.out)
          have hu8 : Upd [] w7 (w7.alloc (.cells #[.int .i64 (hh : Int), .slice (some ⟨wr.heap.size, 0, none⟩) 512 512, .int .i64 (h2 : Int), .slice (some ⟨wr.heap.size, 0, none⟩) 512 512] 40)) := (Upd.refl _ _).alloc _
          obtain ⟨w8, hw8⟩ : ∃ w8, w8 = w7.alloc (.cells #[.int .i64 (hh : Int), .slice (some ⟨wr.heap.size, 0, none⟩) 512 512, .int .i64 (h2 : Int), .slice (some ⟨wr.heap.size, 0, none⟩) 512 512] 40) := ⟨_, rfl⟩
          rw [← hw8] at hputs hu8 ⊢
          clear hw8
          have HB8 : Hid (w8.heap[wr.heap.size]? = some (.cells (bts bs).toArray 5 (0, 0))) := (hu8.block _ (blk_lt HB7.out) (by simp)).trans HB7.out
          have HR8 := Lib.hid (HR7.out.below hu8)
          have HS8 := Lib.hid (HS7.out.upd hu8 (by simp))
          have HU8 := Lib.hid (HU7.out.trans hu8)
          have HC8 := Lib.hid (comA_hi HR8.out _ _ hputs (by simp) (by omega) (by omega))
          clear hputs hu8
          refine HC8.out.mono ?_
          rintro e w9 ⟨hu9, ⟨_, rfl, J9, D9, t9, hr9, ht9, _⟩ | ⟨_, rfl, hp9, _⟩ | ⟨hno, _, _⟩⟩
          · have HR9 := Lib.hid hr9
            have HT9 := Lib.hid ht9
            clear hr9 ht9
            have HRD9 : Hid (w9.heap[wr.heap.size]? = some (.cells (bts bs).toArray 5 (0, 0))) := by
              show _ = _
              exact (hu9.block _ (blk_lt HB8.out) (HR8.out.at_.kind HB8.out (by decide) (by decide) (by decide))).trans HB8.out
            have HS9 := Lib.hid (HS8.out.upd hu9 (fun q c hq e => HR8.out.at_.kind e (by decide) (by decide) (by decide) hq))
            have HU9 := Lib.hid (HU8.out.lateJ hu9 HJ.out)
            clear hu9
            obtain ⟨gn, cn', curn, hvn, hBn, hgn, _⟩ := HS9.out.block (by rw [hl_length]; omega)
            rw [hl_length] at hvn
            obtain ⟨rfl, rfl⟩ : an = some ⟨gn, 0, none⟩ ∧ cn = cn' := by simpa using hvn
            have HGN : Hid (gn < w9.heap.size) := blk_lt hgn
            clear hvn hBn hgn
            have hS9' : StrsB w9 w.heap.size (.slice (some ⟨gn, 0, none⟩) (hl H 50).length cn) (hl H 50) := by rw [hl_length]; exact HS9.out
            obtain ⟨a', b', c', w10, hrun, hs10, hk10, hu10⟩ := strs_copy hS9' (by rw [hl_length]; omega) HU9.out
            rw [hl_length] at hrun
            obtain ⟨g2, cap2, cur2, hv2, hB2, hg2, hcc2, hm2, hs2, ht2⟩ := hs10.block (by rw [hl_length]; omega)
            rw [hl_length] at hv2 hcc2
            obtain ⟨rfl, rfl, rfl⟩ : a' = some ⟨g2, 0, none⟩ ∧ b' = 50 ∧ c' = cap2 := by simpa using hv2
            have hrd10 : Rd w10 (.slice (some ⟨wr.heap.size, 0, none⟩) 512 512) bs := rd_row ((hk10 _ (blk_lt HRD9.out)).trans HRD9.out) HBL.out
            have hcv := run_str (w := w10.drew) (hrd10.of_block fun _ _ _ _ => rfl) (by rw [HBL.out]; omega)
            obtain ⟨xa, hxa⟩ : ∃ xa, cur2[hh]? = some xa := ⟨cur2[hh]'(by omega), Array.getElem?_eq_getElem (by omega)⟩
            obtain ⟨xb, hxb⟩ : ∃ xb, cur2[h2]? = some xb := ⟨cur2[h2]'(by omega), Array.getElem?_eq_getElem (by omega)⟩
            have hca : w10.cell? ⟨g2, hh, none⟩ = some xa := (blk_cell hg2 _).trans hxa
            have hcb : w10.cell? ⟨g2, h2, none⟩ = some xb := (blk_cell hg2 _).trans hxb
            have hfa := blk_free hg2 hh
            have hfb := blk_free hg2 h2
            have HS10 := Lib.hid (HS9.out.keep (w' := w10) (fun q c e => hk10 q (blk_lt e)))
            have HT2 := Lib.hid (strs_two (ss := hl H 50) hB2 hg2 (by rw [hl_length]; exact hcc2) hm2 hs2 ht2 hh h2 bs)
            have HT2' := Lib.hid (strs_two (ss := hl H 50) hB2 hg2 (by rw [hl_length]; exact hcc2) hm2 hs2 ht2 h2 hh bs)
            have HB2 : Hid (w.heap.size ≤ g2) := Nat.le_trans HU9.out.size hB2
            have HN2 : Hid (w9.heap.size ≤ g2) := hB2
            have HG2 := Lib.hid hg2
            have HU10 := Lib.hid hu10
            have HK10 := Lib.hid hk10
            clear hS9' hs10 hk10 hu10 hv2 hB2 hg2 hcc2 hm2 hs2 ht2 hrd10 hxa hxb
            go_wp2_with (at_builtin; refine wpList_append_run rfl _ _ _ rfl rfl rfl hrun ?_)
            go_region
            go_wp2_with fail
            have hset : Upd [g2] w10 ((w10.setCell ⟨g2, hh, none⟩ (.string (str bs))).setCell ⟨g2, h2, none⟩ (.string (str bs))).drew := (((Upd.refl _ _).set _ (by simp)).set _ (by simp)).drew
            have hT := HT2.out
            rw [hl_length, ← hl_two] at hT
            refine ⟨⟨k + 1, J9, D9, t9, putsH H [((hh : Int), bs), ((h2 : Int), bs)], some ⟨g2, 0, none⟩, c', by omega, by omega, by go_num, rfl, rfl, ?_, ?_, (hT.lower HU9.out.size).upd ((Upd.refl [] _).drew) (by simp), putsH_len HH.out (fun q hq => by simp at hq; rcases hq with rfl | rfl <;> exact HBL.out), ((HU10.out.set _ (.inr HB2.out)).set _ (.inr HB2.out)).drew⟩, by simp [intOf]; omega⟩
            · have := ((HR9.out.keptT 9 (by decide) (by decide) (by decide) (by decide) (fun q hq _ => HK10.out q hq)).own hset (fun q hq => by simp at hq; subst hq; exact ⟨_, _, _, HG2.out, by decide, by decide, by decide, by decide⟩))
              exact this.le (by omega)
            · have := HT9.out; omega
          · have HP9 := Lib.hid hp9
            clear hp9
            have HRD9 : Hid (w9.heap[wr.heap.size]? = some (.cells (bts bs).toArray 5 (0, 0))) := by
              show _ = _
              exact (hu9.block _ (blk_lt HB8.out) (HR8.out.at_.kind HB8.out (by decide) (by decide) (by decide))).trans HB8.out
            have HS9 := Lib.hid (HS8.out.upd hu9 (fun q c hq e => HR8.out.at_.kind e (by decide) (by decide) (by decide) hq))
            have HU9 := Lib.hid (HU8.out.lateJ hu9 HJ.out)
            clear hu9
            obtain ⟨gn, cn', curn, hvn, hBn, hgn, _⟩ := HS9.out.block (by rw [hl_length]; omega)
            rw [hl_length] at hvn
            obtain ⟨rfl, rfl⟩ : an = some ⟨gn, 0, none⟩ ∧ cn = cn' := by simpa using hvn
            have HGN : Hid (gn < w9.heap.size) := blk_lt hgn
            clear hvn hBn hgn
            have hS9' : StrsB w9 w.heap.size (.slice (some ⟨gn, 0, none⟩) (hl H 50).length cn) (hl H 50) := by rw [hl_length]; exact HS9.out
            obtain ⟨a', b', c', w10, hrun, hs10, hk10, hu10⟩ := strs_copy hS9' (by rw [hl_length]; omega) HU9.out
            rw [hl_length] at hrun
            obtain ⟨g2, cap2, cur2, hv2, hB2, hg2, hcc2, hm2, hs2, ht2⟩ := hs10.block (by rw [hl_length]; omega)
            rw [hl_length] at hv2 hcc2
            obtain ⟨rfl, rfl, rfl⟩ : a' = some ⟨g2, 0, none⟩ ∧ b' = 50 ∧ c' = cap2 := by simpa using hv2
            have hrd10 : Rd w10 (.slice (some ⟨wr.heap.size, 0, none⟩) 512 512) bs := rd_row ((hk10 _ (blk_lt HRD9.out)).trans HRD9.out) HBL.out
            have hcv := run_str (w := w10.drew) (hrd10.of_block fun _ _ _ _ => rfl) (by rw [HBL.out]; omega)
            obtain ⟨xa, hxa⟩ : ∃ xa, cur2[hh]? = some xa := ⟨cur2[hh]'(by omega), Array.getElem?_eq_getElem (by omega)⟩
            obtain ⟨xb, hxb⟩ : ∃ xb, cur2[h2]? = some xb := ⟨cur2[h2]'(by omega), Array.getElem?_eq_getElem (by omega)⟩
            have hca : w10.cell? ⟨g2, hh, none⟩ = some xa := (blk_cell hg2 _).trans hxa
            have hcb : w10.cell? ⟨g2, h2, none⟩ = some xb := (blk_cell hg2 _).trans hxb
            have hfa := blk_free hg2 hh
            have hfb := blk_free hg2 h2
            have HS10 := Lib.hid (HS9.out.keep (w' := w10) (fun q c e => hk10 q (blk_lt e)))
            have HT2 := Lib.hid (strs_two (ss := hl H 50) hB2 hg2 (by rw [hl_length]; exact hcc2) hm2 hs2 ht2 hh h2 bs)
            have HT2' := Lib.hid (strs_two (ss := hl H 50) hB2 hg2 (by rw [hl_length]; exact hcc2) hm2 hs2 ht2 h2 hh bs)
            have HB2 : Hid (w.heap.size ≤ g2) := Nat.le_trans HU9.out.size hB2
            have HN2 : Hid (w9.heap.size ≤ g2) := hB2
            have HG2 := Lib.hid hg2
            have HU10 := Lib.hid hu10
            have HK10 := Lib.hid hk10
            clear hS9' hs10 hk10 hu10 hv2 hB2 hg2 hcc2 hm2 hs2 ht2 hrd10 hxa hxb
            go_wp2_with (at_builtin; refine wpList_append_run rfl _ _ _ rfl rfl rfl hrun ?_)
            go_region
            go_wp2_with fail
            have hset : Upd [g2] w10 ((w10.setCell ⟨g2, hh, none⟩ (.string (str bs))).setCell ⟨g2, h2, none⟩ (.string (str bs))).drew := (((Upd.refl _ _).set _ (by simp)).set _ (by simp)).drew
            have hT := HT2.out
            rw [hl_length, ← hl_two] at hT
            have HSL0 := Lib.hid ((hT.lower HU9.out.size).upd ((Upd.refl [] _).drew) (by simp))
            have HSN0 := Lib.hid (HS10.out.ne hset (by have := HGN.out; have := HN2.out; omega))
            have HP0 := Lib.hid ((HP9.out.world fun D hd => (hd.keptT 9 (by decide) (by decide) (by decide) (fun q hq _ => HK10.out q hq)).ownT hset HG2.out (by decide) (by decide) (by decide)).mono (m' := 100) (by omega) (Q' := fun t' H' => t' < 1000 ∧ (H' = H ∨ H' = putsH H [((hh : Int), bs), ((h2 : Int), bs)])) (fun t' H' q => ⟨by omega, q.2⟩))
            have HUW0 := Lib.hid (((HU10.out.set (b := g2) (o := hh) (.string (str bs)) (.inr HB2.out)).set (b := g2) (o := h2) (.string (str bs)) (.inr HB2.out)).drew)
            have hH2 : ∀ i, (putsH H [((hh : Int), bs), ((h2 : Int), bs)] i).length = 512 := putsH_len HH.out (fun q hq => by simp at hq; rcases hq with rfl | rfl <;> exact HBL.out)
            have HHL := Lib.hid hH2
            have HHN := HH
            clear hset hT hH2
            generalize ((w10.setCell ⟨g2, hh, none⟩ (.string (str bs))).setCell ⟨g2, h2, none⟩ (.string (str bs))).drew = W at HSL0 HSN0 HP0 HUW0 ⊢
            generalize putsH H [((hh : Int), bs), ((h2 : Int), bs)] = H2 at HSL0 HP0 HHL
            have HP := HP0
            have HSN := HSN0
            have HSL := HSL0
            have HUW := HUW0
            have HPW := Lib.hid (pw_hi HP.out (.slice az keep.length cz) keep (HK.out.lateS HUW.out (fun q hq => by have := HG.out; simp at hq; rcases hq with rfl | rfl | rfl; exact this.1; exact this.2.1; exact this.2.2)))
            refine HPW.out.mono ?_
            rintro e w11 ⟨rfl, ⟨J11, D11, t11, H11, hd11, ht11, hQ⟩, hu11⟩
            obtain ⟨Dp, hdp, _⟩ := id HP.out
            have HU11 := Lib.hid (HUW.out.lateD hu11 HG.out)
            have HSN11 := Lib.hid (HSN.out.upd hu11 (fun q c hq e => hdp.notstr e hq))
            have HSL11 := Lib.hid (HSL.out.upd hu11 (fun q c hq e => hdp.notstr e hq))
            have HO11 := Lib.hid (open_hi hd11 (by omega) (by omega))
            have HD11 := Lib.hid hd11.disk
            have HLEN : Hid (∀ i, (H11 i).length = 512) := by
              show ∀ i, (H11 i).length = 512
              rcases hQ with rfl | rfl
              · exact HHN.out
              · exact HHL.out
            have HQ11 := Lib.hid hQ
            clear hd11 hu11 hQ hdp
            go_wp2_with fail
            refine HO11.out.mono ?_
            rintro e w12 ⟨jbK, abK, rfl, hK1, hK2, ⟨J12, D12, hr12, _⟩, hu12⟩
            have HJK : Hid (JG.Late ⟨jbK, abK, g⟩ w) := ⟨Nat.le_trans HU11.out.size hK1, Nat.le_trans HU11.out.size hK2, HG.out⟩
            have HU12 := Lib.hid (HU11.out.lateD hu12 HG.out)
            have HSN12 := Lib.hid (HSN11.out.upd hu12 (fun q c hq e => HD11.out.notstr e hq))
            have HSL12 := Lib.hid (HSL11.out.upd hu12 (fun q c hq e => HD11.out.notstr e hq))
            have HHO12 := Lib.hid (homesL_spec hr12 (by omega) HLEN.out)
            have HR12 := Lib.hid hr12
            clear hK1 hK2 hr12 hu12
            go_wp2_with fail
            refine HHO12.out.mono ?_
            rintro e w13 ⟨a13, c13, rfl, hs13, hr13, hu13⟩
            have HU13 := Lib.hid (HU12.out.lateR hu13 HJK.out)
            have HSN13 := Lib.hid (HSN12.out.jnB HR12.out.at_ hu13)
            have HSL13 := Lib.hid (HSL12.out.jnB HR12.out.at_ hu13)
            have HS13 := Lib.hid hs13
            have HAL := Lib.hid (alike_case hs13.rd HSN13.out.rd (by rw [hl_length]; omega) (by rw [hl_length]; omega))
            clear hs13 hr13 hu13
            go_wp2_with fail
            refine HAL.out.mono ?_
            rintro e w14 ⟨⟨rfl, _⟩ | ⟨rfl, hno⟩, hu14⟩
            · have HU14 := Lib.hid (HU13.out.trans hu14)
              clear hu14
              go_wp2_with fail
              go_ret
              exact ⟨rfl, HU14.out⟩
            · have hyes : hl H11 50 = hl H2 50 := by
                rcases HQ11.out with e | e
                · exact absurd (by rw [e]) hno
                · rw [e]
              have HU14 := Lib.hid (HU13.out.trans hu14)
              have hs14 := HS13.out.upd hu14 (by simp)
              rw [show (64 - 2 - 12) = 50 from rfl, hyes] at hs14
              have HAL2 := Lib.hid (alike_yes hs14.rd (HSL13.out.upd hu14 (by simp)).rd (by rw [hl_length]; omega))
              clear hu14 hs14 hno hyes
              go_wp2_with fail
              refine HAL2.out.mono ?_
              rintro e w15 ⟨rfl, q15, hq15⟩
              have HU15 : Hid (Upd [] w w15) := by show Upd _ _ _; rw [hq15]; exact HU14.out.drewN _
              clear hq15
              go_wp2_with fail
              go_ret
              exact ⟨rfl, HU15.out⟩
          · exact absurd HF.out hno
        · have e1 : ((k : Int) == (ts.length : Int) - 1) = false := by rw [beq_eq_false_iff_ne]; omega
          by_cases hb2' : k + 1 = hs.length
          · have e2 : ((k : Int) == (hs.length : Int) - 1) = true := by rw [beq_iff_eq]; omega
            go_wp2_with fail
            refine (HPA _).out.mono ?_
            rintro e w' ⟨rfl, rfl⟩
            have HAR := Lib.hid (armJ_hi HR6.out (pA : Int) a3 (by omega))
            go_wp2_with fail
            refine HAR.out.mono ?_
            rintro e w7 ⟨rfl, hr7, hu7⟩
            have HR7 := Lib.hid hr7
            have HS7 := Lib.hid (HS6.out.upd hu7 (fun q c hq e => HR6.out.at_.disk.notstr e (by simp at hq; simp [hq])))
            have HB7 : Hid (w7.heap[wr.heap.size]? = some (.cells (bts bs).toArray 5 (0, 0))) := (hu7.block _ (blk_lt HBB.out) (fun q => HR6.out.at_.disk.byte HBB.out (by simp at q; simp [q]))).trans HBB.out
            have HU7 := Lib.hid ((HU.out.trans HU6.out).late hu7 (fun q hq => by simp at hq; subst hq; exact .inr HG.out.1))
            clear hr7 hu7
            obtain ⟨h2, hh2⟩ : ∃ h2, h2 = (hh + 1) % 50 := ⟨_, rfl⟩
            have hmod : ((hh : Int) + 1).tmod 50 = (h2 : Int) := by
              rw [Int.tmod_eq_emod_of_nonneg (by omega)]; omega
            have h2lt : h2 < 50 := by omega
            have hne : hh ≠ h2 := by omega
            have hne' : h2 ≠ hh := by omega
            have HF : Hid (fitsR 64 12 [((hh : Int), bs), ((h2 : Int), bs)] = 0) := by
              show _ = _
              rw [hh2]; exact two_fits HBL.out (by omega) (by omega) (by omega)
            have HH2 := Lib.hid hh2
            clear hh2
            go_wp2_with fail
            have hputs := putsAt_two (w := w7) (hh : Int) (h2 : Int) (some ⟨wr.heap.size, 0, none⟩) (some ⟨wr.heap.size, 0, none⟩) 512 512 512 512 bs bs (rd_row HB7.out HBL.out) (rd_row HB7.out HBL.out)
            have hu8 : Upd [] w7 (w7.alloc (.cells #[.int .i64 (hh : Int), .slice (some ⟨wr.heap.size, 0, none⟩) 512 512, .int .i64 (h2 : Int), .slice (some ⟨wr.heap.size, 0, none⟩) 512 512] 40)) := (Upd.refl _ _).alloc _
            obtain ⟨w8, hw8⟩ : ∃ w8, w8 = w7.alloc (.cells #[.int .i64 (hh : Int), .slice (some ⟨wr.heap.size, 0, none⟩) 512 512, .int .i64 (h2 : Int), .slice (some ⟨wr.heap.size, 0, none⟩) 512 512] 40) := ⟨_, rfl⟩
            rw [← hw8] at hputs hu8 ⊢
            clear hw8
            have HB8 : Hid (w8.heap[wr.heap.size]? = some (.cells (bts bs).toArray 5 (0, 0))) := (hu8.block _ (blk_lt HB7.out) (by simp)).trans HB7.out
            have HR8 := Lib.hid (HR7.out.below hu8)
            have HS8 := Lib.hid (HS7.out.upd hu8 (by simp))
            have HU8 := Lib.hid (HU7.out.trans hu8)
            have HC8 := Lib.hid (comA_hi HR8.out _ _ hputs (by simp) (by omega) (by omega))
            clear hputs hu8
            refine HC8.out.mono ?_
            rintro e w9 ⟨hu9, ⟨_, rfl, J9, D9, t9, hr9, ht9, _⟩ | ⟨_, rfl, hp9, _⟩ | ⟨hno, _, _⟩⟩
            · have HR9 := Lib.hid hr9
              have HT9 := Lib.hid ht9
              clear hr9 ht9
              have HRD9 : Hid (w9.heap[wr.heap.size]? = some (.cells (bts bs).toArray 5 (0, 0))) := by
                show _ = _
                exact (hu9.block _ (blk_lt HB8.out) (HR8.out.at_.kind HB8.out (by decide) (by decide) (by decide))).trans HB8.out
              have HS9 := Lib.hid (HS8.out.upd hu9 (fun q c hq e => HR8.out.at_.kind e (by decide) (by decide) (by decide) hq))
              have HU9 := Lib.hid (HU8.out.lateJ hu9 HJ.out)
              clear hu9
              obtain ⟨gn, cn', curn, hvn, hBn, hgn, _⟩ := HS9.out.block (by rw [hl_length]; omega)
              rw [hl_length] at hvn
              obtain ⟨rfl, rfl⟩ : an = some ⟨gn, 0, none⟩ ∧ cn = cn' := by simpa using hvn
              have HGN : Hid (gn < w9.heap.size) := blk_lt hgn
              clear hvn hBn hgn
              have hS9' : StrsB w9 w.heap.size (.slice (some ⟨gn, 0, none⟩) (hl H 50).length cn) (hl H 50) := by rw [hl_length]; exact HS9.out
              obtain ⟨a', b', c', w10, hrun, hs10, hk10, hu10⟩ := strs_copy hS9' (by rw [hl_length]; omega) HU9.out
              rw [hl_length] at hrun
              obtain ⟨g2, cap2, cur2, hv2, hB2, hg2, hcc2, hm2, hs2, ht2⟩ := hs10.block (by rw [hl_length]; omega)
              rw [hl_length] at hv2 hcc2
              obtain ⟨rfl, rfl, rfl⟩ : a' = some ⟨g2, 0, none⟩ ∧ b' = 50 ∧ c' = cap2 := by simpa using hv2
              have hrd10 : Rd w10 (.slice (some ⟨wr.heap.size, 0, none⟩) 512 512) bs := rd_row ((hk10 _ (blk_lt HRD9.out)).trans HRD9.out) HBL.out
              have hcv := run_str (w := w10.drew) (hrd10.of_block fun _ _ _ _ => rfl) (by rw [HBL.out]; omega)
              obtain ⟨xa, hxa⟩ : ∃ xa, cur2[hh]? = some xa := ⟨cur2[hh]'(by omega), Array.getElem?_eq_getElem (by omega)⟩
              obtain ⟨xb, hxb⟩ : ∃ xb, cur2[h2]? = some xb := ⟨cur2[h2]'(by omega), Array.getElem?_eq_getElem (by omega)⟩
              have hca : w10.cell? ⟨g2, hh, none⟩ = some xa := (blk_cell hg2 _).trans hxa
              have hcb : w10.cell? ⟨g2, h2, none⟩ = some xb := (blk_cell hg2 _).trans hxb
              have hfa := blk_free hg2 hh
              have hfb := blk_free hg2 h2
              have HS10 := Lib.hid (HS9.out.keep (w' := w10) (fun q c e => hk10 q (blk_lt e)))
              have HT2 := Lib.hid (strs_two (ss := hl H 50) hB2 hg2 (by rw [hl_length]; exact hcc2) hm2 hs2 ht2 hh h2 bs)
              have HT2' := Lib.hid (strs_two (ss := hl H 50) hB2 hg2 (by rw [hl_length]; exact hcc2) hm2 hs2 ht2 h2 hh bs)
              have HB2 : Hid (w.heap.size ≤ g2) := Nat.le_trans HU9.out.size hB2
              have HN2 : Hid (w9.heap.size ≤ g2) := hB2
              have HG2 := Lib.hid hg2
              have HU10 := Lib.hid hu10
              have HK10 := Lib.hid hk10
              clear hS9' hs10 hk10 hu10 hv2 hB2 hg2 hcc2 hm2 hs2 ht2 hrd10 hxa hxb
              go_wp2_with (at_builtin; refine wpList_append_run rfl _ _ _ rfl rfl rfl hrun ?_)
              go_region
              go_wp2_with fail
              have hset : Upd [g2] w10 ((w10.setCell ⟨g2, hh, none⟩ (.string (str bs))).setCell ⟨g2, h2, none⟩ (.string (str bs))).drew := (((Upd.refl _ _).set _ (by simp)).set _ (by simp)).drew
              have hT := HT2.out
              rw [hl_length, ← hl_two] at hT
              refine ⟨⟨k + 1, J9, D9, t9, putsH H [((hh : Int), bs), ((h2 : Int), bs)], some ⟨g2, 0, none⟩, c', by omega, by omega, by go_num, rfl, rfl, ?_, ?_, (hT.lower HU9.out.size).upd ((Upd.refl [] _).drew) (by simp), putsH_len HH.out (fun q hq => by simp at hq; rcases hq with rfl | rfl <;> exact HBL.out), ((HU10.out.set _ (.inr HB2.out)).set _ (.inr HB2.out)).drew⟩, by simp [intOf]; omega⟩
              · have := ((HR9.out.keptT 9 (by decide) (by decide) (by decide) (by decide) (fun q hq _ => HK10.out q hq)).own hset (fun q hq => by simp at hq; subst hq; exact ⟨_, _, _, HG2.out, by decide, by decide, by decide, by decide⟩))
                exact this.le (by omega)
              · have := HT9.out; omega
            · have HP9 := Lib.hid hp9
              clear hp9
              have HRD9 : Hid (w9.heap[wr.heap.size]? = some (.cells (bts bs).toArray 5 (0, 0))) := by
                show _ = _
                exact (hu9.block _ (blk_lt HB8.out) (HR8.out.at_.kind HB8.out (by decide) (by decide) (by decide))).trans HB8.out
              have HS9 := Lib.hid (HS8.out.upd hu9 (fun q c hq e => HR8.out.at_.kind e (by decide) (by decide) (by decide) hq))
              have HU9 := Lib.hid (HU8.out.lateJ hu9 HJ.out)
              clear hu9
              obtain ⟨gn, cn', curn, hvn, hBn, hgn, _⟩ := HS9.out.block (by rw [hl_length]; omega)
              rw [hl_length] at hvn
              obtain ⟨rfl, rfl⟩ : an = some ⟨gn, 0, none⟩ ∧ cn = cn' := by simpa using hvn
              have HGN : Hid (gn < w9.heap.size) := blk_lt hgn
              clear hvn hBn hgn
              have hS9' : StrsB w9 w.heap.size (.slice (some ⟨gn, 0, none⟩) (hl H 50).length cn) (hl H 50) := by rw [hl_length]; exact HS9.out
              obtain ⟨a', b', c', w10, hrun, hs10, hk10, hu10⟩ := strs_copy hS9' (by rw [hl_length]; omega) HU9.out
              rw [hl_length] at hrun
              obtain ⟨g2, cap2, cur2, hv2, hB2, hg2, hcc2, hm2, hs2, ht2⟩ := hs10.block (by rw [hl_length]; omega)
              rw [hl_length] at hv2 hcc2
              obtain ⟨rfl, rfl, rfl⟩ : a' = some ⟨g2, 0, none⟩ ∧ b' = 50 ∧ c' = cap2 := by simpa using hv2
              have hrd10 : Rd w10 (.slice (some ⟨wr.heap.size, 0, none⟩) 512 512) bs := rd_row ((hk10 _ (blk_lt HRD9.out)).trans HRD9.out) HBL.out
              have hcv := run_str (w := w10.drew) (hrd10.of_block fun _ _ _ _ => rfl) (by rw [HBL.out]; omega)
              obtain ⟨xa, hxa⟩ : ∃ xa, cur2[hh]? = some xa := ⟨cur2[hh]'(by omega), Array.getElem?_eq_getElem (by omega)⟩
              obtain ⟨xb, hxb⟩ : ∃ xb, cur2[h2]? = some xb := ⟨cur2[h2]'(by omega), Array.getElem?_eq_getElem (by omega)⟩
              have hca : w10.cell? ⟨g2, hh, none⟩ = some xa := (blk_cell hg2 _).trans hxa
              have hcb : w10.cell? ⟨g2, h2, none⟩ = some xb := (blk_cell hg2 _).trans hxb
              have hfa := blk_free hg2 hh
              have hfb := blk_free hg2 h2
              have HS10 := Lib.hid (HS9.out.keep (w' := w10) (fun q c e => hk10 q (blk_lt e)))
              have HT2 := Lib.hid (strs_two (ss := hl H 50) hB2 hg2 (by rw [hl_length]; exact hcc2) hm2 hs2 ht2 hh h2 bs)
              have HT2' := Lib.hid (strs_two (ss := hl H 50) hB2 hg2 (by rw [hl_length]; exact hcc2) hm2 hs2 ht2 h2 hh bs)
              have HB2 : Hid (w.heap.size ≤ g2) := Nat.le_trans HU9.out.size hB2
              have HN2 : Hid (w9.heap.size ≤ g2) := hB2
              have HG2 := Lib.hid hg2
              have HU10 := Lib.hid hu10
              have HK10 := Lib.hid hk10
              clear hS9' hs10 hk10 hu10 hv2 hB2 hg2 hcc2 hm2 hs2 ht2 hrd10 hxa hxb
              go_wp2_with (at_builtin; refine wpList_append_run rfl _ _ _ rfl rfl rfl hrun ?_)
              go_region
              go_wp2_with fail
              have hset : Upd [g2] w10 ((w10.setCell ⟨g2, hh, none⟩ (.string (str bs))).setCell ⟨g2, h2, none⟩ (.string (str bs))).drew := (((Upd.refl _ _).set _ (by simp)).set _ (by simp)).drew
              have hT := HT2.out
              rw [hl_length, ← hl_two] at hT
              have HSL0 := Lib.hid ((hT.lower HU9.out.size).upd ((Upd.refl [] _).drew) (by simp))
              have HSN0 := Lib.hid (HS10.out.ne hset (by have := HGN.out; have := HN2.out; omega))
              have HP0 := Lib.hid ((HP9.out.world fun D hd => (hd.keptT 9 (by decide) (by decide) (by decide) (fun q hq _ => HK10.out q hq)).ownT hset HG2.out (by decide) (by decide) (by decide)).mono (m' := 100) (by omega) (Q' := fun t' H' => t' < 1000 ∧ (H' = H ∨ H' = putsH H [((hh : Int), bs), ((h2 : Int), bs)])) (fun t' H' q => ⟨by omega, q.2⟩))
              have HUW0 := Lib.hid (((HU10.out.set (b := g2) (o := hh) (.string (str bs)) (.inr HB2.out)).set (b := g2) (o := h2) (.string (str bs)) (.inr HB2.out)).drew)
              have hH2 : ∀ i, (putsH H [((hh : Int), bs), ((h2 : Int), bs)] i).length = 512 := putsH_len HH.out (fun q hq => by simp at hq; rcases hq with rfl | rfl <;> exact HBL.out)
              have HHL := Lib.hid hH2
              have HHN := HH
              clear hset hT hH2
              generalize ((w10.setCell ⟨g2, hh, none⟩ (.string (str bs))).setCell ⟨g2, h2, none⟩ (.string (str bs))).drew = W at HSL0 HSN0 HP0 HUW0 ⊢
              generalize putsH H [((hh : Int), bs), ((h2 : Int), bs)] = H2 at HSL0 HP0 HHL
              have HP := HP0
              have HSN := HSN0
              have HSL := HSL0
              have HUW := HUW0
              have HPW := Lib.hid (pw_hi HP.out (.slice az keep.length cz) keep (HK.out.lateS HUW.out (fun q hq => by have := HG.out; simp at hq; rcases hq with rfl | rfl | rfl; exact this.1; exact this.2.1; exact this.2.2)))
              refine HPW.out.mono ?_
              rintro e w11 ⟨rfl, ⟨J11, D11, t11, H11, hd11, ht11, hQ⟩, hu11⟩
              obtain ⟨Dp, hdp, _⟩ := id HP.out
              have HU11 := Lib.hid (HUW.out.lateD hu11 HG.out)
              have HSN11 := Lib.hid (HSN.out.upd hu11 (fun q c hq e => hdp.notstr e hq))
              have HSL11 := Lib.hid (HSL.out.upd hu11 (fun q c hq e => hdp.notstr e hq))
              have HO11 := Lib.hid (open_hi hd11 (by omega) (by omega))
              have HD11 := Lib.hid hd11.disk
              have HLEN : Hid (∀ i, (H11 i).length = 512) := by
                show ∀ i, (H11 i).length = 512
                rcases hQ with rfl | rfl
                · exact HHN.out
                · exact HHL.out
              have HQ11 := Lib.hid hQ
              clear hd11 hu11 hQ hdp
              go_wp2_with fail
              refine HO11.out.mono ?_
              rintro e w12 ⟨jbK, abK, rfl, hK1, hK2, ⟨J12, D12, hr12, _⟩, hu12⟩
              have HJK : Hid (JG.Late ⟨jbK, abK, g⟩ w) := ⟨Nat.le_trans HU11.out.size hK1, Nat.le_trans HU11.out.size hK2, HG.out⟩
              have HU12 := Lib.hid (HU11.out.lateD hu12 HG.out)
              have HSN12 := Lib.hid (HSN11.out.upd hu12 (fun q c hq e => HD11.out.notstr e hq))
              have HSL12 := Lib.hid (HSL11.out.upd hu12 (fun q c hq e => HD11.out.notstr e hq))
              have HHO12 := Lib.hid (homesL_spec hr12 (by omega) HLEN.out)
              have HR12 := Lib.hid hr12
              clear hK1 hK2 hr12 hu12
              go_wp2_with fail
              refine HHO12.out.mono ?_
              rintro e w13 ⟨a13, c13, rfl, hs13, hr13, hu13⟩
              have HU13 := Lib.hid (HU12.out.lateR hu13 HJK.out)
              have HSN13 := Lib.hid (HSN12.out.jnB HR12.out.at_ hu13)
              have HSL13 := Lib.hid (HSL12.out.jnB HR12.out.at_ hu13)
              have HS13 := Lib.hid hs13
              have HAL := Lib.hid (alike_case hs13.rd HSN13.out.rd (by rw [hl_length]; omega) (by rw [hl_length]; omega))
              clear hs13 hr13 hu13
              go_wp2_with fail
              refine HAL.out.mono ?_
              rintro e w14 ⟨⟨rfl, _⟩ | ⟨rfl, hno⟩, hu14⟩
              · have HU14 := Lib.hid (HU13.out.trans hu14)
                clear hu14
                go_wp2_with fail
                go_ret
                exact ⟨rfl, HU14.out⟩
              · have hyes : hl H11 50 = hl H2 50 := by
                  rcases HQ11.out with e | e
                  · exact absurd (by rw [e]) hno
                  · rw [e]
                have HU14 := Lib.hid (HU13.out.trans hu14)
                have hs14 := HS13.out.upd hu14 (by simp)
                rw [show (64 - 2 - 12) = 50 from rfl, hyes] at hs14
                have HAL2 := Lib.hid (alike_yes hs14.rd (HSL13.out.upd hu14 (by simp)).rd (by rw [hl_length]; omega))
                clear hu14 hs14 hno hyes
                go_wp2_with fail
                refine HAL2.out.mono ?_
                rintro e w15 ⟨rfl, q15, hq15⟩
                have HU15 : Hid (Upd [] w w15) := by show Upd _ _ _; rw [hq15]; exact HU14.out.drewN _
                clear hq15
                go_wp2_with fail
                go_ret
                exact ⟨rfl, HU15.out⟩
            · exact absurd HF.out hno
          · have e2 : ((k : Int) == (hs.length : Int) - 1) = false := by rw [beq_eq_false_iff_ne]; omega
            obtain ⟨w7, hw7⟩ : ∃ w7, w7 = w6 := ⟨_, rfl⟩
            have HU67 : Hid (Upd [] w6 w7) := by show Upd _ _ _; rw [hw7]; exact Upd.refl _ _
            rw [← hw7]
            clear hw7
            have HR7 := Lib.hid (HR6.out.below HU67.out)
            have HS7 := Lib.hid (HS6.out.upd HU67.out (by simp))
            have HB7 : Hid (w7.heap[wr.heap.size]? = some (.cells (bts bs).toArray 5 (0, 0))) := (HU67.out.block _ (blk_lt HBB.out) (by simp)).trans HBB.out
            have HU7 := Lib.hid ((HU.out.trans HU6.out).trans HU67.out)
            obtain ⟨h2, hh2⟩ : ∃ h2, h2 = (hh + 1) % 50 := ⟨_, rfl⟩
            have hmod : ((hh : Int) + 1).tmod 50 = (h2 : Int) := by
              rw [Int.tmod_eq_emod_of_nonneg (by omega)]; omega
            have h2lt : h2 < 50 := by omega
            have hne : hh ≠ h2 := by omega
            have hne' : h2 ≠ hh := by omega
            have HF : Hid (fitsR 64 12 [((hh : Int), bs), ((h2 : Int), bs)] = 0) := by
              show _ = _
              rw [hh2]; exact two_fits HBL.out (by omega) (by omega) (by omega)
            have HH2 := Lib.hid hh2
            clear hh2
            go_wp2_with fail
            have hputs := putsAt_two (w := w7) (hh : Int) (h2 : Int) (some ⟨wr.heap.size, 0, none⟩) (some ⟨wr.heap.size, 0, none⟩) 512 512 512 512 bs bs (rd_row HB7.out HBL.out) (rd_row HB7.out HBL.out)
            have hu8 : Upd [] w7 (w7.alloc (.cells #[.int .i64 (hh : Int), .slice (some ⟨wr.heap.size, 0, none⟩) 512 512, .int .i64 (h2 : Int), .slice (some ⟨wr.heap.size, 0, none⟩) 512 512] 40)) := (Upd.refl _ _).alloc _
            obtain ⟨w8, hw8⟩ : ∃ w8, w8 = w7.alloc (.cells #[.int .i64 (hh : Int), .slice (some ⟨wr.heap.size, 0, none⟩) 512 512, .int .i64 (h2 : Int), .slice (some ⟨wr.heap.size, 0, none⟩) 512 512] 40) := ⟨_, rfl⟩
            rw [← hw8] at hputs hu8 ⊢
            clear hw8
            have HB8 : Hid (w8.heap[wr.heap.size]? = some (.cells (bts bs).toArray 5 (0, 0))) := (hu8.block _ (blk_lt HB7.out) (by simp)).trans HB7.out
            have HR8 := Lib.hid (HR7.out.below hu8)
            have HS8 := Lib.hid (HS7.out.upd hu8 (by simp))
            have HU8 := Lib.hid (HU7.out.trans hu8)
            have HC8 := Lib.hid (comA_hi HR8.out _ _ hputs (by simp) (by omega) (by omega))
            clear hputs hu8
            refine HC8.out.mono ?_
            rintro e w9 ⟨hu9, ⟨_, rfl, J9, D9, t9, hr9, ht9, _⟩ | ⟨_, rfl, hp9, _⟩ | ⟨hno, _, _⟩⟩
            · have HR9 := Lib.hid hr9
              have HT9 := Lib.hid ht9
              clear hr9 ht9
              have HRD9 : Hid (w9.heap[wr.heap.size]? = some (.cells (bts bs).toArray 5 (0, 0))) := by
                show _ = _
                exact (hu9.block _ (blk_lt HB8.out) (HR8.out.at_.kind HB8.out (by decide) (by decide) (by decide))).trans HB8.out
              have HS9 := Lib.hid (HS8.out.upd hu9 (fun q c hq e => HR8.out.at_.kind e (by decide) (by decide) (by decide) hq))
              have HU9 := Lib.hid (HU8.out.lateJ hu9 HJ.out)
              clear hu9
              obtain ⟨gn, cn', curn, hvn, hBn, hgn, _⟩ := HS9.out.block (by rw [hl_length]; omega)
              rw [hl_length] at hvn
              obtain ⟨rfl, rfl⟩ : an = some ⟨gn, 0, none⟩ ∧ cn = cn' := by simpa using hvn
              have HGN : Hid (gn < w9.heap.size) := blk_lt hgn
              clear hvn hBn hgn
              have hS9' : StrsB w9 w.heap.size (.slice (some ⟨gn, 0, none⟩) (hl H 50).length cn) (hl H 50) := by rw [hl_length]; exact HS9.out
              obtain ⟨a', b', c', w10, hrun, hs10, hk10, hu10⟩ := strs_copy hS9' (by rw [hl_length]; omega) HU9.out
              rw [hl_length] at hrun
              obtain ⟨g2, cap2, cur2, hv2, hB2, hg2, hcc2, hm2, hs2, ht2⟩ := hs10.block (by rw [hl_length]; omega)
              rw [hl_length] at hv2 hcc2
              obtain ⟨rfl, rfl, rfl⟩ : a' = some ⟨g2, 0, none⟩ ∧ b' = 50 ∧ c' = cap2 := by simpa using hv2
              have hrd10 : Rd w10 (.slice (some ⟨wr.heap.size, 0, none⟩) 512 512) bs := rd_row ((hk10 _ (blk_lt HRD9.out)).trans HRD9.out) HBL.out
              have hcv := run_str (w := w10.drew) (hrd10.of_block fun _ _ _ _ => rfl) (by rw [HBL.out]; omega)
              obtain ⟨xa, hxa⟩ : ∃ xa, cur2[hh]? = some xa := ⟨cur2[hh]'(by omega), Array.getElem?_eq_getElem (by omega)⟩
              obtain ⟨xb, hxb⟩ : ∃ xb, cur2[h2]? = some xb := ⟨cur2[h2]'(by omega), Array.getElem?_eq_getElem (by omega)⟩
              have hca : w10.cell? ⟨g2, hh, none⟩ = some xa := (blk_cell hg2 _).trans hxa
              have hcb : w10.cell? ⟨g2, h2, none⟩ = some xb := (blk_cell hg2 _).trans hxb
              have hfa := blk_free hg2 hh
              have hfb := blk_free hg2 h2
              have HS10 := Lib.hid (HS9.out.keep (w' := w10) (fun q c e => hk10 q (blk_lt e)))
              have HT2 := Lib.hid (strs_two (ss := hl H 50) hB2 hg2 (by rw [hl_length]; exact hcc2) hm2 hs2 ht2 hh h2 bs)
              have HT2' := Lib.hid (strs_two (ss := hl H 50) hB2 hg2 (by rw [hl_length]; exact hcc2) hm2 hs2 ht2 h2 hh bs)
              have HB2 : Hid (w.heap.size ≤ g2) := Nat.le_trans HU9.out.size hB2
              have HN2 : Hid (w9.heap.size ≤ g2) := hB2
              have HG2 := Lib.hid hg2
              have HU10 := Lib.hid hu10
              have HK10 := Lib.hid hk10
              clear hS9' hs10 hk10 hu10 hv2 hB2 hg2 hcc2 hm2 hs2 ht2 hrd10 hxa hxb
              go_wp2_with (at_builtin; refine wpList_append_run rfl _ _ _ rfl rfl rfl hrun ?_)
              go_region
              go_wp2_with fail
              have hset : Upd [g2] w10 ((w10.setCell ⟨g2, hh, none⟩ (.string (str bs))).setCell ⟨g2, h2, none⟩ (.string (str bs))).drew := (((Upd.refl _ _).set _ (by simp)).set _ (by simp)).drew
              have hT := HT2.out
              rw [hl_length, ← hl_two] at hT
              refine ⟨⟨k + 1, J9, D9, t9, putsH H [((hh : Int), bs), ((h2 : Int), bs)], some ⟨g2, 0, none⟩, c', by omega, by omega, by go_num, rfl, rfl, ?_, ?_, (hT.lower HU9.out.size).upd ((Upd.refl [] _).drew) (by simp), putsH_len HH.out (fun q hq => by simp at hq; rcases hq with rfl | rfl <;> exact HBL.out), ((HU10.out.set _ (.inr HB2.out)).set _ (.inr HB2.out)).drew⟩, by simp [intOf]; omega⟩
              · have := ((HR9.out.keptT 9 (by decide) (by decide) (by decide) (by decide) (fun q hq _ => HK10.out q hq)).own hset (fun q hq => by simp at hq; subst hq; exact ⟨_, _, _, HG2.out, by decide, by decide, by decide, by decide⟩))
                exact this.le (by omega)
              · have := HT9.out; omega
            · have HP9 := Lib.hid hp9
              clear hp9
              have HRD9 : Hid (w9.heap[wr.heap.size]? = some (.cells (bts bs).toArray 5 (0, 0))) := by
                show _ = _
                exact (hu9.block _ (blk_lt HB8.out) (HR8.out.at_.kind HB8.out (by decide) (by decide) (by decide))).trans HB8.out
              have HS9 := Lib.hid (HS8.out.upd hu9 (fun q c hq e => HR8.out.at_.kind e (by decide) (by decide) (by decide) hq))
              have HU9 := Lib.hid (HU8.out.lateJ hu9 HJ.out)
              clear hu9
              obtain ⟨gn, cn', curn, hvn, hBn, hgn, _⟩ := HS9.out.block (by rw [hl_length]; omega)
              rw [hl_length] at hvn
              obtain ⟨rfl, rfl⟩ : an = some ⟨gn, 0, none⟩ ∧ cn = cn' := by simpa using hvn
              have HGN : Hid (gn < w9.heap.size) := blk_lt hgn
              clear hvn hBn hgn
              have hS9' : StrsB w9 w.heap.size (.slice (some ⟨gn, 0, none⟩) (hl H 50).length cn) (hl H 50) := by rw [hl_length]; exact HS9.out
              obtain ⟨a', b', c', w10, hrun, hs10, hk10, hu10⟩ := strs_copy hS9' (by rw [hl_length]; omega) HU9.out
              rw [hl_length] at hrun
              obtain ⟨g2, cap2, cur2, hv2, hB2, hg2, hcc2, hm2, hs2, ht2⟩ := hs10.block (by rw [hl_length]; omega)
              rw [hl_length] at hv2 hcc2
              obtain ⟨rfl, rfl, rfl⟩ : a' = some ⟨g2, 0, none⟩ ∧ b' = 50 ∧ c' = cap2 := by simpa using hv2
              have hrd10 : Rd w10 (.slice (some ⟨wr.heap.size, 0, none⟩) 512 512) bs := rd_row ((hk10 _ (blk_lt HRD9.out)).trans HRD9.out) HBL.out
              have hcv := run_str (w := w10.drew) (hrd10.of_block fun _ _ _ _ => rfl) (by rw [HBL.out]; omega)
              obtain ⟨xa, hxa⟩ : ∃ xa, cur2[hh]? = some xa := ⟨cur2[hh]'(by omega), Array.getElem?_eq_getElem (by omega)⟩
              obtain ⟨xb, hxb⟩ : ∃ xb, cur2[h2]? = some xb := ⟨cur2[h2]'(by omega), Array.getElem?_eq_getElem (by omega)⟩
              have hca : w10.cell? ⟨g2, hh, none⟩ = some xa := (blk_cell hg2 _).trans hxa
              have hcb : w10.cell? ⟨g2, h2, none⟩ = some xb := (blk_cell hg2 _).trans hxb
              have hfa := blk_free hg2 hh
              have hfb := blk_free hg2 h2
              have HS10 := Lib.hid (HS9.out.keep (w' := w10) (fun q c e => hk10 q (blk_lt e)))
              have HT2 := Lib.hid (strs_two (ss := hl H 50) hB2 hg2 (by rw [hl_length]; exact hcc2) hm2 hs2 ht2 hh h2 bs)
              have HT2' := Lib.hid (strs_two (ss := hl H 50) hB2 hg2 (by rw [hl_length]; exact hcc2) hm2 hs2 ht2 h2 hh bs)
              have HB2 : Hid (w.heap.size ≤ g2) := Nat.le_trans HU9.out.size hB2
              have HN2 : Hid (w9.heap.size ≤ g2) := hB2
              have HG2 := Lib.hid hg2
              have HU10 := Lib.hid hu10
              have HK10 := Lib.hid hk10
              clear hS9' hs10 hk10 hu10 hv2 hB2 hg2 hcc2 hm2 hs2 ht2 hrd10 hxa hxb
              go_wp2_with (at_builtin; refine wpList_append_run rfl _ _ _ rfl rfl rfl hrun ?_)
              go_region
              go_wp2_with fail
              have hset : Upd [g2] w10 ((w10.setCell ⟨g2, hh, none⟩ (.string (str bs))).setCell ⟨g2, h2, none⟩ (.string (str bs))).drew := (((Upd.refl _ _).set _ (by simp)).set _ (by simp)).drew
              have hT := HT2.out
              rw [hl_length, ← hl_two] at hT
              have HSL0 := Lib.hid ((hT.lower HU9.out.size).upd ((Upd.refl [] _).drew) (by simp))
              have HSN0 := Lib.hid (HS10.out.ne hset (by have := HGN.out; have := HN2.out; omega))
              have HP0 := Lib.hid ((HP9.out.world fun D hd => (hd.keptT 9 (by decide) (by decide) (by decide) (fun q hq _ => HK10.out q hq)).ownT hset HG2.out (by decide) (by decide) (by decide)).mono (m' := 100) (by omega) (Q' := fun t' H' => t' < 1000 ∧ (H' = H ∨ H' = putsH H [((hh : Int), bs), ((h2 : Int), bs)])) (fun t' H' q => ⟨by omega, q.2⟩))
              have HUW0 := Lib.hid (((HU10.out.set (b := g2) (o := hh) (.string (str bs)) (.inr HB2.out)).set (b := g2) (o := h2) (.string (str bs)) (.inr HB2.out)).drew)
              have hH2 : ∀ i, (putsH H [((hh : Int), bs), ((h2 : Int), bs)] i).length = 512 := putsH_len HH.out (fun q hq => by simp at hq; rcases hq with rfl | rfl <;> exact HBL.out)
              have HHL := Lib.hid hH2
              have HHN := HH
              clear hset hT hH2
              generalize ((w10.setCell ⟨g2, hh, none⟩ (.string (str bs))).setCell ⟨g2, h2, none⟩ (.string (str bs))).drew = W at HSL0 HSN0 HP0 HUW0 ⊢
              generalize putsH H [((hh : Int), bs), ((h2 : Int), bs)] = H2 at HSL0 HP0 HHL
              have HP := HP0
              have HSN := HSN0
              have HSL := HSL0
              have HUW := HUW0
              have HPW := Lib.hid (pw_hi HP.out (.slice az keep.length cz) keep (HK.out.lateS HUW.out (fun q hq => by have := HG.out; simp at hq; rcases hq with rfl | rfl | rfl; exact this.1; exact this.2.1; exact this.2.2)))
              refine HPW.out.mono ?_
              rintro e w11 ⟨rfl, ⟨J11, D11, t11, H11, hd11, ht11, hQ⟩, hu11⟩
              obtain ⟨Dp, hdp, _⟩ := id HP.out
              have HU11 := Lib.hid (HUW.out.lateD hu11 HG.out)
              have HSN11 := Lib.hid (HSN.out.upd hu11 (fun q c hq e => hdp.notstr e hq))
              have HSL11 := Lib.hid (HSL.out.upd hu11 (fun q c hq e => hdp.notstr e hq))
              have HO11 := Lib.hid (open_hi hd11 (by omega) (by omega))
              have HD11 := Lib.hid hd11.disk
              have HLEN : Hid (∀ i, (H11 i).length = 512) := by
                show ∀ i, (H11 i).length = 512
                rcases hQ with rfl | rfl
                · exact HHN.out
                · exact HHL.out
              have HQ11 := Lib.hid hQ
              clear hd11 hu11 hQ hdp
              go_wp2_with fail
              refine HO11.out.mono ?_
              rintro e w12 ⟨jbK, abK, rfl, hK1, hK2, ⟨J12, D12, hr12, _⟩, hu12⟩
              have HJK : Hid (JG.Late ⟨jbK, abK, g⟩ w) := ⟨Nat.le_trans HU11.out.size hK1, Nat.le_trans HU11.out.size hK2, HG.out⟩
              have HU12 := Lib.hid (HU11.out.lateD hu12 HG.out)
              have HSN12 := Lib.hid (HSN11.out.upd hu12 (fun q c hq e => HD11.out.notstr e hq))
              have HSL12 := Lib.hid (HSL11.out.upd hu12 (fun q c hq e => HD11.out.notstr e hq))
              have HHO12 := Lib.hid (homesL_spec hr12 (by omega) HLEN.out)
              have HR12 := Lib.hid hr12
              clear hK1 hK2 hr12 hu12
              go_wp2_with fail
              refine HHO12.out.mono ?_
              rintro e w13 ⟨a13, c13, rfl, hs13, hr13, hu13⟩
              have HU13 := Lib.hid (HU12.out.lateR hu13 HJK.out)
              have HSN13 := Lib.hid (HSN12.out.jnB HR12.out.at_ hu13)
              have HSL13 := Lib.hid (HSL12.out.jnB HR12.out.at_ hu13)
              have HS13 := Lib.hid hs13
              have HAL := Lib.hid (alike_case hs13.rd HSN13.out.rd (by rw [hl_length]; omega) (by rw [hl_length]; omega))
              clear hs13 hr13 hu13
              go_wp2_with fail
              refine HAL.out.mono ?_
              rintro e w14 ⟨⟨rfl, _⟩ | ⟨rfl, hno⟩, hu14⟩
              · have HU14 := Lib.hid (HU13.out.trans hu14)
                clear hu14
                go_wp2_with fail
                go_ret
                exact ⟨rfl, HU14.out⟩
              · have hyes : hl H11 50 = hl H2 50 := by
                  rcases HQ11.out with e | e
                  · exact absurd (by rw [e]) hno
                  · rw [e]
                have HU14 := Lib.hid (HU13.out.trans hu14)
                have hs14 := HS13.out.upd hu14 (by simp)
                rw [show (64 - 2 - 12) = 50 from rfl, hyes] at hs14
                have HAL2 := Lib.hid (alike_yes hs14.rd (HSL13.out.upd hu14 (by simp)).rd (by rw [hl_length]; omega))
                clear hu14 hs14 hno hyes
                go_wp2_with fail
                refine HAL2.out.mono ?_
                rintro e w15 ⟨rfl, q15, hq15⟩
                have HU15 : Hid (Upd [] w w15) := by show Upd _ _ _; rw [hq15]; exact HU14.out.drewN _
                clear hq15
                go_wp2_with fail
                go_ret
                exact ⟨rfl, HU15.out⟩
            · exact absurd HF.out hno
      · have hl2 : decide ((k : Int) < (hs.length : Int)) = false := by simpa using hlt2
        have HP := Lib.hid (HR.out.pw.mono (m' := 100) (by omega) (Q' := fun t' H' => t' < 1000 ∧ (H' = H ∨ H' = H)) (fun t' H' q => ⟨by omega, .inl q.2⟩))
        have HSN := HS
        have HSL := HS
        have HUW := HU
        have HHN := HH
        have HHL := HH
        have HPW := Lib.hid (pw_hi HP.out (.slice az keep.length cz) keep (HK.out.lateS HUW.out (fun q hq => by have := HG.out; simp at hq; rcases hq with rfl | rfl | rfl; exact this.1; exact this.2.1; exact this.2.2)))
        go_wp2_with fail
        refine HPW.out.mono ?_
        rintro e w11 ⟨rfl, ⟨J11, D11, t11, H11, hd11, ht11, hQ⟩, hu11⟩
        obtain ⟨Dp, hdp, _⟩ := id HP.out
        have HU11 := Lib.hid (HUW.out.lateD hu11 HG.out)
        have HSN11 := Lib.hid (HSN.out.upd hu11 (fun q c hq e => hdp.notstr e hq))
        have HSL11 := Lib.hid (HSL.out.upd hu11 (fun q c hq e => hdp.notstr e hq))
        have HO11 := Lib.hid (open_hi hd11 (by omega) (by omega))
        have HD11 := Lib.hid hd11.disk
        have HLEN : Hid (∀ i, (H11 i).length = 512) := by
          show ∀ i, (H11 i).length = 512
          rcases hQ with rfl | rfl
          · exact HHN.out
          · exact HHL.out
        have HQ11 := Lib.hid hQ
        clear hd11 hu11 hQ hdp
        go_wp2_with fail
        refine HO11.out.mono ?_
        rintro e w12 ⟨jbK, abK, rfl, hK1, hK2, ⟨J12, D12, hr12, _⟩, hu12⟩
        have HJK : Hid (JG.Late ⟨jbK, abK, g⟩ w) := ⟨Nat.le_trans HU11.out.size hK1, Nat.le_trans HU11.out.size hK2, HG.out⟩
        have HU12 := Lib.hid (HU11.out.lateD hu12 HG.out)
        have HSN12 := Lib.hid (HSN11.out.upd hu12 (fun q c hq e => HD11.out.notstr e hq))
        have HSL12 := Lib.hid (HSL11.out.upd hu12 (fun q c hq e => HD11.out.notstr e hq))
        have HHO12 := Lib.hid (homesL_spec hr12 (by omega) HLEN.out)
        have HR12 := Lib.hid hr12
        clear hK1 hK2 hr12 hu12
        go_wp2_with fail
        refine HHO12.out.mono ?_
        rintro e w13 ⟨a13, c13, rfl, hs13, hr13, hu13⟩
        have HU13 := Lib.hid (HU12.out.lateR hu13 HJK.out)
        have HSN13 := Lib.hid (HSN12.out.jnB HR12.out.at_ hu13)
        have HSL13 := Lib.hid (HSL12.out.jnB HR12.out.at_ hu13)
        have HS13 := Lib.hid hs13
        have HAL := Lib.hid (alike_case hs13.rd HSN13.out.rd (by rw [hl_length]; omega) (by rw [hl_length]; omega))
        clear hs13 hr13 hu13
        go_wp2_with fail
        refine HAL.out.mono ?_
        rintro e w14 ⟨⟨rfl, _⟩ | ⟨rfl, hno⟩, hu14⟩
        · have HU14 := Lib.hid (HU13.out.trans hu14)
          clear hu14
          go_wp2_with fail
          go_ret
          exact ⟨rfl, HU14.out⟩
        · have hyes : hl H11 50 = hl H 50 := by
            rcases HQ11.out with e | e
            · exact absurd (by rw [e]) hno
            · rw [e]
          have HU14 := Lib.hid (HU13.out.trans hu14)
          have hs14 := HS13.out.upd hu14 (by simp)
          rw [show (64 - 2 - 12) = 50 from rfl, hyes] at hs14
          have HAL2 := Lib.hid (alike_yes hs14.rd (HSL13.out.upd hu14 (by simp)).rd (by rw [hl_length]; omega))
          clear hu14 hs14 hno hyes
          go_wp2_with fail
          refine HAL2.out.mono ?_
          rintro e w15 ⟨rfl, q15, hq15⟩
          have HU15 : Hid (Upd [] w w15) := by show Upd _ _ _; rw [hq15]; exact HU14.out.drewN _
          clear hq15
          go_wp2_with fail
          go_ret
          exact ⟨rfl, HU15.out⟩
    · have hl1 : decide ((k : Int) < (ts.length : Int)) = false := by simpa using hlt1
      have HP := Lib.hid (HR.out.pw.mono (m' := 100) (by omega) (Q' := fun t' H' => t' < 1000 ∧ (H' = H ∨ H' = H)) (fun t' H' q => ⟨by omega, .inl q.2⟩))
      have HSN := HS
      have HSL := HS
      have HUW := HU
      have HHN := HH
      have HHL := HH
      have HPW := Lib.hid (pw_hi HP.out (.slice az keep.length cz) keep (HK.out.lateS HUW.out (fun q hq => by have := HG.out; simp at hq; rcases hq with rfl | rfl | rfl; exact this.1; exact this.2.1; exact this.2.2)))
      go_wp2_with fail
      refine HPW.out.mono ?_
      rintro e w11 ⟨rfl, ⟨J11, D11, t11, H11, hd11, ht11, hQ⟩, hu11⟩
      obtain ⟨Dp, hdp, _⟩ := id HP.out
      have HU11 := Lib.hid (HUW.out.lateD hu11 HG.out)
      have HSN11 := Lib.hid (HSN.out.upd hu11 (fun q c hq e => hdp.notstr e hq))
      have HSL11 := Lib.hid (HSL.out.upd hu11 (fun q c hq e => hdp.notstr e hq))
      have HO11 := Lib.hid (open_hi hd11 (by omega) (by omega))
      have HD11 := Lib.hid hd11.disk
      have HLEN : Hid (∀ i, (H11 i).length = 512) := by
        show ∀ i, (H11 i).length = 512
        rcases hQ with rfl | rfl
        · exact HHN.out
        · exact HHL.out
      have HQ11 := Lib.hid hQ
      clear hd11 hu11 hQ hdp
      go_wp2_with fail
      refine HO11.out.mono ?_
      rintro e w12 ⟨jbK, abK, rfl, hK1, hK2, ⟨J12, D12, hr12, _⟩, hu12⟩
      have HJK : Hid (JG.Late ⟨jbK, abK, g⟩ w) := ⟨Nat.le_trans HU11.out.size hK1, Nat.le_trans HU11.out.size hK2, HG.out⟩
      have HU12 := Lib.hid (HU11.out.lateD hu12 HG.out)
      have HSN12 := Lib.hid (HSN11.out.upd hu12 (fun q c hq e => HD11.out.notstr e hq))
      have HSL12 := Lib.hid (HSL11.out.upd hu12 (fun q c hq e => HD11.out.notstr e hq))
      have HHO12 := Lib.hid (homesL_spec hr12 (by omega) HLEN.out)
      have HR12 := Lib.hid hr12
      clear hK1 hK2 hr12 hu12
      go_wp2_with fail
      refine HHO12.out.mono ?_
      rintro e w13 ⟨a13, c13, rfl, hs13, hr13, hu13⟩
      have HU13 := Lib.hid (HU12.out.lateR hu13 HJK.out)
      have HSN13 := Lib.hid (HSN12.out.jnB HR12.out.at_ hu13)
      have HSL13 := Lib.hid (HSL12.out.jnB HR12.out.at_ hu13)
      have HS13 := Lib.hid hs13
      have HAL := Lib.hid (alike_case hs13.rd HSN13.out.rd (by rw [hl_length]; omega) (by rw [hl_length]; omega))
      clear hs13 hr13 hu13
      go_wp2_with fail
      refine HAL.out.mono ?_
      rintro e w14 ⟨⟨rfl, _⟩ | ⟨rfl, hno⟩, hu14⟩
      · have HU14 := Lib.hid (HU13.out.trans hu14)
        clear hu14
        go_wp2_with fail
        go_ret
        exact ⟨rfl, HU14.out⟩
      · have hyes : hl H11 50 = hl H 50 := by
          rcases HQ11.out with e | e
          · exact absurd (by rw [e]) hno
          · rw [e]
        have HU14 := Lib.hid (HU13.out.trans hu14)
        have hs14 := HS13.out.upd hu14 (by simp)
        rw [show (64 - 2 - 12) = 50 from rfl, hyes] at hs14
        have HAL2 := Lib.hid (alike_yes hs14.rd (HSL13.out.upd hu14 (by simp)).rd (by rw [hl_length]; omega))
        clear hu14 hs14 hno hyes
        go_wp2_with fail
        refine HAL2.out.mono ?_
        rintro e w15 ⟨rfl, q15, hq15⟩
        have HU15 : Hid (Upd [] w w15) := by show Upd _ _ _; rw [hq15]; exact HU14.out.drewN _
        clear hq15
        go_wp2_with fail
        go_ret
        exact ⟨rfl, HU15.out⟩

end Go.Proofs.Ythbgidiblcokhaa
