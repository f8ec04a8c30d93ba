/-
  JournalFree answers true: the walk.
-/
import Derived.Test.YthbgidiblcokhaaLwH
namespace Go.Proofs.Ythbgidiblcokhaa
open Go.RowKit

def sl (f : Nat → Sec) (k : Nat) : List Put := (List.range k).map fun (i : Nat) => ((i : Int), f i)
theorem sl_succ (f : Nat → Sec) (k : Nat) : sl f (k + 1) = sl f k ++ [((k : Int), f k)] := by unfold sl; rw [List.range_succ, List.map_append]; rfl
theorem sl_length (f : Nat → Sec) (k : Nat) : (sl f k).length = k := by simp [sl]
theorem mem_sl {f : Nat → Sec} {n : Nat} {x : Int} : x ∈ ((sl f n).map (·.1)).reverse ↔ 0 ≤ x ∧ x < (n : Int) := by
  have : (sl f n).map (·.1) = (zl n).map (·.1) := by unfold sl zl; rw [List.map_map, List.map_map]; rfl
  rw [this]; exact mem_zl
theorem fits_sl {homes : Nat} {f : Nat → Sec} (hf : ∀ i, (f i).length = 512) : ∀ (k : Nat) (rest : List Put), k ≤ homes → fitsL homes [] (sl f k ++ rest) = fitsL homes ((sl f k).map (·.1)).reverse rest
  | 0, _, _ => rfl
  | k + 1, rest, hk => by
    rw [sl_succ, List.append_assoc, fits_sl hf k _ (by omega)]
    show fitsL homes _ (((k : Int), f k) :: rest) = _
    rw [fitsL_cons, if_neg (by rw [mem_sl]; omega), if_neg (by rw [hf]; simp), List.map_append, List.reverse_append]; rfl
theorem fitsR_sl {n ring k : Nat} {f : Nat → Sec} (hf : ∀ i, (f i).length = 512) (h1 : k ≤ n - 2 - ring) (h2 : k ≤ 40) (h3 : k < ring) : fitsR n ring (sl f k) = 0 := by
  have e := fits_sl (homes := n - 2 - ring) hf k [] h1
  rw [List.append_nil] at e
  have e2 : fitsL (n - 2 - ring) [] (sl f k) = 0 := by rw [e]; rfl
  unfold fitsR
  rw [e2, sl_length, if_neg (by simp), if_neg (by omega)]
theorem putsH_len : ∀ {l : List Put} {H : Nat → Sec}, (∀ i, (H i).length = 512) → (∀ p ∈ l, p.2.length = 512) → ∀ i, (putsH H l i).length = 512
  | [], _, hH, _, i => hH i
  | p :: l, H, hH, hl, i => by
    show (putsH (fun i => if i = p.1.toNat then p.2 else H i) l i).length = 512
    refine putsH_len (fun i => ?_) (fun q hq => hl q (by simp [hq])) i
    split
    · exact hl p (by simp)
    · exact hH i
theorem alike_yes {w : World} {v u : Value} {x : List (List UInt8)} (hx : RdL w [] v (x.map sv)) (hy : RdL w [] u (x.map sv)) (hlx : x.length ≤ 100000) :
    Calls Try.prog 24 #[v, u] w fun e w' => e = .returned (.bool true) ∧ ∃ n, w' = w.drewN n := by
  refine (alike_spec x x hx hy hlx hlx).mono ?_
  rintro e w' ⟨he, hn⟩
  exact ⟨by rw [he]; simp, hn⟩
theorem place_specI (k : Int) (ni : Int) (n : Nat) (w : World) (hni : ni = (n : Int)) (hn : 1 ≤ n) (hn2 : n ≤ 1000000) :
    Calls Try.prog 15 #[.int .i64 k, .int .i64 ni] w fun e w' => e = .returned (.int .i64 ((placeN k n : Nat) : Int)) ∧ w = w' := by
  subst hni; exact place_spec k n w hn hn2
/-- The law's list: b at the first k sectors. -/
def fz (b : List UInt8) (k : Nat) : List Pz := (List.range k).map fun (i : Nat) => ⟨(i : Int), b, false⟩
def fp (v : Value) (k : Nat) : List (Int × Value × Bool) := (List.range k).map fun (i : Nat) => ((i : Int), v, false)
theorem fp_succ (v : Value) (k : Nat) : fp v (k + 1) = fp v k ++ [((k : Int), v, false)] := by unfold fp; rw [List.range_succ, List.map_append]; rfl
theorem fz_put (b : List UInt8) (k : Nat) : (fz b k).map Pz.put = sl (fun _ => pad b) k := by unfold fz sl; rw [List.map_map]; rfl

set_option maxRecDepth 100000 in
set_option maxHeartbeats 2000000 in
theorem free6_spec (a0 a1 : Int) {v : Value} {b : List UInt8} (w : World) (hr : Rd w v b) : Calls Try.prog 9 #[.int .i64 a0, .int .i64 a1, v] w fun e w' => e = .returned (.bool true) ∧ Upd [] w w' := by
  obtain ⟨av, cv, rfl, hcv, _⟩ := id hr
  have HRB := Lib.hid hr
  clear hr
  by_cases hlen : 512 < b.length
  · have hd : decide (512 < (b.length : Int)) = true := by simp; omega
    go_enter Try.func9, Try.ntmps9
    go_wp2_with fail
    refine (begun6_spec w).mono ?_
    rintro e w1 ⟨rfl, hu1⟩
    have HU1 := Lib.hid hu1
    clear hu1
    go_wp2_with fail
    go_ret
    exact ⟨rfl, HU1.out⟩
  · have hd : decide (512 < (b.length : Int)) = false := by simp; omega
    have hbz := run_build_pz
    have hbv := run_build_pzv
    have hR := placeN_lt (k := a0) (n := 60) (by omega)
    have HPR := fun w => Lib.hid (place_spec a0 60 w (by omega) (by omega))
    generalize placeN a0 60 = pR at *
    obtain ⟨M, hM⟩ : ∃ M, M = min (7 + pR) 40 := ⟨_, rfl⟩
    have hN := placeN_lt (k := a1) (n := M) (by omega)
    have HPN := fun w => Lib.hid (place_specI a1 (min (8 + (pR : Int) - 1) 40) M w (by omega) (by omega) (by omega))
    generalize placeN a1 M = pN at *
    have hN2 : pN < 40 := by omega
    have hN3 : pN < 7 + pR := by omega
    clear hM hN
    go_enter Try.func9, Try.ntmps9
    go_wp2_with fail
    refine (begun6_spec w).mono ?_
    rintro e w1 ⟨rfl, hu1⟩
    have HU1 := Lib.hid hu1
    clear hu1
    go_wp2_with fail
    refine (HPR _).out.mono ?_
    rintro e w' ⟨rfl, rfl⟩
    go_wp2_with fail
    refine (HPN _).out.mono ?_
    rintro e w' ⟨rfl, rfl⟩
    go_wp2_with fail
    refine (new_hi 160 (by omega) (by omega) _).mono ?_
    rintro e w2 ⟨g, rfl, hd2, hg1, hg2, hg3, hu2⟩
    have HG : Hid (g.Late w) := ⟨Nat.le_trans HU1.out.size hg1, Nat.le_trans HU1.out.size hg2, Nat.le_trans HU1.out.size hg3⟩
    have HU2 := Lib.hid (HU1.out.trans hu2)
    have HF2 := Lib.hid (new_fmt_hiI hd2 (by omega) (by omega) (8 + (pR : Int)) (8 + pR) (by omega) (by omega) (by omega) (by omega))
    clear hd2 hg1 hg2 hg3 hu2
    go_wp2_with fail
    refine HF2.out.mono ?_
    rintro e w3 ⟨rfl, hd3, hu3⟩
    have HU3 := Lib.hid (HU2.out.lateD hu3 HG.out)
    have HO3 := Lib.hid (open_hi hd3 (by omega) (by omega))
    clear hd3 hu3
    go_wp2_with fail
    refine HO3.out.mono ?_
    rintro e w4 ⟨jb, ab, rfl, hj1, hj2, ⟨J, D, hr4, hus⟩, hu4⟩
    have HJ : Hid (JG.Late ⟨jb, ab, g⟩ w) := ⟨Nat.le_trans HU3.out.size hj1, Nat.le_trans HU3.out.size hj2, HG.out⟩
    have HU4 := Lib.hid (HU3.out.lateD hu4 HG.out)
    have HR4 := Lib.hid hr4
    have HUS := Lib.hid hus
    have HFR := Lib.hid (free_hi hr4 hus)
    clear hj1 hj2 hr4 hu4 hus
    go_wp2_with fail
    refine HFR.out.mono ?_
    rintro e w5 ⟨rfl, q5, hq5⟩
    have HU45 : Hid (Upd [] w4 w5) := by show Upd _ _ _; rw [hq5]; exact (Upd.refl _ _).drewN _
    clear hq5
    have hfr : ((((8 + pR : Nat) : Int) - ((0 : Nat) : Int)) != 8 + (pR : Int)) = false := by simp
    go_wp2_with fail
    go_loopw [11, 10] (fun i m wr => ∃ k : Nat, k ≤ 1 + pN ∧ i = .int .i64 (k : Int) ∧ PzB wr w4.heap.size m (fp (.slice av b.length cv) k) ∧ JrAt wr ⟨jb, ab, g⟩ J D 160 (8 + pR) 1 (1 + 1) (fun _ => zsec) ∧ Upd [] w4 wr) (fun i _ _ => 1 + pN - (intOf i).toNat)
    case atStart => exact ⟨0, by omega, rfl, ⟨by simp [fp, pzCells], .inl ⟨rfl, by simp [fp]⟩⟩, HR4.out.below HU45.out, HU45.out⟩
    case round =>
      obtain ⟨k, hk, rfl, hm, hr, hu⟩ := hrel
      by_cases hlt : k < 1 + pN
      · have hlt' : decide ((k : Int) < 1 + (pN : Int)) = true := by simp; omega
        obtain ⟨am, cm, rfl⟩ := hm.shape
        have hz := hu.size
        obtain ⟨a', b', c', w6, hrun, hm6, hk6, hu6, _⟩ := pz_push hm (by simp [fp]; omega) (by omega) hu (Nat.le_refl _) (k : Int) av b.length cv false
        rw [← fp_succ] at hm6
        have HR6 := Lib.hid (hr.keptT _ (by decide) (by decide) (by decide) (by decide) hk6)
        have HM6 := Lib.hid hm6
        have HU6 := Lib.hid hu6
        clear hm hr hu hm6 hk6 hu6
        go_wp2_with (at_builtin; refine wpList_append_run rfl _ _ _ rfl rfl rfl hrun ?_)
        exact ⟨⟨k + 1, by omega, by go_num, HM6.out, HR6.out, HU6.out⟩, by simp [intOf]; omega⟩
      · obtain rfl : k = 1 + pN := by omega
        have hlt' : decide (((1 + pN : Nat) : Int) < 1 + (pN : Int)) = false := by simp
        obtain ⟨am, cm, rfl⟩ := hm.shape
        have hpz : PzIn wr (.slice am (fp (.slice av b.length cv) (1 + pN)).length cm) (fz b (1 + pN)) := hm.pzIn (by simp [fp, fz]) (fun q hq p hp => by
          have hq' : q < 1 + pN := by simpa [fz] using hq
          have e1 : (fp (.slice av b.length cv) (1 + pN))[q]? = some ((q : Int), .slice av b.length cv, false) := by simp [fp, hq']
          rw [e1] at hp; cases hp
          have e2 : (fz b (1 + pN))[q] = ⟨(q : Int), b, false⟩ := by simp [fz]
          rw [e2]; exact ⟨rfl, HRB.out.below (HU4.out.trans hu), rfl⟩)
        have HLS := Lib.hid (list_spec _ _ wr hpz (by simp [fz]; omega) (fun p hp => by unfold fz at hp; obtain ⟨i, _, rfl⟩ := List.mem_map.1 hp; show b.length ≤ 10000; omega))
        have HR := Lib.hid hr
        have HU := Lib.hid (HU4.out.trans hu)
        clear hm hr hu hpz
        go_wp2_with fail
        refine HLS.out.mono ?_
        rintro e w7 ⟨a7, n7, c7, rfl, hp7, hu7⟩
        rw [fz_put] at hp7
        have HC := Lib.hid (com_hi (HR.out.below hu7) _ _ hp7.own.at (fitsR_sl (fun _ => pad_length _) (by omega) (by omega) (by omega)) (by intro q; have := congrArg List.length q; rw [sl_length] at this; simp at this) (by omega) (by omega))
        have HU7 := Lib.hid (HU.out.trans hu7)
        clear hp7 hu7
        go_wp2_with fail
        refine HC.out.mono ?_
        rintro e w8 ⟨rfl, ⟨J8, D8, hr8, hus8⟩, hu8⟩
        rw [sl_length] at hus8
        have hHl : ∀ i, (putsH (fun _ => zsec) (sl (fun _ => pad b) (1 + pN)) i).length = 512 := putsH_len (fun _ => zsec_length) (fun p hp => by unfold sl at hp; obtain ⟨i, _, rfl⟩ := List.mem_map.1 hp; exact pad_length _)
        have HHL := Lib.hid hHl
        generalize putsH (fun _ => zsec) (sl (fun _ => pad b) (1 + pN)) = H8 at *
        have HR8 := Lib.hid hr8
        have HFR8 := Lib.hid (free_hi hr8 (hus8 HUS.out))
        have HU8 := Lib.hid (HU7.out.lateJ hu8 HJ.out)
        clear hr8 hus8 hu8 hHl
        go_wp2_with fail
        refine HFR8.out.mono ?_
        rintro e w9 ⟨rfl, q9, hq9⟩
        have HU89 : Hid (Upd [] w8 w9) := by show Upd _ _ _; rw [hq9]; exact (Upd.refl _ _).drewN _
        clear hq9
        have HU9 := Lib.hid (HU8.out.trans HU89.out)
        have HHO := Lib.hid (homesL_spec (HR8.out.below HU89.out) (by omega) HHL.out)
        go_wp2_with fail
        refine HHO.out.mono ?_
        rintro e w10 ⟨a10, c10, rfl, hs10, hr10, hu10⟩
        have HS10 := Lib.hid hs10
        have HU10 := Lib.hid (HU9.out.lateR hu10 HJ.out)
        have HCK := Lib.hid (ck_hi hr10 (by omega) (by omega))
        have HR10 := Lib.hid hr10
        clear hs10 hr10 hu10
        go_wp2_with fail
        refine HCK.out.mono ?_
        rintro e w11 ⟨rfl, ⟨J11, D11, hr11, hus11, _⟩, hu11⟩
        have HS11 := Lib.hid (HS10.out.upd hu11 (fun q c hq e => HR10.out.at_.kind e (by decide) (by decide) (by decide) hq))
        have HU11 := Lib.hid (HU10.out.lateJ hu11 HJ.out)
        have HW11 := Lib.hid (writes_hi hr11)
        have HCK2 := Lib.hid (ck_hi hr11 (by omega) (by omega))
        have HR11 := Lib.hid hr11
        have HUS11 := Lib.hid hus11
        clear hr11 hu11 hus11
        go_wp2_with fail
        refine HW11.out.mono ?_
        rintro e w' ⟨rfl, rfl⟩
        go_wp2_with fail
        refine HCK2.out.mono ?_
        rintro e w12 ⟨rfl, ⟨J12, D12, hr12, hus12, hsame⟩, hu12⟩
        obtain rfl := hsame HUS11.out
        have HS12 := Lib.hid (HS11.out.upd hu12 (fun q c hq e => HR11.out.at_.kind e (by decide) (by decide) (by decide) hq))
        have HU12 := Lib.hid (HU11.out.lateJ hu12 HJ.out)
        have HR12 := Lib.hid hr12
        have HFR12 := Lib.hid (free_hi hr12 hus12)
        clear hr12 hus12 hu12
        have e1 : ((((8 + pR : Nat) : Int) - ((1 + (1 + pN) : Nat) : Int)) == 8 + (pR : Int) - (1 + (pN : Int)) - 1) = true := by rw [beq_iff_eq]; omega
        have e2 : ((((8 + pR : Nat) : Int) - ((0 : Nat) : Int)) == 8 + (pR : Int)) = true := by rw [beq_iff_eq]; omega
        go_wp2_with fail
        refine HFR12.out.mono ?_
        rintro e w13 ⟨rfl, q13, hq13⟩
        have HU13 : Hid (Upd [] w12 w13) := by show Upd _ _ _; rw [hq13]; exact (Upd.refl _ _).drewN _
        clear hq13
        have HHO2 := Lib.hid (homesL_spec (HR12.out.below HU13.out) (by omega) HHL.out)
        go_wp2_with fail
        refine HHO2.out.mono ?_
        rintro e w14 ⟨a14, c14, rfl, hs14, hr14, hu14⟩
        have HU14 := Lib.hid ((HU12.out.trans HU13.out).lateR hu14 HJ.out)
        have HS14 := Lib.hid ((HS12.out.upd HU13.out (by simp)).upd hu14 (fun q c hq e => by simp at hq; subst hq; exact (HR12.out.below HU13.out).at_.kind e (by decide) (by decide) (by decide) (by simp [JG.all])))
        have HAL := Lib.hid (alike_yes HS14.out.rd hs14.rd (by rw [hl_length]; omega))
        have HR14 := Lib.hid hr14
        clear hs14 hr14 hu14
        go_wp2_with fail
        refine HAL.out.mono ?_
        rintro e w15 ⟨rfl, q15, hq15⟩
        have HU15 : Hid (Upd [] w14 w15) := by show Upd _ _ _; rw [hq15]; exact (Upd.refl _ _).drewN _
        clear hq15
        have HW15 := Lib.hid (writes_hi (HR14.out.below HU15.out))
        have HWT := Lib.hid (waiting_hi (HR14.out.below HU15.out))
        have e3 : (D12.writes == D12.writes) = true := by simp
        go_wp2_with fail
        refine HW15.out.mono ?_
        rintro e w' ⟨rfl, rfl⟩
        go_wp2_with fail
        refine HWT.out.mono ?_
        rintro e w16 ⟨a16, c16, rfl, hu16⟩
        have HU16 := Lib.hid ((HU14.out.trans HU15.out).trans hu16)
        clear hu16
        go_wp2_with fail
        go_ret
        exact ⟨rfl, HU16.out⟩

end Go.Proofs.Ythbgidiblcokhaa
