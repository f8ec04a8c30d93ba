/-
  A node is written.
-/
import Derived.Test.YtceakcejchbbjaaGreatTrC
namespace Go.Proofs.YtceakcejchbbjaaGreat
open Go.RowKit Go.MapKept Go.ChangeMaps

attribute [-go_sem] loadCells
theorem bts_oneA (l : List UInt8) : (bts l).toArray.all (·.oneCell') = true := all_oneCell_toArray (bts_one l)
/-- A fresh array is written whole. -/
theorem store32_run (w : World) {l : List UInt8} (hl : l.length = 32) : (storeCells ⟨w.heap.size, 0, none⟩ (bts l) 0).run Tryz.prog (w.alloc (.cells #[.int .u8 0, .int .u8 0, .int .u8 0, .int .u8 0, .int .u8 0, .int .u8 0, .int .u8 0, .int .u8 0, .int .u8 0, .int .u8 0, .int .u8 0, .int .u8 0, .int .u8 0, .int .u8 0, .int .u8 0, .int .u8 0, .int .u8 0, .int .u8 0, .int .u8 0, .int .u8 0, .int .u8 0, .int .u8 0, .int .u8 0, .int .u8 0, .int .u8 0, .int .u8 0, .int .u8 0, .int .u8 0, .int .u8 0, .int .u8 0, .int .u8 0, .int .u8 0] 35)) = .ok () (w.alloc (.cells (bts l).toArray 35)) := by
  have := run_storeCells_from (P := Tryz.prog) w.heap.size 35 (bts l) 0 #[.int .u8 0, .int .u8 0, .int .u8 0, .int .u8 0, .int .u8 0, .int .u8 0, .int .u8 0, .int .u8 0, .int .u8 0, .int .u8 0, .int .u8 0, .int .u8 0, .int .u8 0, .int .u8 0, .int .u8 0, .int .u8 0, .int .u8 0, .int .u8 0, .int .u8 0, .int .u8 0, .int .u8 0, .int .u8 0, .int .u8 0, .int .u8 0, .int .u8 0, .int .u8 0, .int .u8 0, .int .u8 0, .int .u8 0, .int .u8 0, .int .u8 0, .int .u8 0] _ (blk_alloc _) (by rw [bts_length, hl]; rfl) (bts_one l)
  rw [this, setRow_alloc]
  congr 3
theorem cp_run {W : World} {kb I N C n : Nat} {l x : List UInt8} {v : Value} (hb : W.heap[kb]? = some (.cells (bts l).toArray 5 (0, 0))) (hr : Rd W v x) (hI : I + N ≤ l.length) (hx : x.length ≤ N) (hn : n = x.length) :
    ∃ W9, (∀ ty, (Builtin.copy_ #[37, 37] ty #[.slice (some ⟨kb, I, none⟩) N C, v]).run Tryz.prog W = .ok (.int .i64 (n : Int)) W9) ∧ W9.heap[kb]? = some (.cells (bts (over l I x)).toArray 5 (0, 0)) ∧ Upd [kb] W W9 := by
  have hrun := fun ty => run_copy_rd (P := Tryz.prog) (dT := 37) (sT := 37) (ty := ty) (u8 := 5) Tryz.underlying37 sizeU8 kb I N C (bts l) hb (by rw [bts_length]; omega) hr
  rw [Nat.min_eq_left hx, List.take_of_length_le hx, ← hn] at hrun
  refine ⟨_, hrun, ?_, ?_⟩
  · rw [setRow_heap _ _ _ _ _ _ hb]
    congr 2
    unfold over splice
    simp [bts, List.map_drop, List.map_take]
  · exact ⟨rfl, rfl, rfl, by simp, fun q _ hq => by rw [setRow_other _ _ _ _ (by simpa using hq)]⟩
def putS (M : Nat → Option Sec) (i : Nat) (s : Sec) : Nat → Option Sec := fun k => if k = i then some s else M k
theorem range_rd {w : World} {b o n : Nat} {l : List UInt8} (h : w.rangeAt b o (bts l)) (hl : l.length = n) : Rd w (.slice (some ⟨b, o, none⟩) n n) l := by
  subst hl
  refine ⟨_, _, rfl, Nat.le_refl _, fun hp => ⟨b, o, rfl, fun i hi => h i _ ?_⟩⟩
  simp [bts, hi]

/-- A slice of numbers reads as ds. -/
def KRd (w : World) (v : Value) (ds : List Nat) : Prop :=
  ∃ ao cap, v = .slice ao ds.length cap ∧ ds.length ≤ cap ∧ (0 < ds.length → ∃ b off, ao = some ⟨b, off, none⟩ ∧ ∀ (i d : Nat), ds[i]? = some d → w.cell? ⟨b, off + i, none⟩ = some (.int .u32 (d : Int)))
theorem KRd.keep {w w' : World} {v : Value} {ds : List Nat} (h : KRd w v ds) {S : List Nat} (hu : Upd S w w') (hS : ∀ a l c, v = .slice (some a) l c → a.block ∉ S) : KRd w' v ds := by
  obtain ⟨ao, cap, rfl, hc, hh⟩ := h
  refine ⟨ao, cap, rfl, hc, fun hp => ?_⟩
  obtain ⟨b, off, rfl, hr⟩ := hh hp
  exact ⟨b, off, rfl, fun i e he => cell_upd (hr i e he) hu (hS ⟨b, off, none⟩ _ _ rfl)⟩
theorem KRd.shape {w : World} {v : Value} {ds : List Nat} (h : KRd w v ds) : ∃ a c, v = .slice a ds.length c := by
  obtain ⟨ao, cap, rfl, _⟩ := h; exact ⟨_, _, rfl⟩
theorem op_cells9 {w : World} {b : Nat} {x0 x1 x2 x3 : Value} {T : TypeId} {fr : Nat × Nat} (h : w.heap[b]? = some (.cells #[x0, x1, x2, x3] T fr)) : w.cell? ⟨b, 0, none⟩ = some x0 ∧ w.cell? ⟨b, 1, none⟩ = some x1 ∧ w.cell? ⟨b, 2, none⟩ = some x2 ∧ w.cell? ⟨b, 3, none⟩ = some x3 := by
  refine ⟨?_, ?_, ?_, ?_⟩ <;> (rw [blk_cell h]; rfl)
set_option maxRecDepth 100000 in
set_option maxHeartbeats 2000000 in
theorem write_leaf {w : World} {g : Sg} {M : Nat → Option Sec} (h : SpAt w g M) {vk vv vd : Value} {ks vs : List Bs} (hk : RRd w vk 32 (ks.map bts)) (hv : RRd w vv 16 (vs.map bts)) (hok : LeafOk ks vs) (at_ : Nat) (hat : at_ < g.h) (hat2 : at_ < 4294967296) (hc : (M at_).isSome = true ∨ cntM M g.h < 40) :
    Calls Tryz.prog 72 #[.agg #[.int .i64 1, vk, vv, vd], .pointer (some ⟨g.x.tb, 0, none⟩), .int .u32 (at_ : Int)] w fun e w' => e = .returned (.int .i64 0) ∧ SpAt w' g (putS M at_ (encLeaf ks vs)) ∧ Upd [g.x.wb] w w' := by
  obtain ⟨ak, ck, rfl⟩ := hk.shape
  obtain ⟨av, cv, rfl⟩ := hv.shape
  simp only [List.length_map] at hk hv ⊢
  have hmk := run_make_512
  obtain ⟨wA, hwA⟩ : ∃ wA, wA = (w.alloc (.cells #[.int .i64 1, .slice ak ks.length ck, .slice av vs.length cv, vd] 145)).alloc (.cells (bts zsec).toArray 5) := ⟨_, rfl⟩
  have hu : Upd [] w wA := by rw [hwA]; exact ((Upd.refl _ _).alloc _).alloc _
  obtain ⟨b3, hb3⟩ : ∃ b, b = w.heap.size := ⟨_, rfl⟩
  obtain ⟨kb, hkb⟩ : ∃ b, b = w.heap.size + 1 := ⟨_, rfl⟩
  have h1 : wA.heap[b3]? = some (.cells #[.int .i64 1, .slice ak ks.length ck, .slice av vs.length cv, vd] 145 (0, 0)) := by
    rw [hwA, hb3, blk_alloc_ne (by simp)]; exact blk_alloc _
  have h2 : wA.heap[kb]? = some (.cells (bts zsec).toArray 5 (0, 0)) := by
    rw [hwA, hkb]; have := blk_alloc (w := w.alloc (.cells #[.int .i64 1, .slice ak ks.length ck, .slice av vs.length cv, vd] 145)) (.cells (bts zsec).toArray 5); simpa using this
  have hw1 : (w.alloc (.cells #[.int .i64 1, .slice ak ks.length ck, .slice av vs.length cv, vd] 145)).heap.size = kb := by rw [hkb]; simp
  have HW := Lib.hid hwA
  have HB3 := Lib.hid hb3
  have HKB := Lib.hid hkb
  have HH := Lib.hid h
  have HK := Lib.hid hk
  have HV := Lib.hid hv
  have HOK := Lib.hid hok
  have HC := Lib.hid hc
  have HU := Lib.hid hu
  have H1 := Lib.hid h1
  have H2 := Lib.hid h2
  have hn := hok.most
  clear h hk hv hok hc hu h1 h2 hwA hb3 hkb
  go_enter Tryz.func72, Tryz.ntmps72
  go_upto_region 2 with (fail)
  have hwA := HW.out
  have hb3 := HB3.out
  have hkb := HKB.out
  try rw [← hwA]
  try rw [← hkb]
  try rw [← hb3]
  clear hwA hkb hb3 hmk hw1
  have n0 : wA.cell? ⟨b3, 0, none⟩ = some (.int .i64 1) := by rw [blk_cell H1.out]; rfl
  have n1 : wA.cell? ⟨b3, 1, none⟩ = some (.slice ak ks.length ck) := by rw [blk_cell H1.out]; rfl
  obtain ⟨z0, f0⟩ := blk_u8 H2.out (i := 0) (by rw [zsec_length]; omega)
  obtain ⟨z1, f1⟩ := blk_u8 H2.out (i := 1) (by rw [zsec_length]; omega)
  have hwn : IntKind.u8.wrap (ks.length : Int) = (ks.length : Int) := by rw [IntKind.wrap_u8]; omega
  have hne : b3 ≠ kb := by have := HB3.out; have := HKB.out; omega
  go_cut [] (fun wy => wy.heap[kb]? = some (.cells (bts (hdN 1 ks.length)).toArray 5 (0, 0)) ∧ Upd [kb] wA wy)
  case first =>
    go_region
    all_goals
      go_wp2_with fail
      go_meet
      have o2 := blk_set_u8 (blk_set_u8 H2.out 0 (y := 1) (by omega)) 1 (y := ks.length) (by omega)
      exact ⟨o2, (((Upd.refl _ _).set _ (.inl (by simp))).set _ (.inl (by simp))).drew⟩
  case rest =>
    rename World => wy
    obtain ⟨hy, huy⟩ := hcut
    have m0 := cell_upd n0 huy (by simpa using hne)
    have m1 := cell_upd n1 huy (by simpa using hne)
    have HY := Lib.hid hy
    have HUY := Lib.hid huy
    have hkw : w.heap.size ≤ kb := by have := HKB.out; omega
    clear hy huy n0 n1 z0 f0 z1 f1 hwn
    go_wp2_with fail
    go_loopw [34] (fun i wr => ∃ q : Nat, q ≤ ks.length ∧ i = .int .i64 (q : Int) ∧ wr.heap[kb]? = some (.cells (bts (leafK ks vs q)).toArray 5 (0, 0)) ∧ Upd [kb] wA wr) (fun i _ => ks.length - (intOf i).toNat)
    case atStart => exact ⟨0, Nat.zero_le _, rfl, HY.out, HUY.out⟩
    case round =>
      obtain ⟨q, hq, rfl, hb, hu⟩ := hrel
      have hB3 := (hu.block _ (blk_lt H1.out) (by simpa using hne)).trans H1.out
      have huw := HU.out.late hu (fun k hk => by simp at hk; subst hk; exact .inr hkw)
      have HB := Lib.hid hb
      have HUr := Lib.hid hu
      have HUw := Lib.hid huw
      have HB3r := Lib.hid hB3
      clear hb hu huw hB3 m0 m1
      by_cases hlt : q < ks.length
      · have hlt' : decide ((q : Int) < (ks.length : Int)) = true := decide_eq_true (by omega)
        have hlt2 : decide (q < ks.length) = true := decide_eq_true hlt
        obtain ⟨n0, n1, n2, -⟩ := op_cells9 HB3r.out
        obtain ⟨ao, cap, he, _, hh⟩ := HK.out
        simp only [List.length_map] at he hh
        cases he
        obtain ⟨bk, off, rfl, hr⟩ := hh (by omega)
        have hkq : ks[q]? = some ks[q] := List.getElem?_eq_getElem hlt
        have rk := range_upd (hr q (bts ks[q]) (by rw [List.getElem?_map, hkq]; rfl)) HUw.out (by simp)
        clear hh hr
        obtain ⟨ao, cap, he, _, hh⟩ := HV.out
        simp only [List.length_map] at he hh
        cases he
        have hnv := HOK.out.n
        obtain ⟨bvv, offv, rfl, hr⟩ := hh (by omega)
        have hvq : vs[q]? = some vs[q] := List.getElem?_eq_getElem (by omega)
        have rv := hr q (bts vs[q]) (by rw [List.getElem?_map, hvq]; rfl)
        have hlk := HOK.out.k _ (List.getElem_mem hlt)
        have hlv := HOK.out.v _ (List.getElem_mem (show q < vs.length by omega))
        have hgk : ks.getD q [] = ks[q] := by rw [List.getD_eq_getElem?_getD, hkq]; rfl
        have hgv : vs.getD q [] = vs[q] := by rw [List.getD_eq_getElem?_getD, hvq]; rfl
        clear hh hr
        generalize ks[q] = kq at *
        generalize vs[q] = vq at *
        have hll := leafK_length HOK.out (k := q) (by omega)
        obtain ⟨I1, hI1⟩ : ∃ I, I = 8 + 48 * q := ⟨_, rfl⟩
        obtain ⟨I2, hI2⟩ : ∃ I, I = I1 + 32 := ⟨_, rfl⟩
        have hi1 : 8 + 48 * (q : Int) = (I1 : Int) := by omega
        have hi2 : (I1 : Int) + 32 = (I2 : Int) := by omega
        have hi3 : I2 ≤ 512 := by omega
        obtain ⟨wB, hwB⟩ : ∃ wB, wB = wr.alloc (.cells (bts kq).toArray 35) := ⟨_, rfl⟩
        obtain ⟨b9, hb9⟩ : ∃ b, b = wr.heap.size := ⟨_, rfl⟩
        have uB : Upd [kb] wr wB := by rw [hwB]; exact (Upd.refl _ _).alloc _
        have hbB : wB.drew.heap[kb]? = some (.cells (bts (leafK ks vs q)).toArray 5 (0, 0)) := by
          show wB.heap[kb]? = _
          rw [hwB, blk_alloc_ne (blk_lt HB.out)]; exact HB.out
        have hb9B : wB.drew.heap[b9]? = some (.cells (bts kq).toArray 35 (0, 0)) := by
          show wB.heap[b9]? = _
          rw [hwB, hb9]; exact blk_alloc _
        obtain ⟨w9, hrun9, h9, hu9⟩ := cp_run (I := I1) (N := 512 - I1) (C := 512 - I1) (n := 32) hbB (rd_arr hb9B hlk) (by omega) (by omega) hlk.symm
        have hld := run_cells32 rk hlk
        have HWB := Lib.hid hwB
        have HB9 := Lib.hid hb9
        have HU9 := Lib.hid hu9
        have H9 := Lib.hid h9
        have HGK := Lib.hid hgk
        have HGV := Lib.hid hgv
        have HI1 := Lib.hid hI1
        have HI2 := Lib.hid hI2
        have i0 : (0 : Int) ≤ (q : Int) := by omega
        have i1 : (q : Int) < (ks.length : Int) := by omega
        have j0 : (0 : Int) ≤ (I1 : Int) := by omega
        have j1 : (I1 : Int) ≤ 512 := by omega
        have UB := Lib.hid uB
        have RV := Lib.hid rv
        clear hwB hb9 hu9 h9 hgk hgv hI1 hI2 uB rv hbB hb9B
        have hst := store32_run wr hlk
        have n0' : (wr.alloc (.cells (bts kq).toArray 35)).cell? ⟨b3, 0, none⟩ = some (.int .i64 1) := cell_upd n0 ((Upd.refl [] _).alloc _) (by simp)
        go_wp2_with fail
        have hwB := HWB.out
        have hb9 := HB9.out
        rw [← hwB, ← hb9]
        clear hwB hb9
        go_region
        all_goals
          have u9 := ((HUr.out.trans UB.out).drew).trans HU9.out
          have m2 : w9.cell? ⟨b3, 2, none⟩ = some (.slice (some ⟨bvv, offv, none⟩) vs.length cv) := by
            rw [blk_cell ((u9.block _ (blk_lt H1.out) (by simpa using hne)).trans H1.out)]; rfl
          have hb9d : w9.drew.heap[kb]? = some (.cells (bts (over (leafK ks vs q) I1 kq)).toArray 5 (0, 0)) := H9.out
          have rv9 : w9.drew.rangeAt bvv (offv + q * 16) (bts vq) := range_upd RV.out (HU.out.late u9 (fun k hk => by simp at hk; subst hk; exact .inr hkw)).drew (by simp)
          have hI2 := HI2.out
          obtain ⟨w10, hrun10, h10, hu10⟩ := cp_run (I := I2) (N := 512 - I2) (C := 512 - I2) (n := 16) hb9d (range_rd rv9 hlv) (by rw [over_len (by omega)]; omega) (by omega) hlv.symm
          have HU10 := Lib.hid (u9.drew.trans hu10)
          have H10 := Lib.hid h10
          have j2 : (0 : Int) ≤ (I2 : Int) := by omega
          have j3 : (I2 : Int) ≤ 512 := by omega
          have i3 : (q : Int) < (vs.length : Int) := by have := HOK.out.n; omega
          clear u9 hb9d rv9 h10 hu10 hrun9 hI2
          go_wp2_with fail
          go_region
          all_goals
            go_wp2_with fail
            refine ⟨⟨q + 1, by omega, by go_num, ?_, HU10.out⟩, by simp [intOf]; omega⟩
            show w10.heap[kb]? = some (.cells (bts (over (over (leafK ks vs q) (8 + 48 * q) (ks.getD q [])) (8 + 48 * q + 32) (vs.getD q []))).toArray 5 (0, 0))
            rw [HGK.out, HGV.out, ← HI1.out, ← HI2.out]
            exact H10.out
      · obtain rfl : q = ks.length := by omega
        have hlt' : decide ((ks.length : Int) < (ks.length : Int)) = false := by simp
        have hll := leafK_length HOK.out (k := ks.length) (Nat.le_refl _)
        have HWR := Lib.hid (writeS (HH.out.below HUw.out) at_ hat (.slice (some ⟨kb, 0, none⟩) 512 512) (encLeaf ks vs) (rd_of_block HB.out hll) hll HC.out)
        clear hll
        go_wp2_with fail
        refine HWR.out.mono ?_
        rintro e w' ⟨rfl, h', hu'⟩
        have H' := Lib.hid h'
        have HU' := Lib.hid ((HUw.out.mono (by simp)).trans hu')
        clear h' hu'
        go_wp2_with fail
        go_ret
        exact ⟨rfl, H'.out, HU'.out⟩

set_option maxRecDepth 100000 in
set_option maxHeartbeats 2000000 in
theorem write_inner {w : World} {g : Sg} {M : Nat → Option Sec} (h : SpAt w g M) {vk vv vd : Value} {ks : List Bs} {ds : List Nat} (hk : RRd w vk 32 (ks.map bts)) (hv : KRd w vd ds) (hok : InnerOk ks ds) (at_ : Nat) (hat : at_ < g.h) (hat2 : at_ < 4294967296) (hc : (M at_).isSome = true ∨ cntM M g.h < 40) :
    Calls Tryz.prog 72 #[.agg #[.int .i64 2, vk, vv, vd], .pointer (some ⟨g.x.tb, 0, none⟩), .int .u32 (at_ : Int)] w fun e w' => e = .returned (.int .i64 0) ∧ SpAt w' g (putS M at_ (encInner ks ds)) ∧ Upd [g.x.wb] w w' := by
  obtain ⟨ak, ck, rfl⟩ := hk.shape
  obtain ⟨av, cv, rfl⟩ := hv.shape
  simp only [List.length_map] at hk ⊢
  have hmk := run_make_512
  obtain ⟨wA, hwA⟩ : ∃ wA, wA = (w.alloc (.cells #[.int .i64 2, .slice ak ks.length ck, vv, .slice av ds.length cv] 145)).alloc (.cells (bts zsec).toArray 5) := ⟨_, rfl⟩
  have hu : Upd [] w wA := by rw [hwA]; exact ((Upd.refl _ _).alloc _).alloc _
  obtain ⟨b3, hb3⟩ : ∃ b, b = w.heap.size := ⟨_, rfl⟩
  obtain ⟨kb, hkb⟩ : ∃ b, b = w.heap.size + 1 := ⟨_, rfl⟩
  have h1 : wA.heap[b3]? = some (.cells #[.int .i64 2, .slice ak ks.length ck, vv, .slice av ds.length cv] 145 (0, 0)) := by
    rw [hwA, hb3, blk_alloc_ne (by simp)]; exact blk_alloc _
  have h2 : wA.heap[kb]? = some (.cells (bts zsec).toArray 5 (0, 0)) := by
    rw [hwA, hkb]; have := blk_alloc (w := w.alloc (.cells #[.int .i64 2, .slice ak ks.length ck, vv, .slice av ds.length cv] 145)) (.cells (bts zsec).toArray 5); simpa using this
  have hw1 : (w.alloc (.cells #[.int .i64 2, .slice ak ks.length ck, vv, .slice av ds.length cv] 145)).heap.size = kb := by rw [hkb]; simp
  have HW := Lib.hid hwA
  have HB3 := Lib.hid hb3
  have HKB := Lib.hid hkb
  have HH := Lib.hid h
  have HK := Lib.hid hk
  have HV := Lib.hid hv
  have HOK := Lib.hid hok
  have HC := Lib.hid hc
  have HU := Lib.hid hu
  have H1 := Lib.hid h1
  have H2 := Lib.hid h2
  have hn := hok.most
  clear h hk hv hok hc hu h1 h2 hwA hb3 hkb
  go_enter Tryz.func72, Tryz.ntmps72
  go_upto_region 2 with (fail)
  have hwA := HW.out
  have hb3 := HB3.out
  have hkb := HKB.out
  try rw [← hwA]
  try rw [← hkb]
  try rw [← hb3]
  clear hwA hkb hb3 hmk hw1
  have n0 : wA.cell? ⟨b3, 0, none⟩ = some (.int .i64 2) := by rw [blk_cell H1.out]; rfl
  have n1 : wA.cell? ⟨b3, 1, none⟩ = some (.slice ak ks.length ck) := by rw [blk_cell H1.out]; rfl
  obtain ⟨z0, f0⟩ := blk_u8 H2.out (i := 0) (by rw [zsec_length]; omega)
  obtain ⟨z1, f1⟩ := blk_u8 H2.out (i := 1) (by rw [zsec_length]; omega)
  have hwn : IntKind.u8.wrap (ks.length : Int) = (ks.length : Int) := by rw [IntKind.wrap_u8]; omega
  have hne : b3 ≠ kb := by have := HB3.out; have := HKB.out; omega
  go_cut [] (fun wy => wy.heap[kb]? = some (.cells (bts (hdN 2 ks.length)).toArray 5 (0, 0)) ∧ Upd [kb] wA wy)
  case first =>
    go_region
    all_goals
      go_wp2_with fail
      go_meet
      have o2 := blk_set_u8 (blk_set_u8 H2.out 0 (y := 2) (by omega)) 1 (y := ks.length) (by omega)
      exact ⟨o2, (((Upd.refl _ _).set _ (.inl (by simp))).set _ (.inl (by simp))).drew⟩
  case rest =>
    rename World => wy
    obtain ⟨hy, huy⟩ := hcut
    have m0 := cell_upd n0 huy (by simpa using hne)
    have m1 := cell_upd n1 huy (by simpa using hne)
    have hkw : w.heap.size ≤ kb := by have := HKB.out; omega
    have m3 : wy.cell? ⟨b3, 3, none⟩ = some (.slice av ds.length cv) := by rw [blk_cell ((huy.block _ (blk_lt H1.out) (by simpa using hne)).trans H1.out)]; rfl
    obtain ⟨ao, cap, he, _, hh⟩ := HV.out
    cases he
    have hnd := HOK.out.n
    obtain ⟨bd, offd, rfl, hr⟩ := hh (by omega)
    obtain ⟨d0, hd0⟩ : ∃ d, ds[0]? = some d := ⟨_, List.getElem?_eq_getElem (by omega)⟩
    have hgd : ds.getD 0 0 = d0 := by rw [List.getD_eq_getElem?_getD, hd0]; rfl
    have k0 := cell_upd (hr 0 d0 hd0) (HU.out.late huy (fun k hk => by simp at hk; subst hk; exact .inr hkw)) (by simp)
    rw [Nat.add_zero] at k0
    have HRD : Hid (∀ (i d : Nat), ds[i]? = some d → w.cell? ⟨bd, offd + i, none⟩ = some (.int .u32 (d : Int))) := by show ∀ (i d : Nat), _; exact hr
    have HLAY := Lib.hid (lay_spec9 hy (hdN_length _ _) 512 8 8 rfl (by omega) d0)
    have i9 : (0 : Int) < (ds.length : Int) := by omega
    have HGD := Lib.hid hgd
    have HUY := Lib.hid huy
    clear hy huy n0 n1 z0 f0 z1 f1 hwn hnd hh hr hd0 hgd
    go_wp2_with fail
    refine HLAY.out.mono ?_
    rintro e wz ⟨rfl, hz, huz⟩
    have HZ : Hid (wz.heap[kb]? = some (.cells (bts (innerK ks ds 0)).toArray 5 (0, 0))) := by
      show wz.heap[kb]? = some (.cells (bts (put (hdN 2 ks.length) 8 4 (ds.getD 0 0))).toArray 5 (0, 0))
      rw [HGD.out]; exact hz
    have m0' := cell_upd m0 huz (by simpa using hne)
    have m1' := cell_upd m1 huz (by simpa using hne)
    have HUZ := Lib.hid (HUY.out.trans huz)
    clear hz huz m0 m1 m3 k0
    go_wp2_with fail
    go_loopw [34] (fun i wr => ∃ q : Nat, q ≤ ks.length ∧ i = .int .i64 (q : Int) ∧ wr.heap[kb]? = some (.cells (bts (innerK ks ds q)).toArray 5 (0, 0)) ∧ Upd [kb] wA wr) (fun i _ => ks.length - (intOf i).toNat)
    case atStart => exact ⟨0, Nat.zero_le _, rfl, HZ.out, HUZ.out⟩
    case round =>
      obtain ⟨q, hq, rfl, hb, hu⟩ := hrel
      have hB3 := (hu.block _ (blk_lt H1.out) (by simpa using hne)).trans H1.out
      have huw := HU.out.late hu (fun k hk => by simp at hk; subst hk; exact .inr hkw)
      have HB := Lib.hid hb
      have HUr := Lib.hid hu
      have HUw := Lib.hid huw
      have HB3r := Lib.hid hB3
      clear hb hu huw hB3 m0' m1'
      by_cases hlt : q < ks.length
      · have hlt' : decide ((q : Int) < (ks.length : Int)) = true := decide_eq_true (by omega)
        have hlt2 : decide (q < ks.length) = true := decide_eq_true hlt
        obtain ⟨n0, n1, -, n3⟩ := op_cells9 HB3r.out
        obtain ⟨ao, cap, he, _, hh⟩ := HK.out
        simp only [List.length_map] at he hh
        cases he
        obtain ⟨bk, off, rfl, hr⟩ := hh (by omega)
        have hkq : ks[q]? = some ks[q] := List.getElem?_eq_getElem hlt
        have rk := range_upd (hr q (bts ks[q]) (by rw [List.getElem?_map, hkq]; rfl)) HUw.out (by simp)
        clear hh hr
        have hnd := HOK.out.n
        obtain ⟨dq, hdq⟩ : ∃ d, ds[q + 1]? = some d := ⟨_, List.getElem?_eq_getElem (by omega)⟩
        have kd := HRD.out _ _ hdq
        have hgv : ds.getD (q + 1) 0 = dq := by rw [List.getD_eq_getElem?_getD, hdq]; rfl
        have hlk := HOK.out.k _ (List.getElem_mem hlt)
        have hgk : ks.getD q [] = ks[q] := by rw [List.getD_eq_getElem?_getD, hkq]; rfl
        clear hdq hnd
        generalize ks[q] = kq at *
        have hll := innerK_length HOK.out (k := q) (by omega)
        obtain ⟨I1, hI1⟩ : ∃ I, I = 12 + 36 * q := ⟨_, rfl⟩
        obtain ⟨I2, hI2⟩ : ∃ I, I = I1 + 32 := ⟨_, rfl⟩
        have hi1 : 12 + 36 * (q : Int) = (I1 : Int) := by omega
        have hi2 : (I1 : Int) + 32 = (I2 : Int) := by omega
        have hi3 : I2 + 4 ≤ 512 := by omega
        obtain ⟨wB, hwB⟩ : ∃ wB, wB = wr.alloc (.cells (bts kq).toArray 35) := ⟨_, rfl⟩
        obtain ⟨b9, hb9⟩ : ∃ b, b = wr.heap.size := ⟨_, rfl⟩
        have uB : Upd [kb] wr wB := by rw [hwB]; exact (Upd.refl _ _).alloc _
        have hbB : wB.drew.heap[kb]? = some (.cells (bts (innerK ks ds q)).toArray 5 (0, 0)) := by
          show wB.heap[kb]? = _
          rw [hwB, blk_alloc_ne (blk_lt HB.out)]; exact HB.out
        have hb9B : wB.drew.heap[b9]? = some (.cells (bts kq).toArray 35 (0, 0)) := by
          show wB.heap[b9]? = _
          rw [hwB, hb9]; exact blk_alloc _
        obtain ⟨w9, hrun9, h9, hu9⟩ := cp_run (I := I1) (N := 512 - I1) (C := 512 - I1) (n := 32) hbB (rd_arr hb9B hlk) (by omega) (by omega) hlk.symm
        have hld := run_cells32 rk hlk
        have HWB := Lib.hid hwB
        have HB9 := Lib.hid hb9
        have HU9 := Lib.hid hu9
        have H9 := Lib.hid h9
        have HGK := Lib.hid hgk
        have HGV := Lib.hid hgv
        have HI1 := Lib.hid hI1
        have HI2 := Lib.hid hI2
        have i0 : (0 : Int) ≤ (q : Int) := by omega
        have i1 : (q : Int) < (ks.length : Int) := by omega
        have j0 : (0 : Int) ≤ (I1 : Int) := by omega
        have j1 : (I1 : Int) ≤ 512 := by omega
        have UB := Lib.hid uB
        have KD := Lib.hid kd
        clear hwB hb9 hu9 h9 hgk hgv hI1 hI2 uB kd hbB hb9B
        have hst := store32_run wr hlk
        have n0' : (wr.alloc (.cells (bts kq).toArray 35)).cell? ⟨b3, 0, none⟩ = some (.int .i64 2) := cell_upd n0 ((Upd.refl [] _).alloc _) (by simp)
        go_wp2_with fail
        have hwB := HWB.out
        have hb9 := HB9.out
        rw [← hwB, ← hb9]
        clear hwB hb9
        go_region
        all_goals
          have u9 := ((HUr.out.trans UB.out).drew).trans HU9.out
          have m3 : w9.cell? ⟨b3, 3, none⟩ = some (.slice (some ⟨bd, offd, none⟩) ds.length cv) := by
            rw [blk_cell ((u9.block _ (blk_lt H1.out) (by simpa using hne)).trans H1.out)]; rfl
          have kd9 : w9.cell? ⟨bd, offd + (q + 1), none⟩ = some (.int .u32 (dq : Int)) := cell_upd KD.out (HU.out.late u9 (fun k hk => by simp at hk; subst hk; exact .inr hkw)) (by simp)
          have hI2 := HI2.out
          have HL9 := Lib.hid (lay_spec9 H9.out (by rw [over_len (by omega)]; exact hll) 512 I2 (I2 : Int) rfl (by omega) dq)
          have HU9A := Lib.hid u9
          have i3 : (q : Int) + 1 < (ds.length : Int) := by have := HOK.out.n; omega
          have i4 : (0 : Int) ≤ (q : Int) + 1 := by omega
          clear u9 hrun9 hI2
          go_wp2_with fail
          refine HL9.out.mono ?_
          rintro e w10 ⟨rfl, h10, hu10⟩
          have H10 := Lib.hid h10
          have HU10 := Lib.hid (HU9A.out.trans hu10)
          clear h10 hu10
          go_wp2_with fail
          refine ⟨⟨q + 1, by omega, by go_num, ?_, HU10.out⟩, by simp [intOf]; omega⟩
          show w10.heap[kb]? = some (.cells (bts (put (over (innerK ks ds q) (12 + 36 * q) (ks.getD q [])) (12 + 36 * q + 32) 4 (ds.getD (q + 1) 0))).toArray 5 (0, 0))
          rw [HGK.out, HGV.out, ← HI1.out, ← HI2.out]
          exact H10.out
      · obtain rfl : q = ks.length := by omega
        have hlt' : decide ((ks.length : Int) < (ks.length : Int)) = false := by simp
        have hll := innerK_length HOK.out (k := ks.length) (Nat.le_refl _)
        have HWR := Lib.hid (writeS (HH.out.below HUw.out) at_ hat (.slice (some ⟨kb, 0, none⟩) 512 512) (encInner ks ds) (rd_of_block HB.out hll) hll HC.out)
        clear hll
        go_wp2_with fail
        refine HWR.out.mono ?_
        rintro e w' ⟨rfl, h', hu'⟩
        have H' := Lib.hid h'
        have HU' := Lib.hid ((HUw.out.mono (by simp)).trans hu')
        clear h' hu'
        go_wp2_with fail
        go_ret
        exact ⟨rfl, H'.out, HU'.out⟩

end Go.Proofs.YtceakcejchbbjaaGreat
