/-
  PackFull, walked.
-/
import Derived.Test.YtceakcejchbbjaaGreatPkU
set_option linter.unusedSimpArgs false
set_option linter.unusedVariables false
namespace Go.Proofs.YtceakcejchbbjaaGreat
open Go.RowKit Go.MapKept Go.ChangeMaps

def fuAD : List (Nat × Nat) := [(0, 48), (1, 49), (2, 50), (3, 51), (4, 52), (5, 53), (6, 54), (7, 47), (8, 55), (9, 56), (10, 10), (12, 11)]
def fuAO : Nat → Nat
  | 0 => 0
  | 1 => 1
  | 2 => 2
  | 3 => 3
  | 4 => 20
  | 5 => 4
  | 6 => 5
  | 7 => 6
  | 8 => 7
  | 9 => 8
  | 10 => 9
  | 12 => 8
  | _ => 99
def fuAX (pS : Nat) : Nat → Value
  | 20 => .int .i64 (pS : Int)
  | _ => undef
def fcV (tb pb I eN q r rf pS fl : Nat) : List (Nat × Nat × Value) := [(0, 75, .int .i64 (0 : Int)), (1, 76, .bool false), (2, 77, .bool false), (3, 78, .pointer (some ⟨pb, 0, none⟩)), (4, 79, .int .i64 (q : Int)), (5, 80, .int .i64 (I : Int)), (6, 81, .int .i64 (eN : Int)), (7, 82, .int .i64 (q : Int)), (8, 83, .bool false), (9, 84, .bool false), (10, 85, .bool false), (11, 86, .pointer (some ⟨pb, 1, none⟩)), (12, 87, .int .i64 (rf : Int)), (13, 88, .int .i64 (I : Int)), (14, 89, .int .i64 (eN : Int)), (15, 90, .int .i64 (r : Int)), (16, 91, .int .i64 (pS : Int)), (17, 92, .int .i64 (fl : Int)), (18, 93, .int .i64 (rf : Int)), (19, 94, .bool false), (20, 95, .bool false), (21, 96, .bool false), (22, 97, .pointer (some ⟨tb, 0, none⟩)), (23, 98, .int .i64 (0 : Int)), (24, 99, .bool false), (25, 100, .bool false)]
theorem full_q {eN q r pk I ep : Nat} (he : ep = eN * pk) (hI : I = eN * q + r) (hr : r < eN) (hle : I ≤ ep) : (I = ep → q = pk ∧ r = 0) ∧ (I ≠ ep → q < pk) := by
  rcases Nat.lt_trichotomy q pk with h | h | h
  · have h1 := Nat.mul_le_mul_left eN (show q + 1 ≤ pk by omega)
    rw [Nat.mul_add, Nat.mul_one] at h1
    exact ⟨fun e => by omega, fun _ => h⟩
  · subst h
    exact ⟨fun e => ⟨rfl, by omega⟩, fun e => by omega⟩
  · have h1 := Nat.mul_le_mul_left eN (show pk + 1 ≤ q by omega)
    rw [Nat.mul_add, Nat.mul_one] at h1
    omega
set_option maxRecDepth 100000 in
set_option maxHeartbeats 8000000 in
theorem full11_spec (a0 a1 : Int) (w : World) : Calls Tryz.prog 3 #[.int .i64 a0, .int .i64 a1] w fun e w' => e = .returned (.bool true) ∧ Upd [] w w' := by
  have hN := placeN_lt (k := a0) (n := 60) (by omega)
  have HN := fun w => Lib.hid (place_spec a0 60 w (by omega) (by omega))
  generalize placeN a0 60 = pN at *
  have hS := placeN_lt (k := a1) (n := 4201) (by omega)
  have HS := fun w => Lib.hid (place_spec a1 4201 w (by omega) (by omega))
  generalize placeN a1 4201 = pS at *
  obtain ⟨nN, hnN⟩ : ∃ nN, nN = 100 + pN := ⟨_, rfl⟩
  have hnI : 100 + (pN : Int) = (nN : Int) := by omega
  have HB : Hid (∀ w, Calls Tryz.prog 14 #[.int .i64 (nN : Int), .int .i64 60] w fun e w' => ∃ g : Sg, e = .returned (.tuple #[.pointer (some ⟨g.j.jb, 0, none⟩), .pointer (some ⟨g.x.tb, 0, none⟩)]) ∧ BgAt w w' g nN 60 ∧ Upd [] w w') := by
    show ∀ w, _
    exact fun w => begunS nN 60 nN rfl (by omega) (by omega) (by omega) (by omega) (by omega) w
  obtain ⟨fl, hfl⟩ : ∃ fl, fl = 46 + pS := ⟨_, rfl⟩
  have hflI : 46 + (pS : Int) = (fl : Int) := by omega
  obtain ⟨eN, heN⟩ : ∃ eN, eN = 8192 / fl := ⟨_, rfl⟩
  have heI : (8192 : Int) / (fl : Int) = (eN : Int) := by rw [heN]; simp
  obtain ⟨pk, hpk⟩ : ∃ pk, pk = (nN - 62 - 4) / 16 := ⟨_, rfl⟩
  have hpI : ((nN : Int) - 62 - 4) / 16 = (pk : Int) := by omega
  have he1 : 1 ≤ eN := by rw [heN]; exact (Nat.one_le_div_iff (by omega)).2 (by omega)
  have hel : fl * eN ≤ 8192 := by rw [heN]; exact Nat.mul_div_le _ _
  have heg : 8192 < fl * eN + fl := by
    have := Nat.lt_mul_div_succ 8192 (show 0 < fl by omega)
    rw [← heN, Nat.mul_add, Nat.mul_one] at this
    exact this
  obtain ⟨ep, hep⟩ : ∃ ep, ep = eN * pk := ⟨_, rfl⟩
  have hepI : (eN : Int) * (pk : Int) = (ep : Int) := by rw [hep]; simp
  have hen : eN ≤ 8192 := by
    rw [heN]; exact Nat.div_le_self _ _
  have hep5 : ep ≤ 8192 * 5 := by
    rw [hep]; exact Nat.mul_le_mul hen (by omega)
  have HFL := Lib.hid hfl
  have HEL := Lib.hid hel
  have HEG := Lib.hid heg
  have HEP := Lib.hid hep
  have HPK := Lib.hid hpk
  have HNN := Lib.hid hnN
  have f46 : 46 ≤ fl ∧ fl ≤ 4246 := by omega
  have p2 : 2 ≤ pk ∧ pk ≤ 5 := by omega
  have n2 : 100 ≤ nN ∧ nN < 160 := by omega
  clear hfl heN hpk hel heg hep hnN
  go_enter Tryz.func3, Tryz.ntmps3
  go_wp2_with fail
  refine (begun11_spec w).mono ?_
  rintro e w1 ⟨rfl, hu1⟩
  have HU1 := Lib.hid hu1
  clear hu1
  go_wp2_with fail
  refine (HN _).out.mono ?_
  rintro e w' ⟨rfl, rfl⟩
  go_wp2_with fail
  refine (HS _).out.mono ?_
  rintro e w' ⟨rfl, rfl⟩
  go_wp2_with fail
  refine (HB.out _).mono ?_
  rintro e w2 ⟨g0, rfl, hg, hu2⟩
  have hj : ∀ k, k ∈ g0.j.all → w.heap.size ≤ k := fun k hk => Nat.le_trans HU1.out.size (hg.late k (by simp [Sg.S, hk]))
  have hpa : PkAt w w2 g0.j nN 60 2 g0 (fun _ => Option.none) := ⟨⟨w1, hg.js, HU1.out.size⟩, hg.sp, hg.packs, HU1.out.trans hu2⟩
  have hev := hg.even (L := fl) (e := eN) (by omega)
  have HJ := Lib.hid hj
  have HPA := Lib.hid hpa
  have HEV := Lib.hid hev
  clear hg hu2 hj hpa hev
  go_wp2_with fail
  refine (sizeR_spec pS (by omega) _).mono ?_
  rintro e w' ⟨rfl, rfl⟩
  go_wp2_with fail
  rw [heI, hpI]
  go_loopw [9, 6] (fun i t wr => ∃ (q r I : Nat) (g : Sg) (K : Nat → Option Pk), i = .int .i64 (I : Int) ∧ t = .pointer (some ⟨g.x.tb, 0, none⟩) ∧ I ≤ ep ∧ I ≤ 400 ∧ Hid (I = eN * q + r) ∧ Hid (PkAt w wr g0.j nN 60 (2 + I) g K) ∧ Hid (Even fl eN q r K (g.T fun _ => none))) (fun i _ _ => 400 - (intOf i).toNat)
  case atStart => exact ⟨0, 0, 0, g0, _, rfl, rfl, by omega, by omega, Lib.hid (by simp), HPA, HEV⟩
  case round =>
    obtain ⟨q, r, I, g, K, rfl, rfl, hIe, hI4, HIQ, HPK2, HEV2⟩ := hrel
    have ci : decide ((I : Int) ≤ (ep : Int)) = true := decide_eq_true (by omega)
    have ci' : decide (I ≤ ep) = true := decide_eq_true hIe
    rcases Nat.lt_or_ge I 400 with h4 | h4
    · have cj : decide ((I : Int) < 400) = true := decide_eq_true (by omega)
      have cj' : decide (I < 400) = true := decide_eq_true h4
      obtain ⟨full, hfull⟩ : ∃ f, f = decide (I = ep) := ⟨_, rfl⟩
      have hfq := full_q HEP.out HIQ.out HEV2.out.lt hIe
      have hq1 : full = true → q = pk ∧ r = 0 := fun e => hfq.1 (of_decide_eq_true (hfull.symm.trans e))
      have hq2 : full = false → q < pk := fun e => hfq.2 (of_decide_eq_false (hfull.symm.trans e))
      obtain ⟨ky, hky⟩ : ∃ k, k = keyP (I % 256) := ⟨_, rfl⟩
      have hkl : ky.length = 32 := by rw [hky]; exact keyP_length _
      obtain ⟨P, hP⟩ : ∃ P, P = fuP q r fl full := ⟨_, rfl⟩
      obtain ⟨er, her⟩ : ∃ e, e = fuE full := ⟨_, rfl⟩
      have HKY : Hid (∀ W, Calls Tryz.prog 17 #[.int .u8 (IntKind.u8.wrap (I : Int))] W fun e w'' => e = .returned (.agg (bts ky).toArray) ∧ Upd [] W w'') := by
        show ∀ W, _
        intro W
        rw [hky]
        exact key11_spec (I % 256) _ (by rw [IntKind.wrap_u8]; omega) (by omega) W
      have HADD : Hid (∀ W v, Upd [] wr W → Rd W v (List.replicate pS 0) → Calls Tryz.prog 16 #[.pointer (some ⟨g.x.tb, 0, none⟩), .agg (bts ky).toArray, v] W fun e w' => e = .returned (.tuple #[plV P, .int .i64 (er : Int)]) ∧ FullOut g fl eN q r full w' ∧ Upd g.S W w') := by
        show ∀ W v, _
        intro W v hu hr
        rw [hP, her]
        exact full_add HPK2.out HEV2.out n2.1 n2.2 (by have := HPK.out; omega) hq1 hq2 HEL.out HEG.out hu ky _ v hr hkl (by rw [List.length_replicate]; exact HFL.out.symm) f46.2
      have hlt0 := HPK2.out.sp.lt
      have HSW : Hid (∀ k, k ∈ g.S → k < wr.heap.size) := by show ∀ k, _; exact hlt0.1
      have HPQ : Hid (∀ W W', FullOut g fl eN q r full W → Upd [] W W' → FullOut g fl eN q r full W') := by show ∀ W W', _; exact fun W W' h hu => h.below hu
      have HPS : Hid (∀ W W' pb, FullOut g fl eN q r full W → wr.heap.size ≤ pb → W.heap[pb]? = some (.cells #[.int .i64 0, .int .i64 0, .int .i64 0] 30 (0, 0)) → Upd [pb] W W' → FullOut g fl eN q r full W') := by
        show ∀ W W' pb, _
        exact fun W W' pb h hp hb hu => h.res hlt0 hp hb hu
      have HS42 : Hid (pS ≤ 100000) := Lib.hid (by omega)
      have HPP := Lib.hid hP
      have HER := Lib.hid her
      have HFU := Lib.hid hfull
      have HQ1 := Lib.hid hq1
      have HQ2 := Lib.hid hq2
      clear hky hkl hP her hfull hq1 hq2 hfq hlt0
      go_upto_region 13 with (fail)
      refine wp_region_p fuAD (fun L k w v => adPr wr g.x.tb (I : Int) (IntKind.u8.wrap (I : Int)) ky (List.replicate pS 0) P er (fuAX pS) 6 11 L (fuAO k) w v) (adG wr g.S (FullOut g fl eN q r full) 6 11 10) (by kernel_rfl) (by kernel_rfl) 106 rfl rfl ⟨(Upd.refl _ _).drew, fun _ => (Upd.refl _ _).drew, fun h => (by cases h), fun h => (by cases h)⟩ ?_ ?_
      · intro i o L tmps w' ho hI hL hd
        have hi : i < 13 := (Array.getElem?_eq_some_iff.1 ho).1
        have t6 : tmps[6]?.getD undef = .pointer (some ⟨g.x.tb, 0, none⟩) := (hI.old 6 (by rfl)).trans rfl
        have t9 : tmps[9]?.getD undef = .int .i64 (I : Int) := (hI.old 9 (by rfl)).trans rfl
        have t1 : tmps[1]?.getD undef = .int .i64 (pS : Int) := (hI.old 1 (by rfl)).trans rfl
        obtain rfl | rfl | rfl | rfl | rfl | rfl | rfl | rfl | rfl | rfl | rfl | rfl | rfl : i = 0 ∨ i = 1 ∨ i = 2 ∨ i = 3 ∨ i = 4 ∨ i = 5 ∨ i = 6 ∨ i = 7 ∨ i = 8 ∨ i = 9 ∨ i = 10 ∨ i = 11 ∨ i = 12 := by omega
        · cases ho
          refine wpOp_step rfl (fun K hK => ?_)
          go_simp
          exact hK _ _ (hI.step 0 48 (.pointer (some ⟨g.x.tb, 0, none⟩)) (by decide) (by kernel_rfl) (fun _ _ h9 => adPr_upd (i := 0) (by decide) (Upd.refl [] _) (by simp) (fun q => ⟨up_false q, Upd.refl _ _⟩) _ _ h9) rfl (hI.gw.quiet (by decide) (by decide) (Upd.refl _ _) id))
        · cases ho
          refine wpOp_step rfl (fun K hK => ?_)
          go_simp
          exact hK _ _ (hI.step 1 49 (.int .i64 (I : Int)) (by decide) (by kernel_rfl) (fun _ _ h9 => adPr_upd (i := 1) (by decide) (Upd.refl [] _) (by simp) (fun q => ⟨up_false q, Upd.refl _ _⟩) _ _ h9) rfl (hI.gw.quiet (by decide) (by decide) (Upd.refl _ _) id))
        · cases ho
          have t49 : tmps[49]?.getD undef = .int .i64 (I : Int) := hI.val (1, 49) (by simp [fuAD]) (hd ⟨1, .data⟩ (by simp) rfl)
          refine wpOp_step rfl (fun K hK => ?_)
          go_simp
          exact hK _ _ (hI.step 2 50 (.int .u8 (IntKind.u8.wrap (I : Int))) (by decide) (by kernel_rfl) (fun _ _ h9 => adPr_upd (i := 2) (by decide) (Upd.refl [] _) (by simp) (fun q => ⟨up_false q, Upd.refl _ _⟩) _ _ h9) rfl (hI.gw.quiet (by decide) (by decide) (Upd.refl _ _) id))
        · cases ho
          have t50 : tmps[50]?.getD undef = .int .u8 (IntKind.u8.wrap (I : Int)) := hI.val (2, 50) (by simp [fuAD]) (hd ⟨2, .data⟩ (by simp) rfl)
          refine wpOp_step rfl (fun K hK => ?_)
          go_simp
          go_at_call 17
          refine (HKY.out w').mono ?_
          rintro e w2 ⟨rfl, hu⟩
          exact hK _ _ (hI.step 3 51 (.agg (bts ky).toArray) (by decide) (by kernel_rfl) (fun _ _ h9 => adPr_upd (i := 3) (by decide) hu (by simp) (fun q => ⟨up_false q, hu⟩) _ _ h9) (rfl) (hI.gw.quiet (by decide) (by decide) hu (fun q => HPQ.out _ _ q hu)))
        · cases ho
          refine wpOp_step rfl (fun K hK => ?_)
          go_simp
          exact hK _ _ (hI.step 4 52 (.int .i64 (pS : Int)) (by decide) (by kernel_rfl) (fun _ _ h9 => adPr_upd (i := 4) (by decide) (Upd.refl [] _) (by simp) (fun q => ⟨up_false q, Upd.refl _ _⟩) _ _ h9) rfl (hI.gw.quiet (by decide) (by decide) (Upd.refl _ _) id))
        · cases ho
          have t52 : tmps[52]?.getD undef = .int .i64 (pS : Int) := hI.val (4, 52) (by simp [fuAD]) (hd ⟨4, .data⟩ (by simp) rfl)
          refine wpOp_step rfl (fun K hK => ?_)
          have hmk := run_make_u8 pS HS42.out w'
          go_simp
          exact hK _ _ (hI.step 5 53 (.slice (some ⟨w'.heap.size, 0, none⟩) pS pS) (by decide) (by kernel_rfl) (fun _ _ h9 => adPr_upd (i := 5) (by decide) ((Upd.refl [] _).alloc _) (by simp) (fun q => ⟨up_false q, ((Upd.refl [] _).alloc _)⟩) _ _ h9) (fun _ => rd_zeros pS w') (hI.gw.quiet (by decide) (by decide) ((Upd.refl [] _).alloc _) (fun q => HPQ.out _ _ q ((Upd.refl [] _).alloc _))))
        · cases ho
          have t48 : tmps[48]?.getD undef = .pointer (some ⟨g.x.tb, 0, none⟩) := hI.val (0, 48) (by simp [fuAD]) (hd ⟨0, .data⟩ (by simp) rfl)
          have t51 : tmps[51]?.getD undef = .agg (bts ky).toArray := hI.val (3, 51) (by simp [fuAD]) (hd ⟨3, .data⟩ (by simp) rfl)
          have hrd : Rd w' (tmps[53]?.getD undef) (List.replicate pS 0) := hI.val (5, 53) (by simp [fuAD]) (hd ⟨5, .data⟩ (by simp) rfl) hL
          obtain ⟨vb, t53⟩ : ∃ v, tmps[53]?.getD undef = v := ⟨_, rfl⟩
          rw [t53] at hrd
          refine wpOp_step rfl (fun K hK => ?_)
          go_simp
          go_at_call 16
          refine (HADD.out w' vb (hI.gw.2.1 hL) hrd).mono ?_
          rintro e w2 ⟨rfl, hpay, hu⟩
          exact hK _ _ (hI.step 6 54 (.tuple #[plV P, .int .i64 (er : Int)]) (by decide) (by kernel_rfl) (fun _ _ h9 => adPr_upd (i := 6) (by decide) hu HSW.out (fun q => by rw [upL_same] at q; cases q) _ _ h9) rfl ⟨hI.gw.1.trans hu, fun q => (by rw [upL_same] at q; cases q), fun _ => hpay, up_imp (by decide) hI.gw.2.2.2⟩)
        · cases ho
          have t54 : tmps[54]?.getD undef = .tuple #[plV P, .int .i64 (er : Int)] := hI.val (6, 54) (by simp [fuAD]) (hd ⟨6, .data⟩ (by simp) rfl)
          refine wpOp_step rfl (fun K hK => ?_)
          go_simp
          exact hK _ _ (hI.step 7 47 (.tuple #[plV P, .int .i64 (er : Int)]) (by decide) (by kernel_rfl) (fun _ _ h9 => adPr_upd (i := 7) (by decide) (Upd.refl [] _) (by simp) (fun q => ⟨up_false q, Upd.refl _ _⟩) _ _ h9) rfl (hI.gw.quiet (by decide) (by decide) (Upd.refl _ _) id))
        · cases ho
          have t47 : tmps[47]?.getD undef = .tuple #[plV P, .int .i64 (er : Int)] := hI.val (7, 47) (by simp [fuAD]) (hd ⟨7, .data⟩ (by simp) rfl)
          refine wpOp_step rfl (fun K hK => ?_)
          go_simp
          exact hK _ _ (hI.step 8 55 (plV P) (by decide) (by kernel_rfl) (fun _ _ h9 => adPr_upd (i := 8) (by decide) (Upd.refl [] _) (by simp) (fun q => ⟨up_false q, Upd.refl _ _⟩) _ _ h9) rfl (hI.gw.quiet (by decide) (by decide) (Upd.refl _ _) id))
        · cases ho
          have t47 : tmps[47]?.getD undef = .tuple #[plV P, .int .i64 (er : Int)] := hI.val (7, 47) (by simp [fuAD]) (hd ⟨7, .data⟩ (by simp) rfl)
          refine wpOp_step rfl (fun K hK => ?_)
          go_simp
          exact hK _ _ (hI.step 9 56 (.int .i64 (er : Int)) (by decide) (by kernel_rfl) (fun _ _ h9 => adPr_upd (i := 9) (by decide) (Upd.refl [] _) (by simp) (fun q => ⟨up_false q, Upd.refl _ _⟩) _ _ h9) rfl (hI.gw.quiet (by decide) (by decide) (Upd.refl _ _) id))
        · cases ho
          refine wpOp_step rfl (fun K hK => ?_)
          go_simp
          exact hK _ _ (hI.step 10 10 (.pointer (some ⟨w'.heap.size, 0, none⟩)) (by decide) (by kernel_rfl) (fun _ _ h9 => adPr_upd (i := 10) (by decide) ((Upd.refl [] _).alloc _) (by simp) (fun q => ⟨up_false q, (Upd.refl _ _).alloc _⟩) _ _ h9) ⟨w'.heap.size, rfl, hI.gw.1.size, by rw [show upL L 10 11 = false from by rw [upL_ne _ (by decide)]; exact hI.gw.notyet hL]; exact blk_alloc _⟩ (hI.gw.quiet (by decide) (by decide) ((Upd.refl _ _).alloc _) (fun q => HPQ.out _ _ q ((Upd.refl _ _).alloc _))))
        · cases ho
          obtain ⟨pb, t100, hpb, hb⟩ := hI.val (10, 10) (by simp [fuAD]) (hd ⟨10, .data⟩ (by simp) rfl)
          have t10 : tmps[10]?.getD undef = .pointer (some ⟨pb, 0, none⟩) := t100
          rw [hL] at hb
          replace hb : w'.heap[pb]? = some (.cells #[.int .i64 0, .int .i64 0, .int .i64 0] 30 (0, 0)) := hb
          have t55 : tmps[55]?.getD undef = plV P := hI.val (8, 55) (by simp [fuAD]) (hd ⟨8, .data⟩ (by simp) rfl)
          have m0 : w'.cell? ⟨pb, 0, none⟩ = some (.int .i64 0) := by rw [blk_cell hb]; rfl
          have m1 : w'.cell? ⟨pb, 1, none⟩ = some (.int .i64 0) := by rw [blk_cell hb]; rfl
          have m2 : w'.cell? ⟨pb, 2, none⟩ = some (.int .i64 0) := by rw [blk_cell hb]; rfl
          have f0 := blk_free hb 0
          have f1 := blk_free hb 1
          have f2 := blk_free hb 2
          replace t55 : tmps[55]?.getD undef = .agg #[.int .i64 (P.1 : Int), .int .i64 (P.2.1 : Int), .int .i64 (P.2.2 : Int)] := t55
          have hB : L 10 = true := hd ⟨10, .data⟩ (by simp) rfl
          have hA : L 6 = true := hd ⟨6, .chain⟩ (by simp) rfl
          refine wpOp_step rfl (fun K hK => ?_)
          go_simp
          exact hK _ _ (hI.none_step 11 (by kernel_rfl) (fun t ht _ h9 => adPr_store (c := #[]) (by decide) hA hpb hb _ _ (fun e9 => (by simp [fuAD] at ht; rcases ht with rfl | rfl | rfl | rfl | rfl | rfl | rfl | rfl | rfl | rfl | rfl | rfl <;> first | exact t10 | (cases e9))) h9) (hI.gw.store (by decide) hA hB hpb ((Upd.refl _ _).three _ _ _ (.inl (List.mem_singleton.2 rfl))) (fun q => HPS.out _ _ pb q hpb hb ((Upd.refl _ _).three _ _ _ (.inl (List.mem_singleton.2 rfl))))))
        · cases ho
          have t56 : tmps[56]?.getD undef = .int .i64 (er : Int) := hI.val (9, 56) (by simp [fuAD]) (hd ⟨9, .data⟩ (by simp) rfl)
          refine wpOp_step rfl (fun K hK => ?_)
          go_simp
          exact hK _ _ (hI.step 12 11 (.int .i64 (er : Int)) (by decide) (by kernel_rfl) (fun _ _ h9 => adPr_upd (i := 12) (by decide) (Upd.refl [] _) (by simp) (fun q => ⟨up_false q, Upd.refl _ _⟩) _ _ h9) rfl (hI.gw.quiet (by decide) (by decide) (Upd.refl _ _) id))
      · intro L tmps w4 hI hall
        obtain ⟨pb, e10, hpb, hb⟩ := hI.val (10, 10) (by simp [fuAD]) (hall 10 (by decide))
        rw [hall 11 (by decide)] at hb
        obtain ⟨vb, tvb⟩ : ∃ v, tmps[53]?.getD undef = v := ⟨_, rfl⟩
        have hat := hI.tmps_eq rfl [(48, .pointer (some ⟨g.x.tb, 0, none⟩)), (49, .int .i64 (I : Int)), (50, .int .u8 (IntKind.u8.wrap (I : Int))), (51, .agg (bts ky).toArray), (52, .int .i64 (pS : Int)), (53, vb), (54, .tuple #[plV P, .int .i64 (er : Int)]), (47, .tuple #[plV P, .int .i64 (er : Int)]), (55, plV P), (56, .int .i64 (er : Int)), (10, .pointer (some ⟨pb, 0, none⟩)), (11, .int .i64 (er : Int))] (fun j hj => by simp [fuAD] at hj ⊢; simp [hj]) (by
          intro p hp
          simp only [List.mem_cons, List.not_mem_nil, or_false] at hp
          rcases hp with rfl | rfl | rfl | rfl | rfl | rfl | rfl | rfl | rfl | rfl | rfl | rfl
          · exact hI.val (0, 48) (by simp [fuAD]) (hall 0 (by decide))
          · exact hI.val (1, 49) (by simp [fuAD]) (hall 1 (by decide))
          · exact hI.val (2, 50) (by simp [fuAD]) (hall 2 (by decide))
          · exact hI.val (3, 51) (by simp [fuAD]) (hall 3 (by decide))
          · exact hI.val (4, 52) (by simp [fuAD]) (hall 4 (by decide))
          · exact tvb
          · exact hI.val (6, 54) (by simp [fuAD]) (hall 6 (by decide))
          · exact hI.val (7, 47) (by simp [fuAD]) (hall 7 (by decide))
          · exact hI.val (8, 55) (by simp [fuAD]) (hall 8 (by decide))
          · exact hI.val (9, 56) (by simp [fuAD]) (hall 9 (by decide))
          · exact e10
          · exact hI.val (12, 11) (by simp [fuAD]) (hall 12 (by decide)))
        have hpay := hI.gw.2.2.1 (hall 6 (by decide))
        have hUw := hI.gw.1
        clear hI hall
        dsimp only at hat
        simp only [sets, List.setIfInBounds_toArray, List.set_cons_zero, List.set_cons_succ] at hat
        rw [hat]
        clear hat e10 tvb tmps
        replace hb : w4.heap[pb]? = some (.cells #[.int .i64 (P.1 : Int), .int .i64 (P.2.1 : Int), .int .i64 (P.2.2 : Int)] 30 (0, 0)) := hb
        have hSS := HPK2.out.S HJ.out
        have hgh := HPK2.out.h
        have hU4 : Upd [] w w4 := HPK2.out.upd.late hUw (fun i hi => .inr (hSS.1 i hi))
        obtain ⟨M', K', h5, hk5, hc5, hE5⟩ := hpay
        cases full with
        | true =>
          obtain ⟨hqp, hr0⟩ := HQ1.out rfl
          subst hr0
          subst hqp
          have hIe2 : I = ep := of_decide_eq_true HFU.out.symm
          subst hIe2
          rw [if_pos rfl] at hE5
          have hP : P = (0, 0, 0) := HPP.out
          have he7 : er = 7 := HER.out
          subst hP
          subst he7
          have HST := Lib.hid (stat_no h5 hk5 (by omega) (by omega) (n := q) (by omega) hE5)
          have HU4 := Lib.hid hU4
          have HSS := Lib.hid hSS.1
          have ceq : ((I : Int) == (I : Int)) = true := by simp
          clear hb hSS hgh hU4 hUw h5 hk5 hc5 hE5
          go_wp2_with fail
          refine HST.out.mono ?_
          rintro e w6 ⟨rfl, h6, hu6⟩
          have HU6 := Lib.hid hu6
          clear h6 hu6
          go_wp2_with fail
          go_ret
          exact ⟨rfl, HU4.out.late HU6.out (fun i hi => .inr (HSS.out i (g.mem i hi)))⟩
        | false =>
          have hqlt := HQ2.out rfl
          have hIne : I ≠ ep := of_decide_eq_false HFU.out.symm
          rw [if_neg (fun e => by cases e)] at hE5
          obtain ⟨rf, hrf⟩ : ∃ rf, rf = r * fl := ⟨_, rfl⟩
          have hP : P = (q, rf, fl) := by rw [hrf]; exact HPP.out
          have he0 : er = 0 := HER.out
          subst hP
          subst he0
          dsimp only at hb
          have hrfl : rf ≤ 8192 := by
            have h1 := Nat.mul_le_mul_right fl (show r ≤ eN by have := HEV2.out.lt; omega)
            have h2 := HEL.out
            rw [Nat.mul_comm eN fl] at h1
            omega
          have hrfI : (r : Int) * (fl : Int) = (rf : Int) := by rw [hrf]; simp
          have hlr := HEV2.out.lt
          have hiq := HIQ.out
          have hdv : (I : Int) / (eN : Int) = (q : Int) := by
            rw [hiq, ← Int.natCast_ediv, Nat.mul_add_div (by omega), Nat.div_eq_of_lt hlr, Nat.add_zero]
          have hmd : (I : Int) % (eN : Int) = (r : Int) := by
            rw [hiq, ← Int.natCast_emod, Nat.mul_add_mod, Nat.mod_eq_of_lt hlr]
          have hfl2 : (pS : Int) + 46 = (fl : Int) := by omega
          have ceq : ((I : Int) == (ep : Int)) = false := by rw [beq_eq_false_iff_ne]; omega
          have ceq' : decide (I = ep) = false := decide_eq_false hIne
          have ceq2 : (I == ep) = false := by rw [beq_eq_false_iff_ne]; exact hIne
          have nz : ((eN : Int) == 0) = false := by rw [beq_eq_false_iff_ne]; omega
          obtain ⟨w5, hw5⟩ : ∃ w5, w5 = w4 := ⟨_, rfl⟩
          subst hw5
          have m0 : w5.cell? ⟨pb, 0, none⟩ = some (.int .i64 (q : Int)) := by rw [blk_cell hb]; rfl
          have m1 : w5.cell? ⟨pb, 1, none⟩ = some (.int .i64 (rf : Int)) := by rw [blk_cell hb]; rfl
          have hlt := HPK2.out.sp.lt
          obtain ⟨wT, hTx, hwT⟩ := HPK2.out.tx
          have hjS : ∀ k, k ∈ g0.j.all → k ∈ g.S := fun k hk => by rw [Sg.S, hTx.j]; exact List.mem_cons_of_mem _ hk
          have hnb : pb ∉ g.x.tb :: g0.j.all := fun hq => by
            rcases List.mem_cons.1 hq with e | e
            · have := hlt.2; omega
            · have := hlt.1 pb (hjS pb e); omega
          have HNB := Lib.hid hnb
          have HCM : Hid (∀ W, Upd [] w5 W → Calls Tryz.prog 19 #[.pointer (some ⟨g.x.tb, 0, none⟩)] W fun e w' => e = .returned (.int .i64 0) ∧ JsAt w' g0.j nN 60 (2 + (I : Int) + 1) (g.cur M') ∧ Upd (g.x.tb :: g0.j.all) W w') := by
            show ∀ W, _
            exact fun W hW => HPK2.out.commit (h5.below hW) (by omega) (by omega) (by omega) (by omega)
          have HU5 := Lib.hid hU4
          have HST : Hid (∀ k, k ∈ g.x.tb :: g0.j.all → w.heap.size ≤ k) := by
            show ∀ k, _
            intro k hk
            rcases List.mem_cons.1 hk with rfl | e
            · exact hSS.2
            · exact HJ.out k e
          have HE5 := Lib.hid hE5
          have HK5 := Lib.hid hk5
          rw [hgh] at HK5
          clear hb hSS hgh hU4 hUw h5 hk5 hc5 hE5 hlt hTx hwT hjS hnb hrf hiq wT
          have HNZ : Hid (¬ eN = 0) := Lib.hid (by omega)
          have HWQ : Hid (IntKind.i64.wrap (q : Int) = (q : Int)) := Lib.hid (by rw [IntKind.wrap_i64]; omega)
          have HWR : Hid (IntKind.i64.wrap (rf : Int) = (rf : Int)) := Lib.hid (by rw [IntKind.wrap_i64]; omega)
          have HWF : Hid (IntKind.i64.wrap (fl : Int) = (fl : Int)) := Lib.hid (by rw [IntKind.wrap_i64]; omega)
          have HTM : Hid ((I : Int).tmod (eN : Int) = (r : Int)) := Lib.hid (by rw [Int.tmod_eq_emod_of_nonneg (by omega)]; exact hmd)
          go_upto_region 17 with (fail)
          refine wp_region_c (g.x.tb :: g0.j.all) 23 (fun w => JsAt w g0.j nN 60 (2 + (I : Int) + 1) (g.cur M')) (fcV g.x.tb pb I eN q r rf pS fl) (by kernel_rfl) (by kernel_rfl) 106 rfl rfl ?_ ?_
          · intro i o L tmps w' ho hI hL hd
            have hi : i < 26 := (Array.getElem?_eq_some_iff.1 ho).1
            have hw5 := ((Upd.refl [] w5).drew.mono (by simp)).trans hI.upd
            have u0 := cell_updP m0 hw5 HNB.out
            have u1 := cell_updP m1 hw5 HNB.out
            have t6 : tmps[6]?.getD undef = .pointer (some ⟨g.x.tb, 0, none⟩) := (hI.old 6 (by rfl)).trans rfl
            have t9 : tmps[9]?.getD undef = .int .i64 (I : Int) := (hI.old 9 (by rfl)).trans rfl
            have t7 : tmps[7]?.getD undef = .int .i64 (eN : Int) := (hI.old 7 (by rfl)).trans rfl
            have t1 : tmps[1]?.getD undef = .int .i64 (pS : Int) := (hI.old 1 (by rfl)).trans rfl
            have t10 : tmps[10]?.getD undef = .pointer (some ⟨pb, 0, none⟩) := (hI.old 10 (by rfl)).trans rfl
            have t11 : tmps[11]?.getD undef = .int .i64 (0 : Int) := (hI.old 11 (by rfl)).trans rfl
            obtain rfl | rfl | rfl | rfl | rfl | rfl | rfl | rfl | rfl | rfl | rfl | rfl | rfl | rfl | rfl | rfl | rfl | rfl | rfl | rfl | rfl | rfl | rfl | rfl | rfl | rfl : i = 0 ∨ i = 1 ∨ i = 2 ∨ i = 3 ∨ i = 4 ∨ i = 5 ∨ i = 6 ∨ i = 7 ∨ i = 8 ∨ i = 9 ∨ i = 10 ∨ i = 11 ∨ i = 12 ∨ i = 13 ∨ i = 14 ∨ i = 15 ∨ i = 16 ∨ i = 17 ∨ i = 18 ∨ i = 19 ∨ i = 20 ∨ i = 21 ∨ i = 22 ∨ i = 23 ∨ i = 24 ∨ i = 25 := by omega
            · cases ho
              refine wpOp_step rfl (fun K hK => ?_)
              go_simp
              exact hK _ _ (hI.val_step 0 75 (.int .i64 (0 : Int)) (by decide) (by decide) (by simp [fcV]) (by kernel_rfl))
            · cases ho
              have t75 : tmps[75]?.getD undef = .int .i64 (0 : Int) := hI.val (0, 75, _) (by simp [fcV]) (hd ⟨0, .data⟩ (by simp) rfl)
              refine wpOp_step rfl (fun K hK => ?_)
              go_simp
              exact hK _ _ (hI.val_step 1 76 (.bool false) (by decide) (by decide) (by simp [fcV]) (by kernel_rfl))
            · cases ho
              have t76 : tmps[76]?.getD undef = .bool false := hI.val (1, 76, _) (by simp [fcV]) (hd ⟨1, .data⟩ (by simp) rfl)
              refine wpOp_step rfl (fun K hK => ?_)
              go_simp
              exact hK _ _ (hI.val_step 2 77 (.bool false) (by decide) (by decide) (by simp [fcV]) (by kernel_rfl))
            · cases ho
              have t77 : tmps[77]?.getD undef = .bool false := hI.val (2, 77, _) (by simp [fcV]) (hd ⟨2, .guard⟩ (by simp) rfl)
              have tg := tm_some t77
              clear t77
              refine wpOp_step rfl (fun K hK => ?_)
              go_simp
              exact hK _ _ (hI.val_step 3 78 (.pointer (some ⟨pb, 0, none⟩)) (by decide) (by decide) (by simp [fcV]) (by kernel_rfl))
            · cases ho
              have t78 : tmps[78]?.getD undef = .pointer (some ⟨pb, 0, none⟩) := hI.val (3, 78, _) (by simp [fcV]) (hd ⟨3, .data⟩ (by simp) rfl)
              have t77 : tmps[77]?.getD undef = .bool false := hI.val (2, 77, _) (by simp [fcV]) (hd ⟨2, .guard⟩ (by simp) rfl)
              have tg := tm_some t77
              clear t77
              refine wpOp_step rfl (fun K hK => ?_)
              go_simp
              exact hK _ _ (hI.val_step 4 79 (.int .i64 (q : Int)) (by decide) (by decide) (by simp [fcV]) (by kernel_rfl))
            · cases ho
              have t77 : tmps[77]?.getD undef = .bool false := hI.val (2, 77, _) (by simp [fcV]) (hd ⟨2, .guard⟩ (by simp) rfl)
              have tg := tm_some t77
              clear t77
              refine wpOp_step rfl (fun K hK => ?_)
              go_simp
              exact hK _ _ (hI.val_step 5 80 (.int .i64 (I : Int)) (by decide) (by decide) (by simp [fcV]) (by kernel_rfl))
            · cases ho
              have t77 : tmps[77]?.getD undef = .bool false := hI.val (2, 77, _) (by simp [fcV]) (hd ⟨2, .guard⟩ (by simp) rfl)
              have tg := tm_some t77
              clear t77
              refine wpOp_step rfl (fun K hK => ?_)
              go_simp
              exact hK _ _ (hI.val_step 6 81 (.int .i64 (eN : Int)) (by decide) (by decide) (by simp [fcV]) (by kernel_rfl))
            · cases ho
              have t80 : tmps[80]?.getD undef = .int .i64 (I : Int) := hI.val (5, 80, _) (by simp [fcV]) (hd ⟨5, .data⟩ (by simp) rfl)
              have t81 : tmps[81]?.getD undef = .int .i64 (eN : Int) := hI.val (6, 81, _) (by simp [fcV]) (hd ⟨6, .data⟩ (by simp) rfl)
              have t77 : tmps[77]?.getD undef = .bool false := hI.val (2, 77, _) (by simp [fcV]) (hd ⟨2, .guard⟩ (by simp) rfl)
              have tg := tm_some t77
              clear t77
              have hz := HNZ.out
              have hzq := HWQ.out
              refine wpOp_step rfl (fun K hK => ?_)
              go_simp
              exact hK _ _ (hI.val_step 7 82 (.int .i64 (q : Int)) (by decide) (by decide) (by simp [fcV]) (by kernel_rfl))
            · cases ho
              have t79 : tmps[79]?.getD undef = .int .i64 (q : Int) := hI.val (4, 79, _) (by simp [fcV]) (hd ⟨4, .data⟩ (by simp) rfl)
              have t82 : tmps[82]?.getD undef = .int .i64 (q : Int) := hI.val (7, 82, _) (by simp [fcV]) (hd ⟨7, .data⟩ (by simp) rfl)
              have t77 : tmps[77]?.getD undef = .bool false := hI.val (2, 77, _) (by simp [fcV]) (hd ⟨2, .guard⟩ (by simp) rfl)
              have tg := tm_some t77
              clear t77
              refine wpOp_step rfl (fun K hK => ?_)
              go_simp
              exact hK _ _ (hI.val_step 8 83 (.bool false) (by decide) (by decide) (by simp [fcV]) (by kernel_rfl))
            · cases ho
              have t77 : tmps[77]?.getD undef = .bool false := hI.val (2, 77, _) (by simp [fcV]) (hd ⟨2, .data⟩ (by simp) rfl)
              have t83 : tmps[83]?.getD undef = .bool false := hI.val (8, 83, _) (by simp [fcV]) (hd ⟨8, .data⟩ (by simp) rfl)
              refine wpOp_step rfl (fun K hK => ?_)
              go_simp
              exact hK _ _ (hI.val_step 9 84 (.bool false) (by decide) (by decide) (by simp [fcV]) (by kernel_rfl))
            · cases ho
              have t84 : tmps[84]?.getD undef = .bool false := hI.val (9, 84, _) (by simp [fcV]) (hd ⟨9, .data⟩ (by simp) rfl)
              refine wpOp_step rfl (fun K hK => ?_)
              go_simp
              exact hK _ _ (hI.val_step 10 85 (.bool false) (by decide) (by decide) (by simp [fcV]) (by kernel_rfl))
            · cases ho
              have t85 : tmps[85]?.getD undef = .bool false := hI.val (10, 85, _) (by simp [fcV]) (hd ⟨10, .guard⟩ (by simp) rfl)
              have tg := tm_some t85
              clear t85
              refine wpOp_step rfl (fun K hK => ?_)
              go_simp
              exact hK _ _ (hI.val_step 11 86 (.pointer (some ⟨pb, 1, none⟩)) (by decide) (by decide) (by simp [fcV]) (by kernel_rfl))
            · cases ho
              have t86 : tmps[86]?.getD undef = .pointer (some ⟨pb, 1, none⟩) := hI.val (11, 86, _) (by simp [fcV]) (hd ⟨11, .data⟩ (by simp) rfl)
              have t85 : tmps[85]?.getD undef = .bool false := hI.val (10, 85, _) (by simp [fcV]) (hd ⟨10, .guard⟩ (by simp) rfl)
              have tg := tm_some t85
              clear t85
              refine wpOp_step rfl (fun K hK => ?_)
              go_simp
              exact hK _ _ (hI.val_step 12 87 (.int .i64 (rf : Int)) (by decide) (by decide) (by simp [fcV]) (by kernel_rfl))
            · cases ho
              have t85 : tmps[85]?.getD undef = .bool false := hI.val (10, 85, _) (by simp [fcV]) (hd ⟨10, .guard⟩ (by simp) rfl)
              have tg := tm_some t85
              clear t85
              refine wpOp_step rfl (fun K hK => ?_)
              go_simp
              exact hK _ _ (hI.val_step 13 88 (.int .i64 (I : Int)) (by decide) (by decide) (by simp [fcV]) (by kernel_rfl))
            · cases ho
              have t85 : tmps[85]?.getD undef = .bool false := hI.val (10, 85, _) (by simp [fcV]) (hd ⟨10, .guard⟩ (by simp) rfl)
              have tg := tm_some t85
              clear t85
              refine wpOp_step rfl (fun K hK => ?_)
              go_simp
              exact hK _ _ (hI.val_step 14 89 (.int .i64 (eN : Int)) (by decide) (by decide) (by simp [fcV]) (by kernel_rfl))
            · cases ho
              have t88 : tmps[88]?.getD undef = .int .i64 (I : Int) := hI.val (13, 88, _) (by simp [fcV]) (hd ⟨13, .data⟩ (by simp) rfl)
              have t89 : tmps[89]?.getD undef = .int .i64 (eN : Int) := hI.val (14, 89, _) (by simp [fcV]) (hd ⟨14, .data⟩ (by simp) rfl)
              have t85 : tmps[85]?.getD undef = .bool false := hI.val (10, 85, _) (by simp [fcV]) (hd ⟨10, .guard⟩ (by simp) rfl)
              have tg := tm_some t85
              clear t85
              have hz := HNZ.out
              have htm := HTM.out
              refine wpOp_step rfl (fun K hK => ?_)
              go_simp
              exact hK _ _ (hI.val_step 15 90 (.int .i64 (r : Int)) (by decide) (by decide) (by simp [fcV]) (by kernel_rfl))
            · cases ho
              have t85 : tmps[85]?.getD undef = .bool false := hI.val (10, 85, _) (by simp [fcV]) (hd ⟨10, .guard⟩ (by simp) rfl)
              have tg := tm_some t85
              clear t85
              refine wpOp_step rfl (fun K hK => ?_)
              go_simp
              exact hK _ _ (hI.val_step 16 91 (.int .i64 (pS : Int)) (by decide) (by decide) (by simp [fcV]) (by kernel_rfl))
            · cases ho
              have t91 : tmps[91]?.getD undef = .int .i64 (pS : Int) := hI.val (16, 91, _) (by simp [fcV]) (hd ⟨16, .data⟩ (by simp) rfl)
              have t85 : tmps[85]?.getD undef = .bool false := hI.val (10, 85, _) (by simp [fcV]) (hd ⟨10, .guard⟩ (by simp) rfl)
              have tg := tm_some t85
              clear t85
              have hz := HWF.out
              refine wpOp_step rfl (fun K hK => ?_)
              go_simp
              exact hK _ _ (hI.val_step 17 92 (.int .i64 (fl : Int)) (by decide) (by decide) (by simp [fcV]) (by kernel_rfl))
            · cases ho
              have t90 : tmps[90]?.getD undef = .int .i64 (r : Int) := hI.val (15, 90, _) (by simp [fcV]) (hd ⟨15, .data⟩ (by simp) rfl)
              have t92 : tmps[92]?.getD undef = .int .i64 (fl : Int) := hI.val (17, 92, _) (by simp [fcV]) (hd ⟨17, .data⟩ (by simp) rfl)
              have t85 : tmps[85]?.getD undef = .bool false := hI.val (10, 85, _) (by simp [fcV]) (hd ⟨10, .guard⟩ (by simp) rfl)
              have tg := tm_some t85
              clear t85
              have hz := HWR.out
              refine wpOp_step rfl (fun K hK => ?_)
              go_simp
              exact hK _ _ (hI.val_step 18 93 (.int .i64 (rf : Int)) (by decide) (by decide) (by simp [fcV]) (by kernel_rfl))
            · cases ho
              have t87 : tmps[87]?.getD undef = .int .i64 (rf : Int) := hI.val (12, 87, _) (by simp [fcV]) (hd ⟨12, .data⟩ (by simp) rfl)
              have t93 : tmps[93]?.getD undef = .int .i64 (rf : Int) := hI.val (18, 93, _) (by simp [fcV]) (hd ⟨18, .data⟩ (by simp) rfl)
              have t85 : tmps[85]?.getD undef = .bool false := hI.val (10, 85, _) (by simp [fcV]) (hd ⟨10, .guard⟩ (by simp) rfl)
              have tg := tm_some t85
              clear t85
              refine wpOp_step rfl (fun K hK => ?_)
              go_simp
              exact hK _ _ (hI.val_step 19 94 (.bool false) (by decide) (by decide) (by simp [fcV]) (by kernel_rfl))
            · cases ho
              have t85 : tmps[85]?.getD undef = .bool false := hI.val (10, 85, _) (by simp [fcV]) (hd ⟨10, .data⟩ (by simp) rfl)
              have t94 : tmps[94]?.getD undef = .bool false := hI.val (19, 94, _) (by simp [fcV]) (hd ⟨19, .data⟩ (by simp) rfl)
              refine wpOp_step rfl (fun K hK => ?_)
              go_simp
              exact hK _ _ (hI.val_step 20 95 (.bool false) (by decide) (by decide) (by simp [fcV]) (by kernel_rfl))
            · cases ho
              have t95 : tmps[95]?.getD undef = .bool false := hI.val (20, 95, _) (by simp [fcV]) (hd ⟨20, .data⟩ (by simp) rfl)
              refine wpOp_step rfl (fun K hK => ?_)
              go_simp
              exact hK _ _ (hI.val_step 21 96 (.bool false) (by decide) (by decide) (by simp [fcV]) (by kernel_rfl))
            · cases ho
              have t96 : tmps[96]?.getD undef = .bool false := hI.val (21, 96, _) (by simp [fcV]) (hd ⟨21, .guard⟩ (by simp) rfl)
              have tg := tm_some t96
              clear t96
              refine wpOp_step rfl (fun K hK => ?_)
              go_simp
              exact hK _ _ (hI.val_step 22 97 (.pointer (some ⟨g.x.tb, 0, none⟩)) (by decide) (by decide) (by simp [fcV]) (by kernel_rfl))
            · cases ho
              have t97 : tmps[97]?.getD undef = .pointer (some ⟨g.x.tb, 0, none⟩) := hI.val (22, 97, _) (by simp [fcV]) (hd ⟨22, .data⟩ (by simp) rfl)
              have t96 : tmps[96]?.getD undef = .bool false := hI.val (21, 96, _) (by simp [fcV]) (hd ⟨21, .chain⟩ (by simp) rfl)
              have tg := tm_some t96
              clear t96
              refine wpOp_step rfl (fun K hK => ?_)
              go_simp
              go_at_call 19
              refine (HCM.out w' ((Upd.refl [] w5).drew.trans (hI.pre hL))).mono ?_
              rintro e w2 ⟨rfl, hjs, hu⟩
              exact hK _ _ (hI.call_step 98 (.int .i64 (0 : Int)) (by decide) hu hjs (by simp [fcV]) (by kernel_rfl))
            · cases ho
              have t98 : tmps[98]?.getD undef = .int .i64 (0 : Int) := hI.val (23, 98, _) (by simp [fcV]) (hd ⟨23, .data⟩ (by simp) rfl)
              have t96 : tmps[96]?.getD undef = .bool false := hI.val (21, 96, _) (by simp [fcV]) (hd ⟨21, .guard⟩ (by simp) rfl)
              have tg := tm_some t96
              clear t96
              refine wpOp_step rfl (fun K hK => ?_)
              go_simp
              exact hK _ _ (hI.val_step 24 99 (.bool false) (by decide) (by decide) (by simp [fcV]) (by kernel_rfl))
            · cases ho
              have t96 : tmps[96]?.getD undef = .bool false := hI.val (21, 96, _) (by simp [fcV]) (hd ⟨21, .data⟩ (by simp) rfl)
              have t99 : tmps[99]?.getD undef = .bool false := hI.val (24, 99, _) (by simp [fcV]) (hd ⟨24, .data⟩ (by simp) rfl)
              refine wpOp_step rfl (fun K hK => ?_)
              go_simp
              exact hK _ _ (hI.val_step 25 100 (.bool false) (by decide) (by decide) (by simp [fcV]) (by kernel_rfl))
          · intro L tmps w4 hI hall
            have hat := hI.fin rfl (fun t ht => hall _ (by have h9 := List.all_eq_true.1 (show ((fcV g.x.tb pb I eN q r rf pS fl).all fun t => decide (t.1 < 26)) = true from rfl) t ht; simpa using h9))
            have hu4 := hI.upd
            have hp4 := hI.pay (hall 23 (by decide))
            clear hI hall
            simp only [fcV, List.map_cons, List.map_nil, sets, List.setIfInBounds_toArray, List.set_cons_zero, List.set_cons_succ] at hat
            rw [hat]
            clear hat tmps
            have hU6 : Upd [] w w4 := HU5.out.late (((Upd.refl [] w5).drew.mono (by simp)).trans hu4) (fun i hi => .inr (HST.out i hi))
            have HBN := Lib.hid (JsAt.begin hp4 HJ.out hU6 (fun i => rfl) HK5.out)
            clear hp4 hu4 hU6 m0 m1
            go_wp2_with fail
            refine HBN.out.mono ?_
            rintro e w7 ⟨g1, rfl, hpa, hgT⟩
            have HP7 := Lib.hid hpa
            have HG7 := Lib.hid hgT
            clear hpa hgT
            go_wp2_with fail
            have hiq := HIQ.out
            have hpq : PkAt w w7 g0.j nN 60 (2 + ((I + 1 : Nat) : Int)) g1 K' := by
              rw [show (2 + ((I + 1 : Nat) : Int)) = 2 + (I : Int) + 1 by omega]
              exact HP7.out
            have h9 := HE5.out
            have hg7 : (g1.T fun _ => none) = g.T M' := HG7.out
            rw [← hg7] at h9
            by_cases hr1 : r + 1 = eN
            · rw [if_pos hr1] at h9
              refine ⟨⟨q + 1, 0, I + 1, g1, K', by go_num, rfl, by omega, by omega, Lib.hid ?_, Lib.hid hpq, Lib.hid h9⟩, by simp [intOf]; omega⟩
              rw [Nat.mul_add, Nat.mul_one]; omega
            · rw [if_neg hr1] at h9
              exact ⟨⟨q, r + 1, I + 1, g1, K', by go_num, rfl, by omega, by omega, Lib.hid (by omega), Lib.hid hpq, Lib.hid h9⟩, by simp [intOf]; omega⟩
    · have cj : decide ((I : Int) < 400) = false := decide_eq_false (by omega)
      have cj' : decide (I < 400) = false := decide_eq_false (by omega)
      go_wp2_with fail
      go_ret
      exact ⟨rfl, HPK2.out.upd⟩
end Go.Proofs.YtceakcejchbbjaaGreat
