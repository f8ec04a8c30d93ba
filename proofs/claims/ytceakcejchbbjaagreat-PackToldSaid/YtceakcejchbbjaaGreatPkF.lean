/-
  pack.look, walked.
-/
import Derived.Test.YtceakcejchbbjaaGreatPkI
import Derived.Test.YtceakcejchbbjaaGreatOrdN
set_option linter.unusedSimpArgs false
set_option linter.unusedVariables false
namespace Go.Proofs.YtceakcejchbbjaaGreat
open Go.RowKit Go.MapKept Go.ChangeMaps

/-- Three numbers, when so many are read. -/
def v3 (l : Sec) (a q : Nat) : List Value := [.int .i64 ((if 0 < q then num l a 4 else 0 : Nat) : Int), .int .i64 ((if 1 < q then num l (a + 4) 4 else 0 : Nat) : Int), .int .i64 ((if 2 < q then num l (a + 8) 4 else 0 : Nat) : Int)]
theorem v3_set (l : Sec) (a : Nat) {q : Nat} (hq : q < 3) : (v3 l a q).toArray.setIfInBounds q (.int .i64 (num l (a + 4 * q) 4 : Int)) = (v3 l a (q + 1)).toArray := by
  obtain rfl | rfl | rfl : q = 0 ∨ q = 1 ∨ q = 2 := by omega
  · rfl
  · rfl
  · rfl
def lookV (b tb : Nat) (N0 h : Nat) (g1 : Bool) (x1 x2 x3 : Value) (r : Bool) : List (Nat × Nat × Value) := [(0, 54, .pointer (some ⟨b, 0, none⟩)), (1, 55, .int .i64 (N0 : Int)), (2, 56, .pointer (some ⟨tb, 0, none⟩)), (3, 57, .int .i64 (h : Int)), (4, 58, .int .i64 ((h : Int) - 16)), (5, 59, .bool g1), (6, 60, .bool g1), (7, 61, x1), (8, 62, x2), (9, 63, x3), (10, 64, .bool r)]
set_option maxRecDepth 100000 in
set_option maxHeartbeats 2000000 in
theorem look_spec {w : World} {g : Sg} {M : Nat → Option Sec} (h : SpAt w g M) (hh : 20 ≤ g.h) (hh2 : g.h ≤ 4096) (n : Nat) (hn : n < 64) :
    Calls Tryz.prog 63 #[.pointer (some ⟨g.x.tb, 0, none⟩), .int .i64 (n : Int)] w fun e w' => e = .returned (.tuple #[stV (lookP (g.cur M) g.h n), .int .i64 0]) ∧ SpAt w' g M ∧ Upd [g.j.jb] w w' := by
  obtain ⟨d, hd⟩ : ∃ d, d = n / 32 := ⟨_, rfl⟩
  obtain ⟨r, hr⟩ : ∃ r, r = n % 32 := ⟨_, rfl⟩
  obtain ⟨sd, hsd⟩ : ∃ sd, sd = 2 + d := ⟨_, rfl⟩
  have HM : Hid (∀ w', SpAt w' g M → Calls Tryz.prog 58 #[.pointer (some ⟨g.x.tb, 0, none⟩)] w' fun e w'' => e = .returned (.int .i64 (g.h : Int)) ∧ ∃ n, w'' = w'.drewN n) := by
    show ∀ w', _
    exact fun w' h' => homesS h'
  have HLP : Hid (lookP (g.cur M) g.h n = if g.h - 16 < num (g.cur M sd) (16 * r) 4 ∨ 8192 < num (g.cur M sd) (16 * r + 4) 4 then (0, 0, 0) else (num (g.cur M sd) (16 * r) 4, num (g.cur M sd) (16 * r + 4) 4, num (g.cur M sd) (16 * r + 8) 4)) := by
    show _ = _
    rw [hsd, hd, hr]; rfl
  have hl := h.cur_len sd
  have HR : Hid (∀ w', SpAt w' g M → Calls Tryz.prog 106 #[.pointer (some ⟨g.x.tb, 0, none⟩), .int .i64 (sd : Int)] w' fun e w'' => ∃ v, e = .returned (.tuple #[v, .int .i64 0]) ∧ OwnN w'' 5 (fun k => w'.heap.size ≤ k) v (g.cur M sd) ∧ SpAt w'' g M ∧ Upd [g.j.jb] w' w'') := by
    show ∀ w', _
    exact fun w' h' => readS h' sd (by omega)
  generalize g.cur M sd = L at HLP hl HR
  obtain ⟨w0, hw0⟩ : ∃ w0, w0 = w.alloc (.cells #[.int .i64 0, .int .i64 0, .int .i64 0] 119) := ⟨_, rfl⟩
  have hu0 : Upd [] w w0 := by rw [hw0]; exact (Upd.refl _ _).alloc _
  have H0 := Lib.hid (h.below hu0)
  have HLT0 := Lib.hid h.lt
  have hb0 : w0.heap[w.heap.size]? = some (.cells #[.int .i64 0, .int .i64 0, .int .i64 0] 119 (0, 0)) := by rw [hw0]; exact blk_alloc _
  have HB0 := Lib.hid hb0
  have HU0 := Lib.hid hu0
  obtain ⟨rb, hrb⟩ : ∃ rb, rb = w.heap.size := ⟨_, rfl⟩
  have HRB := Lib.hid hrb
  have HW0 := Lib.hid hw0
  have hd1 : d ≤ 1 := by omega
  have e1 : (n : Int) / 32 = (d : Int) := by omega
  have e2 : (n : Int) % 32 = (r : Int) := by omega
  have e3 : (2 : Int) + (d : Int) = (sd : Int) := by omega
  have hr1 : r ≤ 31 := by omega
  have h0 : ((g.h : Int) == 0) = false := by rw [beq_eq_false_iff_ne]; omega
  have t0 : decide ((n : Int) < 0) = false := decide_eq_false (by omega)
  have t1 : decide ((64 : Int) ≤ (n : Int)) = false := decide_eq_false (by omega)
  clear hd hr hsd h hw0 hu0 hb0 hrb
  go_enter Tryz.func63, Tryz.ntmps63
  go_upto_region 1 with (fail)
  have hw0 := HW0.out
  have hrb := HRB.out
  rw [← hw0, ← hrb]
  clear hw0 hrb
  go_wp2_with fail
  refine (HM.out _ H0.out).mono ?_
  rintro e w1 ⟨rfl, m1, hw1⟩
  have hu1 : Upd [] w0 w1 := by rw [hw1]; exact (Upd.refl _ _).drewN _
  have HRD := Lib.hid (HR.out _ (H0.out.below hu1))
  have HU1 := Lib.hid hu1
  clear hw1 hu1
  go_wp2_with fail
  refine HRD.out.mono ?_
  rintro e w2 ⟨bv0, rfl, ho, h2, hu2⟩
  have HRd := Lib.hid ho.rd
  obtain ⟨w3, hw3⟩ : ∃ w3, w3 = w2.alloc (.cells #[.int .i64 0, .int .i64 0, .int .i64 0] 191) := ⟨_, rfl⟩
  have hu3 : Upd [] w2 w3 := by rw [hw3]; exact (Upd.refl _ _).alloc _
  obtain ⟨vb, hvb⟩ : ∃ vb, vb = w2.heap.size := ⟨_, rfl⟩
  have hb3 : w3.heap[vb]? = some (.cells (v3 L (16 * r) 0).toArray 191 (0, 0)) := by rw [hw3, hvb]; exact blk_alloc _
  have HB3 := Lib.hid hb3
  have HU3 := Lib.hid hu3
  have H3 := Lib.hid (h2.below hu3)
  have HU2 := Lib.hid hu2
  have HLT := Lib.hid h2.lt
  have HW3 := Lib.hid hw3
  have HVB := Lib.hid hvb
  clear ho h2 hu2 hw3 hvb hb3 hu3
  go_upto_region 9 with (fail)
  have hw3 := HW3.out
  have hvb := HVB.out
  rw [← hw3, ← hvb]
  clear hw3 hvb
  go_wp2_with fail
  go_loopw [35] (fun i wr => ∃ q : Nat, q ≤ 3 ∧ i = .int .i64 (q : Int) ∧ wr.heap[vb]? = some (.cells (v3 L (16 * r) q).toArray 191 (0, 0)) ∧ Upd [vb] w3 wr) (fun i _ => 3 - (intOf i).toNat)
  case atStart => exact ⟨0, by omega, rfl, HB3.out, Upd.refl _ _⟩
  case round =>
    obtain ⟨q, hq, rfl, hb, hu⟩ := hrel
    by_cases hlt : q < 3
    · have hlt' : decide ((q : Int) < 3) = true := decide_eq_true (by omega)
      obtain ⟨A, hA⟩ : ∃ A, A = 16 * r + 4 * q := ⟨_, rfl⟩
      have hat := at_spec _ L A 4 wr ((HRd.out.below HU3.out).of_block fun b o c hc => hu.block b (block_lt_of_cell hc) (by
        simp
        rintro rfl
        rw [blk_cell HB3.out] at hc
        match o, hc with
        | 0, hc | 1, hc | 2, hc => simp [v3, bv] at hc
        | k + 3, hc => simp [v3] at hc)) (by omega) (by omega) (by omega) (by omega)
      have hs := v3_set L (16 * r) hlt
      rw [← hA] at hs
      obtain ⟨X, hX⟩ : ∃ X, X = num L A 4 := ⟨_, rfl⟩
      have hXl : X < 4294967296 := by rw [hX]; exact num_lt _ _ _
      rw [← hX] at hat hs
      rw [show ((4 : Nat) : Int) = 4 from rfl] at hat
      have st := blk_set (v := .int .i64 (X : Int)) (o := q) hb
      rw [hs] at st
      have eA : 16 * (r : Int) + 4 * (q : Int) = (A : Int) := by omega
      have HAT := Lib.hid hat
      have HST := Lib.hid st
      have fr := blk_free hb q
      have ⟨old, hc⟩ : ∃ old, wr.cell? ⟨vb, q, none⟩ = some old := by
        rw [blk_cell hb]
        obtain rfl | rfl | rfl : q = 0 ∨ q = 1 ∨ q = 2 := by omega
        all_goals exact ⟨_, rfl⟩
      have HU := Lib.hid (hu.set (o := q) (.int .i64 (X : Int)) (.inl (List.mem_singleton.2 rfl)))
      have eX : IntKind.i64.wrap (X : Int) = (X : Int) := by rw [IntKind.wrap_i64]; omega
      have HA := Lib.hid hA
      clear hat st hs hb hu hX hA
      go_wp2_with fail
      refine HAT.out.mono ?_
      rintro e w' ⟨rfl, rfl⟩
      go_wp2_with fail
      refine ⟨⟨q + 1, by omega, by go_num, HST.out, HU.out⟩, by simp [intOf]; omega⟩
    · obtain rfl : q = 3 := by omega
      have hlt' : decide (((3 : Nat) : Int) < 3) = false := rfl
      have hS : SpAt wr g M := H3.out.turnedR hu (fun k hk => by
        simp at hk
        have := HVB.out
        exact ⟨fun q => by have := HLT.out.1 k q; omega, by have := HLT.out.2; omega⟩) (fun k hk c e => by
        simp at hk
        subst hk
        rw [HB3.out] at e
        injection e with e
        injection e with _ q2
        exact absurd q2 (by decide))
      obtain ⟨N0, hN0⟩ : ∃ N0, N0 = num L (16 * r) 4 := ⟨_, rfl⟩
      obtain ⟨N1, hN1⟩ : ∃ N1, N1 = num L (16 * r + 4) 4 := ⟨_, rfl⟩
      obtain ⟨N2, hN2⟩ : ∃ N2, N2 = num L (16 * r + 8) 4 := ⟨_, rfl⟩
      have hLP := HLP.out
      rw [← hN0, ← hN1, ← hN2] at hLP
      have c0 : wr.cell? ⟨vb, 0, none⟩ = some (.int .i64 (N0 : Int)) := by rw [blk_cell hb, hN0]; rfl
      have c1 : wr.cell? ⟨vb, 1, none⟩ = some (.int .i64 (N1 : Int)) := by rw [blk_cell hb, hN1]; rfl
      have c2 : wr.cell? ⟨vb, 2, none⟩ = some (.int .i64 (N2 : Int)) := by rw [blk_cell hb, hN2]; rfl
      have HS := Lib.hid hS
      have hwr : IntKind.i64.wrap ((g.h : Int) - 16) = (g.h : Int) - 16 := by rw [IntKind.wrap_i64]; omega
      have HLQ := Lib.hid hLP
      have HHM : Hid (∀ w', Upd [] wr w' → Calls Tryz.prog 58 #[.pointer (some ⟨g.x.tb, 0, none⟩)] w' fun e w'' => e = .returned (.int .i64 (g.h : Int)) ∧ ∃ n, w'' = w'.drewN n) := (by show ∀ w', _; exact fun w' hu => HM.out _ (HS.out.below hu))
      have HWR := Lib.hid hu
      clear hLP hS hN0 hN1 hN2 hu hb
      have HBR : Hid (∀ w4 : World, Upd [] wr.drew w4 → w4.heap[rb]? = some (.cells #[.int .i64 0, .int .i64 0, .int .i64 0] 119 (0, 0))) := by
        show ∀ w4 : World, _
        intro w4 hu4
        have q1 := HRB.out
        have q2 := HLT0.out
        have q3 := HVB.out
        have q5 := HWR.out.size
        have b0 := HB0.out
        rw [← q1] at b0
        have b1 := (HU1.out.block _ (blk_lt b0) (by simp)).trans b0
        have b2 := (HU2.out.block _ (blk_lt b1) (by simp; intro e; have := q2.1 g.j.jb (by simp [Sg.S, JG.all]); omega)).trans b1
        have hne : rb ≠ vb := by have := blk_lt b2; omega
        have b3 := (HU3.out.block _ (blk_lt b2) (by simp)).trans b2
        have b4 := (HWR.out.block _ (blk_lt b3) (by simpa using hne)).trans b3
        exact (hu4.block _ (blk_lt (w := wr.drew) b4) (by simp)).trans b4
      have HFIN : Hid (∀ w4 w5 : World, Upd [] wr.drew w4 → Upd [rb] w4 w5 → SpAt w5 g M ∧ Upd [g.j.jb] w w5) := by
        show ∀ w4 w5 : World, _
        intro w4 w5 hu4 hu5
        have q1 := HRB.out
        have q2 := HLT0.out
        have q3 := HVB.out
        have a1 : Upd [g.j.jb] w w2 := ((HU0.out.mono (by simp)).trans (HU1.out.mono (by simp))).trans HU2.out
        have a2 : Upd [g.j.jb] w wr := (a1.trans (HU3.out.mono (by simp))).late HWR.out (fun i hi => .inr (by simp at hi; have := a1.size; omega))
        have a3 : Upd [g.j.jb] w w4 := a2.trans ((Upd.refl _ _).drew.trans (hu4.mono (by simp)))
        refine ⟨(HS.out.below ((Upd.refl [] wr).drew.trans hu4)).turnedR hu5 (fun k hk => ?_) (fun k hk c e => ?_), a3.late hu5 (fun i hi => .inr (by simp at hi; omega))⟩
        · simp at hk
          exact ⟨fun q => by have := q2.1 k q; omega, by have := q2.2; omega⟩
        · simp at hk
          subst hk
          rw [HBR.out w4 hu4] at e
          injection e with e
          injection e with _ q2
          exact absurd q2 (by decide)
      by_cases g1 : g.h - 16 < N0
      · have d1 : decide ((g.h : Int) - 16 < (N0 : Int)) = true := decide_eq_true (by omega)
        go_wp2_with fail
        refine wp_region_reg (lookV vb g.x.tb N0 g.h true (.tuple #[]) (.tuple #[]) (.tuple #[]) true) [] (by kernel_rfl) (by kernel_rfl) 73 rfl rfl ?_ ?_
        · intro i o L tmps w' ho hI hL hd
          have hi : i < 11 := (Array.getElem?_eq_some_iff.1 ho).1
          have m0 := cell_updP c0 ((Upd.refl [] _).drew.trans hI.upd) (by simp)
          have m1 := cell_updP c1 ((Upd.refl [] _).drew.trans hI.upd) (by simp)
          have t8 : tmps[8]?.getD undef = .pointer (some ⟨vb, 0, none⟩) := (hI.old 8 (by rfl)).trans rfl
          have t0 : tmps[0]?.getD undef = .pointer (some ⟨g.x.tb, 0, none⟩) := (hI.old 0 (by rfl)).trans rfl
          obtain rfl | rfl | rfl | rfl | rfl | rfl | rfl | rfl | rfl | rfl | rfl : i = 0 ∨ i = 1 ∨ i = 2 ∨ i = 3 ∨ i = 4 ∨ i = 5 ∨ i = 6 ∨ i = 7 ∨ i = 8 ∨ i = 9 ∨ i = 10 := by omega
          · cases ho
            refine wpOp_step rfl (fun K hK => ?_)
            go_simp
            exact hK _ _ (hI.val_step 0 54 (.pointer (some ⟨vb, 0, none⟩)) (by decide) (Upd.refl _ _) (by simp [lookV]) (by kernel_rfl))
          · cases ho
            have t54 : tmps[54]?.getD undef = .pointer (some ⟨vb, 0, none⟩) := hI.val (0, 54, _) (by simp [lookV]) (hd ⟨0, .data⟩ (by simp) rfl)
            refine wpOp_step rfl (fun K hK => ?_)
            go_simp
            exact hK _ _ (hI.val_step 1 55 (.int .i64 (N0 : Int)) (by decide) (Upd.refl _ _) (by simp [lookV]) (by kernel_rfl))
          · cases ho
            refine wpOp_step rfl (fun K hK => ?_)
            go_simp
            exact hK _ _ (hI.val_step 2 56 (.pointer (some ⟨g.x.tb, 0, none⟩)) (by decide) (Upd.refl _ _) (by simp [lookV]) (by kernel_rfl))
          · cases ho
            have t56 : tmps[56]?.getD undef = .pointer (some ⟨g.x.tb, 0, none⟩) := hI.val (2, 56, _) (by simp [lookV]) (hd ⟨2, .data⟩ (by simp) rfl)
            refine wpOp_step rfl (fun K hK => ?_)
            go_simp
            go_at_call 58
            refine (HHM.out _ ((Upd.refl _ _).drew.trans hI.upd)).mono ?_
            rintro e w2 ⟨rfl, m, rfl⟩
            exact hK _ _ (hI.val_step 3 57 (.int .i64 (g.h : Int)) (by decide) ((Upd.refl _ _).drewN _) (by simp [lookV]) (by kernel_rfl))
          · cases ho
            have t57 : tmps[57]?.getD undef = .int .i64 (g.h : Int) := hI.val (3, 57, _) (by simp [lookV]) (hd ⟨3, .data⟩ (by simp) rfl)
            refine wpOp_step rfl (fun K hK => ?_)
            go_simp
            exact hK _ _ (hI.val_step 4 58 (.int .i64 ((g.h : Int) - 16)) (by decide) (Upd.refl _ _) (by simp [lookV]) (by kernel_rfl))
          · cases ho
            have t55 : tmps[55]?.getD undef = .int .i64 (N0 : Int) := hI.val (1, 55, _) (by simp [lookV]) (hd ⟨1, .data⟩ (by simp) rfl)
            have t58 : tmps[58]?.getD undef = .int .i64 ((g.h : Int) - 16) := hI.val (4, 58, _) (by simp [lookV]) (hd ⟨4, .data⟩ (by simp) rfl)
            refine wpOp_step rfl (fun K hK => ?_)
            go_simp
            exact hK _ _ (hI.val_step 5 59 (.bool true) (by decide) (Upd.refl _ _) (by simp [lookV]) (by kernel_rfl))
          · cases ho
            have t59 : tmps[59]?.getD undef = .bool true := hI.val (5, 59, _) (by simp [lookV]) (hd ⟨5, .data⟩ (by simp) rfl)
            refine wpOp_step rfl (fun K hK => ?_)
            go_simp
            exact hK _ _ (hI.val_step 6 60 (.bool true) (by decide) (Upd.refl _ _) (by simp [lookV]) (by kernel_rfl))
          · cases ho
            have t60 : tmps[60]?.getD undef = .bool true := hI.val (6, 60, _) (by simp [lookV]) (hd ⟨6, .guard⟩ (by simp) rfl)
            have tg := tm_some t60
            clear t60
            refine wpOp_step rfl (fun K hK => ?_)
            go_simp
            exact hK _ _ (hI.val_step 7 61 (.tuple #[]) (by decide) (Upd.refl _ _) (by simp [lookV]) (by kernel_rfl))
          · cases ho
            have t61 : tmps[61]?.getD undef = .tuple #[] := hI.val (7, 61, _) (by simp [lookV]) (hd ⟨7, .data⟩ (by simp) rfl)
            have t60 : tmps[60]?.getD undef = .bool true := hI.val (6, 60, _) (by simp [lookV]) (hd ⟨6, .guard⟩ (by simp) rfl)
            have tg := tm_some t60
            clear t60
            refine wpOp_step rfl (fun K hK => ?_)
            go_simp
            exact hK _ _ (hI.val_step 8 62 (.tuple #[]) (by decide) (Upd.refl _ _) (by simp [lookV]) (by kernel_rfl))
          · cases ho
            have t62 : tmps[62]?.getD undef = .tuple #[] := hI.val (8, 62, _) (by simp [lookV]) (hd ⟨8, .data⟩ (by simp) rfl)
            have t60 : tmps[60]?.getD undef = .bool true := hI.val (6, 60, _) (by simp [lookV]) (hd ⟨6, .guard⟩ (by simp) rfl)
            have tg := tm_some t60
            clear t60
            refine wpOp_step rfl (fun K hK => ?_)
            go_simp
            exact hK _ _ (hI.val_step 9 63 (.tuple #[]) (by decide) (Upd.refl _ _) (by simp [lookV]) (by kernel_rfl))
          · cases ho
            have t60 : tmps[60]?.getD undef = .bool true := hI.val (6, 60, _) (by simp [lookV]) (hd ⟨6, .data⟩ (by simp) rfl)
            have t63 : tmps[63]?.getD undef = .tuple #[] := hI.val (9, 63, _) (by simp [lookV]) (hd ⟨9, .data⟩ (by simp) rfl)
            refine wpOp_step rfl (fun K hK => ?_)
            go_simp
            exact hK _ _ (hI.val_step 10 64 (.bool true) (by decide) (Upd.refl _ _) (by simp [lookV]) (by kernel_rfl))
        · intro L tmps w4 hI hall
          have hat := hI.fin rfl (fun t ht => hall _ (by have h9 := List.all_eq_true.1 (show ((lookV vb g.x.tb N0 g.h true (.tuple #[]) (.tuple #[]) (.tuple #[]) true).all fun t => decide (t.1 < 11)) = true from rfl) t ht; simpa using h9))
          have hu4 := hI.upd
          clear hI hall
          simp only [lookV, List.map_cons, List.map_nil, sets, List.setIfInBounds_toArray, List.set_cons_zero, List.set_cons_succ] at hat
          rw [hat]
          clear hat tmps
          have hb4 : w4.heap[rb]? = some (.cells #[.int .i64 0, .int .i64 0, .int .i64 0] 119 (0, 0)) := HBR.out w4 hu4
          have c40 : w4.cell? ⟨rb, 0, none⟩ = some (.int .i64 0) := by rw [blk_cell hb4]; rfl
          have c41 : w4.cell? ⟨rb, 1, none⟩ = some (.int .i64 0) := by rw [blk_cell hb4]; rfl
          have c42 : w4.cell? ⟨rb, 2, none⟩ = some (.int .i64 0) := by rw [blk_cell hb4]; rfl
          have f40 := blk_free hb4 0
          have f41 := blk_free hb4 1
          have f42 := blk_free hb4 2
          have HB4 := Lib.hid hb4
          have HU4 := Lib.hid hu4
          clear hb4 hu4
          go_wp2_with fail
          refine bodyPost_ret (results_st (p := 4) (u := 5) (by rfl) _ _ rb _ _ _ (by rfl) (by first | rfl | exact blk_set (blk_set (blk_set HB4.out 0 _) 1 _) 2 _)) (by rfl) ?_
          have := HFIN.out _ _ HU4.out (((Upd.refl [rb] w4).set (o := 0) (.int .i64 0) (.inl (List.mem_singleton.2 rfl))).set (o := 1) (.int .i64 0) (.inl (List.mem_singleton.2 rfl)) |>.set (o := 2) (.int .i64 0) (.inl (List.mem_singleton.2 rfl)))
          exact ⟨by rw [HLQ.out, if_pos (.inl g1)]; rfl, this.1, this.2⟩
      · obtain ⟨g2, hg2⟩ : ∃ g2, g2 = decide ((8192 : Int) < (N1 : Int)) := ⟨_, rfl⟩
        have d1 : decide ((g.h : Int) - 16 < (N0 : Int)) = false := decide_eq_false (by omega)
        have d2 : decide ((8192 : Int) < (N1 : Int)) = g2 := hg2.symm
        have HG2 := Lib.hid hg2
        clear hg2
        go_wp2_with fail
        refine wp_region_reg (lookV vb g.x.tb N0 g.h false (.pointer (some ⟨vb, 1, none⟩)) (.int .i64 (N1 : Int)) (.bool g2) g2) [] (by kernel_rfl) (by kernel_rfl) 73 rfl rfl ?_ ?_
        · intro i o L tmps w' ho hI hL hd
          have hi : i < 11 := (Array.getElem?_eq_some_iff.1 ho).1
          have m0 := cell_updP c0 ((Upd.refl [] _).drew.trans hI.upd) (by simp)
          have m1 := cell_updP c1 ((Upd.refl [] _).drew.trans hI.upd) (by simp)
          have t8 : tmps[8]?.getD undef = .pointer (some ⟨vb, 0, none⟩) := (hI.old 8 (by rfl)).trans rfl
          have t0 : tmps[0]?.getD undef = .pointer (some ⟨g.x.tb, 0, none⟩) := (hI.old 0 (by rfl)).trans rfl
          obtain rfl | rfl | rfl | rfl | rfl | rfl | rfl | rfl | rfl | rfl | rfl : i = 0 ∨ i = 1 ∨ i = 2 ∨ i = 3 ∨ i = 4 ∨ i = 5 ∨ i = 6 ∨ i = 7 ∨ i = 8 ∨ i = 9 ∨ i = 10 := by omega
          · cases ho
            refine wpOp_step rfl (fun K hK => ?_)
            go_simp
            exact hK _ _ (hI.val_step 0 54 (.pointer (some ⟨vb, 0, none⟩)) (by decide) (Upd.refl _ _) (by simp [lookV]) (by kernel_rfl))
          · cases ho
            have t54 : tmps[54]?.getD undef = .pointer (some ⟨vb, 0, none⟩) := hI.val (0, 54, _) (by simp [lookV]) (hd ⟨0, .data⟩ (by simp) rfl)
            refine wpOp_step rfl (fun K hK => ?_)
            go_simp
            exact hK _ _ (hI.val_step 1 55 (.int .i64 (N0 : Int)) (by decide) (Upd.refl _ _) (by simp [lookV]) (by kernel_rfl))
          · cases ho
            refine wpOp_step rfl (fun K hK => ?_)
            go_simp
            exact hK _ _ (hI.val_step 2 56 (.pointer (some ⟨g.x.tb, 0, none⟩)) (by decide) (Upd.refl _ _) (by simp [lookV]) (by kernel_rfl))
          · cases ho
            have t56 : tmps[56]?.getD undef = .pointer (some ⟨g.x.tb, 0, none⟩) := hI.val (2, 56, _) (by simp [lookV]) (hd ⟨2, .data⟩ (by simp) rfl)
            refine wpOp_step rfl (fun K hK => ?_)
            go_simp
            go_at_call 58
            refine (HHM.out _ ((Upd.refl _ _).drew.trans hI.upd)).mono ?_
            rintro e w2 ⟨rfl, m, rfl⟩
            exact hK _ _ (hI.val_step 3 57 (.int .i64 (g.h : Int)) (by decide) ((Upd.refl _ _).drewN _) (by simp [lookV]) (by kernel_rfl))
          · cases ho
            have t57 : tmps[57]?.getD undef = .int .i64 (g.h : Int) := hI.val (3, 57, _) (by simp [lookV]) (hd ⟨3, .data⟩ (by simp) rfl)
            refine wpOp_step rfl (fun K hK => ?_)
            go_simp
            exact hK _ _ (hI.val_step 4 58 (.int .i64 ((g.h : Int) - 16)) (by decide) (Upd.refl _ _) (by simp [lookV]) (by kernel_rfl))
          · cases ho
            have t55 : tmps[55]?.getD undef = .int .i64 (N0 : Int) := hI.val (1, 55, _) (by simp [lookV]) (hd ⟨1, .data⟩ (by simp) rfl)
            have t58 : tmps[58]?.getD undef = .int .i64 ((g.h : Int) - 16) := hI.val (4, 58, _) (by simp [lookV]) (hd ⟨4, .data⟩ (by simp) rfl)
            refine wpOp_step rfl (fun K hK => ?_)
            go_simp
            exact hK _ _ (hI.val_step 5 59 (.bool false) (by decide) (Upd.refl _ _) (by simp [lookV]) (by kernel_rfl))
          · cases ho
            have t59 : tmps[59]?.getD undef = .bool false := hI.val (5, 59, _) (by simp [lookV]) (hd ⟨5, .data⟩ (by simp) rfl)
            refine wpOp_step rfl (fun K hK => ?_)
            go_simp
            exact hK _ _ (hI.val_step 6 60 (.bool false) (by decide) (Upd.refl _ _) (by simp [lookV]) (by kernel_rfl))
          · cases ho
            have t60 : tmps[60]?.getD undef = .bool false := hI.val (6, 60, _) (by simp [lookV]) (hd ⟨6, .guard⟩ (by simp) rfl)
            have tg := tm_some t60
            clear t60
            refine wpOp_step rfl (fun K hK => ?_)
            go_simp
            exact hK _ _ (hI.val_step 7 61 (.pointer (some ⟨vb, 1, none⟩)) (by decide) (Upd.refl _ _) (by simp [lookV]) (by kernel_rfl))
          · cases ho
            have t61 : tmps[61]?.getD undef = .pointer (some ⟨vb, 1, none⟩) := hI.val (7, 61, _) (by simp [lookV]) (hd ⟨7, .data⟩ (by simp) rfl)
            have t60 : tmps[60]?.getD undef = .bool false := hI.val (6, 60, _) (by simp [lookV]) (hd ⟨6, .guard⟩ (by simp) rfl)
            have tg := tm_some t60
            clear t60
            refine wpOp_step rfl (fun K hK => ?_)
            go_simp
            exact hK _ _ (hI.val_step 8 62 (.int .i64 (N1 : Int)) (by decide) (Upd.refl _ _) (by simp [lookV]) (by kernel_rfl))
          · cases ho
            have t62 : tmps[62]?.getD undef = .int .i64 (N1 : Int) := hI.val (8, 62, _) (by simp [lookV]) (hd ⟨8, .data⟩ (by simp) rfl)
            have t60 : tmps[60]?.getD undef = .bool false := hI.val (6, 60, _) (by simp [lookV]) (hd ⟨6, .guard⟩ (by simp) rfl)
            have tg := tm_some t60
            clear t60
            refine wpOp_step rfl (fun K hK => ?_)
            go_simp
            exact hK _ _ (hI.val_step 9 63 (.bool g2) (by decide) (Upd.refl _ _) (by simp [lookV]) (by kernel_rfl))
          · cases ho
            have t60 : tmps[60]?.getD undef = .bool false := hI.val (6, 60, _) (by simp [lookV]) (hd ⟨6, .data⟩ (by simp) rfl)
            have t63 : tmps[63]?.getD undef = .bool g2 := hI.val (9, 63, _) (by simp [lookV]) (hd ⟨9, .data⟩ (by simp) rfl)
            refine wpOp_step rfl (fun K hK => ?_)
            go_simp
            exact hK _ _ (hI.val_step 10 64 (.bool g2) (by decide) (Upd.refl _ _) (by simp [lookV]) (by kernel_rfl))
        · intro L tmps w4 hI hall
          have hat := hI.fin rfl (fun t ht => hall _ (by have h9 := List.all_eq_true.1 (show ((lookV vb g.x.tb N0 g.h false (.pointer (some ⟨vb, 1, none⟩)) (.int .i64 (N1 : Int)) (.bool g2) g2).all fun t => decide (t.1 < 11)) = true from rfl) t ht; simpa using h9))
          have hu4 := hI.upd
          clear hI hall
          simp only [lookV, List.map_cons, List.map_nil, sets, List.setIfInBounds_toArray, List.set_cons_zero, List.set_cons_succ] at hat
          rw [hat]
          clear hat tmps
          have hb4 : w4.heap[rb]? = some (.cells #[.int .i64 0, .int .i64 0, .int .i64 0] 119 (0, 0)) := HBR.out w4 hu4
          have c40 : w4.cell? ⟨rb, 0, none⟩ = some (.int .i64 0) := by rw [blk_cell hb4]; rfl
          have c41 : w4.cell? ⟨rb, 1, none⟩ = some (.int .i64 0) := by rw [blk_cell hb4]; rfl
          have c42 : w4.cell? ⟨rb, 2, none⟩ = some (.int .i64 0) := by rw [blk_cell hb4]; rfl
          have f40 := blk_free hb4 0
          have f41 := blk_free hb4 1
          have f42 := blk_free hb4 2
          have HB4 := Lib.hid hb4
          have HU4 := Lib.hid hu4
          clear hb4 hu4
          have c0' := cell_updP c0 ((Upd.refl [] _).drew.trans HU4.out) (by simp)
          have c1' := cell_updP c1 ((Upd.refl [] _).drew.trans HU4.out) (by simp)
          have c2' := cell_updP c2 ((Upd.refl [] _).drew.trans HU4.out) (by simp)
          cases g2
          · have hg := of_decide_eq_false HG2.out.symm
            clear HG2
            go_wp2_with fail
            refine bodyPost_ret (results_st (p := 4) (u := 5) (by rfl) _ _ rb _ _ _ (by rfl) (by first | rfl | exact blk_set (blk_set (blk_set HB4.out 0 _) 1 _) 2 _)) (by rfl) ?_
            have := HFIN.out _ _ HU4.out (((Upd.refl [rb] w4).set (o := 0) (.int .i64 (N0 : Int)) (.inl (List.mem_singleton.2 rfl))).set (o := 1) (.int .i64 (N1 : Int)) (.inl (List.mem_singleton.2 rfl)) |>.set (o := 2) (.int .i64 (N2 : Int)) (.inl (List.mem_singleton.2 rfl)))
            exact ⟨by rw [HLQ.out, if_neg (fun e => by omega)]; rfl, this.1, this.2⟩
          · have hg := of_decide_eq_true HG2.out.symm
            clear HG2
            go_wp2_with fail
            refine bodyPost_ret (results_st (p := 4) (u := 5) (by rfl) _ _ rb _ _ _ (by rfl) (by first | rfl | exact blk_set (blk_set (blk_set HB4.out 0 _) 1 _) 2 _)) (by rfl) ?_
            have := HFIN.out _ _ HU4.out (((Upd.refl [rb] w4).set (o := 0) (.int .i64 0) (.inl (List.mem_singleton.2 rfl))).set (o := 1) (.int .i64 0) (.inl (List.mem_singleton.2 rfl)) |>.set (o := 2) (.int .i64 0) (.inl (List.mem_singleton.2 rfl)))
            exact ⟨by rw [HLQ.out, if_pos (.inr (by omega))]; rfl, this.1, this.2⟩
end Go.Proofs.YtceakcejchbbjaaGreat
