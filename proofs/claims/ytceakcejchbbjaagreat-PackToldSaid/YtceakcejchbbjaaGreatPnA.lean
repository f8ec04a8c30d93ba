/-
  A pack that is not there: within, Get. PackTold: what is told, in plain; Add, its answer known ahead of the call. A place is cut out of a row of places.
-/
import Derived.Test.YtceakcejchbbjaaGreatPkR
import Derived.Test.YtceakcejchbbjaaGreatPkU
import Derived.Test.YtceakcejchbbjaaGreatPkX
import Derived.Test.YtceakcejchbbjaaGreatOrdN
section
set_option linter.unusedSimpArgs false
set_option linter.unusedVariables false
namespace Go.Proofs.YtceakcejchbbjaaGreat
open Go.RowKit Go.MapKept Go.ChangeMaps

def wnV (sb : Nat) : List (Nat × Nat × Value) := [(0, 19, .pointer (some ⟨sb, 0, none⟩)), (1, 20, .int .i64 (0 : Int)), (2, 21, .bool true), (3, 22, .bool true), (4, 23, .tuple #[]), (5, 24, .tuple #[]), (6, 25, .tuple #[]), (7, 26, .bool true), (8, 27, .bool true), (9, 28, .tuple #[]), (10, 29, .tuple #[]), (11, 30, .tuple #[]), (12, 31, .tuple #[]), (13, 32, .bool true), (14, 33, .bool true), (15, 34, .tuple #[]), (16, 35, .tuple #[]), (17, 36, .tuple #[]), (18, 37, .tuple #[]), (19, 38, .tuple #[]), (20, 39, .bool true), (21, 40, .bool true), (22, 41, .tuple #[]), (23, 42, .tuple #[]), (24, 43, .tuple #[]), (25, 44, .tuple #[]), (26, 45, .tuple #[]), (27, 46, .tuple #[]), (28, 47, .tuple #[]), (29, 48, .tuple #[]), (30, 49, .bool true)]
set_option maxRecDepth 100000 in
set_option maxHeartbeats 4000000 in
theorem within_no {w : World} {g : Sg} {M : Nat → Option Sec} {K : Nat → Option Pk} (h : SpAt w g M) (hk : PksAt (g.cur M) g.h (g.T M) K) (hh : 20 ≤ g.h) (hh2 : g.h ≤ 4096) {n : Nat} (hn64 : n < 64) (hp : K n = Option.none) (at_ ln : Nat) :
    Calls Tryz.prog 79 #[.pointer (some ⟨g.x.tb, 0, none⟩), plV (n, at_, ln)] w fun e w' => e = .returned (.tuple #[.agg #[.int .i64 0, .int .i64 0, .int .i64 0], .int .i64 1]) ∧ SpAt w' g M ∧ Upd [g.j.jb] w w' := by
  have hlt := h.lt
  obtain ⟨pb, hpb⟩ : ∃ pb, pb = w.heap.size := ⟨_, rfl⟩
  obtain ⟨w1, hw1⟩ : ∃ w1, w1 = (w.alloc (.cells #[.int .i64 (n : Int), .int .i64 (at_ : Int), .int .i64 (ln : Int)] 30)).alloc (.cells #[.int .i64 0, .int .i64 0, .int .i64 0] 119) := ⟨_, rfl⟩
  have hu1 : Upd [] w w1 := by rw [hw1]; exact ((Upd.refl _ _).alloc _).alloc _
  have hbp : w1.heap[pb]? = some (.cells #[.int .i64 (n : Int), .int .i64 (at_ : Int), .int .i64 (ln : Int)] 30 (0, 0)) := by
    rw [hw1, hpb]
    exact (((Upd.refl [] _).alloc _).block _ (by simp) (by simp)).trans (blk_alloc _)
  have hbr : w1.heap[pb + 1]? = some (.cells #[.int .i64 0, .int .i64 0, .int .i64 0] 119 (0, 0)) := by
    rw [hw1, hpb]
    have := blk_alloc (w := w.alloc (.cells #[.int .i64 (n : Int), .int .i64 (at_ : Int), .int .i64 (ln : Int)] 30)) (.cells #[.int .i64 0, .int .i64 0, .int .i64 0] 119)
    rwa [World.size_alloc] at this
  have hlk := look_spec (h.below hu1) hh hh2 n hn64
  rw [hk.look n hn64, hp] at hlk
  unfold stV entK at hlk
  dsimp only at hlk
  have HLK := Lib.hid hlk
  have HLT := Lib.hid hlt
  have HU1 := Lib.hid hu1
  have HBP := Lib.hid hbp
  have HBR := Lib.hid hbr
  have HPB := Lib.hid hpb
  have HW1 := Lib.hid hw1
  have p0 : w1.cell? ⟨pb, 0, none⟩ = some (.int .i64 (n : Int)) := by rw [blk_cell hbp]; rfl
  clear h hlt hk hp hpb hw1 hu1 hbp hbr hlk
  unfold plV
  go_enter Tryz.func79, Tryz.ntmps79
  go_upto_region 1 with (fail)
  have hw1 := HW1.out
  have hpb := HPB.out
  rw [← hw1, ← hpb]
  clear hw1 hpb
  go_wp2_with fail
  refine HLK.out.mono ?_
  rintro e w4 ⟨rfl, h4, hu4⟩
  have hne : ∀ i, pb ≤ i → i ∉ [g.j.jb] := fun i hi q => by have := HLT.out.1 i (g.mem i q); have := HPB.out; omega
  have hbp4 := (hu4.block _ (blk_lt HBP.out) (hne _ (Nat.le_refl _))).trans HBP.out
  have hbr4 := (hu4.block _ (blk_lt HBR.out) (hne _ (by omega))).trans HBR.out
  obtain ⟨w5, hw5⟩ : ∃ w5, w5 = w4.alloc (.cells #[.int .i64 0, .int .i64 0, .int .i64 0] 119) := ⟨_, rfl⟩
  obtain ⟨sb, hsb⟩ : ∃ sb, sb = w4.heap.size := ⟨_, rfl⟩
  have hu5 : Upd [] w4 w5 := by rw [hw5]; exact (Upd.refl _ _).alloc _
  have hb5 : w5.heap[sb]? = some (.cells #[.int .i64 0, .int .i64 0, .int .i64 0] 119 (0, 0)) := by rw [hw5, hsb]; exact blk_alloc _
  have hbp5 := (hu5.block _ (blk_lt hbp4) (by simp)).trans hbp4
  have hbr5 := (hu5.block _ (blk_lt hbr4) (by simp)).trans hbr4
  have H5 := Lib.hid (h4.below hu5)
  have HU5 := Lib.hid (((HU1.out.mono (by simp)).trans hu4).trans (hu5.mono (by simp)))
  have m0 : w5.cell? ⟨sb, 0, none⟩ = some (.int .i64 0) := by rw [blk_cell hb5]; rfl
  have m1 : w5.cell? ⟨sb, 1, none⟩ = some (.int .i64 0) := by rw [blk_cell hb5]; rfl
  have n1 : w5.cell? ⟨pb, 1, none⟩ = some (.int .i64 (at_ : Int)) := by rw [blk_cell hbp5]; rfl
  have n2 : w5.cell? ⟨pb, 2, none⟩ = some (.int .i64 (ln : Int)) := by rw [blk_cell hbp5]; rfl
  have HB5 := Lib.hid hb5
  have HBR5 := Lib.hid hbr5
  have HW5 := Lib.hid hw5
  have HSB := Lib.hid hsb
  clear p0 h4 hu4 hbp4 hbr4 hw5 hsb hu5 hb5 hbp5 hbr5
  go_upto_region 2 with (fail)
  have hw5 := HW5.out
  have hsb := HSB.out
  rw [← hw5, ← hsb]
  clear hw5 hsb
  go_wp2_with fail
  refine wp_region_reg (wnV sb) [] (by kernel_rfl) (by kernel_rfl) 52 rfl rfl ?_ ?_
  · intro i o L tmps w' ho hI hL hd
    have hi : i < 31 := (Array.getElem?_eq_some_iff.1 ho).1
    have hw5 := (Upd.refl [] w5).drew.trans hI.upd
    have u0 := cell_updP m0 hw5 (by simp)
    have t3 : tmps[3]?.getD undef = .pointer (some ⟨pb, 0, none⟩) := (hI.old 3 (by rfl)).trans rfl
    have t6 : tmps[6]?.getD undef = .pointer (some ⟨sb, 0, none⟩) := (hI.old 6 (by rfl)).trans rfl
    obtain rfl | rfl | rfl | rfl | rfl | rfl | rfl | rfl | rfl | rfl | rfl | rfl | rfl | rfl | rfl | rfl | rfl | rfl | rfl | rfl | rfl | rfl | rfl | rfl | rfl | rfl | rfl | rfl | rfl | rfl | rfl : i = 0 ∨ i = 1 ∨ i = 2 ∨ i = 3 ∨ i = 4 ∨ i = 5 ∨ i = 6 ∨ i = 7 ∨ i = 8 ∨ i = 9 ∨ i = 10 ∨ i = 11 ∨ i = 12 ∨ i = 13 ∨ i = 14 ∨ i = 15 ∨ i = 16 ∨ i = 17 ∨ i = 18 ∨ i = 19 ∨ i = 20 ∨ i = 21 ∨ i = 22 ∨ i = 23 ∨ i = 24 ∨ i = 25 ∨ i = 26 ∨ i = 27 ∨ i = 28 ∨ i = 29 ∨ i = 30 := by omega
    · cases ho
      refine wpOp_step rfl (fun K hK => ?_)
      go_simp
      exact hK _ _ (hI.val_step 0 19 (.pointer (some ⟨sb, 0, none⟩)) (by decide) (Upd.refl _ _) (by simp [wnV]) (by kernel_rfl))
    · cases ho
      have t19 : tmps[19]?.getD undef = .pointer (some ⟨sb, 0, none⟩) := hI.val (0, 19, _) (by simp [wnV]) (hd ⟨0, .data⟩ (by simp) rfl)
      refine wpOp_step rfl (fun K hK => ?_)
      go_simp
      exact hK _ _ (hI.val_step 1 20 (.int .i64 (0 : Int)) (by decide) (Upd.refl _ _) (by simp [wnV]) (by kernel_rfl))
    · cases ho
      have t20 : tmps[20]?.getD undef = .int .i64 (0 : Int) := hI.val (1, 20, _) (by simp [wnV]) (hd ⟨1, .data⟩ (by simp) rfl)
      refine wpOp_step rfl (fun K hK => ?_)
      go_simp
      exact hK _ _ (hI.val_step 2 21 (.bool true) (by decide) (Upd.refl _ _) (by simp [wnV]) (by kernel_rfl))
    · cases ho
      have t21 : tmps[21]?.getD undef = .bool true := hI.val (2, 21, _) (by simp [wnV]) (hd ⟨2, .data⟩ (by simp) rfl)
      refine wpOp_step rfl (fun K hK => ?_)
      go_simp
      exact hK _ _ (hI.val_step 3 22 (.bool true) (by decide) (Upd.refl _ _) (by simp [wnV]) (by kernel_rfl))
    · cases ho
      have t22 : tmps[22]?.getD undef = .bool true := hI.val (3, 22, _) (by simp [wnV]) (hd ⟨3, .guard⟩ (by simp) rfl)
      have tg := tm_some t22
      clear t22
      refine wpOp_step rfl (fun K hK => ?_)
      go_simp
      exact hK _ _ (hI.val_step 4 23 (.tuple #[]) (by decide) (Upd.refl _ _) (by simp [wnV]) (by kernel_rfl))
    · cases ho
      have t23 : tmps[23]?.getD undef = .tuple #[] := hI.val (4, 23, _) (by simp [wnV]) (hd ⟨4, .data⟩ (by simp) rfl)
      have t22 : tmps[22]?.getD undef = .bool true := hI.val (3, 22, _) (by simp [wnV]) (hd ⟨3, .guard⟩ (by simp) rfl)
      have tg := tm_some t22
      clear t22
      refine wpOp_step rfl (fun K hK => ?_)
      go_simp
      exact hK _ _ (hI.val_step 5 24 (.tuple #[]) (by decide) (Upd.refl _ _) (by simp [wnV]) (by kernel_rfl))
    · cases ho
      have t24 : tmps[24]?.getD undef = .tuple #[] := hI.val (5, 24, _) (by simp [wnV]) (hd ⟨5, .data⟩ (by simp) rfl)
      have t22 : tmps[22]?.getD undef = .bool true := hI.val (3, 22, _) (by simp [wnV]) (hd ⟨3, .guard⟩ (by simp) rfl)
      have tg := tm_some t22
      clear t22
      refine wpOp_step rfl (fun K hK => ?_)
      go_simp
      exact hK _ _ (hI.val_step 6 25 (.tuple #[]) (by decide) (Upd.refl _ _) (by simp [wnV]) (by kernel_rfl))
    · cases ho
      have t22 : tmps[22]?.getD undef = .bool true := hI.val (3, 22, _) (by simp [wnV]) (hd ⟨3, .data⟩ (by simp) rfl)
      have t25 : tmps[25]?.getD undef = .tuple #[] := hI.val (6, 25, _) (by simp [wnV]) (hd ⟨6, .data⟩ (by simp) rfl)
      refine wpOp_step rfl (fun K hK => ?_)
      go_simp
      exact hK _ _ (hI.val_step 7 26 (.bool true) (by decide) (Upd.refl _ _) (by simp [wnV]) (by kernel_rfl))
    · cases ho
      have t26 : tmps[26]?.getD undef = .bool true := hI.val (7, 26, _) (by simp [wnV]) (hd ⟨7, .data⟩ (by simp) rfl)
      refine wpOp_step rfl (fun K hK => ?_)
      go_simp
      exact hK _ _ (hI.val_step 8 27 (.bool true) (by decide) (Upd.refl _ _) (by simp [wnV]) (by kernel_rfl))
    · cases ho
      have t27 : tmps[27]?.getD undef = .bool true := hI.val (8, 27, _) (by simp [wnV]) (hd ⟨8, .guard⟩ (by simp) rfl)
      have tg := tm_some t27
      clear t27
      refine wpOp_step rfl (fun K hK => ?_)
      go_simp
      exact hK _ _ (hI.val_step 9 28 (.tuple #[]) (by decide) (Upd.refl _ _) (by simp [wnV]) (by kernel_rfl))
    · cases ho
      have t28 : tmps[28]?.getD undef = .tuple #[] := hI.val (9, 28, _) (by simp [wnV]) (hd ⟨9, .data⟩ (by simp) rfl)
      have t27 : tmps[27]?.getD undef = .bool true := hI.val (8, 27, _) (by simp [wnV]) (hd ⟨8, .guard⟩ (by simp) rfl)
      have tg := tm_some t27
      clear t27
      refine wpOp_step rfl (fun K hK => ?_)
      go_simp
      exact hK _ _ (hI.val_step 10 29 (.tuple #[]) (by decide) (Upd.refl _ _) (by simp [wnV]) (by kernel_rfl))
    · cases ho
      have t27 : tmps[27]?.getD undef = .bool true := hI.val (8, 27, _) (by simp [wnV]) (hd ⟨8, .chain⟩ (by simp) rfl)
      have tg := tm_some t27
      clear t27
      refine wpOp_step rfl (fun K hK => ?_)
      go_simp
      exact hK _ _ (hI.val_step 11 30 (.tuple #[]) (by decide) (Upd.refl _ _) (by simp [wnV]) (by kernel_rfl))
    · cases ho
      have t29 : tmps[29]?.getD undef = .tuple #[] := hI.val (10, 29, _) (by simp [wnV]) (hd ⟨10, .data⟩ (by simp) rfl)
      have t30 : tmps[30]?.getD undef = .tuple #[] := hI.val (11, 30, _) (by simp [wnV]) (hd ⟨11, .data⟩ (by simp) rfl)
      have t27 : tmps[27]?.getD undef = .bool true := hI.val (8, 27, _) (by simp [wnV]) (hd ⟨8, .guard⟩ (by simp) rfl)
      have tg := tm_some t27
      clear t27
      refine wpOp_step rfl (fun K hK => ?_)
      go_simp
      exact hK _ _ (hI.val_step 12 31 (.tuple #[]) (by decide) (Upd.refl _ _) (by simp [wnV]) (by kernel_rfl))
    · cases ho
      have t27 : tmps[27]?.getD undef = .bool true := hI.val (8, 27, _) (by simp [wnV]) (hd ⟨8, .data⟩ (by simp) rfl)
      have t31 : tmps[31]?.getD undef = .tuple #[] := hI.val (12, 31, _) (by simp [wnV]) (hd ⟨12, .data⟩ (by simp) rfl)
      refine wpOp_step rfl (fun K hK => ?_)
      go_simp
      exact hK _ _ (hI.val_step 13 32 (.bool true) (by decide) (Upd.refl _ _) (by simp [wnV]) (by kernel_rfl))
    · cases ho
      have t32 : tmps[32]?.getD undef = .bool true := hI.val (13, 32, _) (by simp [wnV]) (hd ⟨13, .data⟩ (by simp) rfl)
      refine wpOp_step rfl (fun K hK => ?_)
      go_simp
      exact hK _ _ (hI.val_step 14 33 (.bool true) (by decide) (Upd.refl _ _) (by simp [wnV]) (by kernel_rfl))
    · cases ho
      have t33 : tmps[33]?.getD undef = .bool true := hI.val (14, 33, _) (by simp [wnV]) (hd ⟨14, .guard⟩ (by simp) rfl)
      have tg := tm_some t33
      clear t33
      refine wpOp_step rfl (fun K hK => ?_)
      go_simp
      exact hK _ _ (hI.val_step 15 34 (.tuple #[]) (by decide) (Upd.refl _ _) (by simp [wnV]) (by kernel_rfl))
    · cases ho
      have t34 : tmps[34]?.getD undef = .tuple #[] := hI.val (15, 34, _) (by simp [wnV]) (hd ⟨15, .data⟩ (by simp) rfl)
      have t33 : tmps[33]?.getD undef = .bool true := hI.val (14, 33, _) (by simp [wnV]) (hd ⟨14, .guard⟩ (by simp) rfl)
      have tg := tm_some t33
      clear t33
      refine wpOp_step rfl (fun K hK => ?_)
      go_simp
      exact hK _ _ (hI.val_step 16 35 (.tuple #[]) (by decide) (Upd.refl _ _) (by simp [wnV]) (by kernel_rfl))
    · cases ho
      have t33 : tmps[33]?.getD undef = .bool true := hI.val (14, 33, _) (by simp [wnV]) (hd ⟨14, .guard⟩ (by simp) rfl)
      have tg := tm_some t33
      clear t33
      refine wpOp_step rfl (fun K hK => ?_)
      go_simp
      exact hK _ _ (hI.val_step 17 36 (.tuple #[]) (by decide) (Upd.refl _ _) (by simp [wnV]) (by kernel_rfl))
    · cases ho
      have t36 : tmps[36]?.getD undef = .tuple #[] := hI.val (17, 36, _) (by simp [wnV]) (hd ⟨17, .data⟩ (by simp) rfl)
      have t33 : tmps[33]?.getD undef = .bool true := hI.val (14, 33, _) (by simp [wnV]) (hd ⟨14, .guard⟩ (by simp) rfl)
      have tg := tm_some t33
      clear t33
      refine wpOp_step rfl (fun K hK => ?_)
      go_simp
      exact hK _ _ (hI.val_step 18 37 (.tuple #[]) (by decide) (Upd.refl _ _) (by simp [wnV]) (by kernel_rfl))
    · cases ho
      have t35 : tmps[35]?.getD undef = .tuple #[] := hI.val (16, 35, _) (by simp [wnV]) (hd ⟨16, .data⟩ (by simp) rfl)
      have t37 : tmps[37]?.getD undef = .tuple #[] := hI.val (18, 37, _) (by simp [wnV]) (hd ⟨18, .data⟩ (by simp) rfl)
      have t33 : tmps[33]?.getD undef = .bool true := hI.val (14, 33, _) (by simp [wnV]) (hd ⟨14, .guard⟩ (by simp) rfl)
      have tg := tm_some t33
      clear t33
      refine wpOp_step rfl (fun K hK => ?_)
      go_simp
      exact hK _ _ (hI.val_step 19 38 (.tuple #[]) (by decide) (Upd.refl _ _) (by simp [wnV]) (by kernel_rfl))
    · cases ho
      have t33 : tmps[33]?.getD undef = .bool true := hI.val (14, 33, _) (by simp [wnV]) (hd ⟨14, .data⟩ (by simp) rfl)
      have t38 : tmps[38]?.getD undef = .tuple #[] := hI.val (19, 38, _) (by simp [wnV]) (hd ⟨19, .data⟩ (by simp) rfl)
      refine wpOp_step rfl (fun K hK => ?_)
      go_simp
      exact hK _ _ (hI.val_step 20 39 (.bool true) (by decide) (Upd.refl _ _) (by simp [wnV]) (by kernel_rfl))
    · cases ho
      have t39 : tmps[39]?.getD undef = .bool true := hI.val (20, 39, _) (by simp [wnV]) (hd ⟨20, .data⟩ (by simp) rfl)
      refine wpOp_step rfl (fun K hK => ?_)
      go_simp
      exact hK _ _ (hI.val_step 21 40 (.bool true) (by decide) (Upd.refl _ _) (by simp [wnV]) (by kernel_rfl))
    · cases ho
      have t40 : tmps[40]?.getD undef = .bool true := hI.val (21, 40, _) (by simp [wnV]) (hd ⟨21, .guard⟩ (by simp) rfl)
      have tg := tm_some t40
      clear t40
      refine wpOp_step rfl (fun K hK => ?_)
      go_simp
      exact hK _ _ (hI.val_step 22 41 (.tuple #[]) (by decide) (Upd.refl _ _) (by simp [wnV]) (by kernel_rfl))
    · cases ho
      have t41 : tmps[41]?.getD undef = .tuple #[] := hI.val (22, 41, _) (by simp [wnV]) (hd ⟨22, .data⟩ (by simp) rfl)
      have t40 : tmps[40]?.getD undef = .bool true := hI.val (21, 40, _) (by simp [wnV]) (hd ⟨21, .guard⟩ (by simp) rfl)
      have tg := tm_some t40
      clear t40
      refine wpOp_step rfl (fun K hK => ?_)
      go_simp
      exact hK _ _ (hI.val_step 23 42 (.tuple #[]) (by decide) (Upd.refl _ _) (by simp [wnV]) (by kernel_rfl))
    · cases ho
      have t40 : tmps[40]?.getD undef = .bool true := hI.val (21, 40, _) (by simp [wnV]) (hd ⟨21, .guard⟩ (by simp) rfl)
      have tg := tm_some t40
      clear t40
      refine wpOp_step rfl (fun K hK => ?_)
      go_simp
      exact hK _ _ (hI.val_step 24 43 (.tuple #[]) (by decide) (Upd.refl _ _) (by simp [wnV]) (by kernel_rfl))
    · cases ho
      have t43 : tmps[43]?.getD undef = .tuple #[] := hI.val (24, 43, _) (by simp [wnV]) (hd ⟨24, .data⟩ (by simp) rfl)
      have t40 : tmps[40]?.getD undef = .bool true := hI.val (21, 40, _) (by simp [wnV]) (hd ⟨21, .guard⟩ (by simp) rfl)
      have tg := tm_some t40
      clear t40
      refine wpOp_step rfl (fun K hK => ?_)
      go_simp
      exact hK _ _ (hI.val_step 25 44 (.tuple #[]) (by decide) (Upd.refl _ _) (by simp [wnV]) (by kernel_rfl))
    · cases ho
      have t40 : tmps[40]?.getD undef = .bool true := hI.val (21, 40, _) (by simp [wnV]) (hd ⟨21, .guard⟩ (by simp) rfl)
      have tg := tm_some t40
      clear t40
      refine wpOp_step rfl (fun K hK => ?_)
      go_simp
      exact hK _ _ (hI.val_step 26 45 (.tuple #[]) (by decide) (Upd.refl _ _) (by simp [wnV]) (by kernel_rfl))
    · cases ho
      have t45 : tmps[45]?.getD undef = .tuple #[] := hI.val (26, 45, _) (by simp [wnV]) (hd ⟨26, .data⟩ (by simp) rfl)
      have t40 : tmps[40]?.getD undef = .bool true := hI.val (21, 40, _) (by simp [wnV]) (hd ⟨21, .guard⟩ (by simp) rfl)
      have tg := tm_some t40
      clear t40
      refine wpOp_step rfl (fun K hK => ?_)
      go_simp
      exact hK _ _ (hI.val_step 27 46 (.tuple #[]) (by decide) (Upd.refl _ _) (by simp [wnV]) (by kernel_rfl))
    · cases ho
      have t44 : tmps[44]?.getD undef = .tuple #[] := hI.val (25, 44, _) (by simp [wnV]) (hd ⟨25, .data⟩ (by simp) rfl)
      have t46 : tmps[46]?.getD undef = .tuple #[] := hI.val (27, 46, _) (by simp [wnV]) (hd ⟨27, .data⟩ (by simp) rfl)
      have t40 : tmps[40]?.getD undef = .bool true := hI.val (21, 40, _) (by simp [wnV]) (hd ⟨21, .guard⟩ (by simp) rfl)
      have tg := tm_some t40
      clear t40
      refine wpOp_step rfl (fun K hK => ?_)
      go_simp
      exact hK _ _ (hI.val_step 28 47 (.tuple #[]) (by decide) (Upd.refl _ _) (by simp [wnV]) (by kernel_rfl))
    · cases ho
      have t42 : tmps[42]?.getD undef = .tuple #[] := hI.val (23, 42, _) (by simp [wnV]) (hd ⟨23, .data⟩ (by simp) rfl)
      have t47 : tmps[47]?.getD undef = .tuple #[] := hI.val (28, 47, _) (by simp [wnV]) (hd ⟨28, .data⟩ (by simp) rfl)
      have t40 : tmps[40]?.getD undef = .bool true := hI.val (21, 40, _) (by simp [wnV]) (hd ⟨21, .guard⟩ (by simp) rfl)
      have tg := tm_some t40
      clear t40
      refine wpOp_step rfl (fun K hK => ?_)
      go_simp
      exact hK _ _ (hI.val_step 29 48 (.tuple #[]) (by decide) (Upd.refl _ _) (by simp [wnV]) (by kernel_rfl))
    · cases ho
      have t40 : tmps[40]?.getD undef = .bool true := hI.val (21, 40, _) (by simp [wnV]) (hd ⟨21, .data⟩ (by simp) rfl)
      have t48 : tmps[48]?.getD undef = .tuple #[] := hI.val (29, 48, _) (by simp [wnV]) (hd ⟨29, .data⟩ (by simp) rfl)
      refine wpOp_step rfl (fun K hK => ?_)
      go_simp
      exact hK _ _ (hI.val_step 30 49 (.bool true) (by decide) (Upd.refl _ _) (by simp [wnV]) (by kernel_rfl))
  · intro L tmps w4 hI hall
    have hat := hI.fin rfl (fun t ht => hall _ (by have h9 := List.all_eq_true.1 (show ((wnV sb).all fun t => decide (t.1 < 31)) = true from rfl) t ht; simpa using h9))
    have hu4 := hI.upd
    clear hI hall
    simp only [wnV, List.map_cons, List.map_nil, sets, List.setIfInBounds_toArray, List.set_cons_zero, List.set_cons_succ] at hat
    rw [hat]
    clear hat tmps
  --END
    have hb6 := (hu4.block _ (blk_lt (w := w5.drew) HB5.out) (by simp)).trans HB5.out
    have hbr6 := (hu4.block _ (blk_lt (w := w5.drew) HBR5.out) (by simp)).trans HBR5.out
    have u0 : w4.cell? ⟨sb, 0, none⟩ = some (.int .i64 0) := by rw [blk_cell hb6]; rfl
    have u1 : w4.cell? ⟨sb, 1, none⟩ = some (.int .i64 0) := by rw [blk_cell hb6]; rfl
    have u2 : w4.cell? ⟨sb, 2, none⟩ = some (.int .i64 0) := by rw [blk_cell hb6]; rfl
    have r0 : w4.cell? ⟨pb + 1, 0, none⟩ = some (.int .i64 0) := by rw [blk_cell hbr6]; rfl
    have r1 : w4.cell? ⟨pb + 1, 1, none⟩ = some (.int .i64 0) := by rw [blk_cell hbr6]; rfl
    have r2 : w4.cell? ⟨pb + 1, 2, none⟩ = some (.int .i64 0) := by rw [blk_cell hbr6]; rfl
    have f0 := blk_free hbr6 0
    have f1 := blk_free hbr6 1
    have f2 := blk_free hbr6 2
    have H6 := Lib.hid (H5.out.below ((Upd.refl [] w5).drew.trans hu4))
    have HU6 := Lib.hid (HU5.out.trans (((Upd.refl [] w5).drew.trans hu4).mono (by simp)))
    have HBR6 := Lib.hid hbr6
    clear hb6 hbr6 hu4 m0 m1 n1 n2
    go_wp2_with fail
    refine bodyPost_ret (results_st (p := 4) (u := 5) (by rfl) _ _ (pb + 1) (.int .i64 0) (.int .i64 0) (.int .i64 0) (by rfl) (blk_set (blk_set (blk_set HBR6.out 0 _) 1 _) 2 _)) (by rfl) ?_
    have hpb := HPB.out
    have hu7 : Upd [pb + 1] w4 (((w4.setCell ⟨pb + 1, 0, none⟩ (.int .i64 0)).setCell ⟨pb + 1, 1, none⟩ (.int .i64 0)).setCell ⟨pb + 1, 2, none⟩ (.int .i64 0)) := (Upd.refl _ _).three _ _ _ (.inl (List.mem_singleton.2 rfl))
    exact ⟨rfl, H6.out.res HLT.out (by omega) HBR6.out (by decide) hu7, HU6.out.late hu7 (fun i hi => .inr (by simp at hi; omega))⟩
set_option maxRecDepth 100000 in
set_option maxHeartbeats 4000000 in
theorem get_no {w : World} {g : Sg} {M : Nat → Option Sec} {K : Nat → Option Pk} (h : SpAt w g M) (hk : PksAt (g.cur M) g.h (g.T M) K) (hh : 20 ≤ g.h) (hh2 : g.h ≤ 4096) {n : Nat} (hn64 : n < 64) (hp : K n = Option.none) (at_ ln : Nat) (key : List UInt8) (hkl : key.length = 32) :
    Calls Tryz.prog 32 #[.pointer (some ⟨g.x.tb, 0, none⟩), plV (n, at_, ln), .agg (bts key).toArray] w fun e w' => e = .returned (.tuple #[.slice none 0 0, .int .i64 1]) ∧ SpAt w' g M ∧ Upd [g.j.jb] w w' := by
  have hlt := h.lt
  obtain ⟨pb, hpb⟩ : ∃ pb, pb = w.heap.size := ⟨_, rfl⟩
  obtain ⟨w1, hw1⟩ : ∃ w1, w1 = (w.alloc (.cells #[.int .i64 (n : Int), .int .i64 (at_ : Int), .int .i64 (ln : Int)] 30)).alloc (.cells (bts key).toArray 35) := ⟨_, rfl⟩
  have hu1 : Upd [] w w1 := by rw [hw1]; exact ((Upd.refl _ _).alloc _).alloc _
  have hbp : w1.heap[pb]? = some (.cells #[.int .i64 (n : Int), .int .i64 (at_ : Int), .int .i64 (ln : Int)] 30 (0, 0)) := by
    rw [hw1, hpb]
    exact (((Upd.refl [] _).alloc _).block _ (by simp) (by simp)).trans (blk_alloc _)
  have hwi := within_no (h.below hu1) hk hh hh2 hn64 hp at_ ln
  unfold plV at hwi
  dsimp only at hwi
  have hik : (Tryz.prog.info? 35).map (·.size) = some (bts key).toArray.size := by rw [List.size_toArray, bts_length, hkl]; exact infoIDp
  have hone : (bts key).toArray.all (·.oneCell') = true := by
    rw [Array.all_eq_true_iff_forall_mem]
    intro x hx
    exact bts_one _ x (by simpa using hx)
  have HWI := Lib.hid hwi
  have HLT := Lib.hid hlt
  have HU1 := Lib.hid hu1
  have HBP := Lib.hid hbp
  have HPB := Lib.hid hpb
  have HW1 := Lib.hid hw1
  have p0 : w1.cell? ⟨pb, 0, none⟩ = some (.int .i64 (n : Int)) := by rw [blk_cell hbp]; rfl
  have p1 : w1.cell? ⟨pb, 1, none⟩ = some (.int .i64 (at_ : Int)) := by rw [blk_cell hbp]; rfl
  have p2 : w1.cell? ⟨pb, 2, none⟩ = some (.int .i64 (ln : Int)) := by rw [blk_cell hbp]; rfl
  clear h hlt hk hp hpb hw1 hu1 hbp hwi
  unfold plV
  go_enter Tryz.func32, Tryz.ntmps32
  go_upto_region 1 with (fail)
  have hw1 := HW1.out
  have hpb := HPB.out
  rw [← hw1, ← hpb]
  clear hw1 hpb
  go_wp2_with fail
  refine HWI.out.mono ?_
  rintro e w4 ⟨rfl, h4, hu4⟩
  clear p0 p1 p2
  go_wp2_with fail
  go_ret2
  have hu5 : Upd [] w4 (w4.alloc (.cells #[.int .i64 0, .int .i64 0, .int .i64 0] 119)) := (Upd.refl _ _).alloc _
  exact ⟨rfl, h4.below hu5, ((HU1.out.mono (by simp)).trans hu4).trans (hu5.mono (by simp))⟩
end Go.Proofs.YtceakcejchbbjaaGreat
end

section
set_option linter.unusedSimpArgs false
set_option linter.unusedVariables false
namespace Go.Proofs.YtceakcejchbbjaaGreat
open Go.RowKit Go.MapKept Go.ChangeMaps

theorem RdL.cellZ {w : World} {S : List Nat} {a : Option Addr} {n c : Nat} {cs : List Value} (h : RdL w S (.slice a n c) cs) {i : Nat} {x : Value} (hi : cs[i]? = some x) : ∃ b off, b < w.heap.size ∧ a = some ⟨b, off, none⟩ ∧ w.cell? ⟨b, off + i, none⟩ = some x := by
  obtain ⟨ao, cap, e, hc, hh⟩ := h
  obtain ⟨hlt, hx⟩ := List.getElem?_eq_some_iff.1 hi
  obtain ⟨b, off, hb, hab, hcell⟩ := hh (by omega)
  cases e
  have h1 : w.cell? ⟨b, off + i, none⟩ = some x := by rw [hcell i hlt, hx]
  exact ⟨b, off, block_lt_of_cell h1, hab, h1⟩
theorem RoomR.uniq {K : Nat → Option Pk} {but : Int} {l n n' f f' : Nat} (a : RoomR K but l n f) (b : RoomR K but l n' f') : n = n' ∧ (n = 64 → f = f') := by
  have hn : n = n' := by
    rcases Nat.lt_trichotomy n n' with h | h | h
    · exact absurd (a.fits (by have := b.le; omega)) (b.first n h)
    · exact h
    · exact absurd (b.fits (by have := a.le; omega)) (a.first n' h)
  subst hn
  refine ⟨rfl, fun h64 => ?_⟩
  have h1 := a.free_le
  have h2 := b.free_le
  rcases Nat.lt_trichotomy f f' with h | h | h
  · exact absurd (a.free_none (by omega)) (b.free_first f (by omega) h)
  · exact h
  · exact absurd (b.free_none (by omega)) (a.free_first f' (by omega) h)
theorem AddOut.uniq {K K1 K2 : Nat → Option Pk} {T T1 T2 : Nat → Bool} {h : Nat} {f : List UInt8} {x y : Nat × Nat} (a : AddOut K T h f K1 T1 (some x)) (b : AddOut K T h f K2 T2 (some y)) : x = y := by
  rcases a with ⟨f1, p1, q1, a1, a2, a3, _⟩ | ⟨s1, q1, a1, a2, _⟩ <;> rcases b with ⟨f2, p2, q2, b1, b2, b3, _⟩ | ⟨s2, q2, b1, b2, _⟩
  · obtain ⟨e, _⟩ := q1.uniq q2
    rw [e, b2] at a2
    cases a2
    exact Prod.ext e (by rw [a3, b3])
  · have := (q1.uniq q2).1; omega
  · have := (q1.uniq q2).1; omega
  · exact Prod.ext ((q1.uniq q2).2 rfl) (by rw [a2, b2])
/-- The place that a record will get is known ahead. -/
theorem RowOf.place {m h : Nat} {K : Nat → Option Pk} {T : Nat → Bool} (r : RowOf m K T) (hm : m < 64) (hh : 4 + 16 * m + 16 ≤ h) (f : List UInt8) : ∃ x : Nat × Nat, ∀ K' T' o, AddOut K T h f K' T' o → o = some x := by
  by_cases hex : ∃ K' T' o, AddOut K T h f K' T' o
  · obtain ⟨K', T', o, a⟩ := hex
    obtain ⟨x, m', rfl, _⟩ := r.add hm hh a
    refine ⟨x, fun K2 T2 o2 a2 => ?_⟩
    obtain ⟨y, m2, rfl, _⟩ := r.add hm hh a2
    rw [a.uniq a2]
  · exact ⟨(0, 0), fun K' T' o a => absurd ⟨K', T', o, a⟩ hex⟩
/-! ## what is told -/
def TellAt (K : Nat → Option Pk) (Rs : List Rc) : Prop := ∀ r, r ∈ Rs → r.key.length = 32 ∧ r.b.length ≤ 4200 ∧ ∀ p, K r.n = some p → r.at_ + r.len ≤ p.data.length ∧ (p.data.drop r.at_).take r.len = frameB r.key r.b
theorem RecsAt.tell {K : Nat → Option Pk} {R Rs : List Rc} (k : RecsAt K R) (h : ∀ r, r ∈ Rs → r ∈ R) : TellAt K Rs := fun r hr => by
  obtain ⟨h1, h2, p, hp, h3⟩ := k.rec_ r (h r hr)
  refine ⟨h1, h2, fun q hq => ?_⟩
  rw [hp] at hq; cases hq
  exact h3
theorem TellAt.drop {K K' : Nat → Option Pk} {T T' : Nat → Bool} {Rs : List Rc} {n l : Nat} (t : TellAt K Rs) (d : DropOut K T n l K' T') : TellAt K' Rs := fun r hr => by
  obtain ⟨h1, h2, h3⟩ := t r hr
  refine ⟨h1, h2, fun q hq => ?_⟩
  obtain ⟨p, hp, hl, h | h⟩ := d
  · by_cases e : r.n = n
    · rw [h.2.1, e, setP_same] at hq; cases hq
    · rw [h.2.1, setP_ne _ _ e] at hq; exact h3 q hq
  · by_cases e : r.n = n
    · rw [h.2.1, e, setP_same] at hq; cases hq
      exact h3 p (by rw [e]; exact hp)
    · rw [h.2.1, setP_ne _ _ e] at hq; exact h3 q hq
theorem RecsAt.perm {K : Nat → Option Pk} {R R' : List Rc} (k : RecsAt K R) (h : R.Perm R') : RecsAt K R' :=
  ⟨fun r hr => k.rec_ r (h.symm.subset hr), fun n p hp => by rw [← liveOf_perm h]; exact k.live n p hp⟩
/-! ## the round's Add -/
/-- What stands behind an Add of PackTold: R are the records, the newest ahead. -/
def ToldOut (g : Sg) (K : Nat → Option Pk) (R : List Rc) (m : Nat) (x : Nat × Nat) (key bb : List UInt8) (w : World) : Prop :=
  ∃ M' K' m', SpAt w g M' ∧ PksAt (g.cur M') g.h (g.T M') K' ∧ cntM M' g.h ≤ 18 ∧ RecsAt K' (⟨x.1, x.2, key, bb⟩ :: R) ∧ (∀ r, r ∈ R → r.off x.1 x.2 (46 + bb.length)) ∧ m' ≤ m + 1 ∧ RowOf m' K' (g.T M')
theorem ToldOut.below {g : Sg} {K : Nat → Option Pk} {R : List Rc} {m : Nat} {x : Nat × Nat} {key bb : List UInt8} {w w' : World} (h : ToldOut g K R m x key bb w) (hu : Upd [] w w') : ToldOut g K R m x key bb w' := by
  obtain ⟨M', K', m', h1, h2⟩ := h
  exact ⟨M', K', m', h1.below hu, h2⟩
theorem ToldOut.res {g : Sg} {K : Nat → Option Pk} {R : List Rc} {m : Nat} {x : Nat × Nat} {key bb : List UInt8} {w0 w w' : World} (h0 : (∀ k, k ∈ g.S → k < w0.heap.size) ∧ g.x.tb < w0.heap.size) (h : ToldOut g K R m x key bb w) {b : Nat} (hb : w0.heap.size ≤ b) {c : Array Value} {fr : Nat × Nat} (he : w.heap[b]? = some (.cells c 30 fr)) (hu : Upd [b] w w') : ToldOut g K R m x key bb w' := by
  obtain ⟨M', K', m', h1, h2⟩ := h
  exact ⟨M', K', m', h1.res h0 hb he (by decide) hu, h2⟩
theorem told_add {w wr : World} {j : JG} {n : Nat} {b : Int} {g : Sg} {K : Nat → Option Pk} {R : List Rc} {m : Nat} (h : PkAt w wr j n 60 b g K) (k : RecsAt K R) (rw_ : RowOf m K (g.T fun _ => none)) (hn : 760 ≤ n) (hn2 : n ≤ 800) (hm : m ≤ 40) (key bb : List UInt8) (hkl : key.length = 32) (hbl : bb.length ≤ 4200) :
    ∃ x : Nat × Nat, ∀ W vb, Upd [] wr W → Rd W vb bb → Calls Tryz.prog 16 #[.pointer (some ⟨g.x.tb, 0, none⟩), .agg (bts key).toArray, vb] W fun e w' => e = .returned (.tuple #[plV (x.1, x.2, 46 + bb.length), .int .i64 ((0 : Nat) : Int)]) ∧ ToldOut g K R m x key bb w' ∧ Upd g.S W w' := by
  have hgh := h.h
  obtain ⟨x, hx⟩ := rw_.place (h := g.h) (by omega) (by omega) (frameB key bb)
  refine ⟨x, fun W vb hu hr => ?_⟩
  refine (add_pk (h.sp.below hu) h.pk (by omega) (by omega) (by rw [cntM_none]; omega) key bb vb hr hkl hbl).mono ?_
  rintro e w' ⟨M', K', o, rfl, h1, h2, h3, h4, h5⟩
  rw [cntM_none] at h4
  obtain rfl := hx _ _ _ h3
  obtain ⟨x', m', e1, hm', hrow⟩ := rw_.add (by omega) (by omega) h3
  obtain ⟨k1, k2⟩ := k.add hkl hbl h3
  exact ⟨rfl, ⟨M', K', m', h1, h2, by omega, k1, k2, hm', hrow⟩, h5⟩
/-! ## rows of places beside a transaction -/
theorem SpAt.otherP {w : World} {g : Sg} {M : Nat → Option Sec} (h : SpAt w g M) {b : Nat} {c : Array Value} {fr : Nat × Nat} (hb : w.heap[b]? = some (.cells c 30 fr)) : b ∉ g.x.tb :: g.S := by
  simp only [Sg.S, List.mem_cons, not_or]
  refine ⟨?_, ?_, h.jr.at_.kind hb (by decide) (by decide) (by decide)⟩
  · rintro rfl; have := h.tx.st; rw [hb] at this; simp at this
  · rintro rfl; exact h.tx.map hb
theorem SpAt.otherB {w : World} {g : Sg} {M : Nat → Option Sec} (h : SpAt w g M) {b : Nat} {c : Array Value} {fr : Nat × Nat} (hb : w.heap[b]? = some (.cells c 4 fr)) : b ∉ g.x.tb :: g.S := by
  simp only [Sg.S, List.mem_cons, not_or]
  refine ⟨?_, ?_, h.jr.at_.kind hb (by decide) (by decide) (by decide)⟩
  · rintro rfl; have := h.tx.st; rw [hb] at this; simp at this
  · rintro rfl; exact h.tx.map hb
theorem PlB.sp {w w' : World} {g : Sg} {M : Nat → Option Sec} {B : Nat} {v : Value} {ps : List (Nat × Nat × Nat)} (h : PlB w B v ps) (hs : SpAt w g M) {S : List Nat} (hu : Upd S w w') (hS : ∀ k, k ∈ S → k ∈ g.x.tb :: g.S) : PlB w' B v ps :=
  h.upd hu fun k c hk e => hs.otherP e (hS k hk)
theorem JsAt.own {w w' : World} {j : JG} {n ring : Nat} {b : Int} {H : Nat → Sec} (h : JsAt w j n ring b H) {S : List Nat} (hu : Upd S w w') (hS : ∀ k, k ∈ S → ∃ c, w.heap[k]? = some (.cells c 30 (0, 0))) : JsAt w' j n ring b H := by
  obtain ⟨J, D, t, m, h1, h2⟩ := h
  exact ⟨J, D, t, m, h1.own hu (fun k hk => by
    obtain ⟨c, e⟩ := hS k hk
    exact ⟨_, _, _, e, by decide, by decide, by decide, by decide⟩), h2⟩
theorem PlB.cellQ {w : World} {B : Nat} {al : Option Addr} {n cl : Nat} {ps : List (Nat × Nat × Nat)} (h : PlB w B (.slice al n cl) ps) {k : Nat} {p : Nat × Nat × Nat} (hp : ps[k]? = some p) :
    ∃ g, al = some ⟨g, 0, none⟩ ∧ w.cell? ⟨g, k * 3, none⟩ = some (.int .i64 (p.1 : Int)) ∧ w.cell? ⟨g, k * 3 + 1, none⟩ = some (.int .i64 (p.2.1 : Int)) ∧ w.cell? ⟨g, k * 3 + 2, none⟩ = some (.int .i64 (p.2.2 : Int)) := by
  obtain ⟨hlt, hx⟩ := List.getElem?_eq_some_iff.1 hp
  obtain ⟨g, c, e, c0, c1, c2⟩ := h.cell k hlt
  injection e with e1
  rw [hx] at c0 c1 c2
  exact ⟨g, e1, c0, c1, c2⟩
theorem RecsAt.bound {K : Nat → Option Pk} {R : List Rc} {c : Nat → Sec} {h : Nat} {T : Nat → Bool} (k : RecsAt K R) (pk : PksAt c h T K) {r : Rc} (hr : r ∈ R) : r.at_ + r.len ≤ 8192 := by
  obtain ⟨_, _, p, hp, h3, _⟩ := k.rec_ r hr
  have := pk.low _ p hp
  omega
theorem JsAt.beginU {w W : World} {j : JG} {n ring : Nat} {b : Int} {H : Nat → Sec} {K : Nat → Option Pk} {T : Nat → Bool} (h : JsAt W j n ring b H) (hj : ∀ k, k ∈ j.all → w.heap.size ≤ k) (hu : Upd [] w W) (hT : ∀ i, T i = bitB (fixB (H 1)) i) (hk : PksAt H (n - 2 - ring) T K) :
    Calls Tryz.prog 20 #[.pointer (some ⟨j.jb, 0, none⟩)] W fun e w' => ∃ g : Sg, e = .returned (.tuple #[.pointer (some ⟨g.x.tb, 0, none⟩), .int .i64 0]) ∧ PkAt w w' j n ring b g K ∧ (g.T fun _ => none) = T ∧ Upd j.all W w' := by
  refine (begin_js h).mono ?_
  rintro e w' ⟨g, rfl, ht, hsp, hu2⟩
  have hgT : (g.T fun _ => none) = T := by
    funext i
    rw [hT]
    show bitB (fixB ((g.cur fun _ => none) 1)) i = _
    unfold Sg.cur
    rw [ht.H]; rfl
  have hH : (g.cur fun _ => none) = H := by
    funext i
    unfold Sg.cur
    rw [ht.H]; rfl
  refine ⟨g, rfl, ⟨⟨W, by rw [ht.H]; exact ht, hu.size⟩, hsp, ?_, late_all hu hu2 hj⟩, hgT, hu2⟩
  rw [hH, hgT, ht.h]
  exact hk
theorem PlB.js {w w' : World} {j : JG} {n ring : Nat} {b : Int} {H : Nat → Sec} {B : Nat} {v : Value} {ps : List (Nat × Nat × Nat)} (h : PlB w B v ps) (hs : JsAt w j n ring b H) (hu : Upd j.all w w') : PlB w' B v ps :=
  h.upd hu fun k c hk e => by
    obtain ⟨J, D, t, m, h1, _⟩ := hs
    exact h1.at_.kind e (by decide) (by decide) (by decide) hk
/-! ## rows of bools (as in SpH) -/
theorem infoBool : (Tryz.prog.info? 4).map (fun i => (i.zero, i.size, i.bytes)) = some (some (.bool false), 1, 1) := by kernel_rfl
/-- A row of bools of h cells. -/
def BlF (w : World) (b h : Nat) (f : Nat → Bool) : Prop := w.heap[b]? = some (.cells ((List.range h).map fun i => Value.bool (f i)).toArray 4 (0, 0))
theorem run_make_bool (n : Nat) (hn : n ≤ 100000) (ni : Int) (hi : ni = (n : Int)) (w : World) : ∃ w', (Instr.makeSlice 62 (.int .i64 ni) (.int .i64 ni)).run Tryz.prog w = .ok (.slice (some ⟨w.heap.size, 0, none⟩) n n) w' ∧ BlF w' w.heap.size n (fun _ => false) ∧ Upd [] w w' := by
  subst hi
  obtain ⟨i0, hi, hz0, hz1, hz2⟩ := info_parts infoBool
  have := run_make (P := Tryz.prog) w 62 4 i0 (.bool false) Tryz.underlying62 hi hz0 .i64 .i64 n n (by omega) (by omega) (by rw [hz2]; omega) (by omega)
  rw [hz1] at this
  simp only [Int.toNat_natCast, Nat.mul_one] at this
  have e : List.replicate n (Value.bool false) = (List.range n).map fun _ => Value.bool false := by
    apply List.ext_getElem
    · simp
    · intro i h1 h2; simp
  have hmc : madeCells (Value.bool false).cells n = ((List.range n).map fun _ => Value.bool false).toArray := by rw [← e]; exact madeCells_one (.bool false) rfl n
  rw [hmc] at this
  exact ⟨_, this, blk_alloc _, (Upd.refl _ _).alloc _⟩
theorem BlF.cell {w : World} {b h : Nat} {f : Nat → Bool} (hb : BlF w b h f) {i : Nat} (hi : i < h) : w.cell? ⟨b, i, none⟩ = some (.bool (f i)) ∧ w.frozen? ⟨b, i, none⟩ = false := by
  refine ⟨?_, blk_free hb i⟩
  rw [blk_cell hb]
  simp [hi]
theorem BlF.set {w : World} {b h : Nat} {f : Nat → Bool} (hb : BlF w b h f) {i : Nat} (x : Bool) : BlF (w.setCell ⟨b, i, none⟩ (.bool x)) b h (fun j => if j = i then x else f j) := by
  unfold BlF
  rw [blk_set hb]
  congr 2
  rw [List.setIfInBounds_toArray]
  congr 1
  apply List.ext_getElem?
  intro j
  rw [List.getElem?_set]
  by_cases e : i = j
  · subst e
    by_cases hi : i < h
    · simp [hi]
    · simp [hi]
  · rw [if_neg e]
    simp only [List.getElem?_map]
    by_cases hj : j < h
    · simp [hj, Ne.symm e]
    · simp [hj]
theorem BlF.ext {w : World} {b h : Nat} {f f' : Nat → Bool} (hb : BlF w b h f) (he : ∀ i, i < h → f' i = f i) : BlF w b h f' := by
  unfold BlF at hb ⊢
  rw [hb]
  congr 3
  apply List.map_congr_left
  intro i hi
  rw [he i (by simpa using hi)]
theorem BlF.upd {w w' : World} {b h : Nat} {f : Nat → Bool} (hb : BlF w b h f) {S : List Nat} (hu : Upd S w w') (hS : b ∉ S) : BlF w' b h f := (hu.block _ (blk_lt hb) hS).trans hb
theorem SpAt.own {w w' : World} {g : Sg} {M : Nat → Option Sec} (h : SpAt w g M) {b hh : Nat} {f : Nat → Bool} (hb : BlF w b hh f) (hu : Upd [b] w w') : SpAt w' g M :=
  ⟨h.jr.own hu (fun k hk => by simp at hk; subst hk; exact ⟨_, _, _, hb, by decide, by decide, by decide, by decide⟩),
   h.tx.upd hu (by simp; rintro rfl; have := h.tx.st; unfold BlF at hb; rw [hb] at this; simp at this) (by simp; rintro rfl; exact h.tx.map hb) (fun k c hk e => by simp at hk; subst hk; unfold BlF at hb; rw [hb] at e; simp at e), h.ne, h.ok, h.len⟩
theorem SpAt.bl {w : World} {g : Sg} {M : Nat → Option Sec} (h : SpAt w g M) {b hh : Nat} {f : Nat → Bool} (hb : BlF w b hh f) : b ∉ g.S := by
  simp only [Sg.S, List.mem_cons, not_or]
  exact ⟨by rintro rfl; exact h.tx.map hb, h.jr.at_.kind hb (by decide) (by decide) (by decide)⟩

/-- Which records are dropped. -/
def goneB (Ls : List (Option Rc)) (i : Nat) : Bool := match Ls[i]? with
  | some none => true
  | _ => false
theorem goneB_new (Rs : List Rc) (i : Nat) : goneB (Rs.map some) i = false := by
  unfold goneB
  rw [List.getElem?_map]
  rcases Rs[i]? with _ | r <;> rfl
theorem goneB_set {Ls : List (Option Rc)} {k : Nat} (hk : k < Ls.length) (i : Nat) : goneB (Ls.set k none) i = if i = k then true else goneB Ls i := by
  unfold goneB
  by_cases e : i = k
  · subst e; rw [List.getElem?_set_self hk, if_pos rfl]
  · rw [List.getElem?_set_ne (fun q => e q.symm), if_neg e]
theorem goneB_false {Ls : List (Option Rc)} {k : Nat} (hk : k < Ls.length) (h : goneB Ls k = false) : ∃ r, Ls[k]? = some (some r) := by
  unfold goneB at h
  rw [List.getElem?_eq_getElem hk] at h ⊢
  rcases hx : Ls[k] with _ | r
  · rw [hx] at h; cases h
  · exact ⟨r, rfl⟩
end Go.Proofs.YtceakcejchbbjaaGreat
end

section
set_option linter.unusedSimpArgs false
set_option linter.unusedVariables false
namespace Go.Proofs.YtceakcejchbbjaaGreat
open Go.RowKit Go.MapKept Go.ChangeMaps

theorem run_build_pl0 (w : World) : (Instr.buildSlice 60 0 #[]).run Tryz.prog w = .ok (.slice (some ⟨w.heap.size, 0, none⟩) 0 0) (w.alloc (.cells #[] 30)) := by kernel_rfl
theorem elemPl : Tryz.prog.elem 60 = 30 := by kernel_rfl
theorem undPl : Tryz.prog.underlying 60 = some (.slice (Tryz.prog.elem 60)) := by kernel_rfl
theorem sizePl (w : World) : (Go.sizeOf (Tryz.prog.elem 60)).run Tryz.prog w = .ok 3 w := by kernel_rfl
theorem pl_front (g k n c : Nat) (hk : k ≤ c) (w : World) : (Instr.slice 60 (.slice (some ⟨g, 0, none⟩) n c) none (some (.int .i64 (k : Int))) none).run Tryz.prog w = .ok (.slice (some ⟨g, 0, none⟩) k c) w := by
  rw [run_slice_h (P := Tryz.prog) w 60 (some ⟨g, 0, none⟩) n c undPl .i64 (k : Int) (by omega) (by omega), sizePl]
  simp [Result.andThen, sliced, Addr.add]
theorem pl_back (g k n c : Nat) (hk : k + 1 ≤ n) (hn : n ≤ c) : ∃ a, (k + 1 < n → a = (k + 1) * 3) ∧ ∀ w, (Instr.slice 60 (.slice (some ⟨g, 0, none⟩) n c) (some (.int .i64 ((k : Int) + 1))) none none).run Tryz.prog w = .ok (.slice (some ⟨g, a, none⟩) (n - (k + 1)) (c - (k + 1))) w := by
  refine ⟨if c = k + 1 then 0 else (k + 1) * 3, fun h => by rw [if_neg (by omega)], fun w => ?_⟩
  rw [run_slice_l (P := Tryz.prog) w 60 (some ⟨g, 0, none⟩) n c undPl .i64 ((k : Int) + 1) (by omega) (by omega), sizePl]
  have e : ((k : Int) + 1).toNat = k + 1 := by omega
  rw [e]
  by_cases h : c = k + 1
  · simp [Result.andThen, sliced, h]
  · simp [Result.andThen, sliced, h, Addr.add]
theorem plCells_take : ∀ (ps : List (Nat × Nat × Nat)) (k : Nat), plCells (ps.take k) = (plCells ps).take (k * 3)
  | [], k => by simp [plCells]
  | p :: ps, 0 => by simp [plCells]
  | p :: ps, k + 1 => by
    have ih := plCells_take ps k
    have e : (k + 1) * 3 = k * 3 + 1 + 1 + 1 := by omega
    rw [e]
    show _ :: _ :: _ :: plCells (ps.take k) = _ :: _ :: _ :: (plCells ps).take (k * 3)
    rw [ih]
theorem plCells_drop : ∀ (ps : List (Nat × Nat × Nat)) (k : Nat), plCells (ps.drop k) = (plCells ps).drop (k * 3)
  | [], k => by simp [plCells]
  | p :: ps, 0 => by simp [plCells]
  | p :: ps, k + 1 => by
    have ih := plCells_drop ps k
    have e : (k + 1) * 3 = k * 3 + 1 + 1 + 1 := by omega
    rw [e]
    show plCells (ps.drop k) = (plCells ps).drop (k * 3)
    exact ih
theorem pl_one {ps : List (Nat × Nat × Nat)} {u : Value} (h : u ∈ plCells ps) : u.oneCell' = true := by
  simp only [plCells, List.mem_flatMap] at h
  obtain ⟨p, _, h⟩ := h
  simp at h
  rcases h with rfl | rfl | rfl <;> rfl
theorem PlB.read {w : World} {B : Nat} {g n c : Nat} {ps : List (Nat × Nat × Nat)} (h : PlB w B (.slice (some ⟨g, 0, none⟩) n c) ps) : n = ps.length ∧ n ≤ c ∧ g < w.heap.size ∧ B ≤ g ∧ ∀ o x, (plCells ps)[o]? = some x → w.cell? ⟨g, o, none⟩ = some x := by
  rcases h.2 with ⟨e, _⟩ | ⟨g', cap, cur, e, hb, hg, hc, _, hs, ht⟩
  · cases e
  · cases e
    refine ⟨rfl, hc, blk_lt hg, hb, fun o x hx => ?_⟩
    rw [blk_cell hg, ← hx, ← ht, List.getElem?_take_of_lt (by have := (List.getElem?_eq_some_iff.1 hx).1; rw [plCells_length] at this; omega)]; simp
theorem eraseIdx_map {α β : Type} (f : α → β) : ∀ (l : List α) (k : Nat), (l.eraseIdx k).map f = (l.map f).eraseIdx k
  | [], _ => by simp
  | x :: l, 0 => by simp
  | x :: l, k + 1 => by simp [eraseIdx_map f l k]
theorem run_strA {w : World} {v : Value} {l : List UInt8} (h : Rd w v l) : (convert 37 9 v).run Tryz.prog w = .ok (.string (str l)) w := by
  rcases Nat.lt_or_ge 0 l.length with h0 | h0
  · exact run_str h h0
  · obtain rfl : l = [] := List.length_eq_zero_iff.1 (by omega)
    obtain ⟨ao, cap, rfl, _⟩ := h
    cases ao <;> simp [convert, go_sem, str, Conv.bytesToString] <;> rfl
theorem perm_cut {α : Type} : ∀ {l : List α} {k : Nat} {x : α}, l[k]? = some x → l.Perm (x :: l.eraseIdx k)
  | [], k, x, h => by simp at h
  | y :: l, 0, x, h => by simp at h; subst h; simp
  | y :: l, k + 1, x, h => by
    have ih := perm_cut (l := l) (k := k) (by simpa using h)
    rw [List.eraseIdx_cons_succ]
    exact (ih.cons y).trans (List.Perm.swap x y _)
/-- append(append([]Place{}, l[:k]...), l[k+1:]...) -/
theorem pl_cut {w : World} {B : Nat} {g n c : Nat} {ps : List (Nat × Nat × Nat)} (hp : PlB w B (.slice (some ⟨g, 0, none⟩) n c) ps) (hl : n ≤ 100000) (hB : B ≤ w.heap.size) {k a : Nat} (hk : k < n) (ha : k + 1 < n → a = (k + 1) * 3) :
    ∃ v1 w1 a2 c2 w2, (∀ ty, (Builtin.append_ #[60, 60] ty #[.slice (some ⟨w.heap.size, 0, none⟩) 0 0, .slice (some ⟨g, 0, none⟩) k c]).run Tryz.prog (w.alloc (.cells #[] 30)) = .ok v1 w1) ∧
      (∀ ty, (Builtin.append_ #[60, 60] ty #[v1, .slice (some ⟨g, a, none⟩) (n - (k + 1)) (c - (k + 1))]).run Tryz.prog w1 = .ok (.slice a2 (n - 1) c2) w2) ∧ PlB w2 B (.slice a2 (n - 1) c2) (ps.eraseIdx k) ∧ Upd [] w w2 := by
  obtain ⟨rfl, hc, hgw, hBg, hcell⟩ := hp.read
  obtain ⟨i0, hi, hz0, hz1, hz2⟩ := info_parts infoPl
  have hpl := plCells_length ps
  have h0 : (w.alloc (.cells #[] 30)).ownsRow w.heap.size 30 3 (.slice (some ⟨w.heap.size, 0, none⟩) 0 0) 0 [] :=
    ⟨rfl, .inr ⟨_, 0, #[], rfl, Nat.le_refl _, blk_alloc _, Nat.le_refl _, by decide, rfl, rfl⟩⟩
  obtain ⟨v1, w1, hr1, ho1, hg1, _⟩ := run_append_own (P := Tryz.prog) (w.alloc (.cells #[] 30)) w.heap.size 60 0 30 i0 _ 3 24 Tryz.underlying60 hi hz0 hz1 hz2 rfl (by decide) _ 0 [] h0 ⟨g, 0, none⟩ k c (plCells (ps.take k)) (by rw [plCells_length, List.length_take]; omega)
    (fun j u hj => by
      rw [addr_add, World.cell?_of_block (blk_alloc_ne hgw)]
      rw [plCells_take] at hj
      refine hcell _ _ ?_
      rw [Nat.zero_add]
      have hlt := (List.getElem?_eq_some_iff.1 hj).1
      rw [List.length_take] at hlt
      rwa [List.getElem?_take_of_lt (by omega)] at hj) (fun u hu => pl_one hu) (by unfold maxLen; omega) (by omega) (by simp)
  have hs1 := hg1.size
  have hcell1 : ∀ o x, (plCells ps)[o]? = some x → w1.cell? ⟨g, o, none⟩ = some x := fun o x hx => by
    rw [World.cell?_of_block (hg1.block g (by simp; omega) (by simp [Value.ownBlock]; omega)), World.cell?_of_block (blk_alloc_ne hgw)]
    exact hcell o x hx
  obtain ⟨v2, w2, hr2, ho2, hg2, _⟩ := run_append_own (P := Tryz.prog) w1 w.heap.size 60 0 30 i0 _ 3 24 Tryz.underlying60 hi hz0 hz1 hz2 rfl (by decide) _ _ _ ho1 ⟨g, a, none⟩ (ps.length - (k + 1)) (c - (k + 1)) (plCells (ps.drop (k + 1))) (by rw [plCells_length, List.length_drop])
    (fun j u hj => by
      rw [addr_add]
      rw [plCells_drop, List.getElem?_drop] at hj
      have hlt := (List.getElem?_eq_some_iff.1 hj).1
      rw [hpl] at hlt
      rw [ha (by omega)]
      exact hcell1 _ _ hj) (fun u hu => pl_one hu) (by unfold maxLen; omega) (by omega) (by simp at hs1; omega)
  have he : ps.eraseIdx k = ps.take k ++ ps.drop (k + 1) := List.eraseIdx_eq_take_drop_succ ..
  have hps : PlB w2 B v2 (ps.eraseIdx k) := by
    unfold PlB
    rw [he, List.length_append, List.length_take, List.length_drop, plCells_append]
    have e1 : min k ps.length + (ps.length - (k + 1)) = 0 + k + (ps.length - (k + 1)) := by omega
    rw [e1]
    exact ⟨ho2.1, ho2.2.imp id fun ⟨g', cap, cur, e, hb', r⟩ => ⟨g', cap, cur, e, by omega, r⟩⟩
  obtain ⟨a2, c2, rfl⟩ := hps.shape
  have hle : (ps.eraseIdx k).length = ps.length - 1 := by rw [List.length_eraseIdx, if_pos hk]
  rw [hle] at hr2 hps
  refine ⟨v1, w1, a2, c2, w2, fun _ => hr1, fun _ => hr2, hps, ?_⟩
  have hsz := hg2.size
  refine ⟨(hg2.os.trans hg1.os).trans rfl, (hg2.tape.trans hg1.tape).trans rfl, (hg2.output.trans hg1.output).trans rfl, by simp at hs1; omega, fun b hb _ => ?_⟩
  have hv1 : ∀ x, v1.ownBlock = some x → w.heap.size ≤ x := by
    intro x hx
    rcases ho1.2 with ⟨rfl, _⟩ | ⟨g', cap, cur, rfl, hb', hg', _⟩
    · cases hx
    · simp [Value.ownBlock] at hx
      subst hx
      exact hb'
  rw [hg2.block b (by simp at hs1; omega) (fun q => by have := hv1 b q.symm; omega), hg1.block b (by simp; omega) (by simp [Value.ownBlock]; omega), blk_alloc_ne hb]
/-- The records told so far, in the order in which they were added; the places. -/
def RcsOf (ks : List Int) (Rs : List Rc) : Prop := ∀ (i : Nat) (r : Rc), Rs[i]? = some r → r.key = keyP (i % 256) ∧ ∃ a, ks[i]? = some a ∧ r.b = bodyB i (placeN a 4201)
def plOf (r : Rc) : Nat × Nat × Nat := (r.n, r.at_, r.len)
theorem begun800 : ∀ w, Calls Tryz.prog 14 #[.int .i64 800, .int .i64 60] w fun e w' => ∃ g : Sg, e = .returned (.tuple #[.pointer (some ⟨g.j.jb, 0, none⟩), .pointer (some ⟨g.x.tb, 0, none⟩)]) ∧ BgAt w w' g 800 60 ∧ Upd [] w w' :=
  fun w => begunS 800 60 800 rfl (by omega) (by omega) (by omega) (by omega) (by omega) w
end Go.Proofs.YtceakcejchbbjaaGreat
end
