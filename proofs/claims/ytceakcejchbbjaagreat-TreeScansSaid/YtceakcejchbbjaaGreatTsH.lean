/-
  cofferlaw9.TreeDeep: how deep a tree may be.
-/
import Derived.Test.YtceakcejchbbjaaGreatTsG
import Derived.Test.YtceakcejchbbjaaGreatTsD
set_option linter.unusedSimpArgs false
set_option linter.unusedVariables false
namespace Go.Proofs.YtceakcejchbbjaaGreat
open Go.RowKit Go.MapKept Go.ChangeMaps

/-- How many times a number above 1 may be parted by seven. -/
def mkN (k : Nat) : Nat := if k ≤ 1 then 0 else if k ≤ 13 then 1 else 2
theorem mkN_step {k : Nat} (h : 1 < k) (h2 : k ≤ 97) : mkN k = mkN (k / 7) + 1 := by
  unfold mkN
  by_cases h3 : k ≤ 13
  · rw [if_neg (by omega), if_pos h3, if_pos (by omega)]
  · rw [if_neg (by omega), if_neg h3, if_neg (by omega), if_pos (by omega)]
theorem depth0_spec {w : World} {g : Sg} {M : Nat → Option Sec} (h : SpAt w g M) (hh1 : 1 < g.h) :
    Calls Tryz.prog 29 #[.pointer (some ⟨g.x.tb, 0, none⟩), .int .u32 0] w fun e w' => e = .returned (.tuple #[.int .i64 0, .int .i64 0]) ∧ SpAt w' g M ∧ Upd [g.j.jb] w w' := by
  have hb : ((g.h : Int) == 0) = false := by rw [beq_eq_false_iff_ne]; omega
  have HO := Lib.hid (homesS h)
  have HH := Lib.hid h
  clear h
  go_enter Tryz.func29, Tryz.ntmps29
  go_wp2_with fail
  refine HO.out.mono ?_
  rintro e w1 ⟨rfl, n1, hn1⟩
  have HU1 : Hid (Upd [] w w1) := by show Upd _ _ _; rw [hn1]; exact (Upd.refl _ _).drewN _
  clear hn1
  go_wp2_with fail
  go_ret2
  exact ⟨rfl, HH.out.below HU1.out, HU1.out.mono (by simp)⟩
/-- A tree's depth, any tree's. -/
theorem depth9_spec {w : World} {g : Sg} {M : Nat → Option Sec} (h : SpAt w g M) (hh1 : 1 < g.h) {r : Nat} {l : List Pair9} {S : List Nat} (ht : TreeOn (g.cur M) g.h r l S) (hl : l.length < 490) :
    Calls Tryz.prog 29 #[.pointer (some ⟨g.x.tb, 0, none⟩), .int .u32 (r : Int)] w fun e w' => ∃ D : Nat, e = .returned (.tuple #[.int .i64 (D : Int), .int .i64 0]) ∧ SpAt w' g M ∧ Upd [g.j.jb] w w' ∧ D ≤ (if 0 < l.length then 1 else 0) + mkN (l.length / 5) ∧ (10 < l.length → 2 ≤ D) := by
  rcases ht.at_ with ⟨rfl, rfl, rfl⟩ | ⟨hr, d, hs⟩
  · refine (depth0_spec h hh1).mono ?_
    rintro e w' ⟨e1, e2, e3⟩
    exact ⟨0, e1, e2, e3, by omega, by simp⟩
  · have hd := hs.flat hl
    refine (depth_spec h hs ht.low (by omega)).mono ?_
    rintro e w' ⟨e1, e2, e3⟩
    have hpos : 0 < l.length := by have := hs.ne; exact List.length_pos_iff.2 this
    refine ⟨d + 1, e1, e2, e3, ?_, ?_⟩
    · rw [if_pos hpos]
      cases d with
      | zero => omega
      | succ d =>
        have hm := hs.manyR
        cases d with
        | zero =>
          have : 1 ≤ mkN (l.length / 5) := by
            unfold mkN
            rw [if_neg (by omega)]; split <;> omega
          omega
        | succ d =>
          have h7 : 1 ≤ 7 ^ d := Nat.pos_of_ne_zero (by simp)
          rw [Nat.pow_succ] at hm
          have : 2 ≤ mkN (l.length / 5) := by
            unfold mkN
            rw [if_neg (by omega), if_neg (by omega)]
            exact Nat.le_refl _
          have hd0 : d = 0 := by omega
          omega
    · intro h10
      cases d with
      | zero =>
        have := hs.2.2.1.most
        rw [List.length_map] at this
        omega
      | succ d => omega
def stepL (s : Int) (q : Nat) : List Int := (List.range q).map fun (i : Nat) => ((i : Int) * s) % 997
theorem stepL_succ (s : Int) (q : Nat) : stepL s (q + 1) = stepL s q ++ [((q : Int) * s) % 997] := by unfold stepL; rw [List.range_succ, List.map_append]; rfl
theorem stepL_length (s : Int) (q : Nat) : (stepL s q).length = q := by simp [stepL]
attribute [-go_sem] loadCells storeCells Instr.build Instr.buildSlice
set_option maxRecDepth 100000 in
set_option maxHeartbeats 8000000 in
theorem deep9_spec (a0 a1 : Int) (w : World) : Calls Tryz.prog 5 #[.int .i64 a0, .int .i64 a1] w fun e w' => e = .returned (.bool true) ∧ Upd [] w w' := by
  have hN := placeN_lt (k := a0) (n := 201) (by omega)
  have HN := fun w => Lib.hid (place_spec a0 201 w (by omega) (by omega))
  generalize placeN a0 201 = nN at *
  have hT := placeN_lt (k := a1) (n := 97) (by omega)
  have HT := fun w => Lib.hid (place_spec a1 97 w (by omega) (by omega))
  generalize placeN a1 97 = pT at *
  obtain ⟨sT, hsT⟩ : ∃ sT : Int, sT = 1 + (pT : Int) := ⟨_, rfl⟩
  have hs1 : 1 ≤ sT := by omega
  have hs2 : sT ≤ 97 := by omega
  have hwT : IntKind.i64.wrap (1 + (pT : Int)) = sT := by rw [IntKind.wrap_i64]; omega
  clear hsT hT
  go_enter Tryz.func5, Tryz.ntmps5
  go_wp2_with fail
  refine (begun9_spec _).mono ?_
  rintro e w1 ⟨rfl, hu1⟩
  have HU1 := Lib.hid hu1
  clear hu1
  go_wp2_with fail
  refine (HN _).out.mono ?_
  rintro e w' ⟨rfl, rfl⟩
  go_wp2_with fail
  refine (HT _).out.mono ?_
  rintro e w' ⟨rfl, rfl⟩
  go_wp2_with fail
  go_loopw [6, 5] (fun i ro wr => ∃ (q : Nat), q ≤ nN ∧ i = .int .i64 (q : Int) ∧ IntsB wr w1.heap.size ro (stepL sT q) ∧ Upd [] w1 wr) (fun i _ _ => nN - (intOf i).toNat)
  case atStart => exact ⟨0, by omega, rfl, IntsB.nil _ _, Upd.refl _ _⟩
  case round =>
    obtain ⟨q, hq, rfl, hs, hu⟩ := hrel
    obtain ⟨av, cv, rfl⟩ := hs.shape
    rcases Nat.lt_or_ge q nN with hlt | hge
    · have hqb : decide ((q : Int) < (nN : Int)) = true := decide_eq_true (by omega)
      have hqc : decide (q < nN) = true := decide_eq_true hlt
      have hm0 : 0 ≤ (q : Int) * sT := Int.mul_nonneg (by omega) (by omega)
      have hm1 : (q : Int) * sT ≤ 200 * 97 := Int.mul_le_mul (by omega) (by omega) (by omega) (by omega)
      obtain ⟨a', b', c', w3, hrun, hs3, _, hu3, _⟩ := int_push hs (by rw [stepL_length]; omega) (by have := hu.size; omega) hu (Nat.le_refl _) (((q : Int) * sT) % 997)
      rw [← stepL_succ] at hs3
      have HS3 := Lib.hid hs3
      have HU3 := Lib.hid hu3
      have hwm : wrap64 ((q : Int) * sT) = (q : Int) * sT := by unfold wrap64; omega
      have hwm2 : IntKind.i64.wrap ((q : Int) * sT) = (q : Int) * sT := by rw [IntKind.wrap_i64]; omega
      have hbi := run_build_int (((q : Int) * sT) % 997)
      clear hs hu hs3 hu3
      go_wp2_with (at_builtin; refine wpList_append_run rfl _ _ _ rfl rfl rfl hrun ?_)
      exact ⟨⟨q + 1, by omega, by go_num, HS3.out, HU3.out⟩, by simp [intOf]; omega⟩
    · obtain rfl : q = nN := by omega
      have hqb : decide ((q : Int) < (q : Int)) = false := decide_eq_false (by omega)
      rw [stepL_length]
      rw [stepL_length] at hs
      have HS := Lib.hid hs
      have HU2 := Lib.hid (HU1.out.trans hu)
      clear hs hu
      have HB : Hid (Calls Tryz.prog 14 #[.int .i64 500, .int .i64 60] wr fun e w' => ∃ g : Sg, e = .returned (.tuple #[.pointer (some ⟨g.j.jb, 0, none⟩), .pointer (some ⟨g.x.tb, 0, none⟩)]) ∧ BgAt wr w' g 500 60 ∧ Upd [] wr w') := Lib.hid (begunS 500 60 500 rfl (by omega) (by omega) (by omega) (by omega) (by omega) wr)
      go_wp2_with fail
      refine HB.out.mono ?_
      rintro e w3 ⟨g0, rfl, hg0, hu3⟩
      have hjl : ∀ k, k ∈ g0.j.all → wr.heap.size ≤ k := fun k hk => hg0.late k (by simp [Sg.S, hk])
      have hrd : RdL w3 g0.j.all (.slice av q cv) ((stepL sT q).map fun i => .int .i64 i) := by
        have := RdL.late9 (cs := (stepL sT q).map iv) (by have := HS.out.rd; exact this) hu3 hjl
        exact this
      have HGR := Lib.hid (grown_spec w3 hg0.gr (by omega) (by omega) (by omega) (by omega) (stepL sT q) hrd (by rw [stepL_length]; omega))
      have HU3 := Lib.hid (HU2.out.trans hu3)
      have HL3 : Hid (∀ k, k ∈ g0.j.all → w.heap.size ≤ k) := by show ∀ k, _; exact fun k hk => by have := hjl k hk; have := HU2.out.size; omega
      clear hg0 hu3 hjl hrd
      go_wp2_with fail
      refine HGR.out.mono ?_
      rintro e w4 ⟨r, S, rfl, hgr, hu4⟩
      have HU4 := Lib.hid (late_all HU3.out hu4 HL3.out)
      have HB4 := Lib.hid (begin_gr hgr)
      clear hgr hu4
      go_wp2_with fail
      refine HB4.out.mono ?_
      rintro e w5 ⟨g, rfl, hg, h5, ht, hu5⟩
      have hgh : g.h = 438 := hg.h
      have hgl : ∀ k, k ∈ g.S → w.heap.size ≤ k := fun k hk => by
        rcases hg.S k hk with x | x
        · exact HL3.out k x
        · have := HU4.out.size; omega
      have hln := treeL_len (stepL sT q) []
      rw [stepL_length] at hln
      simp only [List.length_nil] at hln
      obtain ⟨L, hL⟩ : ∃ L, treeL [] (stepL sT q) = L := ⟨_, rfl⟩
      rw [hL] at ht hln
      obtain ⟨c, hc⟩ : ∃ c, L.length = c := ⟨_, rfl⟩
      have hlen := fun w' (h' : SpAt w' g fun _ => none) => len9_spec h' (by omega) (by omega) ht (by omega)
      have hdep := fun w' (h' : SpAt w' g fun _ => none) => depth9_spec h' (by omega) ht (by omega)
      rw [hc] at hlen hdep hln
      have HLN := Lib.hid hlen
      have HDP := Lib.hid hdep
      have HU5 := Lib.hid (late_all HU4.out hu5 HL3.out)
      have HGL := Lib.hid hgl
      have H5 := Lib.hid h5
      clear hg h5 ht hu5 hgh hgl hlen hdep hL hc
      go_wp2_with fail
      refine (HLN.out _ H5.out).mono ?_
      rintro e w6 ⟨rfl, h6, hu6⟩
      have H6 := Lib.hid h6
      have HU6 := Lib.hid (late_all HU5.out hu6 (fun k hk => HGL.out k (g.mem k hk)))
      clear h6 hu6
      go_wp2_with fail
      refine (HDP.out _ H6.out).mono ?_
      rintro e w7 ⟨D, rfl, h7, hu7, hD1, hD2⟩
      have HU7 := Lib.hid (late_all HU6.out hu7 (fun k hk => HGL.out k (g.mem k hk)))
      clear h7 hu7
      by_cases hc0 : 0 < c
      · have hcb : decide (0 < (c : Int)) = true := decide_eq_true (by omega)
        have hcb2 : decide (0 < c) = true := decide_eq_true (by omega)
        rw [if_pos hc0] at hD1
        have hcl : c ≤ 200 := by omega
        have HD1 := Lib.hid hD1
        have HD2 := Lib.hid hD2
        have HCL := Lib.hid hcl
        clear hD1 hD2 hcl hln
        go_wp2_with fail
        go_loopw [16, 15] (fun ki mi wr => ∃ (k m : Nat), ki = .int .i64 (k : Int) ∧ mi = .int .i64 (m : Int) ∧ k ≤ 97 ∧ m + mkN k = 1 + mkN (c / 5) ∧ m ≤ 9 ∧ w7 = wr) (fun ki _ _ => (intOf ki).toNat)
        case atStart => exact ⟨c / 5, 1, (by congr 1 <;> first | rfl | (have := HCL.out; unfold wrap64; omega)), rfl, by have := HCL.out; omega, rfl, by omega, rfl⟩
        case round =>
          obtain ⟨k, m, rfl, rfl, hk, hm, hm9, rfl⟩ := hrel
          have hmk : mkN (c / 5) ≤ 2 := by unfold mkN; split <;> (try split) <;> omega
          rcases Nat.lt_or_ge 1 k with hk1 | hk1
          · have hkb : decide (1 < (k : Int)) = true := decide_eq_true (by omega)
            have hkb2 : decide (1 < k) = true := decide_eq_true hk1
            have hst := mkN_step hk1 hk
            have HST : Hid (m + 1 + mkN (k / 7) = 1 + mkN (c / 5)) := by show _ = _; omega
            have HM9 : Hid (m + 1 ≤ 9) := by show _ ≤ _; omega
            clear hst hm
            go_wp2_with fail
            exact ⟨⟨k / 7, m + 1, by congr 1, by go_num, by omega, HST.out, HM9.out, by first | rfl | trivial⟩, by simp [intOf]; omega⟩
          · have hkb : decide (1 < (k : Int)) = false := decide_eq_false (by omega)
            have hkb2 : decide (1 < k) = false := decide_eq_false (by omega)
            have hk0 : mkN k = 0 := by unfold mkN; rw [if_pos (by omega)]
            have hDm : D ≤ m := by have := HD1.out; omega
            have hdb : decide ((D : Int) ≤ (m : Int)) = true := decide_eq_true (by omega)
            have hdb2 : decide (D ≤ m) = true := decide_eq_true hDm
            by_cases h10 : c ≤ 10
            · have hb10 : decide ((c : Int) ≤ 10) = true := decide_eq_true (by omega)
              have hb11 : decide (c ≤ 10) = true := decide_eq_true h10
              go_wp2_with fail
              go_ret
              exact ⟨rfl, HU7.out⟩
            · have hb10 : decide ((c : Int) ≤ 10) = false := decide_eq_false (by omega)
              have hb11 : decide (c ≤ 10) = false := decide_eq_false h10
              have hD2 := HD2.out (by omega)
              have hb12 : decide (2 ≤ (D : Int)) = true := decide_eq_true (by omega)
              have hb13 : decide (2 ≤ D) = true := decide_eq_true hD2
              go_wp2_with fail
              go_ret
              exact ⟨rfl, HU7.out⟩
      · have hcb : decide (0 < (c : Int)) = false := decide_eq_false (by omega)
        have hcb2 : decide (0 < c) = false := decide_eq_false (by omega)
        rw [if_neg hc0] at hD1
        have hcl : c ≤ 200 := by omega
        have HD1 := Lib.hid hD1
        have HD2 := Lib.hid hD2
        have HCL := Lib.hid hcl
        clear hD1 hD2 hcl hln
        go_wp2_with fail
        go_loopw [16, 15] (fun ki mi wr => ∃ (k m : Nat), ki = .int .i64 (k : Int) ∧ mi = .int .i64 (m : Int) ∧ k ≤ 97 ∧ m + mkN k = 0 + mkN (c / 5) ∧ m ≤ 9 ∧ w7 = wr) (fun ki _ _ => (intOf ki).toNat)
        case atStart => exact ⟨c / 5, 0, (by congr 1 <;> first | rfl | (have := HCL.out; unfold wrap64; omega)), rfl, by have := HCL.out; omega, rfl, by omega, rfl⟩
        case round =>
          obtain ⟨k, m, rfl, rfl, hk, hm, hm9, rfl⟩ := hrel
          have hmk : mkN (c / 5) ≤ 2 := by unfold mkN; split <;> (try split) <;> omega
          rcases Nat.lt_or_ge 1 k with hk1 | hk1
          · have hkb : decide (1 < (k : Int)) = true := decide_eq_true (by omega)
            have hkb2 : decide (1 < k) = true := decide_eq_true hk1
            have hst := mkN_step hk1 hk
            have HST : Hid (m + 1 + mkN (k / 7) = 0 + mkN (c / 5)) := by show _ = _; omega
            have HM9 : Hid (m + 1 ≤ 9) := by show _ ≤ _; omega
            clear hst hm
            go_wp2_with fail
            exact ⟨⟨k / 7, m + 1, by congr 1, by go_num, by omega, HST.out, HM9.out, by first | rfl | trivial⟩, by simp [intOf]; omega⟩
          · have hkb : decide (1 < (k : Int)) = false := decide_eq_false (by omega)
            have hkb2 : decide (1 < k) = false := decide_eq_false (by omega)
            have hk0 : mkN k = 0 := by unfold mkN; rw [if_pos (by omega)]
            have hDm : D ≤ m := by have := HD1.out; omega
            have hdb : decide ((D : Int) ≤ (m : Int)) = true := decide_eq_true (by omega)
            have hdb2 : decide (D ≤ m) = true := decide_eq_true hDm
            by_cases h10 : c ≤ 10
            · have hb10 : decide ((c : Int) ≤ 10) = true := decide_eq_true (by omega)
              have hb11 : decide (c ≤ 10) = true := decide_eq_true h10
              go_wp2_with fail
              go_ret
              exact ⟨rfl, HU7.out⟩
            · have hb10 : decide ((c : Int) ≤ 10) = false := decide_eq_false (by omega)
              have hb11 : decide (c ≤ 10) = false := decide_eq_false h10
              have hD2 := HD2.out (by omega)
              have hb12 : decide (2 ≤ (D : Int)) = true := decide_eq_true (by omega)
              have hb13 : decide (2 ≤ D) = true := decide_eq_true hD2
              go_wp2_with fail
              go_ret
              exact ⟨rfl, HU7.out⟩

end Go.Proofs.YtceakcejchbbjaaGreat
