/-
  SpaceApart answers true: the walk.
-/
import Derived.Test.YtlncfncolkgjfaaSpF
import Derived.Test.YtlncfncolkgjfaaGW
namespace Go.Proofs.Ytlncfncolkgjfaa
open Go.RowKit Go.MapKept Go.ChangeMaps

theorem infoBool : (Try.prog.info? 4).map (fun i => (i.zero, i.size, i.bytes)) = some (some (.bool false), 1, 1) := by kernel_rfl
/-- A row of bools of h cells. -/
def BlF (w : World) (b h : Nat) (f : Nat → Bool) : Prop := w.heap[b]? = some (.cells ((List.range h).map fun i => Value.bool (f i)).toArray 4 (0, 0))
theorem run_make_bool (n : Nat) (hn : n ≤ 100000) (ni : Int) (hi : ni = (n : Int)) (w : World) : ∃ w', (Instr.makeSlice 29 (.int .i64 ni) (.int .i64 ni)).run Try.prog w = .ok (.slice (some ⟨w.heap.size, 0, none⟩) n n) w' ∧ BlF w' w.heap.size n (fun _ => false) ∧ Upd [] w w' := by
  subst hi
  obtain ⟨i0, hi, hz0, hz1, hz2⟩ := info_parts infoBool
  have := run_make (P := Try.prog) w 29 4 i0 (.bool false) Try.underlying29 hi hz0 .i64 .i64 n n (by omega) (by omega) (by rw [hz2]; omega) (by omega)
  rw [hz1] at this
  simp only [Int.toNat_natCast, Nat.mul_one] at this
  have e : List.replicate n (Value.bool false) = (List.range n).map fun _ => Value.bool false := by
    apply List.ext_getElem
    · simp
    · intro i h1 h2; simp
  have hmc : madeCells (Value.bool false).cells n = ((List.range n).map fun _ => Value.bool false).toArray := by rw [← e]; exact madeCells_one (.bool false) rfl n
  rw [hmc] at this
  exact ⟨_, this, blk_alloc _, (Upd.refl _ _).alloc _⟩
theorem BlF.cell {w : World} {b h : Nat} {f : Nat → Bool} (hb : BlF w b h f) {i : Nat} (hi : i < h) : w.cell? ⟨b, i, none⟩ = some (.bool (f i)) ∧ w.frozen? ⟨b, i, none⟩ = false := by
  refine ⟨?_, blk_free hb i⟩
  rw [blk_cell hb]
  simp [hi]
theorem BlF.set {w : World} {b h : Nat} {f : Nat → Bool} (hb : BlF w b h f) {i : Nat} (x : Bool) : BlF (w.setCell ⟨b, i, none⟩ (.bool x)) b h (fun j => if j = i then x else f j) := by
  unfold BlF
  rw [blk_set hb]
  congr 2
  rw [List.setIfInBounds_toArray]
  congr 1
  apply List.ext_getElem?
  intro j
  rw [List.getElem?_set]
  by_cases e : i = j
  · subst e
    by_cases hi : i < h
    · simp [hi]
    · simp [hi]
  · rw [if_neg e]
    simp only [List.getElem?_map]
    by_cases hj : j < h
    · simp [hj, Ne.symm e]
    · simp [hj]
theorem BlF.ext {w : World} {b h : Nat} {f f' : Nat → Bool} (hb : BlF w b h f) (he : ∀ i, i < h → f' i = f i) : BlF w b h f' := by
  unfold BlF at hb ⊢
  rw [hb]
  congr 3
  apply List.map_congr_left
  intro i hi
  rw [he i (by simpa using hi)]
theorem BlF.upd {w w' : World} {b h : Nat} {f : Nat → Bool} (hb : BlF w b h f) {S : List Nat} (hu : Upd S w w') (hS : b ∉ S) : BlF w' b h f := (hu.block _ (blk_lt hb) hS).trans hb
theorem SpAt.own {w w' : World} {g : Sg} {M : Nat → Option Sec} (h : SpAt w g M) {b hh : Nat} {f : Nat → Bool} (hb : BlF w b hh f) (hu : Upd [b] w w') : SpAt w' g M :=
  ⟨h.jr.own hu (fun k hk => by simp at hk; subst hk; exact ⟨_, _, _, hb, by decide, by decide, by decide, by decide⟩),
   h.tx.upd hu (by simp; rintro rfl; have := h.tx.st; unfold BlF at hb; rw [hb] at this; simp at this) (by simp; rintro rfl; exact h.tx.map hb) (fun k c hk e => by simp at hk; subst hk; unfold BlF at hb; rw [hb] at e; simp at e), h.ne, h.ok, h.len⟩
theorem SpAt.bl {w : World} {g : Sg} {M : Nat → Option Sec} (h : SpAt w g M) {b hh : Nat} {f : Nat → Bool} (hb : BlF w b hh f) : b ∉ g.S := by
  simp only [Sg.S, List.mem_cons, not_or]
  exact ⟨by rintro rfl; exact h.tx.map hb, h.jr.at_.kind hb (by decide) (by decide) (by decide)⟩

set_option maxRecDepth 100000 in
set_option maxHeartbeats 4000000 in
theorem apart8_spec (a0 : Int) {v : Value} {ss : List Int} (w : World) (hv : RdL w [] v (ss.map fun i => .int .i64 i)) : Calls Try.prog 3 #[.int .i64 a0, v] w fun e w' => e = .returned (.bool true) ∧ Upd [] w w' := by
  obtain ⟨av, cv, rfl, _⟩ := hv.shape
  have HV := Lib.hid hv
  clear hv
  rw [List.length_map] at HV ⊢
  by_cases h1 : 60 < ss.length
  · have dh1 : decide (60 < (ss.length : Int)) = true := decide_eq_true (by omega)
    go_enter Try.func3, Try.ntmps3
    go_wp2_with fail
    refine (begun8_spec w).mono ?_
    rintro e w1 ⟨rfl, hu1⟩
    have HU1 := Lib.hid hu1
    clear hu1
    go_wp2_with fail
    go_ret
    exact ⟨rfl, HU1.out⟩
  have dh1 : decide (60 < (ss.length : Int)) = false := decide_eq_false (by omega)
  have hN := placeN_lt (k := a0) (n := 200) (by omega)
  have HN := fun w => Lib.hid (place_spec a0 200 w (by omega) (by omega))
  generalize placeN a0 200 = pN at *
  have HB := fun w => Lib.hid (begunS (64 + pN) 16 (64 + (pN : Int)) (by omega) (by omega) (by omega) (by omega) (by omega) (by omega) w)
  go_enter Try.func3, Try.ntmps3
  go_wp2_with fail
  refine (begun8_spec w).mono ?_
  rintro e w1 ⟨rfl, hu1⟩
  have HU1 := Lib.hid hu1
  clear hu1
  go_wp2_with fail
  refine (HN _).out.mono ?_
  rintro e w' ⟨rfl, rfl⟩
  go_wp2_with fail
  refine (HB _).out.mono ?_
  rintro e w2 ⟨g, rfl, hg, hu2⟩
  obtain ⟨hm, hhm⟩ : ∃ hm, hm = 46 + pN := ⟨_, rfl⟩
  have hgh : g.h = hm := by unfold Sg.h; rw [hg.n, hg.ring]; omega
  have HLT : Hid (∀ k, k ∈ g.S → w.heap.size ≤ k) := by show ∀ k, _; exact fun k hk => Nat.le_trans HU1.out.size (hg.late k (by simp [hk]))
  have HG := Lib.hid hg
  have HU2 := Lib.hid (HU1.out.trans hu2)
  have HGH := Lib.hid hgh
  obtain ⟨w3, hmk, hbl3, hu3⟩ := run_make_bool hm (by omega) (64 + (pN : Int) - 18) (by omega) w2
  have hub : w.heap.size ≤ w2.heap.size := HU2.out.size
  have HSP3 := Lib.hid (hg.sp.below hu3)
  have HBL3 := Lib.hid hbl3
  have HU3 := Lib.hid (HU2.out.trans hu3)
  have hm1 : 46 ≤ hm := by omega
  have hm2 : hm ≤ 250 := by omega
  have hT0 := hg.T
  have HT0 := Lib.hid hT0
  clear hg hu2 hgh hbl3 hu3 hT0
  obtain ⟨ub, hubd⟩ : ∃ ub, ub = w2.heap.size := ⟨_, rfl⟩
  rw [← hubd] at hmk HBL3 hub
  clear hubd hhm
  go_wp2_with fail
  clear hmk
  go_loopw [8] (fun i wr => ∃ q : Nat, q ≤ 4 ∧ i = .int .i64 (q : Int) ∧ BlF wr ub hm (fun j => decide (j < q)) ∧ SpAt wr g (fun _ => none) ∧ Upd [] w wr) (fun i _ => 4 - (intOf i).toNat)
  case atStart => exact ⟨0, by omega, rfl, HBL3.out.ext (fun i _ => decide_eq_false (by omega)), HSP3.out, HU3.out⟩
  case round =>
    obtain ⟨q, hq, rfl, hb, hs, hu⟩ := hrel
    by_cases hlt : q < 4
    · have hlt' : decide ((q : Int) < 4) = true := decide_eq_true (by omega)
      obtain ⟨hc, hf⟩ := hb.cell (i := q) (by omega)
      have i0 : (0 : Int) ≤ (q : Int) := by omega
      have i1 : (q : Int) < (hm : Int) := by omega
      have u2 : Upd [ub] wr (wr.setCell ⟨ub, q, none⟩ (.bool true)) := (Upd.refl _ _).set _ (by simp)
      have HB2 := Lib.hid ((hb.set (i := q) true).ext (f' := fun j => decide (j < q + 1)) (fun i _ => by
        by_cases e : i = q
        · rw [if_pos e]; exact decide_eq_true (by omega)
        · rw [if_neg e, decide_eq_decide]; omega))
      have HS2 := Lib.hid (hs.own hb u2)
      have HU2 := Lib.hid (hu.late u2 (fun k hk => by simp at hk; subst hk; exact .inr hub))
      clear hb hs hu u2
      go_wp2_with fail
      exact ⟨⟨q + 1, by omega, by go_num, HB2.out, HS2.out, HU2.out⟩, by simp [intOf]; omega⟩
    · obtain rfl : q = 4 := by omega
      have hlt' : decide (((4 : Nat) : Int) < 4) = false := rfl
      have HB4 := Lib.hid (hb.ext (f' := g.T (fun _ => none)) (fun i _ => HT0.out i))
      have HS4 := Lib.hid hs
      have HU4 := Lib.hid hu
      clear hb hs hu
      go_wp2_with fail
      go_loopw [9] (fun i wr => ∃ (q : Nat) (M : Nat → Option Sec), q ≤ ss.length ∧ i = .int .i64 (q : Int) ∧ SpAt wr g M ∧ ((M 1).isSome = true ∨ cntM M hm < 40) ∧ BlF wr ub hm (g.T M) ∧ Upd [] w wr) (fun i _ => ss.length - (intOf i).toNat)
      case atStart => exact ⟨0, _, Nat.zero_le _, rfl, HS4.out, .inr (by rw [cntM_none]; omega), HB4.out, HU4.out⟩
      case round =>
        obtain ⟨q, M, hq, rfl, hs, hc, hb, hu⟩ := hrel
        have HS := Lib.hid hs
        have HC := Lib.hid hc
        have HBL := Lib.hid hb
        have HU := Lib.hid hu
        clear hs hc hb hu
        by_cases hlt : q < ss.length
        · have hlt' : decide ((q : Int) < (ss.length : Int)) = true := decide_eq_true (by omega)
          obtain ⟨b, o, rfl, c0⟩ := (HV.out.upd HU.out (fun _ h => h)).cell q (by rw [List.length_map]; exact hlt)
          rw [List.getElem_map] at c0
          have i0 : (0 : Int) ≤ (q : Int) := by omega
          have i1 : (q : Int) < (ss.length : Int) := by omega
          have hP := placeN_lt (k := ss[q]) (n := 64) (by omega)
          have HP := fun w => Lib.hid (place_spec ss[q] 64 w (by omega) (by omega))
          generalize ss[q] = xq at *
          generalize placeN xq 64 = pk at *
          have hc5 := take_spec HS.out (by have := HGH.out; omega) (by have := HGH.out; omega) (by rw [HGH.out]; exact HC.out) (1 + pk) (by omega) (by omega)
          rw [show ((1 + pk : Nat) : Int) = 1 + (pk : Int) from by omega] at hc5
          have HC5 := Lib.hid hc5
          clear hc5
          go_wp2_with fail
          refine (HP _).out.mono ?_
          rintro e w' ⟨rfl, rfl⟩
          go_wp2_with fail
          refine HC5.out.mono ?_
          rintro e w5 ⟨hu5, ⟨s, hff, rfl, h5⟩ | ⟨hff, rfl, h5⟩⟩
          · have HB5 := Lib.hid (HBL.out.upd hu5 (HS.out.bl HBL.out))
            have HU5 := Lib.hid (late_all HU.out hu5 HLT.out)
            have hl1 := HS.out.cur_len 1
            have hs4 : 4 ≤ s := by
              rcases Nat.lt_or_ge s 4 with r | r
              · have := hff.2.1 0 (by omega)
                rw [Sg.T_low hl1 (by omega)] at this
                simp at this
              · exact r
            have hsk : s + (1 + pk) ≤ hm := by have := hff.1; have := HGH.out; omega
            have HTT := Lib.hid (fun i => Sg.T_turn (g := g) (M := M) hl1 (s := s) (n := 1 + pk) true hs4 (by omega) i)
            have HFR := Lib.hid hff.2.1
            have HSM := put1_some M (setR (fixB (g.cur M 1)) s true (1 + pk))
            generalize put1 M (setR (fixB (g.cur M 1)) s true (1 + pk)) = M' at h5 HTT HSM
            have HS5 := Lib.hid h5
            have HM5 := Lib.hid HSM
            have d1 : decide ((s : Int) < 4) = false := decide_eq_false (by omega)
            have d2 : decide ((hm : Int) < (s : Int) + (1 + (pk : Int))) = false := decide_eq_false (by omega)
            clear hu5 hff hl1 h5 HSM
            go_wp2_with fail
            go_loopw [15] (fun x wr => ∃ p : Nat, p ≤ 1 + pk ∧ x = .int .i64 ((s + p : Nat) : Int) ∧ SpAt wr g M' ∧ BlF wr ub hm (fun j => if s ≤ j ∧ j < s + p then true else g.T M j) ∧ Upd [] w wr) (fun x _ => s + 1 + pk - (intOf x).toNat)
            case atStart => exact ⟨0, by omega, rfl, HS5.out, HB5.out.ext (fun i _ => by rw [if_neg (by omega)]), HU5.out⟩
            case round =>
              obtain ⟨p, hp, rfl, hs, hb, hu⟩ := hrel
              obtain ⟨I, hI⟩ : ∃ I, I = s + p := ⟨_, rfl⟩
              rw [← hI]
              by_cases hltp : p < 1 + pk
              · have hlt2 : decide ((I : Int) < (s : Int) + (1 + (pk : Int))) = true := decide_eq_true (by omega)
                have hit := isTaken_ok hs (by have := HGH.out; omega) (by have := HGH.out; omega) I (by have := HGH.out; omega)
                rw [HTT.out I, if_pos (by omega)] at hit
                have HIT := Lib.hid hit
                have HIE := Lib.hid hI
                have hf0 : (if s ≤ I ∧ I < s + p then true else g.T M I) = false := by rw [if_neg (by omega), hI]; exact HFR.out p hltp
                have HF0 := Lib.hid hf0
                have HSx := Lib.hid hs
                have HBx := Lib.hid hb
                have HUx := Lib.hid hu
                have j0 : (0 : Int) ≤ (I : Int) := by omega
                have j1 : (I : Int) < (hm : Int) := by omega
                have hIm : I < hm := by omega
                clear hit hI hf0 hs hb hu
                go_wp2_with fail
                refine HIT.out.mono ?_
                rintro e w6 ⟨rfl, h6, hu6⟩
                have hb6 := HBx.out.upd hu6 (HSx.out.bl HBx.out)
                obtain ⟨hc6, hf6⟩ := hb6.cell hIm
                rw [HF0.out] at hc6
                have u7 : Upd [ub] w6 (w6.setCell ⟨ub, I, none⟩ (.bool true)) := (Upd.refl _ _).set _ (by simp)
                have HB7 := Lib.hid ((hb6.set (i := I) true).ext (f' := fun j => if s ≤ j ∧ j < s + (p + 1) then true else g.T M j) (fun i _ => by
                  have := HIE.out
                  by_cases e : i = I
                  · rw [if_pos e, if_pos (by omega)]
                  · rw [if_neg e]
                    by_cases e2 : s ≤ i ∧ i < s + p
                    · rw [if_pos e2, if_pos (by omega)]
                    · rw [if_neg e2, if_neg (by omega)]))
                have HS7 := Lib.hid (h6.own hb6 u7)
                have HU7 := Lib.hid ((late_all HUx.out hu6 HLT.out).late u7 (fun k hk => by simp at hk; subst hk; exact .inr hub))
                clear h6 hu6 hb6 u7
                go_wp2_with fail
                exact ⟨⟨p + 1, by omega, by rw [HIE.out]; go_num, HS7.out, HB7.out, HU7.out⟩, by have := HIE.out; simp [intOf]; omega⟩
              · obtain rfl : p = 1 + pk := by omega
                have hlt2 : decide ((I : Int) < (s : Int) + (1 + (pk : Int))) = false := decide_eq_false (by omega)
                have HB6 := Lib.hid (hb.ext (f' := g.T M') (fun i _ => HTT.out i))
                have HSx := Lib.hid hs
                have HUx := Lib.hid hu
                clear hI hs hb hu
                go_wp2_with fail
                refine ⟨?_, by simp [intOf]; omega⟩
                repeat apply Exists.intro
                exact ⟨⟨q + 1, M', by omega, by go_num, HSx.out, .inl HM5.out, HB6.out, HUx.out⟩, rfl⟩
          · have HB5 := Lib.hid (HBL.out.upd hu5 (HS.out.bl HBL.out))
            have HU5 := Lib.hid (late_all HU.out hu5 HLT.out)
            have HS5 := Lib.hid h5
            have HFF := Lib.hid hff
            clear hu5 hff h5
            go_wp2_with fail
            go_loopw [13, 14] (fun run x wr => ∃ p r : Nat, p ≤ hm ∧ x = .int .i64 (p : Int) ∧ run = .int .i64 (r : Int) ∧ Run (g.T M) (1 + pk) p r ∧ wr = w5) (fun _ x _ => hm - (intOf x).toNat)
            case atStart => exact ⟨0, 0, Nat.zero_le _, rfl, rfl, Run.zero (by omega), rfl⟩
            case round =>
              obtain ⟨p, r, hp, rfl, rfl, hrun, rfl⟩ := hrel
              have hrl := hrun.lt
              have hrle := hrun.le
              have HRUN := Lib.hid hrun
              clear hrun
              by_cases hltp : p < hm
              · have hlt2 : decide (p < hm) = true := decide_eq_true hltp
                obtain ⟨hc6, _⟩ := HB5.out.cell hltp
                have j0 : (0 : Int) ≤ (p : Int) := by omega
                have j1 : (p : Int) < (hm : Int) := by omega
                cases htp : g.T M p
                · have HTP := Lib.hid htp
                  rw [htp] at hc6
                  have hne : r + 1 ≠ 1 + pk := fun e => by
                    have := (HRUN.out.found htp e (show p < g.h by have := HGH.out; omega)).uniq HFF.out
                    simp at this
                  have d1 : decide (1 + (pk : Int) ≤ (r : Int) + 1) = false := decide_eq_false (by omega)
                  have hlt3 : r + 1 < 1 + pk := by omega
                  clear htp hne
                  go_wp2_with fail
                  exact ⟨⟨p + 1, r + 1, by omega, by go_num, by go_num, HRUN.out.next HTP.out (by omega), trivial⟩, by simp [intOf]; omega⟩
                · have HTP := Lib.hid htp
                  rw [htp] at hc6
                  have d1 : decide (1 + (pk : Int) ≤ 0) = false := decide_eq_false (by omega)
                  clear htp
                  go_wp2_with fail
                  exact ⟨⟨p + 1, 0, by omega, by go_num, rfl, HRUN.out.set HTP.out, trivial⟩, by simp [intOf]; omega⟩
              · obtain rfl : p = hm := by omega
                have hlt2 : decide (p < p) = false := decide_eq_false (by omega)
                go_wp2_with fail
                refine ⟨?_, by simp [intOf]; omega⟩
                repeat apply Exists.intro
                exact ⟨⟨q + 1, M, by omega, by go_num, HS5.out, HC.out, HB5.out, HU5.out⟩, rfl⟩
        · obtain rfl : q = ss.length := by omega
          have hlt' : decide ((ss.length : Int) < (ss.length : Int)) = false := by simp
          go_wp2_with fail
          go_ret
          exact ⟨rfl, HU.out⟩

end Go.Proofs.Ytlncfncolkgjfaa
