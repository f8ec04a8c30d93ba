/-
  space.Taken, Free, Left, Format; Begun; begun.
-/
import Derived.Test.YtceakcejchbbjaaGreatSpD
namespace Go.Proofs.YtceakcejchbbjaaGreat
open Go.RowKit Go.MapKept Go.ChangeMaps

set_option maxHeartbeats 1000000 in
theorem isTaken_ok {w : World} {g : Sg} {M : Nat → Option Sec} (h : SpAt w g M) (hh : 1 < g.h) (hh2 : g.h ≤ 4096) (i : Nat) (hi : i < g.h) :
    Calls Tryz.prog 145 #[.pointer (some ⟨g.x.tb, 0, none⟩), .int .i64 (i : Int)] w fun e w' => e = .returned (.tuple #[.bool (g.T M i), .int .i64 0]) ∧ SpAt w' g M ∧ Upd g.S w w' := by
  have HH := Lib.hid (homesS h)
  have H := Lib.hid h
  have hb : ((g.h : Int) == 0) = false := by rw [beq_eq_false_iff_ne]; omega
  have d1 : decide ((i : Int) < 0) = false := decide_eq_false (by omega)
  have d2 : decide (g.h ≤ i) = false := decide_eq_false (by omega)
  have hlf : (fixB (g.cur M 1)).length = 512 := by rw [fixB_length]; exact h.cur_len 1
  have HLF := Lib.hid hlf
  have HT : Hid (g.T M i = bitB (fixB (g.cur M 1)) i) := rfl
  clear h hlf
  go_enter Tryz.func145, Tryz.ntmps145
  go_wp2_with fail
  refine HH.out.mono ?_
  rintro e w1 ⟨rfl, n1, hn1⟩
  have hu1 : Upd [] w w1 := by rw [hn1]; exact (Upd.refl _ _).drewN _
  have HTK := Lib.hid (taken_spec (H.out.below hu1) hh)
  have HU1 := Lib.hid hu1
  clear hn1 hu1
  go_wp2_with fail
  refine HTK.out.mono ?_
  rintro e w2 ⟨kb, c, rfl, ho2, h2, hu2⟩
  have HSET := Lib.hid (set_spec _ _ i w2 ho2.rd (by rw [HLF.out]; omega) (by rw [HLF.out]; omega))
  have HU2 := Lib.hid ((HU1.out.mono (by simp)).trans (hu2.mono g.mem))
  have H2 := Lib.hid h2
  clear ho2 h2 hu2
  go_wp2_with fail
  refine HSET.out.mono ?_
  rintro e w' ⟨rfl, rfl⟩
  go_wp2_with fail
  go_ret2
  exact ⟨by rw [HT.out]; rfl, H2.out, HU2.out⟩
set_option maxHeartbeats 1000000 in
theorem isTaken_arg {w : World} {g : Sg} {M : Nat → Option Sec} (h : SpAt w g M) (hh : 1 < g.h) (i : Int) (hi : i < 0 ∨ (g.h : Int) ≤ i) :
    Calls Tryz.prog 145 #[.pointer (some ⟨g.x.tb, 0, none⟩), .int .i64 i] w fun e w' => e = .returned (.tuple #[.bool false, .int .i64 1]) ∧ SpAt w' g M ∧ Upd g.S w w' := by
  have HH := Lib.hid (homesS h)
  have H := Lib.hid h
  have hb : ((g.h : Int) == 0) = false := by rw [beq_eq_false_iff_ne]; omega
  clear h
  by_cases h1 : i < 0
  · have d1 : decide (i < 0) = true := decide_eq_true h1
    clear hi
    go_enter Tryz.func145, Tryz.ntmps145
    go_wp2_with fail
    refine HH.out.mono ?_
    rintro e w1 ⟨rfl, n1, hn1⟩
    have hu1 : Upd [] w w1 := by rw [hn1]; exact (Upd.refl _ _).drewN _
    clear hn1
    go_wp2_with fail
    go_ret2
    exact ⟨rfl, H.out.below hu1, hu1.mono (by simp)⟩
  · have d1 : decide (i < 0) = false := decide_eq_false h1
    have d2 : decide ((g.h : Int) ≤ i) = true := decide_eq_true (by omega)
    clear hi
    go_enter Tryz.func145, Tryz.ntmps145
    go_wp2_with fail
    refine HH.out.mono ?_
    rintro e w1 ⟨rfl, n1, hn1⟩
    have hu1 : Upd [] w w1 := by rw [hn1]; exact (Upd.refl _ _).drewN _
    clear hn1
    go_wp2_with fail
    go_ret2
    exact ⟨rfl, H.out.below hu1, hu1.mono (by simp)⟩

/-! ## Free -/

set_option maxHeartbeats 1000000 in
theorem free_low {w : World} {g : Sg} {M : Nat → Option Sec} (h : SpAt w g M) (hh : 1 < g.h) (s n : Int) (hn : 1 ≤ n) (hn2 : n ≤ 64) (hs : s < 4) :
    Calls Tryz.prog 80 #[.pointer (some ⟨g.x.tb, 0, none⟩), .int .i64 s, .int .i64 n] w fun e w' => e = .returned (.int .i64 1) ∧ SpAt w' g M ∧ Upd g.S w w' := by
  have HH := Lib.hid (homesS h)
  have H := Lib.hid h
  have hb : ((g.h : Int) == 0) = false := by rw [beq_eq_false_iff_ne]; omega
  have d1 : decide (n < 1) = false := decide_eq_false (by omega)
  have d2 : decide (64 < n) = false := decide_eq_false (by omega)
  have d3 : decide (s < 4) = true := decide_eq_true hs
  clear h
  go_enter Tryz.func80, Tryz.ntmps80
  go_wp2_with fail
  refine HH.out.mono ?_
  rintro e w1 ⟨rfl, n1, hn1⟩
  have hu1 : Upd [] w w1 := by rw [hn1]; exact (Upd.refl _ _).drewN _
  clear hn1
  go_wp2_with fail
  go_ret
  exact ⟨rfl, H.out.below hu1, hu1.mono (by simp)⟩
set_option maxRecDepth 100000 in
set_option maxHeartbeats 2000000 in
theorem free_ok {w : World} {g : Sg} {M : Nat → Option Sec} (h : SpAt w g M) (hh : 1 < g.h) (hh2 : g.h ≤ 4096) (hc : (M 1).isSome = true ∨ cntM M g.h < 40) (s n : Nat) (hn : 1 ≤ n) (hn2 : n ≤ 64) (hs : 4 ≤ s) (hs2 : s + n ≤ g.h) (ht : ∀ q, q < n → g.T M (s + q) = true) :
    Calls Tryz.prog 80 #[.pointer (some ⟨g.x.tb, 0, none⟩), .int .i64 (s : Int), .int .i64 (n : Int)] w fun e w' => e = .returned (.int .i64 0) ∧ SpAt w' g (put1 M (setR (fixB (g.cur M 1)) s false n)) ∧ Upd g.S w w' := by
  have HH := Lib.hid (homesS h)
  have H := Lib.hid h
  have HC := Lib.hid hc
  have HTT := Lib.hid ht
  have hb : ((g.h : Int) == 0) = false := by rw [beq_eq_false_iff_ne]; omega
  have d1 : decide ((n : Int) < 1) = false := decide_eq_false (by omega)
  have d2 : decide (64 < (n : Int)) = false := decide_eq_false (by omega)
  have d3 : decide ((s : Int) < 4) = false := decide_eq_false (by omega)
  have d4 : decide ((g.h : Int) - (n : Int) < (s : Int)) = false := decide_eq_false (by omega)
  have hlf : (fixB (g.cur M 1)).length = 512 := by rw [fixB_length]; exact h.cur_len 1
  have HLF := Lib.hid hlf
  have HT : Hid (∀ i, g.T M i = bitB (fixB (g.cur M 1)) i) := by show ∀ i, _; exact fun _ => rfl
  clear h hc ht hlf
  go_enter Tryz.func80, Tryz.ntmps80
  go_wp2_with fail
  refine HH.out.mono ?_
  rintro e w1 ⟨rfl, n1, hn1⟩
  have hu1 : Upd [] w w1 := by rw [hn1]; exact (Upd.refl _ _).drewN _
  have HTK := Lib.hid (taken_spec (H.out.below hu1) hh)
  have HU1 := Lib.hid hu1
  clear hn1 hu1
  go_wp2_with fail
  refine HTK.out.mono ?_
  rintro e w2 ⟨kb, c, rfl, ho2, h2, hu2⟩
  have HU2 := Lib.hid ((HU1.out.mono (by simp)).trans (hu2.mono g.mem))
  have HRD2 := Lib.hid ho2.rd
  have H2 := Lib.hid h2
  clear ho2 h2 hu2
  go_wp2_with fail
  go_loopw [10] (fun i wr => ∃ q : Nat, q ≤ n ∧ i = .int .i64 ((s + q : Nat) : Int) ∧ wr = w2) (fun i _ => s + n - (intOf i).toNat)
  case atStart => exact ⟨0, Nat.zero_le _, rfl, rfl⟩
  case round =>
    obtain ⟨q, hq, rfl, rfl⟩ := hrel
    obtain ⟨I, hI⟩ : ∃ I, I = s + q := ⟨_, rfl⟩
    rw [← hI]
    by_cases hlt : q < n
    · have hlt' : decide ((I : Int) < (s : Int) + (n : Int)) = true := decide_eq_true (by omega)
      have HSET := Lib.hid (set_spec _ _ I wr HRD2.out (by rw [HLF.out]; omega) (by rw [HLF.out]; omega))
      rw [← HT.out I, hI, HTT.out q hlt, ← hI] at HSET
      have HI := Lib.hid hI
      have hI4 : I < 4096 := by omega
      clear hI
      go_wp2_with fail
      refine HSET.out.mono ?_
      rintro e w' ⟨rfl, rfl⟩
      go_wp2_with fail
      exact ⟨⟨q + 1, by omega, by rw [HI.out]; go_num, trivial⟩, by have := HI.out; simp [intOf]; omega⟩
    · obtain rfl : q = n := by omega
      have hlt' : decide ((I : Int) < (s : Int) + (q : Int)) = false := decide_eq_false (by omega)
      have HTU := Lib.hid (turn_spec8 H2.out hh _ _ HRD2.out HLF.out s q (s : Int) rfl false (by omega) HC.out)
      clear hI
      go_wp2_with fail
      refine HTU.out.mono ?_
      rintro e w5 ⟨rfl, h5, hu5⟩
      have H5 := Lib.hid h5
      have HU5 := Lib.hid (HU2.out.trans hu5)
      clear h5 hu5
      go_wp2_with fail
      go_ret
      exact ⟨rfl, H5.out, HU5.out⟩

/-! ## Left -/

def leftN (T : Nat → Bool) : Nat → Nat
  | 0 => 0
  | h + 1 => if T h then leftN T h else leftN T h + 1
theorem leftN_le (T : Nat → Bool) : ∀ h, leftN T h ≤ h
  | 0 => Nat.le_refl _
  | h + 1 => by
    have := leftN_le T h
    unfold leftN
    split <;> omega
set_option maxRecDepth 100000 in
set_option maxHeartbeats 2000000 in
theorem left_spec {w : World} {g : Sg} {M : Nat → Option Sec} (h : SpAt w g M) (hh : 1 < g.h) (hh2 : g.h ≤ 4096) :
    Calls Tryz.prog 23 #[.pointer (some ⟨g.x.tb, 0, none⟩)] w fun e w' => e = .returned (.tuple #[.int .i64 (leftN (g.T M) g.h : Int), .int .i64 0]) ∧ SpAt w' g M ∧ Upd g.S w w' := by
  have HH := Lib.hid (homesS h)
  have H := Lib.hid h
  have hb : ((g.h : Int) == 0) = false := by rw [beq_eq_false_iff_ne]; omega
  have hlf : (fixB (g.cur M 1)).length = 512 := by rw [fixB_length]; exact h.cur_len 1
  have HLF := Lib.hid hlf
  have HT : Hid (∀ i, g.T M i = bitB (fixB (g.cur M 1)) i) := by show ∀ i, _; exact fun _ => rfl
  obtain ⟨hm, hhm⟩ : ∃ hm, hm = g.h := ⟨_, rfl⟩
  rw [← hhm] at hb HH hh hh2 ⊢
  have HHM := Lib.hid hhm
  clear h hlf hhm
  go_enter Tryz.func23, Tryz.ntmps23
  go_wp2_with fail
  refine HH.out.mono ?_
  rintro e w1 ⟨rfl, n1, hn1⟩
  have hu1 : Upd [] w w1 := by rw [hn1]; exact (Upd.refl _ _).drewN _
  have HTK := Lib.hid (taken_spec (H.out.below hu1) (by rw [← HHM.out]; exact hh))
  have HU1 := Lib.hid hu1
  clear hn1 hu1
  go_wp2_with fail
  refine HTK.out.mono ?_
  rintro e w2 ⟨kb, c, rfl, ho2, h2, hu2⟩
  have HH2 := Lib.hid (homesS h2)
  rw [← HHM.out] at HH2
  have HU2 := Lib.hid ((HU1.out.mono (by simp)).trans (hu2.mono g.mem))
  have HO2 := Lib.hid ho2
  have H2 := Lib.hid h2
  clear ho2 h2 hu2
  go_wp2_with fail
  refine HH2.out.mono ?_
  rintro e w3 ⟨rfl, n3, hn3⟩
  have hu3 : Upd [] w2 w3 := by rw [hn3]; exact (Upd.refl _ _).drewN _
  have HRD3 := Lib.hid (HO2.out.rd.below hu3)
  have H3 := Lib.hid (H2.out.below hu3)
  have HU3 := Lib.hid (HU2.out.trans (hu3.mono (by simp)))
  clear hn3 hu3
  go_wp2_with fail
  go_loopw [6, 21] (fun n i wr => ∃ q : Nat, q ≤ hm ∧ i = .int .i64 (q : Int) ∧ n = .int .i64 (leftN (g.T M) q : Int) ∧ wr = w3) (fun _ i _ => hm - (intOf i).toNat)
  case atStart => exact ⟨0, Nat.zero_le _, rfl, rfl, rfl⟩
  case round =>
    obtain ⟨q, hq, rfl, rfl, rfl⟩ := hrel
    have hle := leftN_le (g.T M) q
    by_cases hlt : q < hm
    · have hlt' : decide (q < hm) = true := decide_eq_true hlt
      have HSET := Lib.hid (set_spec _ _ q wr HRD3.out (by rw [HLF.out]; omega) (by rw [HLF.out]; omega))
      rw [← HT.out q] at HSET
      have HLN : Hid (leftN (g.T M) (q + 1) = if g.T M q then leftN (g.T M) q else leftN (g.T M) q + 1) := rfl
      generalize leftN (g.T M) q = L at *
      cases htq : g.T M q
      · rw [htq] at HSET HLN
        have HL1 : Hid (leftN (g.T M) (q + 1) = L + 1) := HLN.out
        clear htq
        go_wp2_with fail
        refine HSET.out.mono ?_
        rintro e w' ⟨rfl, rfl⟩
        go_wp2_with fail
        exact ⟨⟨q + 1, by omega, by go_num, by rw [HL1.out]; go_num, trivial⟩, by simp [intOf]; omega⟩
      · rw [htq] at HSET HLN
        have HL1 : Hid (leftN (g.T M) (q + 1) = L) := HLN.out
        clear htq
        go_wp2_with fail
        refine HSET.out.mono ?_
        rintro e w' ⟨rfl, rfl⟩
        go_wp2_with fail
        exact ⟨⟨q + 1, by omega, by go_num, by rw [HL1.out], trivial⟩, by simp [intOf]; omega⟩
    · obtain rfl : q = hm := by omega
      have hlt' : decide (q < q) = false := decide_eq_false (by omega)
      go_wp2_with fail
      go_ret2
      exact ⟨rfl, H3.out, HU3.out⟩

/-! ## Format -/

def b15 : Sec := zsec.set 0 15
theorem b15_length : b15.length = 512 := by unfold b15; rw [List.length_set, zsec_length]
def fmtM (q : Nat) : Nat → Option Sec := fun k => if k < q then some (if k = 1 then b15 else zsec) else none
theorem fmtM_put {q : Nat} : (fun k => if k = q then some (if q = 1 then b15 else zsec) else fmtM q k) = fmtM (q + 1) := by
  funext k
  unfold fmtM
  by_cases h1 : k = q
  · subst h1; rw [if_pos rfl, if_pos (show k < k + 1 by omega)]
  · rw [if_neg h1]
    by_cases h2 : k < q
    · rw [if_pos h2, if_pos (show k < q + 1 by omega)]
    · rw [if_neg h2, if_neg (show ¬ k < q + 1 by omega)]
theorem fmtM_zero : fmtM 0 = fun _ => none := by funext k; unfold fmtM; rw [if_neg (by omega)]
theorem fmtM_ok {q h : Nat} (hq : q ≤ h) : MOk (fmtM q) h := by
  intro i x hx
  unfold fmtM at hx
  split at hx
  · cases hx
    refine ⟨by omega, ?_⟩
    split
    · exact b15_length
    · exact zsec_length
  · simp at hx
theorem fmtM_cnt {h : Nat} : ∀ {q : Nat}, q ≤ h → cntM (fmtM q) h ≤ q
  | 0, _ => by rw [fmtM_zero, cntM_none]; omega
  | q + 1, hq => by
    rw [← fmtM_put, cntM_put (fmtM_ok (by omega)) (by omega)]
    have := fmtM_cnt (q := q) (h := h) (by omega)
    split <;> omega

set_option maxRecDepth 100000 in
set_option maxHeartbeats 2000000 in
theorem format_spec {w : World} {g : Sg} (h : SpAt w g (fun _ => none)) (hh : 4 ≤ g.h) :
    Calls Tryz.prog 57 #[.pointer (some ⟨g.x.tb, 0, none⟩)] w fun e w' => e = .returned (.int .i64 0) ∧ SpAt w' g (fmtM 4) ∧ Upd g.S w w' := by
  have H := Lib.hid h
  have hmk := run_make_512
  clear h
  go_enter Tryz.func57, Tryz.ntmps57
  go_wp2_with fail
  go_loopw [6] (fun i wr => ∃ q : Nat, q ≤ 4 ∧ i = .int .i64 (q : Int) ∧ SpAt wr g (fmtM q) ∧ Upd g.S w wr) (fun i _ => 4 - (intOf i).toNat)
  case atStart => exact ⟨0, by omega, rfl, by rw [fmtM_zero]; exact H.out, Upd.refl _ _⟩
  case round =>
    obtain ⟨q, hq, rfl, hs, hu⟩ := hrel
    by_cases hlt : q < 4
    · have hlt' : decide ((q : Int) < 4) = true := decide_eq_true (by omega)
      have hcn : cntM (fmtM q) g.h < 40 := by have := fmtM_cnt (q := q) (h := g.h) (by omega); omega
      have hb1 : (wr.alloc (.cells (bts zsec).toArray 5)).heap[wr.heap.size]? = some (.cells (bts zsec).toArray 5 (0, 0)) := blk_alloc _
      have hu1 : Upd [] wr (wr.alloc (.cells (bts zsec).toArray 5)) := (Upd.refl _ _).alloc _
      obtain ⟨w1, hw1⟩ : ∃ w1, w1 = wr.alloc (.cells (bts zsec).toArray 5) := ⟨_, rfl⟩
      have hmk1 : (Instr.makeSlice 37 (.int .i64 512) (.int .i64 512)).run Tryz.prog wr = .ok (.slice (some ⟨wr.heap.size, 0, none⟩) 512 512) w1 := by rw [hw1]; exact run_make_512 wr
      rw [← hw1] at hb1 hu1
      have HS := Lib.hid hs
      have HU := Lib.hid hu
      clear hw1 hmk hs hu
      by_cases h1 : q = 1
      · subst h1
        have o1 : Own w1 5 (fun k => wr.heap.size ≤ k) (.slice (some ⟨wr.heap.size, 0, none⟩) 512 512) zsec := ⟨wr.heap.size, [], Nat.le_refl _, by rw [zsec_length]; rfl, by simpa using hb1⟩
        obtain ⟨hc, hf⟩ := o1.cell512 zsec_length (q := 0) (by omega)
        have o2 := own_set512 o1 zsec_length (q := 0) (by omega) (y := 15) (by omega)
        have u2 : Upd [] wr (w1.setCell ⟨wr.heap.size, 0, none⟩ (.int .u8 ((15 : Nat) : Int))) := hu1.set _ (.inr (Nat.le_refl _))
        have HW := Lib.hid (writeS (HS.out.below u2) 1 (by omega) _ _ o2.rd b15_length (.inr hcn))
        have HPM := Lib.hid (fmtM_put (q := 1))
        have HU2 := Lib.hid (HU.out.trans (u2.mono (by simp)))
        clear hb1 hu1 o1 o2 u2 hcn
        go_wp2_with fail
        refine HW.out.mono ?_
        rintro e w3 ⟨rfl, h3, hu3⟩
        have H3 := Lib.hid h3
        have HU3 := Lib.hid (HU2.out.trans (hu3.mono g.memw))
        clear h3 hu3
        go_wp2_with fail
        exact ⟨⟨1 + 1, by omega, by go_num, by rw [← HPM.out]; exact H3.out, HU3.out⟩, by simp [intOf]⟩
      · have d1 : ((q : Int) == 1) = false := by rw [beq_eq_false_iff_ne]; omega
        have HPM : Hid ((fun k => if k = q then some zsec else fmtM q k) = fmtM (q + 1)) := by
          show _ = _
          rw [← fmtM_put]; funext k; rw [if_neg h1]
        have HW := Lib.hid (writeS (HS.out.below hu1) q (by omega) _ _ (rd_row hb1 zsec_length) zsec_length (.inr hcn))
        have HU2 := Lib.hid (HU.out.trans (hu1.mono (by simp)))
        clear hb1 hu1 hcn h1
        go_wp2_with fail
        refine HW.out.mono ?_
        rintro e w3 ⟨rfl, h3, hu3⟩
        have H3 := Lib.hid h3
        have HU3 := Lib.hid (HU2.out.trans (hu3.mono g.memw))
        clear h3 hu3
        go_wp2_with fail
        exact ⟨⟨q + 1, by omega, by go_num, by rw [← HPM.out]; exact H3.out, HU3.out⟩, by simp [intOf]; omega⟩
    · obtain rfl : q = 4 := by omega
      have hlt' : decide (((4 : Nat) : Int) < 4) = false := rfl
      have HS := Lib.hid hs
      have HU := Lib.hid hu
      clear hs hu
      go_wp2_with fail
      go_ret
      exact ⟨rfl, HS.out, HU.out⟩

end Go.Proofs.YtceakcejchbbjaaGreat

