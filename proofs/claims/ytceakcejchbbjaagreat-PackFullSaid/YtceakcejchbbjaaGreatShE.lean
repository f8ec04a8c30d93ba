/-
  sha's Write, walked.
-/
import Derived.Test.YtceakcejchbbjaaGreatShD
set_option linter.unusedSimpArgs false
set_option linter.unusedVariables false
namespace Go.Proofs.YtceakcejchbbjaaGreat
open Go.RowKit Go.MapKept Go.ChangeMaps
attribute [-go_sem] loadCells storeCells Instr.build

theorem hcl_split (l : List Int) (wait : List UInt8) (n : Nat) : hcl l wait n = (.bool true :: wvs l) ++ (bts wait ++ [.int .u64 (n : Int)]) := by unfold hcl; rfl
theorem hcl_over {l : List Int} {wait f : List UInt8} {n at_ : Nat} (hl : l.length = 8) (hw : wait.length = 64) (h : at_ + f.length ≤ 64) :
    (hcl l wait n).take (9 + at_) ++ bts f ++ (hcl l wait n).drop (9 + at_ + f.length) = hcl l (over wait at_ f) n := by
  have hP : (Value.bool true :: wvs l).length = 9 := by rw [List.length_cons, wvs_length, hl]
  have hW : (bts wait).length = 64 := by rw [bts_length, hw]
  rw [hcl_split, hcl_split]
  have e1 : ((Value.bool true :: wvs l) ++ (bts wait ++ [Value.int .u64 (n : Int)])).take (9 + at_) = (.bool true :: wvs l) ++ (bts wait).take at_ := by
    rw [← hP, List.take_length_add_append, List.take_append_of_le_length (by omega)]
  have e2 : ((Value.bool true :: wvs l) ++ (bts wait ++ [Value.int .u64 (n : Int)])).drop (9 + at_ + f.length) = (bts wait).drop (at_ + f.length) ++ [Value.int .u64 (n : Int)] := by
    rw [Nat.add_assoc, ← hP, List.drop_length_add_append, List.drop_append_of_le_length (by omega)]
  have e3 : bts (over wait at_ f) = (bts wait).take at_ ++ (bts f ++ (bts wait).drop (at_ + f.length)) := by
    unfold over bts
    simp only [List.map_append, List.map_take, List.map_drop]
  rw [e1, e2, e3]
  simp only [List.append_assoc]
theorem hcl_n {l : List Int} {wait : List UInt8} {n : Nat} (hl : l.length = 8) (hw : wait.length = 64) (n' : Nat) : (hcl l wait n).set 73 (.int .u64 (n' : Int)) = hcl l wait n' := by
  have hP : (Value.bool true :: wvs l).length = 9 := by rw [List.length_cons, wvs_length, hl]
  have hW : (bts wait).length = 64 := by rw [bts_length, hw]
  rw [hcl_split, hcl_split, List.set_append_right _ _ (by omega), List.set_append_right _ _ (by omega), hP, hW]
  rfl
theorem hcl_n_get {l : List Int} {wait : List UInt8} {n : Nat} (hl : l.length = 8) (hw : wait.length = 64) : (hcl l wait n)[73]? = some (.int .u64 (n : Int)) := by
  have hP : (Value.bool true :: wvs l).length = 9 := by rw [List.length_cons, wvs_length, hl]
  have hW : (bts wait).length = 64 := by rw [bts_length, hw]
  rw [hcl_split, List.getElem?_append_right (by omega), List.getElem?_append_right (by omega), hP, hW]
  rfl
theorem hcl_length {l : List Int} {wait : List UInt8} {n : Nat} (hl : l.length = 8) (hw : wait.length = 64) : (hcl l wait n).length = 74 := by
  rw [hcl_split, List.length_append, List.length_append, List.length_cons, wvs_length, hl, bts_length, hw]; rfl
theorem cell_updW {w w' : World} {S : List Nat} {a : Addr} {v : Value} (h : w.cell? a = some v) (hu : Upd S w w') (hS : a.block ∉ S) : w'.cell? a = some v := by
  rw [World.cell?_of_block (w := w) (hu.block _ (block_lt_of_cell h) hS)]; exact h
set_option maxRecDepth 100000 in
theorem none_spec {w : World} {b : Nat} {H : Hs} (hb : w.heap[b]? = some (.cells (hsC H).toArray 284 (0, 0))) :
    Calls Tryz.prog 205 #[.pointer (some ⟨b, 0, none⟩)] w fun e w' => e = .returned (.bool false) ∧ w = w' := by
  have m0 : w.cell? ⟨b, 0, none⟩ = some (.bool true) := by rw [blk_cell hb]; rfl
  clear hb
  go_enter Tryz.func205, Tryz.ntmps205
  go_wp2_with fail
  go_ret
  exact ⟨rfl, rfl⟩
theorem W8.l_length (s : W8) : s.l.length = 8 := rfl
set_option maxRecDepth 100000 in
set_option maxHeartbeats 4000000 in
theorem write_sha {w : World} {b : Nat} {H : Hs} (hb : w.heap[b]? = some (.cells (hsC H).toArray 284 (0, 0))) (hw : H.wait.length = 64) {v : Value} {l : List UInt8} (hr : Rd w v l) (hne : 0 < l.length → ∀ a n c, v = .slice (some a) n c → a.block ≠ b) (hn : H.n + l.length ≤ 1000000000) :
    Calls Tryz.prog 185 #[.pointer (some ⟨b, 0, none⟩), v] w fun e w' => e = .returned (.tuple #[]) ∧
      w'.heap[b]? = some (.cells (hsC (H.more l)).toArray 284 (0, 0)) ∧ Upd [b] w w' := by
  have HNN := Lib.hid (none_spec hb)
  have HB := Lib.hid hb
  obtain ⟨ao, cap, rfl, hc, hh⟩ := hr
  clear hb
  rcases Nat.eq_zero_or_pos l.length with h0 | hpos
  · obtain rfl : l = [] := List.length_eq_zero_iff.1 h0
    clear hh hne
    go_enter Tryz.func185, Tryz.ntmps185
    go_wp2_with fail
    refine HNN.out.mono ?_
    rintro e w' ⟨rfl, rfl⟩
    go_wp2_with fail
    go_loopw [1, 4, 5] (fun s1 _ _ wr => s1 = .slice ao 0 cap ∧ w = wr) (fun _ _ _ _ => 0)
    case atStart => exact ⟨rfl, rfl⟩
    case round =>
      obtain ⟨rfl, rfl⟩ := hrel
      go_wp2_with fail
      go_end0
      exact ⟨rfl, HB.out, Upd.refl _ _⟩
  · obtain ⟨bk, off, rfl, hcell⟩ := hh hpos
    have hbk : bk ≠ b := hne hpos _ _ _ rfl
    clear hh hne
    go_enter Tryz.func185, Tryz.ntmps185
    go_wp2_with fail
    refine HNN.out.mono ?_
    rintro e w' ⟨rfl, rfl⟩
    clear HNN
    go_wp2_with fail
    go_loopw [1, 4, 5] (fun s1 _ _ wr => ∃ q : Nat, q ≤ l.length ∧ (∃ a c, s1 = .slice a (l.length - q) c ∧ (q < l.length → a = some ⟨bk, off + q, none⟩ ∧ l.length - q ≤ c)) ∧ wr.heap[b]? = some (.cells (hsC (H.more (l.take q))).toArray 284 (0, 0)) ∧ Upd [b] w wr) (fun s1 _ _ _ => match s1 with | .slice _ k _ => k | _ => 0)
    case atStart => exact ⟨0, by omega, ⟨_, _, rfl, fun _ => ⟨rfl, hc⟩⟩, HB.out, Upd.refl _ _⟩
    case round =>
      obtain ⟨q, hq, ⟨aq, cq, rfl, hac⟩, hb, hu⟩ := hrel
      obtain ⟨m, hm⟩ : ∃ m, m = l.length - q := ⟨_, rfl⟩
      obtain ⟨oq, hoq⟩ : ∃ m, m = off + q := ⟨_, rfl⟩
      rw [← hm]
      rcases Nat.lt_or_ge q l.length with hlt | hge
      · obtain ⟨rfl, hcq⟩ := hac hlt
        rw [← hm] at hcq
        rw [← hoq]
        have hm0 : decide ((0 : Int) < (m : Int)) = true := decide_eq_true (by omega)
        obtain ⟨K, hK⟩ : ∃ K, K = H.more (l.take q) := ⟨_, rfl⟩
        have hKn : K.n = H.n + q := by rw [hK, Hs.more_n, List.length_take]; omega
        have hKw : K.wait.length = 64 := by rw [hK, Hs.more_wait]; exact hw
        rw [← hK] at hb
        obtain ⟨N, hN⟩ : ∃ N, N = K.n := ⟨_, rfl⟩
        obtain ⟨t, ht⟩ : ∃ t, t = N % 64 := ⟨_, rfl⟩
        obtain ⟨k, hk⟩ : ∃ k, k = min m (64 - t) := ⟨_, rfl⟩
        have mN : wr.cell? ⟨b, 73, none⟩ = some (.int .u64 (N : Int)) := by
          rw [blk_cell hb, List.getElem?_toArray, hsC, hcl_n_get (W8.l_length _) hKw, hN]
        have eT : (N : Int) % 64 = (t : Int) := by omega
        have t0 : (0 : Int) ≤ t := by omega
        have t1 : (t : Int) ≤ 64 := by omega
        have t2 : (t : Int) < 64 := by omega
        have k0 : (0 : Int) ≤ k := by omega
        have k1 : (k : Int) ≤ m := by omega
        have k2 : (k : Int) ≤ cq := by omega
        have hm1 : decide (0 < m) = true := decide_eq_true (by omega)
        obtain ⟨f, hf⟩ : ∃ f, f = (l.drop q).take k := ⟨_, rfl⟩
        have hfl : f.length = k := by rw [hf, List.length_take, List.length_drop]; omega
        have hfk : t + f.length ≤ 64 := by omega
        obtain ⟨W9, hW9⟩ : ∃ W9, W9 = wr.setRow b (hcl K.st.l (over K.wait t f) N).toArray := ⟨_, rfl⟩
        have hbs : wr.heap[b]? = some (.cells (hcl K.st.l K.wait N).toArray 284 (0, 0)) := by rw [hN]; exact hb
        have hcp : ∀ ty, (Builtin.copy_ #[37, 37] ty #[.slice (some ⟨b, 9 + t, none⟩) (64 - t) (64 - t), .slice (some ⟨bk, oq, none⟩) m cq]).run Tryz.prog wr = .ok (.int .i64 (k : Int)) W9 := fun ty => by
          have hrun := run_copy_row (P := Tryz.prog) wr 37 37 ty 5 b (9 + t) (64 - t) (64 - t) ⟨bk, oq, none⟩ m cq (hcl K.st.l K.wait N).toArray 284 (bts f) Tryz.underlying37 sizeU8 hbs
            (by rw [bts_length, hfl]; exact hk)
            (fun j u hj => by
              rw [bts_get] at hj
              obtain ⟨c, hc', rfl⟩ := Option.map_eq_some_iff.1 hj
              have hjk : j < k := by rw [← hfl]; exact (List.getElem?_eq_some_iff.1 hc').1
              rw [hf, List.getElem?_take_of_lt hjk, List.getElem?_drop] at hc'
              obtain ⟨hlt2, rfl⟩ := List.getElem?_eq_some_iff.1 hc'
              have := hcell (q + j) hlt2
              rw [addr_add, hoq, Nat.add_assoc]
              exact cell_updW this hu (by simpa using hbk))
            (by rw [List.size_toArray, hcl_length (W8.l_length _) hKw, bts_length]; omega) (bts_one _)
          rw [hrun, hW9, bts_length, hfl]
          have := hcl_over (l := K.st.l) (n := N) (W8.l_length _) hKw hfk
          rw [hfl] at this
          simp only [List.toList_toArray] 
          rw [this]; rfl
        have h9 : W9.heap[b]? = some (.cells (hcl K.st.l (over K.wait t f) N).toArray 284 (0, 0)) := by rw [hW9]; exact setRow_heap _ _ _ _ _ _ hbs
        have hu9 : Upd [b] wr W9 := by rw [hW9]; exact upd_rowW (Upd.refl _ _) _ (.inl (by simp))
        have hol : (over K.wait t f).length = 64 := by unfold over; simp; omega
        obtain ⟨N2, hN2⟩ : ∃ N2, N2 = N + k := ⟨_, rfl⟩
        have m9 : W9.cell? ⟨b, 73, none⟩ = some (.int .u64 (N : Int)) := by rw [blk_cell h9, List.getElem?_toArray, hcl_n_get (W8.l_length _) hol]
        have st9 : ∀ x : Int, (storeCells ⟨b, 73, none⟩ [.int .u64 x] 0).run Tryz.prog W9 = .ok () (W9.setCell ⟨b, 73, none⟩ (.int .u64 x)) := fun x => storeW1 h9 73 (by rw [List.size_toArray, hcl_length (W8.l_length _) hol]; omega) rfl
        have h10 : (W9.setCell ⟨b, 73, none⟩ (.int .u64 (N2 : Int))).heap[b]? = some (.cells (hsC ⟨K.st, over K.wait t f, N2⟩).toArray 284 (0, 0)) := by
          rw [blk_set h9, List.setIfInBounds_toArray, hcl_n (W8.l_length _) hol]; rfl
        have hu10 : Upd [b] w (W9.setCell ⟨b, 73, none⟩ (.int .u64 (N2 : Int))) := hu.trans (hu9.set _ (.inl (by simp)))
        have hpc := Hs.piece f K hKw (by omega) (by rw [← hN, ← ht]; exact hfk)
        rw [← hN, ← ht, hfl, ← hN2] at hpc
        have hmore : H.more (l.take (q + k)) = K.more f := by rw [hK, hf, ← Hs.more_app, ← List.take_add]
        have eA : IntKind.u64.wrap ((N : Int) + (k : Int)) = (N2 : Int) := by rw [IntKind.wrap_u64]; omega
        have eK : IntKind.u64.wrap (k : Int) = (k : Int) := by rw [IntKind.wrap_u64]; omega
        have gN : N2 < 1000000001 := by omega
        obtain ⟨W10, hW10⟩ : ∃ W10, W10 = W9.setCell ⟨b, 73, none⟩ (.int .u64 (N2 : Int)) := ⟨_, rfl⟩
        rw [← hW10] at h10 hu10
        have H10 := Lib.hid h10
        have HU10 := Lib.hid hu10
        have HM := Lib.hid hm
        have HCQ := Lib.hid hcq
        have HT := Lib.hid ht
        have HOQ := Lib.hid hoq
        have HK2 := Lib.hid hk
        have HPC := Lib.hid hpc
        have HMO := Lib.hid hmore
        have HW10 := Lib.hid hW10
        have HOL := Lib.hid hol
        have HLT := Lib.hid hlt
        by_cases htk : t + k = 64
        · have eTK : IntKind.i64.wrap ((t : Int) + (k : Int)) = 64 := by rw [IntKind.wrap_i64]; omega
          have HMX := Lib.hid (mix_spec h10 hol)
          rw [if_pos htk] at hpc
          have HPC2 := Lib.hid hpc
          clear hm hoq hN ht hk hK hKn hf hfl hfk hW9 hbs hcell hb hu h9 hu9 hol hN2 h10 hu10 hpc hmore gN hW10 hlt hq htk hac hcq
          go_wp2_with fail
          all_goals
            rw [← HW10.out]
            refine HMX.out.mono ?_
            rintro e w' ⟨rfl, h', hu'⟩
            have H' := Lib.hid h'
            have HU' := Lib.hid (HU10.out.trans hu')
            clear h' hu'
            go_wp2_with fail
            have e1 := HM.out
            have e2 := HK2.out
            have e3 := HLT.out
            have e4 := HT.out
            have e6 := HCQ.out
            have e5 : m - k = l.length - (q + k) := by omega
            have hfin : w'.heap[b]? = some (.cells (hsC (H.more (l.take (q + k)))).toArray 284 (0, 0)) := by rw [HMO.out, HPC2.out]; exact H'.out
            refine ⟨⟨q + k, by omega, ⟨_, _, by rw [e5], fun h => ?_⟩, hfin, HU'.out⟩, ?_⟩
            · first | (exfalso; omega) | exact ⟨by rw [HOQ.out, Nat.add_assoc], by omega⟩
            · show m - k < m
              omega
        · have eTK : (((t : Int) + (k : Int)) == 64) = false := by rw [beq_eq_false_iff_ne]; omega
          have eTK2 : IntKind.i64.wrap ((t : Int) + (k : Int)) = (t : Int) + (k : Int) := by rw [IntKind.wrap_i64]; omega
          rw [if_neg htk] at hpc
          have HPC2 := Lib.hid hpc
          clear hm hoq hN ht hk hK hKn hf hfl hfk hW9 hbs hcell hb hu h9 hu9 hol hN2 h10 hu10 hpc hmore gN hW10 hlt hq htk hac hcq
          go_wp2_with fail
          rw [← HW10.out]
          have e1 := HM.out
          have e2 := HK2.out
          have e3 := HLT.out
          have e4 := HT.out
          have e6 := HCQ.out
          have e5 : m - k = l.length - (q + k) := by omega
          have hfin : W10.heap[b]? = some (.cells (hsC (H.more (l.take (q + k)))).toArray 284 (0, 0)) := by rw [HMO.out, HPC2.out]; exact H10.out
          refine ⟨⟨q + k, by omega, ⟨_, _, by rw [e5], fun h => ?_⟩, hfin, HU10.out⟩, ?_⟩
          · rw [if_neg (by omega)]
            exact ⟨by rw [HOQ.out, Nat.add_assoc], by omega⟩
          · show m - k < m
            omega
      · obtain rfl : q = l.length := by omega
        obtain rfl : m = 0 := by omega
        rw [List.take_length] at hb
        have HBE := Lib.hid hb
        have HUE := Lib.hid hu
        clear hb hu hac hge hq hm hoq hcell hc hpos hn hw hbk
        go_wp2_with fail
        go_end0
        exact ⟨rfl, HBE.out, HUE.out⟩
end Go.Proofs.YtceakcejchbbjaaGreat
