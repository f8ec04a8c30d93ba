/-
  JournalRound answers true: the walk.
-/
import Derived.Test.YthbgidiblcokhaaLwL
namespace Go.Proofs.Ythbgidiblcokhaa
open Go.RowKit

theorem DiskAt.notstr {w : World} {F : Nat → Prop} {g : DG} {D : Dk} (h : DiskAt w F g D) {k : Nat} {c : Array Value} {fr : Nat × Nat} (hk : w.heap[k]? = some (.cells c 9 fr)) : k ∉ [g.db, g.lb, g.mb] := by
  obtain ⟨⟨fv, a1, _⟩, ⟨lv, b1, _⟩, ⟨f, hf, _⟩, _⟩ := h
  simp only [List.mem_cons, List.not_mem_nil, or_false, not_or]
  refine ⟨?_, ?_, hf.not_cells hk⟩
  · rintro rfl; rw [a1] at hk; simp at hk
  · rintro rfl; rw [b1] at hk; simp at hk
theorem StrsB.lt4 {w : World} {B : Nat} {v : Value} {ss : List (List UInt8)} (h : StrsB w B v ss) (hne : 0 < ss.length) : B ≤ w.heap.size := by
  obtain ⟨g, _, _, _, hb, hg, _⟩ := h.block hne
  exact Nat.le_of_lt (Nat.lt_of_le_of_lt hb (blk_lt hg))

set_option maxRecDepth 100000 in
set_option maxHeartbeats 4000000 in
theorem round6_spec (a0 : Int) {v u : Value} {sz : List Int} {op : List Bool} (w : World) (hv : RdL w [] v (sz.map fun i => .int .i64 i)) (hk : RdL w [] u (op.map Value.bool)) : Calls Try.prog 3 #[.int .i64 a0, v, u] w fun e w' => e = .returned (.bool true) ∧ Upd [] w w' := by
  obtain ⟨av, cv, rfl, _⟩ := hv.shape
  obtain ⟨au, cu, rfl, _⟩ := hk.shape
  have HV := Lib.hid hv
  have HK := Lib.hid hk
  clear hv hk
  rw [List.length_map] at HV HK ⊢
  rw [List.length_map]
  by_cases h12 : 200 < sz.length
  · have d12 : decide (200 < (sz.length : Int)) = true := by simp; omega
    go_enter Try.func3, Try.ntmps3
    go_wp2_with fail
    refine (begun6_spec w).mono ?_
    rintro e w1 ⟨rfl, hu1⟩
    have HU1 := Lib.hid hu1
    clear hu1
    go_wp2_with fail
    go_ret
    exact ⟨rfl, HU1.out⟩
  have d12 : decide (200 < (sz.length : Int)) = false := by simp; omega
  by_cases h200 : 200 < op.length
  · have d200 : decide (200 < (op.length : Int)) = true := by simp; omega
    go_enter Try.func3, Try.ntmps3
    go_wp2_with fail
    refine (begun6_spec w).mono ?_
    rintro e w1 ⟨rfl, hu1⟩
    have HU1 := Lib.hid hu1
    clear hu1
    go_wp2_with fail
    go_ret
    exact ⟨rfl, HU1.out⟩
  have d200 : decide (200 < (op.length : Int)) = false := by simp; omega
  have hb3 := run_build_3
  have hbp := run_build_put
  have hR := placeN_lt (k := a0) (n := 60) (by omega)
  have HPR := fun w => Lib.hid (place_spec a0 60 w (by omega) (by omega))
  generalize placeN a0 60 = pR at *
  go_enter Try.func3, Try.ntmps3
  go_wp2_with fail
  refine (begun6_spec w).mono ?_
  rintro e w1 ⟨rfl, hu1⟩
  have HU1 := Lib.hid hu1
  clear hu1
  go_wp2_with fail
  refine (HPR _).out.mono ?_
  rintro e w' ⟨rfl, rfl⟩
  go_wp2_with fail
  refine (new_hi 128 (by omega) (by omega) _).mono ?_
  rintro e w2 ⟨g, rfl, hd2, hg1, hg2, hg3, hu2⟩
  have HG : Hid (g.Late w) := ⟨Nat.le_trans HU1.out.size hg1, Nat.le_trans HU1.out.size hg2, Nat.le_trans HU1.out.size hg3⟩
  have HU2 := Lib.hid (HU1.out.trans hu2)
  have HF2 := Lib.hid (new_fmt_hiI hd2 (by omega) (by omega) (8 + (pR : Int)) (8 + pR) (by omega) (by omega) (by omega) (by omega))
  clear hd2 hg1 hg2 hg3 hu2
  go_wp2_with fail
  refine HF2.out.mono ?_
  rintro e w3 ⟨rfl, hd3, hu3⟩
  have HU3 := Lib.hid (HU2.out.lateD hu3 HG.out)
  have HO3 := Lib.hid (open_hi hd3 (by omega) (by omega))
  clear hd3 hu3
  go_wp2_with fail
  refine HO3.out.mono ?_
  rintro e w4 ⟨jb0, ab0, rfl, hj1, hj2, ⟨J0, D0, hr4, _⟩, hu4⟩
  have HJ0 : Hid (JG.Late ⟨jb0, ab0, g⟩ w) := ⟨Nat.le_trans HU3.out.size hj1, Nat.le_trans HU3.out.size hj2, HG.out⟩
  have HU4 := Lib.hid (HU3.out.lateD hu4 HG.out)
  have HHO := Lib.hid (homesL_spec hr4 (by omega) (fun _ => zsec_length))
  clear hj1 hj2 hr4 hu4
  go_wp2_with fail
  refine HHO.out.mono ?_
  rintro e w5 ⟨a5, c5, rfl, hs5, hr5, hu5⟩
  have HU5 := Lib.hid (HU4.out.lateR hu5 HJ0.out)
  obtain ⟨L, hL⟩ : ∃ L, L = 128 - 2 - (8 + pR) := ⟨_, rfl⟩
  rw [← hL] at hs5 ⊢
  have HLE := Lib.hid hL
  have hL1 : 59 ≤ L := by omega
  have hL2 : L ≤ 118 := by omega
  obtain ⟨gn, cn, cur5, hvn, hBn, _⟩ := hs5.block (by rw [hl_length]; omega)
  rw [hl_length] at hvn
  obtain ⟨rfl, rfl⟩ : a5 = some ⟨gn, 0, none⟩ ∧ c5 = cn := by simpa using hvn
  have HS5 := Lib.hid hs5
  have HR5 := Lib.hid hr5
  have HB5 : Hid (w.heap.size ≤ gn) := Nat.le_trans HU4.out.size hBn
  have HB4 : Hid (w.heap.size ≤ w4.heap.size) := HU4.out.size
  clear hL hs5 hr5 hu5 hvn hBn
  go_wp2_with fail
  go_loopw [11, 8] (fun i jv wr => ∃ (k jb ab : Nat) (J : Jn) (D : Dk) (H : Nat → Sec), k ≤ sz.length ∧ i = .int .i64 (k : Int) ∧ jv = .pointer (some ⟨jb, 0, none⟩) ∧ JG.Late ⟨jb, ab, g⟩ w ∧ JrAt wr ⟨jb, ab, g⟩ J D 128 (8 + pR) (1 + (k : Int)) (2 + 2 * (k : Int)) H ∧ StrsB wr w4.heap.size (.slice (some ⟨gn, 0, none⟩) L c5) (hl H L) ∧ (∀ i, (H i).length = 512) ∧ Upd [] w wr) (fun i _ _ => sz.length - (intOf i).toNat)
  case atStart => exact ⟨0, jb0, ab0, J0, D0, _, Nat.zero_le _, rfl, rfl, HJ0.out, HR5.out, HS5.out, fun _ => zsec_length, HU5.out⟩
  case round =>
    obtain ⟨k, jb, ab, J, D, H, hk, rfl, rfl, hj, hr, hs, hH, hu⟩ := hrel
    have HJ := Lib.hid hj
    by_cases hlt : k < sz.length
    · have hlt' : decide ((k : Int) < (sz.length : Int)) = true := by simpa using hlt
      obtain ⟨b, off, rfl, c0⟩ := (HV.out.lateS (S := []) hu (by simp)).cell k (by rw [List.length_map]; exact hlt)
      rw [List.getElem_map] at c0
      have i0 : (0 : Int) ≤ (k : Int) := by omega
      have i1 : (k : Int) < (sz.length : Int) := by omega
      have hk200 : k < 200 := by omega
      obtain ⟨x, hx⟩ : ∃ x, x = sz[k] := ⟨_, rfl⟩
      rw [← hx] at c0
      clear hx
      obtain ⟨M, hM⟩ : ∃ M, M = min (7 + pR) 40 := ⟨_, rfl⟩
      have hN := placeN_lt (k := x) (n := M) (by omega)
      have HPN := fun w => Lib.hid (place_specI x (min (8 + (pR : Int) - 1) 40) M w (by omega) (by omega) (by omega))
      generalize placeN x M = pN at *
      have hN2 : pN < 40 := by omega
      have hN3 : pN < 7 + pR := by omega
      have HU := Lib.hid hu
      have HR := Lib.hid hr
      have HS := Lib.hid hs
      have HH := Lib.hid hH
      clear hM hN hu hr hs hH hj
      go_wp2_with fail
      refine (HPN _).out.mono ?_
      rintro e w' ⟨rfl, rfl⟩
      go_wp2_with fail
      go_loopw [14, 13] (fun q m wq => ∃ p : Nat, p ≤ 1 + pN ∧ q = .int .i64 (p : Int) ∧ PutsOwnB wq w4.heap.size AnyF m (rl L k p) ∧ JrAt wq ⟨jb, ab, g⟩ J D 128 (8 + pR) (1 + (k : Int)) (2 + 2 * (k : Int)) H ∧ StrsB wq w4.heap.size (.slice (some ⟨gn, 0, none⟩) L c5) (hl (putsH H (rl L k p)) L) ∧ Upd [] w wq) (fun q _ _ => 1 + pN - (intOf q).toNat)
      case atStart => exact ⟨0, by omega, rfl, ⟨[], ⟨by simp, .inl ⟨rfl, rfl⟩⟩, by simp [rl], by simp⟩, HR.out, HS.out, HU.out⟩
      case round =>
        obtain ⟨p, hp, rfl, hm, hrq, hsq, huq⟩ := hrel
        by_cases hltp : p < 1 + pN
        · have hltp' : decide ((p : Int) < 1 + (pN : Int)) = true := by simp; omega
          obtain ⟨am, nm, cm, rfl⟩ := hm.shape3
          have hmod : ((k : Int) * 7 + (p : Int)).tmod (L : Int) = ((rat L k p : Nat) : Int) := by
            unfold rat
            rw [Int.tmod_eq_emod_of_nonneg (by omega), Int.natCast_emod]
            simp
          have hatl : rat L k p < L := Nat.mod_lt _ (by omega)
          have HRS : Hid (rsec k p = pad [UInt8.ofNat k, UInt8.ofNat p, 1]) := rfl
          have HNE : Hid (∀ q ∈ rl L k p, q.1 ≠ ((rat L k p : Nat) : Int)) := by
            show ∀ q ∈ rl L k p, _
            intro q hq
            obtain ⟨p', hp', rfl⟩ := rl_mem hq
            have := rat_ne (L := L) (i := k) hp' (by omega)
            show ((rat L k p' : Nat) : Int) ≠ _
            omega
          have HRL := Lib.hid (rl_succ L k p)
          have hkw : IntKind.u8.wrap (k : Int) = (k : Int) := by rw [IntKind.wrap_u8]; omega
          have hpw : IntKind.u8.wrap (p : Int) = (p : Int) := by rw [IntKind.wrap_u8]; omega
          generalize rat L k p = at_ at *
          generalize rsec k p = sec at *
          have HM := Lib.hid hm
          have HRQ := Lib.hid hrq
          have HSQ := Lib.hid hsq
          have HUQ := Lib.hid huq
          clear hm hrq hsq huq
          have hbe : (#[Value.int IntKind.u8 (k : Int), Value.int IntKind.u8 (p : Int), Value.int IntKind.u8 1] : Array Value) = (bts [UInt8.ofNat k, UInt8.ofNat p, 1]).toArray := by
            show _ = (#[bv (UInt8.ofNat k), bv (UInt8.ofNat p), bv 1] : Array Value)
            rw [byte_val (by omega), byte_val (by omega)]; rfl
          have HBE := Lib.hid hbe
          clear hbe
          go_wp2_with fail
          rw [HBE.out]
          refine (full_spec _ [UInt8.ofNat k, UInt8.ofNat p, 1] _ (rd_row (blk_alloc _) rfl)).mono ?_
          rintro e w6 ⟨rfl, hw6⟩
          rw [← HRS.out] at hw6
          have hbb : w6.heap[wr.heap.size + 1]? = some (.cells (bts sec).toArray 5 (0, 0)) := by rw [← hw6]; exact blk_alloc2 _ _
          have HU6 : Hid (Upd [] wr w6) := by show Upd _ _ _; rw [← hw6]; exact ((Upd.refl _ _).alloc _).alloc _
          have hseclen : sec.length = 512 := by rw [HRS.out]; exact pad_length _
          have HSL := Lib.hid hseclen
          have HBB := Lib.hid hbb
          clear hw6 hbb hseclen
          have HM6 := Lib.hid (HM.out.upd HU6.out (by simp) (by simp))
          have HTW := Lib.hid (twice_no HM6.out.own.at ((at_ : Nat) : Int) (by rw [rl_length]; omega) HNE.out)
          go_wp2_with fail
          refine HTW.out.mono ?_
          rintro e w' ⟨rfl, rfl⟩
          have hown : Own w6 5 AnyF (.slice (some ⟨wr.heap.size + 1, 0, none⟩) 512 512) sec := ⟨wr.heap.size + 1, [], trivial, by rw [HSL.out]; rfl, by simpa using HBB.out⟩
          have hzq : w4.heap.size ≤ wr.heap.size := HSQ.out.lt4 (by rw [hl_length]; omega)
          obtain ⟨a', b', c', w7, hrun, hm7, hk7, hu7, _⟩ := puts_push HM6.out (by rw [rl_length]; omega) (by have := HU6.out.size; omega) (HUQ.out.trans HU6.out) HB4.out ((at_ : Nat) : Int) (wr.heap.size + 1) 512 512 sec hown
          rw [← HRL.out] at hm7
          have hk7s : ∀ (k : Nat) (c : Array Value), w6.heap[k]? = some (.cells c 9 (0, 0)) → w7.heap[k]? = w6.heap[k]? := fun k c e => hk7 k (blk_lt e) (fun c' e' => by rw [e] at e'; simp at e')
          have hS7 := (HSQ.out.upd HU6.out (by simp)).keep hk7s
          have hrd7 : Rd w7 (.slice (some ⟨wr.heap.size + 1, 0, none⟩) 512 512) sec := (hown.world fun k c _ e => hk7 k (blk_lt e) (fun c' e' => by rw [e] at e'; simp at e')).rd
          have hcv := run_str hrd7 (by rw [HSL.out]; omega)
          obtain ⟨g2, cap2, cur2, hv2, hB2, hg2, hc2, hm2, hs2, ht2⟩ := hS7.block (by rw [hl_length]; omega)
          rw [hl_length] at hv2 hc2 ht2
          obtain ⟨rfl, rfl⟩ : gn = g2 ∧ c5 = cap2 := by simpa using hv2
          obtain ⟨xa, hxa⟩ : ∃ xa, cur2[at_]? = some xa := ⟨cur2[at_]'(by omega), Array.getElem?_eq_getElem (by omega)⟩
          have hca : w7.cell? ⟨gn, at_, none⟩ = some xa := (blk_cell hg2 _).trans hxa
          have hfa := blk_free hg2 at_
          have j0 : (0 : Int) ≤ ((at_ : Nat) : Int) := by omega
          have j1 : ((at_ : Nat) : Int) < (L : Int) := by omega
          have HR7 := Lib.hid ((HRQ.out.below HU6.out).kept hk7)
          have HM7 := Lib.hid hm7
          have HU7 := Lib.hid hu7
          have HST : Hid (StrsB (w7.setCell ⟨gn, at_, none⟩ (.string (str sec))) w4.heap.size (.slice (some ⟨gn, 0, none⟩) L c5) (hl (putsH H (rl L k (p + 1))) L)) := by
            show StrsB _ _ _ _
            rw [HRL.out, hl_set]
            have := strs_set (ss := hl (putsH H (rl L k p)) L) hB2 hg2 (by rw [hl_length]; exact hc2) hm2 hs2 (by rw [hl_length]; exact ht2) at_ sec
            rw [hl_length] at this
            exact this
          have HG2 := Lib.hid hg2
          clear hm7 hk7 hu7 hk7s hS7 hrd7 hown hzq hv2 hB2 hg2 hc2 hm2 hs2 ht2 hxa
          go_wp2_with (at_builtin; refine wpList_append_run rfl _ _ _ rfl rfl rfl hrun ?_)
          have hset : Upd [gn] w7 (w7.setCell ⟨gn, at_, none⟩ (.string (str sec))) := (Upd.refl _ _).set _ (by simp)
          refine ⟨⟨p + 1, by omega, by go_num, HM7.out.upd hset (fun q c hq e => by simp at hq; subst hq; rw [HG2.out] at e; simp at e) (fun q c hq _ e => by simp at hq; subst hq; rw [HG2.out] at e; simp at e), HR7.out.own hset (fun q hq => by simp at hq; subst hq; exact ⟨_, _, _, HG2.out, by decide, by decide, by decide, by decide⟩), HST.out, HU7.out.set _ (.inr HB5.out)⟩, by simp [intOf]; omega⟩
        · obtain rfl : p = 1 + pN := by omega
          have hltp' : decide (((1 + pN : Nat) : Int) < 1 + (pN : Int)) = false := by simp
          obtain ⟨am, nm, cm, rfl⟩ := hm.shape3
          have hfit : fitsR 128 (8 + pR) (rl L k (1 + pN)) = 0 := by
            have := rl_fits (nn := 128) (ring := 8 + pR) (i := k) (n := 1 + pN) (by omega) (by omega) (by omega) (by omega)
            rw [← HLE.out] at this
            exact this
          have HC := Lib.hid (com_hi hrq _ _ hm.own.at hfit (by intro q; have := congrArg List.length q; rw [rl_length] at this; simp at this) (by omega) (by omega))
          have HRQ := Lib.hid hrq
          have HSQ := Lib.hid hsq
          have HUQ := Lib.hid huq
          have hH2 : ∀ i, (putsH H (rl L k (1 + pN)) i).length = 512 := putsH_len HH.out (fun q hq => by obtain ⟨_, _, rfl⟩ := rl_mem hq; exact pad_length _)
          have HH2 := Lib.hid hH2
          clear hm hrq hsq huq hfit hH2
          generalize putsH H (rl L k (1 + pN)) = H2 at *
          go_wp2_with fail
          refine HC.out.mono ?_
          rintro e w8 ⟨rfl, ⟨J8, D8, hr8, _⟩, hu8⟩
          have HU8 := Lib.hid (HUQ.out.lateJ hu8 HJ.out)
          have HS8 := Lib.hid (HSQ.out.upd hu8 (fun q c hq e => HRQ.out.at_.kind e (by decide) (by decide) (by decide) hq))
          have HR8 : Hid (JrAt w8 ⟨jb, ab, g⟩ J8 D8 128 (8 + pR) (1 + ((k + 1 : Nat) : Int)) (1 + 2 * ((k + 1 : Nat) : Int)) H2) := by
            show JrAt _ _ _ _ _ _ _ _ _
            have e1 : (1 + (k : Int) + 1) = 1 + ((k + 1 : Nat) : Int) := by omega
            have e2 : (2 + 2 * (k : Int) + 1) = 1 + 2 * ((k + 1 : Nat) : Int) := by omega
            rw [← e1, ← e2]; exact hr8
          clear hr8 hu8
          by_cases ho : k < op.length
          · have ho' : decide ((k : Int) < (op.length : Int)) = true := by simpa using ho
            obtain ⟨b2, off2, rfl, c2⟩ := (HK.out.lateS (S := []) HU8.out (by simp)).cell k (by rw [List.length_map]; exact ho)
            rw [List.getElem_map] at c2
            have i2 : (k : Int) < (op.length : Int) := by omega
            obtain ⟨ob, hob⟩ : ∃ ob, ob = op[k] := ⟨_, rfl⟩
            rw [← hob] at c2
            clear hob
            cases ob
            · go_wp2_with fail
              exact ⟨⟨k + 1, jb, ab, J8, D8, H2, by omega, by go_num, rfl, HJ.out, HR8.out.le (by omega), HS8.out, HH2.out, HU8.out⟩, by simp [intOf]; omega⟩
            · have HPW := Lib.hid (power_hi HR8.out _ [] (RdL.nil _ _))
              go_wp2_with fail
              refine HPW.out.mono ?_
              rintro e w9 ⟨rfl, hd9, hu9⟩
              have HU9 := Lib.hid (HU8.out.lateD hu9 HG.out)
              have HS9 := Lib.hid (HS8.out.jnD HR8.out.at_ hu9)
              have HO9 := Lib.hid (open_hi hd9 (by omega) (by omega))
              have HD9 := Lib.hid hd9.disk
              clear hd9 hu9
              go_wp2_with fail
              refine HO9.out.mono ?_
              rintro e w10 ⟨jbN, abN, rfl, hN1, hN2', ⟨J10, D10, hr10, _⟩, hu10⟩
              have HJN : Hid (JG.Late ⟨jbN, abN, g⟩ w) := ⟨Nat.le_trans HU9.out.size hN1, Nat.le_trans HU9.out.size hN2', HG.out⟩
              have HU10 := Lib.hid (HU9.out.lateD hu10 HG.out)
              have HS10 := Lib.hid (HS9.out.upd hu10 (fun q c hq e => HD9.out.notstr e hq))
              have HR10 := Lib.hid hr10
              clear hN1 hN2' hr10 hu10
              go_wp2_with fail
              exact ⟨⟨k + 1, jbN, abN, J10, D10, H2, by omega, by go_num, rfl, HJN.out, HR10.out.le (by omega), HS10.out, HH2.out, HU10.out⟩, by simp [intOf]; omega⟩
          · have ho' : decide ((k : Int) < (op.length : Int)) = false := by simpa using ho
            go_wp2_with fail
            exact ⟨⟨k + 1, jb, ab, J8, D8, H2, by omega, by go_num, rfl, HJ.out, HR8.out.le (by omega), HS8.out, HH2.out, HU8.out⟩, by simp [intOf]; omega⟩
    · obtain rfl : k = sz.length := by omega
      have hlt' : decide ((sz.length : Int) < (sz.length : Int)) = false := by simp
      have HHO2 := Lib.hid (homesL_spec hr (by omega) hH)
      have HR := Lib.hid hr
      have HS := Lib.hid hs
      have HU := Lib.hid hu
      clear hr hs hu hH
      go_wp2_with fail
      refine HHO2.out.mono ?_
      rintro e w6 ⟨a6, c6, rfl, hs6, hr6, hu6⟩
      rw [← HLE.out] at hs6 ⊢
      have HU6 := Lib.hid (HU.out.lateR hu6 HJ.out)
      have HAL := Lib.hid (alike_yes (HS.out.jnB HR.out.at_ hu6).rd hs6.rd (by rw [hl_length]; omega))
      have HR6 := Lib.hid hr6
      clear hs6 hr6 hu6
      go_wp2_with fail
      refine HAL.out.mono ?_
      rintro e w7 ⟨rfl, q7, hq7⟩
      have HD7 : Hid (Upd [] w6 w7) := by show Upd _ _ _; rw [hq7]; exact (Upd.refl _ _).drewN _
      clear hq7
      have HT7 := Lib.hid (turn_hi (HR6.out.below HD7.out))
      have hw64 : IntKind.u64.wrap (sz.length : Int) = (sz.length : Int) := u64_wrap_in _ (by omega) (by omega)
      have hteq : ((1 + (sz.length : Int) - 1) == (sz.length : Int)) = true := by rw [beq_iff_eq]; omega
      go_wp2_with fail
      refine HT7.out.mono ?_
      rintro e w' ⟨rfl, rfl⟩
      go_wp2_with fail
      go_ret
      exact ⟨by simp, HU6.out.trans HD7.out⟩

end Go.Proofs.Ythbgidiblcokhaa
