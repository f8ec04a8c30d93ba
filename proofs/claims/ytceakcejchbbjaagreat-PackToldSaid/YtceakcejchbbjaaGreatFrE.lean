/-
  bytes.Equal, frame.Take.
-/
import Derived.Test.YtceakcejchbbjaaGreatFrD
import Derived.Test.YtceakcejchbbjaaGreatGW
set_option linter.unusedSimpArgs false
set_option linter.unusedVariables false
namespace Go.Proofs.YtceakcejchbbjaaGreat
open Go.RowKit Go.MapKept Go.ChangeMaps
attribute [-go_sem] loadCells storeCells Instr.build
set_option maxRecDepth 100000 in
theorem equal_spec {w : World} {va vb : Value} {a b : List UInt8} (ha : Rd w va a) (hb : Rd w vb b) (ha0 : 0 < a.length) (hb0 : 0 < b.length) :
    Calls Tryz.prog 133 #[va, vb] w fun e w' => e = .returned (.bool (decide (a = b))) ∧ w = w' := by
  have c1 := run_str ha ha0
  have c2 := run_str hb hb0
  obtain ⟨aa, ca, rfl, _⟩ := ha
  obtain ⟨ab, cb, rfl, _⟩ := hb
  go_enter Tryz.func133, Tryz.ntmps133
  go_wp2_with fail
  go_ret
  refine ⟨?_, rfl⟩
  by_cases h : a = b
  · rw [str_eq h, decide_eq_true h]; rfl
  · rw [str_ne h, decide_eq_false h]; rfl
theorem Rd.sub {w : World} {bk off cap : Nat} {f : List UInt8} (h : Rd w (.slice (some ⟨bk, off, none⟩) f.length cap) f) (i n c : Nat) (hi : i + n ≤ f.length) (hc : n ≤ c) : Rd w (.slice (some ⟨bk, off + i, none⟩) n c) ((f.drop i).take n) := by
  obtain ⟨ao, cp, e, hcp, hh⟩ := h
  cases e
  have hl : ((f.drop i).take n).length = n := by rw [List.length_take, List.length_drop]; omega
  refine ⟨_, _, by rw [hl], by rw [hl]; exact hc, fun hp => ?_⟩
  rw [hl] at hp
  obtain ⟨b, o, e, hcell⟩ := hh (by omega)
  cases e
  refine ⟨_, _, rfl, fun k hk => ?_⟩
  rw [hl] at hk
  have := hcell (i + k) (by omega)
  rw [List.getElem_take, List.getElem_drop, Nat.add_assoc]; exact this
/-- What the bytes of a frame are, part by part. -/
theorem frameB_parts {key b rest : List UInt8} (hk : key.length = 32) (hb : b.length < 4294967296) :
    (frameB key b ++ rest)[0]? = some 199 ∧ (frameB key b ++ rest)[1]? = some 70 ∧ num (frameB key b ++ rest) 2 4 = b.length ∧ (((frameB key b ++ rest).drop 14).take 32) = key ∧ (((frameB key b ++ rest).drop 46).take b.length) = b ∧ (((frameB key b ++ rest).drop 6).take 8) = chk key b := by
  have e : frameB key b ++ rest = [199, 70] ++ (be 4 b.length ++ (chk key b ++ (key ++ (b ++ rest)))) := by unfold frameB; simp only [List.append_assoc]
  have h4 := be_length 4 b.length
  have h8 := chk_length key b
  rw [e]
  refine ⟨rfl, rfl, ?_, ?_, ?_, ?_⟩
  · unfold num
    rw [show ([199, 70] ++ (be 4 b.length ++ (chk key b ++ (key ++ (b ++ rest)))) : List UInt8).drop 2 = be 4 b.length ++ (chk key b ++ (key ++ (b ++ rest))) from rfl, List.take_append_of_le_length (by omega), List.take_of_length_le (by omega), beN_be]
    exact Nat.mod_eq_of_lt (by omega)
  · rw [show (14 : Nat) = 2 + (4 + (8 + 0)) by rfl, ← List.append_assoc, ← List.append_assoc, List.drop_append_of_le_length (by simp; omega), List.drop_eq_nil_of_le (by simp; omega), List.nil_append, List.take_append_of_le_length (by omega), List.take_of_length_le (by omega)]
  · rw [← List.append_assoc, ← List.append_assoc, ← List.append_assoc, List.drop_append_of_le_length (by simp; omega), List.drop_eq_nil_of_le (by simp; omega), List.nil_append, List.take_append_of_le_length (by omega), List.take_of_length_le (by omega)]
  · rw [← List.append_assoc, List.drop_append_of_le_length (by simp; omega), List.drop_eq_nil_of_le (by simp; omega), List.nil_append, List.take_append_of_le_length (by omega), List.take_of_length_le (by omega)]
theorem BRow.other {w w' : World} {B : Nat} {v : Value} {l : List UInt8} (h : BRow w B v l) (hk : ∀ (k : Nat) (c : Array Value), w.heap[k]? = some (.cells c 5 (0, 0)) → w'.heap[k]? = w.heap[k]?) : BRow w' B v l := by
  refine ⟨h.1, ?_⟩
  rcases h.2 with h | ⟨g, cap, cur, hv, hb, hg, r⟩
  · exact .inl h
  · exact .inr ⟨g, cap, cur, hv, hb, (hk g cur hg).trans hg, r⟩
/-- A result that lies in memory, and three other ones. -/
theorem results_row_tmp3 {fn : Func} {p u v x : Tmp} {ty : TypeId} (h : fn.results = #[.cell p ty, .tmp u, .tmp v, .tmp x]) (tmps : Array Value) (w : World) (g : Nat) (cs : Array Value)
    (hp : tmps.getD p undef = .pointer (some ⟨g, 0, none⟩)) (hl : (loadVar ty ⟨g, 0, none⟩).run Tryz.prog w = .ok (.agg cs) w) :
    (results fn tmps).run Tryz.prog w = .ok (.tuple #[.agg cs, tmps.getD u undef, tmps.getD v undef, tmps.getD x undef]) w := by
  have hp' : tmps[p]?.getD undef = .pointer (some ⟨g, 0, none⟩) := by simpa using hp
  simp [results, h, hp', asAddr, hl]
theorem run_toArrW (a : Option Addr) (c : Nat) (w : World) : (Instr.arrayAt 35 (.slice a 32 c)).run Tryz.prog w = .ok (.pointer a) w := by
  simp [Instr.arrayAt, run_underlying Tryz.underlying35]
attribute [local go_sem] run_toArrW
set_option maxRecDepth 100000 in
set_option maxHeartbeats 4000000 in
theorem take_frame {w : World} {v : Value} {key b rest : List UInt8} (hr : Rd w v (frameB key b ++ rest)) (hk : key.length = 32) (hb : b.length ≤ 4200) (hrest : rest.length ≤ 100000) :
    Calls Tryz.prog 83 #[v] w fun e w' => ∃ x, e = .returned (.tuple #[.agg (bts key).toArray, x, .int .i64 ((46 + b.length : Nat) : Int), .int .i64 0]) ∧ BRow w' w.heap.size x b ∧ Upd [] w w' := by
  obtain ⟨p0, p1, p2, p3, p4, p5⟩ := frameB_parts (rest := rest) hk (show b.length < 4294967296 by omega)
  obtain ⟨f, hf⟩ : ∃ f, f = frameB key b ++ rest := ⟨_, rfl⟩
  have hfl : f.length = 46 + b.length + rest.length := by rw [hf, List.length_append, frameB_length hk]
  rw [← hf] at hr p0 p1 p2 p3 p4 p5
  obtain ⟨av, cap, rfl, hcap, hh⟩ := id hr
  obtain ⟨bk, off, rfl, hcell⟩ := hh (by omega)
  obtain ⟨w1, hw1⟩ : ∃ w1, w1 = w.alloc (.cells (bts zb32).toArray 35) := ⟨_, rfl⟩
  obtain ⟨b2, hb2⟩ : ∃ b2, b2 = w.heap.size := ⟨_, rfl⟩
  have hc2 : w1.heap[b2]? = some (.cells (bts zb32).toArray 35 (0, 0)) := by rw [hw1, hb2]; exact blk_alloc _
  have hu1 : Upd [] w w1 := by rw [hw1]; exact (Upd.refl _ _).alloc _
  have hr1 := hr.below hu1
  have cell1 : ∀ i x, f[i]? = some x → w1.cell? ⟨bk, off + i, none⟩ = some (bv x) := fun i x hx => by
    obtain ⟨hi, rfl⟩ := List.getElem?_eq_some_iff.1 hx
    exact cell_updW (hcell i hi) hu1 (by simp)
  have m0 : w1.cell? ⟨bk, off, none⟩ = some (.int .u8 199) := cell1 0 199 p0
  have m1 : w1.cell? ⟨bk, off + 1, none⟩ = some (.int .u8 70) := cell1 1 70 p1
  have hat := at_spec _ f 2 4 w1 hr1 (by omega) (by omega) (by omega) (by omega)
  rw [p2] at hat
  have hkey := hr1.sub 14 32 32 (by omega) (by omega)
  rw [p3] at hkey
  have hdat := hr1.sub 46 b.length b.length (by omega) (by omega)
  rw [p4] at hdat
  have hsum := hr1.sub 6 8 (cap - 6) (by omega) (by omega)
  rw [p5] at hsum
  obtain ⟨N, hN⟩ : ∃ N, N = f.length := ⟨_, rfl⟩
  obtain ⟨n, hn⟩ : ∃ n, n = b.length := ⟨_, rfl⟩
  obtain ⟨E, hE⟩ : ∃ E, E = 46 + n := ⟨_, rfl⟩
  rw [← hn] at hat hdat ⊢
  rw [← hN] at hat ⊢
  rw [show ((4 : Nat) : Int) = 4 from rfl, show ((2 : Nat) : Int) = 2 from rfl] at hat
  rw [← hE]
  have t0 : decide ((N : Int) < 46) = false := decide_eq_false (by omega)
  have t1 : decide ((4200 : Int) < (n : Int)) = false := decide_eq_false (by omega)
  have t2 : decide ((N : Int) < (E : Int)) = false := decide_eq_false (by omega)
  have t3 : decide (N < E) = false := decide_eq_false (by omega)
  have e1 : IntKind.i64.wrap (46 + (n : Int)) = (E : Int) := by rw [IntKind.wrap_i64]; omega
  have e2 : IntKind.i64.wrap (n : Int) = (n : Int) := by rw [IntKind.wrap_i64]; omega
  have g0 : (0 : Int) < N := by omega
  have g1 : (1 : Int) < N := by omega
  have g2 : (46 : Int) ≤ N := by omega
  have g3 : (46 : Int) ≤ cap := by omega
  have g4 : (46 : Int) ≤ E := by omega
  have g5 : (E : Int) ≤ cap := by omega
  have g6 : (14 : Int) ≤ cap := by omega
  have g7 : ¬ cap = 6 := by omega
  have g8 : ¬ cap = 14 := by omega
  have HAT := Lib.hid hat
  have HKEY := Lib.hid hkey
  have HDAT := Lib.hid hdat
  have HSUM := Lib.hid hsum
  have HC2 := Lib.hid hc2
  have HU1 := Lib.hid hu1
  have HW1 := Lib.hid hw1
  have HB2 := Lib.hid hb2
  have HNN := Lib.hid hn
  have HE := Lib.hid hE
  have HN := Lib.hid hN
  clear hr hh hcell hc2 hu1 hr1 cell1 hat hkey hdat hsum hw1 hb2 hn hE hN p0 p1 p2 p3 p4 p5 hf hfl hcap
  go_enter Tryz.func83, Tryz.ntmps83
  go_upto_region 1 with (fail)
  have hw1 := HW1.out
  have hb2 := HB2.out
  rw [zb32_lit, ← hw1, ← hb2]
  clear hw1 hb2
  go_wp2_with fail
  refine HAT.out.mono ?_
  rintro e w' ⟨rfl, rfl⟩
  go_wp2_with fail
  go_quiet (fail)
  obtain ⟨dv, hdv⟩ : ∃ dv, dv = Value.slice (if E = 46 then some ⟨bk, off, none⟩ else some ⟨bk, off + 46, none⟩) (E - 46) (E - 46) := ⟨_, rfl⟩
  obtain ⟨wq, hwq⟩ : ∃ wq, wq = w1.drewN nq := ⟨_, rfl⟩
  rw [← hdv, ← hwq]
  have huq : Upd [] w1 wq := by rw [hwq]; exact (Upd.refl _ _).drewN _
  have hdat : Rd w1 dv b := by
    have e1 := HE.out
    have e2 := HNN.out
    have hd := HDAT.out
    rw [hdv, show E - 46 = n by omega]
    by_cases h0 : E = 46
    · rw [if_pos h0]
      have hn0 : b.length = 0 := by omega
      obtain rfl : b = [] := List.length_eq_zero_iff.1 hn0
      exact ⟨_, _, by rw [e2], by simp, fun q => by simp at q⟩
    · rw [if_neg h0]; exact hd
  have HCK : ∀ w', Upd [] w1 w' → Calls Tryz.prog 104 #[.slice (some ⟨bk, off + 14, none⟩) 32 32, dv] w' fun e w'' => ∃ g, e = .returned (.slice (some ⟨g, 0, none⟩) 8 8) ∧ w'.heap.size ≤ g ∧ Rd w'' (.slice (some ⟨g, 0, none⟩) 8 8) (chk key b) ∧ Upd [] w' w'' := fun w' hu => check_spec (HKEY.out.below hu) (hdat.below hu) (by omega)
  have HEQ : ∀ (w' : World) g, Upd [] w1 w' → Rd w' (.slice (some ⟨g, 0, none⟩) 8 8) (chk key b) → Calls Tryz.prog 133 #[.slice (some ⟨g, 0, none⟩) 8 8, .slice (some ⟨bk, off + 6, none⟩) 8 (cap - 6)] w' fun e w'' => e = .returned (.bool true) ∧ w' = w'' := fun w' g hu hg => by
    have := equal_spec hg (HSUM.out.below hu) (by rw [chk_length]; omega) (by rw [chk_length]; omega)
    rw [decide_eq_true rfl] at this; exact this
  have HDA := Lib.hid hdat
  have HUQ := Lib.hid huq
  have HDV := Lib.hid hdv
  clear hdv hwq huq hdat
  go_upto_region 12 with (fail)
  go_cut [54] (fun s54 wx => s54 = .bool false ∧ Upd [] w1 wx)
  case first =>
    go_region_law (first | (go_simp; go_at_call 104; (with_reducible refine (HCK _ ?_).mono ?_); (first | exact HUQ.out.drew | exact HUQ.out); rintro e w' ⟨g, rfl, hg1, hg2, hg3⟩; dsimp only) | (go_simp; go_at_call 133; (with_reducible refine (HEQ _ _ ?_ hg2).mono ?_); (first | exact HUQ.out.drew.trans hg3); rintro e w2 ⟨rfl, rfl⟩; dsimp only))
    all_goals
      go_wp2_with fail
      go_meet
      exact ⟨rfl, by first | exact (HUQ.out.drew.trans hg3) | exact (HUQ.out.drew.trans hg3).drew⟩
  case rest =>
    rename World => wx
    obtain ⟨rfl, hux⟩ := hcut
    have hkr : ∀ w' : World, Upd [] w1 w' → (loadCells ⟨bk, off + 14, none⟩ 32).run Tryz.prog w' = .ok (bts key).toArray w' := fun w' hu => by
      have hr := HKEY.out.below hu
      obtain ⟨ao, cp, e, _, hh⟩ := hr
      obtain ⟨b', o', e2, hcell⟩ := hh (by omega)
      injection e with q1 q2 q3
      rw [← q1] at e2
      cases e2
      have := run_loadCells_list (P := Tryz.prog) w' ⟨bk, off + 14, none⟩ (bts key) (fun j v hv => by
        rw [bts_get] at hv
        obtain ⟨c, hc, rfl⟩ := Option.map_eq_some_iff.1 hv
        obtain ⟨hj, rfl⟩ := List.getElem?_eq_some_iff.1 hc
        rw [addr_add]; exact hcell j hj)
      rwa [bts_length, hk] at this
    have hxd : Upd [] w1 wx.drew := hux.drew
    have hxa : Upd [] w1 (wx.alloc (.cells #[] 5)).drew := (hux.alloc _).drew
    have hrow : BRow (wx.alloc (.cells #[] 5)).drew wx.heap.size (.slice (some ⟨wx.heap.size, 0, none⟩) 0 0) [] :=
      ⟨by simp, .inr ⟨wx.heap.size, 0, _, rfl, Nat.le_refl _, blk_alloc (w := wx) _, by simp, by unfold maxLen; omega, by simp, by simp⟩⟩
    obtain ⟨a, c, w', hrun, hown, hu'⟩ := bytes_app hrow (HDA.out.below hxa) (by simp; omega) (by simp)
    rw [List.length_nil, Nat.zero_add] at hrun hown
    rw [List.nil_append] at hown
    have hxw : Upd [] w1 w' := by
      have h0 : Upd [] w1 w1 := Upd.refl _ _
      exact hu' w1 hux.size hxa
    have ld0 := hkr _ hxd
    have ld1 := hkr _ hxa
    have ld2 := hkr _ hxw
    have hc2' := (hxw.block _ (blk_lt HC2.out) (by simp)).trans HC2.out
    have st := store_blkW hc2' (l := bts key) (by rw [List.size_toArray, bts_length, bts_length, hk]; rfl) (bts_one _)
    have hkl : (bts key).length = 32 := by rw [bts_length, hk]
    have hik : (Tryz.prog.info? 35).map (·.size) = some (bts key).toArray.size := by rw [List.size_toArray, bts_length, hk]; exact infoI32
    have HX : Hid (w.heap.size ≤ wx.heap.size) := Lib.hid (Nat.le_trans HU1.out.size hux.size)
    have HOW := Lib.hid hown
    have HC2W := Lib.hid hc2'
    have HFU : Hid (Upd [] w (w'.setRow b2 (bts key).toArray)) := Lib.hid (upd_rowW (HU1.out.trans hxw) _ (.inr (by have := HB2.out; omega)))
    clear hkr hxd hxa hrow hown hu' hxw hc2' hux
    go_wp2_with fail
    go_region_law (first | (refine step_append_run (by rfl) _ _ _ (by rfl) (by rfl) (by rfl) hrun ?_))
    all_goals
      go_wp2_with fail
      have hbe := setRow_heap _ _ _ (bts key).toArray _ _ HC2W.out
      refine bodyPost_ret (results_row_tmp3 (p := 2) (u := 3) (v := 4) (x := 5) (ty := 35) (by rfl) _ _ b2 _ (by rfl) (run_loadVar_row _ b2 _ _ _ _ _ hbe Tryz.underlying35 rfl hik)) (by rfl) ?_
      refine ⟨_, by rw [HE.out, HNN.out]; rfl, ?_, HFU.out⟩
      refine (HOW.out.low HX.out).other (fun k c e => setRow_other _ _ _ _ ?_)
      rintro rfl
      rw [HC2W.out] at e
      injection e with e
      injection e with q1 q2
      exact absurd q2 (by decide)
end Go.Proofs.YtceakcejchbbjaaGreat
