/-
  cofferlaw9.TreeOne: a Put of a key that is there writes one sector, and takes none. An array of bytes that is handed in.
-/
import Derived.Test.YtceakcejchbbjaaGreatTsB
section
set_option linter.unusedSimpArgs false
set_option linter.unusedVariables false
namespace Go.Proofs.YtceakcejchbbjaaGreat
open Go.RowKit Go.MapKept Go.ChangeMaps

theorem infoInt : (Tryz.prog.info? 3).map (fun i => (i.zero, i.size, i.bytes)) = some (some (.int .i64 0), 1, 8) := by kernel_rfl
theorem run_build_int (x : Int) (w : World) : (Instr.buildSlice 46 1 #[(0, .int .i64 x)]).run Tryz.prog w = .ok (.slice (some ⟨w.heap.size, 0, none⟩) 1 1) (w.alloc (.cells #[.int .i64 x] 3)) := by kernel_rfl
def iv (x : Int) : Value := .int .i64 x
/-- A row of numbers of the law's own, in a block from B on. -/
def IntsB (w : World) (B : Nat) (v : Value) (ss : List Int) : Prop := w.ownsRow B 3 1 v ss.length (ss.map iv)
theorem IntsB.nil (w : World) (B : Nat) : IntsB w B (.slice none 0 0) [] := ⟨by simp, .inl ⟨rfl, rfl⟩⟩
theorem IntsB.keep {w w' : World} {B : Nat} {v : Value} {ss : List Int} (h : IntsB w B v ss) (hk : ∀ (k : Nat) (c : Array Value), w.heap[k]? = some (.cells c 3 (0, 0)) → w'.heap[k]? = w.heap[k]?) : IntsB w' B v ss := by
  refine ⟨h.1, ?_⟩
  rcases h.2 with h | ⟨g, cap, cur, e, hb, hg, r⟩
  · exact .inl h
  · exact .inr ⟨g, cap, cur, e, hb, (hk g cur hg).trans hg, r⟩
theorem IntsB.upd {w w' : World} {B : Nat} {v : Value} {ss : List Int} (h : IntsB w B v ss) {S : List Nat} (hu : Upd S w w') (hS : ∀ (k : Nat) (c : Array Value), k ∈ S → w.heap[k]? ≠ some (.cells c 3 (0, 0))) : IntsB w' B v ss :=
  h.keep fun k c e => hu.block _ (blk_lt e) fun q => hS k c q e
theorem IntsB.shape {w : World} {B : Nat} {v : Value} {ss : List Int} (h : IntsB w B v ss) : ∃ a c, v = .slice a ss.length c := by
  rcases h.2 with ⟨e, h0⟩ | ⟨g, cap, cur, e, _⟩
  · exact ⟨none, 0, by rw [e, h0]⟩
  · exact ⟨_, _, e⟩
theorem IntsB.rd {w : World} {B : Nat} {v : Value} {ss : List Int} (h : IntsB w B v ss) : RdL w [] v (ss.map iv) := by
  have : w.ownsRow B 3 1 v (ss.map iv).length (ss.map iv) := by rw [List.length_map]; exact h
  exact RdL.of_row this (by simp)
theorem int_push {w w0 : World} {B : Nat} {v : Value} {ss : List Int} {S : List Nat} (hp : IntsB w B v ss) (hl : ss.length ≤ 100000) (hB : B ≤ w.heap.size) (h0 : Upd S w0 w) (hB0 : w0.heap.size ≤ B) (s : Int) :
    ∃ a b c' w', (∀ ty, (Builtin.append_ #[46, 46] ty #[v, .slice (some ⟨w.heap.size, 0, none⟩) 1 1]).run Tryz.prog (w.alloc (.cells #[.int .i64 s] 3)) = .ok (.slice a b c') w') ∧ IntsB w' B (.slice a b c') (ss ++ [s]) ∧
      (∀ k, k < w.heap.size → (∀ c, w.heap[k]? ≠ some (.cells c 3 (0, 0))) → w'.heap[k]? = w.heap[k]?) ∧ Upd S w0 w' ∧ B ≤ w'.heap.size := by
  obtain ⟨i0, hi, hz0, hz1, hz2⟩ := info_parts infoInt
  have hp1 : IntsB (w.alloc (.cells #[.int .i64 s] 3)) B v ss := hp.keep fun k c e => blk_alloc_ne (blk_lt e)
  obtain ⟨v', w', hrun, hown, hg, _⟩ := run_append_own (P := Tryz.prog) (w.alloc (.cells #[.int .i64 s] 3)) B 46 0 3 i0 _ 1 8 Tryz.underlying46 hi hz0 hz1 hz2 rfl (by decide) v ss.length (ss.map iv) hp1 ⟨w.heap.size, 0, none⟩ 1 1 [iv s] rfl
    (fun j u hj => by
      rw [addr_add, blk_cell (blk_alloc _)]
      match j, hj with
      | 0, hj => simpa [iv] using hj
      | j + 1, hj => simp at hj)
    (fun u hu => by simp at hu; rw [hu]; rfl) (by unfold maxLen; omega) (by omega) (by simp; omega)
  have hs : IntsB w' B v' (ss ++ [s]) := by
    unfold IntsB; rw [List.length_append, List.map_append]; exact hown
  obtain ⟨a, c', rfl⟩ := hs.shape
  have hsz := hg.size
  have hkeep : ∀ k, k < w.heap.size → (∀ c, w.heap[k]? ≠ some (.cells c 3 (0, 0))) → w'.heap[k]? = w.heap[k]? := by
    intro k hk ht
    rw [hg.block k (by simp; omega) (fun e => ?_), blk_alloc_ne hk]
    rcases hp.2 with ⟨rfl, _⟩ | ⟨g, cap, cur, rfl, _, hgb, _⟩
    · simp [Value.ownBlock] at e
    · simp [Value.ownBlock] at e; subst e; exact ht _ hgb
  refine ⟨a, _, c', w', fun _ => hrun, hs, hkeep, (h0.alloc _).low (fun k hk => ?_) ⟨hg.size, hg.os, hg.tape, hg.output⟩, by simp at hsz; omega⟩
  refine hg.block k (by have := h0.size; simp; omega) fun e => ?_
  rcases hp.2 with ⟨rfl, _⟩ | ⟨g, cap, cur, rfl, hb, hgb, _⟩
  · simp [Value.ownBlock] at e
  · simp [Value.ownBlock] at e; subst e; omega
set_option maxRecDepth 100000 in
theorem run_eqVal {a b : List UInt8} (ha : a.length = 16) (hb : b.length = 16) (w : World) : (Op.equalIn 10000 45 (.agg (bts a).toArray) (.agg (bts b).toArray)).run Tryz.prog w = .ok (decide (a = b)) w := by
  obtain ⟨r, hr, hiff⟩ := run_eqBytes 9998 a b w (List.range 16) (fun i hi => by have := List.mem_range.1 hi; omega)
  have hu := Tryz.underlying45
  obtain ⟨i0, hi0⟩ : ∃ i0, Tryz.prog.info? 5 = some i0 := Option.isSome_iff_exists.1 (by kernel_rfl)
  have h1 := run_equalIn_array (P := Tryz.prog) w 9999 (t := 45) (bts a).toArray (bts b).toArray hu hi0
  rw [cellsOf_u8] at h1
  rw [h1, hr]
  congr 1
  cases hr' : r
  · symm; rw [decide_eq_false_iff_not]
    rintro rfl
    rw [hr'] at hiff
    simp at hiff
  · symm; rw [decide_eq_true_eq]
    apply List.ext_getElem?
    intro i
    by_cases hi : i < 16
    · exact hiff.1 hr' i (List.mem_range.2 hi)
    · rw [List.getElem?_eq_none (by omega), List.getElem?_eq_none (by omega)]
theorem RdL.late9 {w w' : World} {v : Value} {cs : List Value} {S : List Nat} (h : RdL w [] v cs) (hu : Upd [] w w') (hS : ∀ k, k ∈ S → w.heap.size ≤ k) : RdL w' S v cs := by
  obtain ⟨ao, cap, e, hc, hh⟩ := h
  refine ⟨ao, cap, e, hc, fun hp => ?_⟩
  obtain ⟨b, off, _, hab, hcell⟩ := hh hp
  have hb : b < w.heap.size := block_lt_of_cell (hcell 0 hp)
  refine ⟨b, off, fun q => by have := hS b q; omega, hab, fun i hi => ?_⟩
  rw [World.cell?_of_block (w := w) (hu.block _ hb (by simp))]; exact hcell i hi
theorem BgAt.gr {w0 w : World} {g : Sg} {n ring : Nat} (h : BgAt w0 w g n ring) : GrAt w g.j n ring 0 [] [] 2 := by
  have h1 := h.sp.jr
  rw [h.n, h.ring] at h1
  have h2 := h.tree
  refine ⟨g.J, g.D, g.t, g.m, g.H, h1, h.sp.len, ?_, h.t, h.m⟩
  have e : g.h = n - 2 - ring := by unfold Sg.h; rw [h.n, h.ring]
  rw [← e]
  exact h2
theorem upN_mem {k n : Nat} (h : k < n) : (k : Int) ∈ upN n := by unfold upN; exact List.mem_map.2 ⟨k, List.mem_range.2 h, rfl⟩
theorem cnt_one {M : Nat → Option Sec} {h a : Nat} {x : Sec} (hM : M = putS (fun _ => none) a x) (ha : a < h) : cntM M h = 1 := by
  subst hM
  have := cntM_put (s := x) (MOk.none h) ha
  rw [cntM_none] at this
  unfold putS
  rw [this]; rfl

attribute [-go_sem] loadCells storeCells Instr.build Instr.buildSlice
set_option maxRecDepth 100000 in
set_option maxHeartbeats 8000000 in
theorem one9_spec (a0 a1 : Int) (v : Bs) (hv : v.length = 16) (w : World) : Calls Tryz.prog 4 #[.int .i64 a0, .int .i64 a1, .agg (bts v).toArray] w fun e w' => e = .returned (.bool true) ∧ Upd [] w w' := by
  have hN := placeN_lt (k := a0) (n := 100) (by omega)
  have HN := fun w => Lib.hid (place_spec a0 100 w (by omega) (by omega))
  generalize placeN a0 100 = pN at *
  obtain ⟨nN, hnN⟩ : ∃ nN, nN = 1 + pN := ⟨_, rfl⟩
  have hnI : 1 + (pN : Int) = (nN : Int) := by omega
  have hK := placeN_lt (k := a1) (n := nN) (by omega)
  have HK := fun w => Lib.hid (place_spec a1 nN w (by omega) (by omega))
  generalize placeN a1 nN = pK at *
  have HNI := Lib.hid hnI
  have hn1 : 1 ≤ nN := by omega
  have hn2 : nN ≤ 100 := by omega
  have hwN : IntKind.i64.wrap (1 + (pN : Int)) = (nN : Int) := by rw [IntKind.wrap_i64]; omega
  clear hnN hnI
  have HBN : Hid (pN < 100) := Lib.hid hN
  clear hN
  go_enter Tryz.func4, Tryz.ntmps4
  go_wp2_with fail
  refine (begun9_spec _).mono ?_
  rintro e w1 ⟨rfl, hu1⟩
  have H5 : Hid (w1.heap[w.heap.size]? = some (.cells (bts v).toArray 45 (0, 0))) := (hu1.block _ (by simp) (by simp)).trans (blk_alloc _)
  have HU1 : Hid (Upd [] w w1) := Lib.hid (((Upd.refl [] w).alloc _).trans hu1)
  clear hu1
  go_wp2_with fail
  refine (HN _).out.mono ?_
  rintro e w' ⟨rfl, rfl⟩
  go_wp2_with fail
  go_loopw [8, 7] (fun i ro wr => ∃ (q : Nat), q ≤ nN ∧ i = .int .i64 (q : Int) ∧ IntsB wr w1.heap.size ro (upN q) ∧ Upd [] w1 wr) (fun i _ _ => nN - (intOf i).toNat)
  case atStart => exact ⟨0, by omega, rfl, IntsB.nil _ _, Upd.refl _ _⟩
  case round =>
    obtain ⟨q, hq, rfl, hs, hu⟩ := hrel
    obtain ⟨av, cv, rfl⟩ := hs.shape
    rcases Nat.lt_or_ge q nN with hlt | hge
    · have hqb : decide ((q : Int) < (nN : Int)) = true := decide_eq_true (by omega)
      have hqc : decide (q < nN) = true := decide_eq_true hlt
      obtain ⟨a', b', c', w3, hrun, hs3, _, hu3, _⟩ := int_push hs (by rw [upN_length]; omega) (by have := hu.size; omega) hu (Nat.le_refl _) (q : Int)
      rw [← upN_succ] at hs3
      have HS3 := Lib.hid hs3
      have HU3 := Lib.hid hu3
      have hbi := run_build_int (q : Int)
      clear hs hu hs3 hu3
      go_wp2_with (at_builtin; refine wpList_append_run rfl _ _ _ rfl rfl rfl hrun ?_)
      exact ⟨⟨q + 1, by omega, by go_num, HS3.out, HU3.out⟩, by simp [intOf]; omega⟩
    · obtain rfl : q = nN := by omega
      have hqb : decide ((q : Int) < (q : Int)) = false := decide_eq_false (by omega)
      rw [upN_length]
      rw [upN_length] at hs
      have HS := Lib.hid hs
      have HU2 := Lib.hid (HU1.out.trans hu)
      have H52 := Lib.hid ((hu.block _ (blk_lt H5.out) (by simp)).trans H5.out)
      clear hs hu
      have HB : Hid (Calls Tryz.prog 14 #[.int .i64 300, .int .i64 60] wr fun e w' => ∃ g : Sg, e = .returned (.tuple #[.pointer (some ⟨g.j.jb, 0, none⟩), .pointer (some ⟨g.x.tb, 0, none⟩)]) ∧ BgAt wr w' g 300 60 ∧ Upd [] wr w') := Lib.hid (begunS 300 60 300 rfl (by omega) (by omega) (by omega) (by omega) (by omega) wr)
      go_wp2_with fail
      refine HB.out.mono ?_
      rintro e w3 ⟨g0, rfl, hg0, hu3⟩
      have hjl : ∀ k, k ∈ g0.j.all → wr.heap.size ≤ k := fun k hk => hg0.late k (by simp [Sg.S, hk])
      have hrd : RdL w3 g0.j.all (.slice av q cv) ((upN q).map fun i => .int .i64 i) := by
        have := RdL.late9 (cs := (upN q).map iv) (by have := HS.out.rd; exact this) hu3 hjl
        exact this
      have HGR := Lib.hid (grown_spec w3 hg0.gr (by omega) (by omega) (by omega) (by omega) (upN q) hrd (by rw [upN_length]; omega))
      have HJL := Lib.hid hjl
      have HU3 := Lib.hid (HU2.out.trans hu3)
      have H53 := Lib.hid ((hu3.block _ (blk_lt H52.out) (by simp)).trans H52.out)
      have hb3 : w.heap.size < wr.heap.size := blk_lt H52.out
      have HL3 : Hid (∀ k, k ∈ g0.j.all → w.heap.size ≤ k) := by show ∀ k, _; exact fun k hk => by have := hjl k hk; omega
      have HN5 : Hid (w.heap.size ∉ g0.j.all) := by show _; exact fun q => by have := hjl _ q; omega
      clear hg0 hu3 hjl hrd
      go_wp2_with fail
      refine HGR.out.mono ?_
      rintro e w4 ⟨r, S, rfl, hgr, hu4⟩
      have HU4 := Lib.hid (late_all HU3.out hu4 HL3.out)
      have H54 := Lib.hid ((hu4.block _ (blk_lt H53.out) HN5.out).trans H53.out)
      have HB4 := Lib.hid (begin_gr hgr)
      clear hgr hu4
      go_wp2_with fail
      refine HB4.out.mono ?_
      rintro e w5 ⟨g, rfl, hg, h5, ht, hu5⟩
      have hgh : g.h = 238 := hg.h
      have hgj : g.j = g0.j := hg.j
      have hgl : ∀ k, k ∈ g.S → w.heap.size ≤ k := fun k hk => by
        rcases hg.S k hk with x | x
        · exact HL3.out k x
        · have := HU4.out.size; omega
      have hg5 : w.heap.size ∉ g.S := fun q => by
        rcases hg.S _ q with x | x
        · exact HN5.out x
        · have := blk_lt H54.out; omega
      have HLF := Lib.hid (left_spec h5 (by omega) (by omega))
      have HU5 := Lib.hid (late_all HU4.out hu5 HL3.out)
      have H55 := Lib.hid ((hu5.block _ (blk_lt H54.out) HN5.out).trans H54.out)
      have HT := Lib.hid ht
      have HTX := Lib.hid hg
      have HGL := Lib.hid hgl
      have HG5 := Lib.hid hg5
      have HGH := Lib.hid hgh
      clear hg h5 ht hu5 hgh hgj hgl hg5
      go_wp2_with fail
      refine HLF.out.mono ?_
      rintro e w6 ⟨rfl, h6, hu6⟩
      have h56 := (hu6.block _ (blk_lt H55.out) HG5.out).trans H55.out
      have HU6 := Lib.hid (late_all HU5.out hu6 HGL.out)
      have H56 := Lib.hid h56
      have H6 := Lib.hid h6
      have hsz := HT.out.at_.size
      have hln := treeL_len (upN q) []
      rw [upN_length] at hln
      simp only [List.length_nil] at hln
      have hlf := HT.out.left
      have hgh := HGH.out
      have hPT : ∀ w', SpAt w' g (fun _ => none) → Calls Tryz.prog 24 #[.pointer (some ⟨g.x.tb, 0, none⟩), .int .u32 (r : Int), .agg (bts (keyB (pK : Int))).toArray, .agg (bts v).toArray] w' (fun e w'' => ∃ M' r', e = .returned (.tuple #[.int .u32 ((r' : Nat) : Int), .int .i64 0]) ∧ PutTop g (fun _ => none) M' r r' (treeL [] (upN q)) S (keyB (pK : Int)) v 7 ∧ SpAt w'' g M' ∧ Upd g.S w' w'') :=
        fun w' h' => top_put h' (by omega) (by omega) HT.out (by omega) (keyB (pK : Int)) v (keyB_length _) hv (by rw [cntM_none]; show 0 + 1 + 7 ≤ 40; omega) (by omega)
      have HPT := Lib.hid hPT
      have HLN : Hid ((treeL [] (upN q)).length ≤ 100) := by show _ ≤ _; omega
      have HKY : Hid (∀ w', Calls Tryz.prog 25 #[.int .i64 (pK : Int)] w' fun e w'' => e = .returned (.agg (bts (keyB (pK : Int))).toArray) ∧ Upd [] w' w'') := by
        show ∀ w', _
        exact fun w' => key_spec (pK : Int) w'
      have r5 : w6.rangeAt w.heap.size 0 (bts v) := fun j u hj => by rw [blk_cell h56, ← hj]; simp
      have hud := Tryz.underlying45
      have hi45 : (Tryz.prog.info? 45).map (·.size) = some (bts v).length := by rw [bts_length, hv]; exact infoVl
      clear h56 h6 hu6 hsz hln hlf hgh hPT
      go_wp2_with fail
      go_region_held3 (fun w' => w'.rangeAt w.heap.size 0 (bts v)) (first | assumption | (exact range_upd (by assumption) ((Upd.refl [] _).drew) (by simp)))
        (first
          | (go_at_call 13; (with_reducible refine (HK _).out.mono ?_); rintro e w7 ⟨rfl, rfl⟩)
          | (go_at_call 25; (with_reducible refine (HKY.out _).mono ?_); rintro e w8 ⟨rfl, hu8⟩; have r8 := range_upd r5 ((Upd.refl [] _).drew.trans hu8) (by simp); have HU8 := Lib.hid ((Upd.refl [] w6).drew.trans hu8); clear hu8)
          | (go_at_call 24; (with_reducible refine (HPT.out _ (H6.out.below HU8.out)).mono ?_); rintro e w9 ⟨M', r', rfl, hpt, h9, hu9⟩; have r9 := range_upd r8 hu9 HG5.out; have HPU := Lib.hid hpt; have H9 := Lib.hid h9; have HU9 := Lib.hid hu9; clear hpt h9 hu9))
      all_goals
        have hlk : lookL (treeL [] (upN q)) (keyB (pK : Int)) ≠ none := treeL_has (upN q) [] (by simp) (upN_mem hK)
        obtain ⟨S', hT', _⟩ := HT.out.put HPU.out
        obtain ⟨_, _, hr0, _, q4⟩ := id HPU.out
        obtain ⟨rfl, x, sx, hx, hM⟩ := q4 hlk
        have hxl := HT.out.low x hx
        have hleft : leftN (g.T M') g.h = leftN (g.T fun _ => none) g.h := by
          congr 1
          funext i
          rw [hM, T_put sx (by omega)]
        have hcn := cnt_one hM hxl.2
        rcases hT'.at_ with ⟨h0, _⟩ | ⟨_, d, hsh⟩
        · exact absurd h0 hr0
        have hd := hsh.flat (by have := insL_len_le (treeL [] (upN q)) (keyB (pK : Int)) v; have := HLN.out; omega)
        have hlow := hT'.low
        have hGT : ∀ w', SpAt w' g M' → Calls Tryz.prog 26 #[.pointer (some ⟨g.x.tb, 0, none⟩), .int .u32 (r' : Int), .agg (bts (keyB (pK : Int))).toArray] w' fun e w'' => e = .returned (.tuple #[.agg (bts v).toArray, .int .i64 0]) ∧ SpAt w'' g M' ∧ Upd [g.j.jb] w' w'' := by
          intro w' h'
          have := get_spec h' hsh hlow (by omega) (keyB (pK : Int)) (keyB_length _)
          rw [lookL_ins] at this
          exact this
        have hl2 := left_spec H9.out (by have := HGH.out; omega) (by have := HGH.out; omega)
        rw [hleft] at hl2
        have HL2 := Lib.hid hl2
        have HGT := Lib.hid hGT
        have HCN := Lib.hid hcn
        have HU10 := Lib.hid (late_all (HU6.out.trans HU8.out) HU9.out HGL.out)
        have H510 := Lib.hid ((HU9.out.block _ (Nat.lt_of_lt_of_le (blk_lt H56.out) HU8.out.size) HG5.out).trans ((HU8.out.block _ (blk_lt H56.out) (by simp)).trans H56.out))
        clear hlk hT' q4 hx hM hxl hleft hcn hsh hd hlow hGT hl2 hr0 r9 r8
        go_wp2_with fail
        refine HL2.out.mono ?_
        rintro e w10 ⟨rfl, h10, hu10⟩
        have H10 := Lib.hid h10
        have HU11 := Lib.hid (late_all HU10.out hu10 HGL.out)
        have H511 := Lib.hid ((hu10.block _ (blk_lt H510.out) HG5.out).trans H510.out)
        clear h10 hu10
        go_wp2_with fail
        refine (HK _).out.mono ?_
        rintro e w11 ⟨rfl, rfl⟩
        go_wp2_with fail
        refine (HKY.out _).mono ?_
        rintro e w11 ⟨rfl, hu11⟩
        have H11 := Lib.hid (H10.out.below hu11)
        have HU12 := Lib.hid (HU11.out.trans hu11)
        have H512 := Lib.hid ((hu11.block _ (blk_lt H511.out) (by simp)).trans H511.out)
        clear hu11
        go_wp2_with fail
        refine (HGT.out _ H11.out).mono ?_
        rintro e w12 ⟨rfl, h12, hu12⟩
        obtain ⟨w13, hw13⟩ : ∃ w13, w13 = (w12.alloc (.cells #[.int .u8 0, .int .u8 0, .int .u8 0, .int .u8 0, .int .u8 0, .int .u8 0, .int .u8 0, .int .u8 0, .int .u8 0, .int .u8 0, .int .u8 0, .int .u8 0, .int .u8 0, .int .u8 0, .int .u8 0, .int .u8 0] 45)).setRow w12.heap.size (bts v).toArray := ⟨_, rfl⟩
        have s19 := store_blk (blk_alloc (w := w12) (.cells #[.int .u8 0, .int .u8 0, .int .u8 0, .int .u8 0, .int .u8 0, .int .u8 0, .int .u8 0, .int .u8 0, .int .u8 0, .int .u8 0, .int .u8 0, .int .u8 0, .int .u8 0, .int .u8 0, .int .u8 0, .int .u8 0] 45)) (l := bts v) (by rw [bts_length, hv]; rfl) (bts_one _)
        rw [← hw13] at s19
        have c19 : w13.heap[w12.heap.size]? = some (.cells (bts v).toArray 45 (0, 0)) := by rw [hw13]; exact setRow_heap _ _ _ _ _ _ (blk_alloc _)
        have hu13 : Upd [] w12 w13 := by
          rw [hw13, setRow_alloc]
          exact (Upd.refl _ _).alloc _
        have h513 := (hu13.block _ (blk_lt ((hu12.block _ (blk_lt H512.out) (fun q => HG5.out (g.mem _ q))).trans H512.out)) (by simp)).trans ((hu12.block _ (blk_lt H512.out) (fun q => HG5.out (g.mem _ q))).trans H512.out)
        have h13 := h12.below hu13
        have HTC := Lib.hid (touched_spec h13.tx h13.ok)
        have HU13 := Lib.hid ((late_all HU12.out hu12 (fun k hk => HGL.out k (g.mem k hk))).trans hu13)
        have C19 := Lib.hid c19
        have C5 := Lib.hid h513
        clear h12 hu12 hw13 c19 hu13 h513 h13
        have hrb : ((r' : Int) == (r' : Int)) = true := by simp
        go_wp2_with fail
        refine HTC.out.mono ?_
        rintro e w14 ⟨rfl, n14, hn14⟩
        have l5 := run_cells_blk (w := w14) (n := 16) (T := 45) (fr := (0, 0)) (by rw [hn14]; exact C5.out) (by rw [bts_length, hv])
        have l19 := run_cells_blk (w := w14) (n := 16) (T := 45) (fr := (0, 0)) (by rw [hn14]; exact C19.out) (by rw [bts_length, hv])
        have heq := run_eqVal hv hv w14
        have hdv : decide (v = v) = true := decide_eq_true rfl
        rw [hdv] at heq
        have HU14 : Hid (Upd [] w w14) := by show Upd _ _ _; rw [hn14]; exact HU13.out.drewN _
        have hct := HCN.out
        rw [hct]
        clear hn14 hdv hct
        go_wp2_with fail
        go_ret
        exact ⟨rfl, HU14.out⟩

end Go.Proofs.YtceakcejchbbjaaGreat
end

section
set_option linter.unusedSimpArgs false
set_option linter.unusedVariables false
namespace Go.Proofs.YtceakcejchbbjaaGreat
open Go.RowKit Go.MapKept Go.ChangeMaps

theorem mapM_some_all {β : Type} {f : Nat → Option β} : ∀ (L : List Nat) (xs : List β), L.mapM f = some xs → ∀ i, i ∈ L → ∃ y, f i = some y
  | [], _, _, i, h => by simp at h
  | k :: L, xs, h, i, hi => by
    rw [List.mapM_cons] at h
    simp only [bind, Option.bind_eq_some_iff, pure, Option.some.injEq] at h
    obtain ⟨y, hy, ys, hys, _⟩ := h
    rcases List.mem_cons.1 hi with rfl | q
    · exact ⟨y, hy⟩
    · exact mapM_some_all L ys hys i q
set_option maxRecDepth 100000 in
theorem open_arr9 {H : Type} {enc : TypeId × Value → H} {W : World} {base : Nat} {sp : Nat → Bool} {held : Bool} {r : Reach} {b0 k n : Nat} {v : Value} {d : DataW H} {ps : List MemPlace} (hu : Tryz.prog.underlying k = some (.array n 5)) (hs : Tryz.prog.cellsOf k = n)
    (hval : Value.okWide Tryz.prog W r b0 k v) (hd : DataW.Trod enc Tryz.prog W base sp held k v d ps) : ∃ l : List UInt8, l.length = n ∧ v = .agg (bts l).toArray := by
  have hc1 : Tryz.prog.cellsOf 5 = 1 := cellsOf_u8
  simp only [Value.okWide, hu] at hval
  obtain ⟨cs, rfl, h2, _⟩ := hval
  rw [hs] at h2
  obtain ⟨fuel, hf⟩ := hd
  cases fuel with
  | zero => simp [DataW.trod] at hf
  | succ m =>
    rw [DataW.trod_step] at hf
    unfold DataW.trodStep at hf
    simp only [hu, Value.cells] at hf
    split at hf
    · simp only [Option.map_eq_some_iff] at hf
      obtain ⟨ys, hy, _⟩ := hf
      have hall := mapM_some_all _ ys hy
      obtain ⟨l, hl, hp⟩ := list_of (p := fun i c => cs.toList[i]? = some (bv c)) n (fun i hi => by
        obtain ⟨y, hy⟩ := hall i (List.mem_range.2 hi)
        obtain ⟨a, ea, _, wa⟩ := DataW.trod_int Tryz.underlying5 hy
        obtain ⟨c, hc⟩ := byte_of wa
        refine ⟨c, ?_⟩
        rw [hc1, Nat.mul_one] at ea
        have hil : i < cs.toList.length := by rw [Array.length_toList, h2]; exact hi
        rw [List.drop_eq_getElem_cons hil, List.take_succ_cons, List.take_zero] at ea
        rw [List.getElem?_eq_getElem hil, hc]
        exact congrArg some (List.cons.inj ea).1)
      refine ⟨l, hl, congrArg Value.agg (Array.toList_inj.1 (List.ext_getElem? fun i => ?_))⟩
      by_cases hi : i < l.length
      · rw [hp i hi, bts_get, List.getElem?_eq_getElem hi]; rfl
      · rw [List.getElem?_eq_none (by rw [Array.length_toList, h2]; omega), List.getElem?_eq_none (by rw [bts_length]; omega)]
    · simp at hf

end Go.Proofs.YtceakcejchbbjaaGreat
end
