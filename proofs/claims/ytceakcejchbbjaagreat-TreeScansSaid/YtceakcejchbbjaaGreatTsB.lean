/-
  cofferlaw9.grown: a tree of keys, committed step by step. cofferlaw9.begun.
-/
import Derived.Test.YtceakcejchbbjaaGreatTrZ
import Derived.Test.YtceakcejchbbjaaGreatSpF
import Derived.Test.YtceakcejchbbjaaGreatGW
section
set_option linter.unusedSimpArgs false
set_option linter.unusedVariables false
namespace Go.Proofs.YtceakcejchbbjaaGreat
open Go.RowKit Go.MapKept Go.ChangeMaps

/-- A journal at rest, a tree on its home sectors. -/
def GrAt (w : World) (j : JG) (n ring r : Nat) (l : List Pair9) (S : List Nat) (b : Int) : Prop :=
  ∃ (J : Jn) (D : Dk) (t m : Int) (H : Nat → Sec), JrAt w j J D n ring t m H ∧ (∀ i, (H i).length = 512) ∧ TreeOn H (n - 2 - ring) r l S ∧ t ≤ b ∧ m ≤ b + 1
theorem GrAt.below {w w' : World} {j : JG} {n ring r : Nat} {l : List Pair9} {S : List Nat} {b : Int} (h : GrAt w j n ring r l S b) (hu : Upd [] w w') : GrAt w' j n ring r l S b := by
  obtain ⟨J, D, t, m, H, h1, h2⟩ := h
  exact ⟨J, D, t, m, H, h1.below hu, h2⟩
/-- A transaction on it. -/
structure TxG (w0 : World) (j : JG) (n ring : Nat) (b : Int) (g : Sg) : Prop where
  j : g.j = j
  n : g.n = n
  ring : g.ring = ring
  turn : g.turn = g.t - 1
  t : g.t ≤ b
  m : g.m ≤ b + 1
  tb : w0.heap.size ≤ g.x.tb
  wb : w0.heap.size ≤ g.x.wb
theorem TxG.h {w0 : World} {j : JG} {n ring : Nat} {b : Int} {g : Sg} (h : TxG w0 j n ring b g) : g.h = n - 2 - ring := by unfold Sg.h; rw [h.n, h.ring]
theorem TxG.S {w0 : World} {j : JG} {n ring : Nat} {b : Int} {g : Sg} (h : TxG w0 j n ring b g) : ∀ k, k ∈ g.S → k ∈ j.all ∨ w0.heap.size ≤ k := by
  intro k hk
  rw [Sg.S, h.j] at hk
  rcases List.mem_cons.1 hk with rfl | q
  · exact .inr h.wb
  · exact .inl q
theorem begin_gr {w : World} {j : JG} {n ring r : Nat} {l : List Pair9} {S : List Nat} {b : Int} (h : GrAt w j n ring r l S b) :
    Calls Tryz.prog 20 #[.pointer (some ⟨j.jb, 0, none⟩)] w fun e w' => ∃ g : Sg, e = .returned (.tuple #[.pointer (some ⟨g.x.tb, 0, none⟩), .int .i64 0]) ∧ TxG w j n ring b g ∧ SpAt w' g (fun _ => none) ∧ TreeOn (g.cur fun _ => none) g.h r l S ∧ Upd j.all w w' := by
  obtain ⟨J, D, t, m, H, h1, h2, h3, h4, h5⟩ := h
  refine (begin_hi h1).mono ?_
  rintro e w' ⟨x, rfl, hx1, hx2, hx, hr, hu⟩
  exact ⟨⟨x, j, J, D, n, ring, t - 1, t, m, H⟩, rfl, ⟨rfl, rfl, rfl, rfl, h4, h5, hx1, hx2⟩, ⟨hr, hx, h1.at_.late hx2, MOk.none _, h2⟩, h3, hu⟩
theorem commit_gr {w0 w : World} {j : JG} {n ring r : Nat} {l : List Pair9} {S : List Nat} {b : Int} {g : Sg} {M : Nat → Option Sec} (hg : TxG w0 j n ring b g) (h : SpAt w g M) (ht : TreeOn (g.cur M) g.h r l S) (hn : n ≤ 5000) (hb : b < 900000) (h1 : cntM M g.h ≤ 40) (h2 : cntM M g.h < ring) :
    Calls Tryz.prog 19 #[.pointer (some ⟨g.x.tb, 0, none⟩)] w fun e w' => e = .returned (.int .i64 0) ∧ GrAt w' j n ring r l S (b + 1) ∧ Upd (g.x.tb :: j.all) w w' := by
  have hx := h.tx
  rw [hg.turn] at hx
  refine (commit_hi h.jr hx h.ne h.ok (by rw [hg.n]; exact hn) h1 (by rw [hg.ring]; exact h2 : cntM M g.h < g.ring) (by have := hg.t; omega) (by have := hg.m; omega)).mono ?_
  rintro e w' ⟨rfl, _, ⟨J', D', t', hr, ht'⟩, hu⟩
  have e1 := hg.j
  have e2 := hg.n
  have e3 := hg.ring
  refine ⟨rfl, ⟨J', D', t', g.m + 1, g.cur M, ?_, fun i => h.cur_len i, ?_, ?_, ?_⟩, by rw [← e1]; exact hu⟩
  · rw [← e1, ← e2, ← e3]; exact hr
  · rw [← e2, ← e3]; exact ht
  · have := hg.t; rw [ht']; split <;> omega
  · have := hg.m; omega
theorem run_build_val (x : Int) (w : World) : (Instr.build 45 #[(0, .int .u8 (x % 256))]).run Tryz.prog w = .ok (.agg (bts (valB x)).toArray) w := by
  have e : (bts (valB x)) = (bts z16).set 0 (.int .u8 (x % 256)) := by rw [u8I_int, bts_set _ _ (u8I_lt x)]; rfl
  rw [e]
  exact run_build w _ _ _ (by kernel_rfl)
theorem RdL.cellS {w : World} {S : List Nat} {a : Option Addr} {n c : Nat} {cs : List Value} (h : RdL w S (.slice a n c) cs) {i : Nat} {x : Value} (hi : cs[i]? = some x) : ∃ b off, b ∉ S ∧ a = some ⟨b, off, none⟩ ∧ w.cell? ⟨b, off + i, none⟩ = some x := by
  obtain ⟨ao, cap, e, hc, hh⟩ := h
  obtain ⟨hlt, hx⟩ := List.getElem?_eq_some_iff.1 hi
  obtain ⟨b, off, hb, hab, hcell⟩ := hh (by omega)
  cases e
  exact ⟨b, off, hb, hab, by rw [hcell i hlt, hx]⟩
attribute [-go_sem] loadCells storeCells Instr.build Instr.buildSlice
set_option maxRecDepth 100000 in
set_option maxHeartbeats 4000000 in
theorem grown_spec (w : World) {j : JG} {n ring : Nat} {b : Int} (hG : GrAt w j n ring 0 [] [] b) (hn : n ≤ 4096) (hr : 10 ≤ ring) (hh : 120 ≤ n - 2 - ring) (hb : b < 1000) {v : Value} (ks : List Int) (hv : RdL w j.all v (ks.map fun i => .int .i64 i)) (hk : ks.length ≤ 200) :
    Calls Tryz.prog 22 #[.pointer (some ⟨j.jb, 0, none⟩), v] w fun e w' => ∃ (r : Nat) (S : List Nat), e = .returned (.tuple #[.int .u32 (r : Int), .bool true]) ∧ GrAt w' j n ring r (treeL [] ks) S (b + ks.length) ∧ Upd j.all w w' := by
  obtain ⟨av, cv, rfl, hcv⟩ := hv.shape
  rw [List.length_map] at hcv ⊢
  have HG := Lib.hid hG
  have HV := Lib.hid hv
  clear hG hv
  go_enter Tryz.func22, Tryz.ntmps22
  go_wp2_with fail
  go_loopw [7, 6] (fun i ro wr => ∃ (q r : Nat) (S : List Nat), q ≤ ks.length ∧ i = .int .i64 (q : Int) ∧ ro = .int .u32 (r : Int) ∧ GrAt wr j n ring r (treeL [] (ks.take q)) S (b + q) ∧ Upd j.all w wr) (fun i _ _ => ks.length - (intOf i).toNat)
  case atStart => exact ⟨0, 0, [], by omega, rfl, rfl, by have := HG.out; simpa [treeL] using this, Upd.refl _ _⟩
  case round =>
    obtain ⟨q, r, S, hq, rfl, rfl, hgr, hu⟩ := hrel
    rcases Nat.lt_or_ge q ks.length with hlt | hge
    · have hqi : (q : Int) < (ks.length : Int) := by omega
      have hqb : decide ((q : Int) < (ks.length : Int)) = true := decide_eq_true hqi
      obtain ⟨kq, hkq⟩ : ∃ kq, ks[q]? = some kq := ⟨_, List.getElem?_eq_getElem hlt⟩
      obtain ⟨vb, off, hnb, rfl, hc0⟩ := (HV.out.upd hu (fun _ x => x)).cellS (i := q) (x := .int .i64 kq) (by rw [List.getElem?_map, hkq]; rfl)
      have HGR := Lib.hid hgr
      have HB := Lib.hid (begin_gr hgr)
      have HU := Lib.hid hu
      have HKQ := Lib.hid hkq
      have HNB := Lib.hid hnb
      have HKY : Hid (∀ w', Calls Tryz.prog 25 #[.int .i64 kq] w' fun e w'' => e = .returned (.agg (bts (keyB kq)).toArray) ∧ Upd [] w' w'') := by
        show ∀ w', _
        exact fun w' => key_spec kq w'
      have bw : ∀ w', (Instr.build 45 #[(0, .int .u8 (IntKind.u8.wrap kq))]).run Tryz.prog w' = .ok (.agg (bts (valB kq)).toArray) w' := fun w' => by rw [IntKind.wrap_u8]; exact run_build_val kq w'
      clear hgr hu hkq hnb
      go_wp2_with fail
      refine HB.out.mono ?_
      rintro e w1 ⟨g, rfl, hg, h1, ht, hu1⟩
      have hgh := hg.h
      have hc1 := cell_upd hc0 hu1 HNB.out
      have hgS := hg.S
      have hvlt : vb < wr.heap.size := block_lt_of_cell hc0
      have hnS : vb ∉ g.S := fun q => by rcases hgS vb q with x | x; exact HNB.out x; omega
      have hsz : 4 * S.length ≤ (treeL [] (ks.take q)).length + 3 := ht.at_.size
      have hln := treeL_len (ks.take q) []
      rw [List.length_take] at hln
      simp only [List.length_nil] at hln
      have hlf := ht.left
      have hPT : ∀ w', SpAt w' g (fun _ => none) → Calls Tryz.prog 24 #[.pointer (some ⟨g.x.tb, 0, none⟩), .int .u32 (r : Int), .agg (bts (keyB kq)).toArray, .agg (bts (valB kq)).toArray] w' (fun e w'' => ∃ M' r', e = .returned (.tuple #[.int .u32 ((r' : Nat) : Int), .int .i64 0]) ∧ PutTop g (fun _ => none) M' r r' (treeL [] (ks.take q)) S (keyB kq) (valB kq) 7 ∧ SpAt w'' g M' ∧ Upd g.S w' w'') :=
        fun w' h' => top_put h' (by omega) (by omega) ht (by omega) (keyB kq) (valB kq) (keyB_length _) (valB_length _) (by rw [cntM_none]; show 0 + 1 + 7 ≤ 40; omega) (by omega)
      have HPT := Lib.hid hPT
      have HTR := Lib.hid ht
      have HTX := Lib.hid hg
      have H1 := Lib.hid h1
      have HU1 := Lib.hid hu1
      have HNS := Lib.hid hnS
      clear hg h1 ht hu1 hgS hnS hPT hc0 hsz hln hlf hvlt hgh
      go_wp2_with fail
      go_region_held3 (fun w' => w'.cell? ⟨vb, off + q, none⟩ = some (.int .i64 kq)) (first | assumption | (exact cell_upd (by assumption) ((Upd.refl [] _).drew) (by simp)))
        (first
          | (go_at_call 25; (with_reducible refine (HKY.out _).mono ?_); rintro e w2 ⟨rfl, hu2⟩; have hc2 := cell_upd hc1 ((Upd.refl [] _).drew.trans hu2) (by simp); have HU2 := Lib.hid ((Upd.refl [] w1).drew.trans hu2); clear hu2)
          | (go_at_call 24; (with_reducible refine (HPT.out _ (H1.out.below HU2.out)).mono ?_); rintro e w4 ⟨M', r', rfl, hpt, h4, hu4⟩; have hc4 := cell_upd hc2 hu4 HNS.out; have HPU := Lib.hid hpt; have H4 := Lib.hid h4; have HU4 := Lib.hid hu4; clear hpt h4 hu4))
      all_goals
        obtain ⟨S', hT', hGn⟩ := HTR.out.put HPU.out
        have hcn := hGn.cnt
        rw [cntM_none] at hcn
        have hc1M : c1M (fun _ => none) = 1 := rfl
        rw [hc1M] at hcn
        have HCM := Lib.hid (commit_gr HTX.out H4.out hT' (by omega) (by omega) (by omega) (by omega))
        clear hT' hGn hcn hc1M
        go_wp2_with fail
        refine HCM.out.mono ?_
        rintro e w5 ⟨rfl, hgr5, hu5⟩
        have HGR5 := Lib.hid hgr5
        have HU5 : Hid (Upd j.all w w5) := by
          show Upd _ _ _
          have a1 : Upd j.all wr w2 := HU1.out.trans (HU2.out.mono (by simp))
          have a2 : Upd j.all wr w4 := a1.late HU4.out HTX.out.S
          exact HU.out.trans (a2.late hu5 (fun k hk => by
            rcases List.mem_cons.1 hk with rfl | q
            · exact .inr HTX.out.tb
            · exact .inl q))
        clear hgr5 hu5
        go_wp2_with fail
        refine ⟨⟨q + 1, r', S', by omega, by go_num, rfl, ?_, HU5.out⟩, by simp [intOf]; omega⟩
        rw [List.take_add_one, HKQ.out]
        show GrAt w5 j n ring r' (treeL [] (ks.take q ++ [kq])) S' (b + ((q + 1 : Nat) : Int))
        rw [treeL_snoc, show b + ((q + 1 : Nat) : Int) = b + q + 1 by omega]
        exact HGR5.out
    · obtain rfl : q = ks.length := by omega
      have hqb : decide ((ks.length : Int) < (ks.length : Int)) = false := decide_eq_false (by omega)
      rw [List.take_length] at hgr
      have HGR := Lib.hid hgr
      have HU := Lib.hid hu
      clear hgr hu
      go_wp2_with fail
      go_ret2
      exact ⟨r, S, rfl, HGR.out, HU.out⟩

end Go.Proofs.YtceakcejchbbjaaGreat
end

section
set_option linter.unusedSimpArgs false
set_option linter.unusedVariables false
namespace Go.Proofs.YtceakcejchbbjaaGreat
open Go.RowKit Go.MapKept Go.ChangeMaps

def upN (q : Nat) : List Int := (List.range q).map fun (i : Nat) => (i : Int)
theorem upN_succ (q : Nat) : upN (q + 1) = upN q ++ [(q : Int)] := by unfold upN; rw [List.range_succ, List.map_append]; rfl
theorem upN_length (q : Nat) : (upN q).length = q := by simp [upN]
theorem up11_len : (treeL [] (upN 11)).length = 11 := by decide +kernel
theorem up11_look : lookL (treeL [] (upN 11)) (keyB 3) = some (valB 3) := by decide +kernel
/-- A tree on a new space. -/
theorem BgAt.tree {w0 w : World} {g : Sg} {n ring : Nat} (h : BgAt w0 w g n ring) : TreeOn (g.cur fun _ => none) g.h 0 [] [] :=
  ⟨.inl ⟨rfl, rfl, rfl⟩, by simp, by simp, fun i => by have := h.T i; simpa [Sg.T] using this⟩
attribute [-go_sem] loadCells storeCells Instr.build Instr.buildSlice
set_option maxRecDepth 100000 in
set_option maxHeartbeats 4000000 in
theorem begun9_spec (w : World) : Calls Tryz.prog 21 #[] w fun e w' => e = .returned (.bool true) ∧ Upd [] w w' := by
  have HB : Hid (Calls Tryz.prog 14 #[.int .i64 128, .int .i64 60] w fun e w' => ∃ g : Sg, e = .returned (.tuple #[.pointer (some ⟨g.j.jb, 0, none⟩), .pointer (some ⟨g.x.tb, 0, none⟩)]) ∧ BgAt w w' g 128 60 ∧ Upd [] w w') := Lib.hid (begunS 128 60 128 rfl (by omega) (by omega) (by omega) (by omega) (by omega) w)
  go_enter Tryz.func21, Tryz.ntmps21
  go_wp2_with fail
  refine HB.out.mono ?_
  rintro e w1 ⟨g, rfl, hg, hu1⟩
  have hgh : g.h = 66 := by unfold Sg.h; rw [hg.n, hg.ring]
  have HLT : Hid (∀ k, k ∈ g.S → w.heap.size ≤ k) := by show ∀ k, _; exact fun k hk => hg.late k (by simp [hk])
  have HT := Lib.hid hg.tree
  have HSP := Lib.hid hg.sp
  have HU1 := Lib.hid hu1
  have HGH := Lib.hid hgh
  clear hg hu1 hgh
  go_wp2_with fail
  go_loopw [5, 3, 4] (fun i ro er wr => ∃ (q r : Nat) (S : List Nat) (M : Nat → Option Sec), q ≤ 11 ∧ i = .int .i64 (q : Int) ∧ ro = .int .u32 (r : Int) ∧ er = .int .i64 0 ∧ SpAt wr g M ∧ TreeOn (g.cur M) g.h r (treeL [] (upN q)) S ∧ (∀ i, (M i).isSome = true → i = 1 ∨ i ∈ S) ∧ Upd [] w wr) (fun i _ _ _ => 11 - (intOf i).toNat)
  case atStart => exact ⟨0, 0, [], fun _ => none, by omega, rfl, rfl, rfl, HSP.out, HT.out, by simp, HU1.out⟩
  case round =>
    obtain ⟨q, r, S, M, hq, rfl, rfl, rfl, hsp, ht, hs, hu⟩ := hrel
    rcases Nat.lt_or_ge q 11 with hlt | hge
    · have hqb : decide ((q : Int) < 11) = true := decide_eq_true (by omega)
      have hsz : 4 * S.length ≤ (treeL [] (upN q)).length + 3 := ht.at_.size
      have hln := treeL_len (upN q) []
      rw [upN_length] at hln
      simp only [List.length_nil] at hln
      have hlf := ht.left
      have hcn := cnt_of_some hsp.ok hs
      have HGH' := HGH.out
      have HKY : Hid (∀ w', Calls Tryz.prog 25 #[.int .i64 (q : Int)] w' fun e w'' => e = .returned (.agg (bts (keyB (q : Int))).toArray) ∧ Upd [] w' w'') := by
        show ∀ w', _
        exact fun w' => key_spec (q : Int) w'
      have hPT : ∀ w', SpAt w' g M → Calls Tryz.prog 24 #[.pointer (some ⟨g.x.tb, 0, none⟩), .int .u32 (r : Int), .agg (bts (keyB (q : Int))).toArray, .agg (bts (valB (q : Int))).toArray] w' (fun e w'' => ∃ M' r', e = .returned (.tuple #[.int .u32 ((r' : Nat) : Int), .int .i64 0]) ∧ PutTop g M M' r r' (treeL [] (upN q)) S (keyB (q : Int)) (valB (q : Int)) 7 ∧ SpAt w'' g M' ∧ Upd g.S w' w'') :=
        fun w' h' => top_put h' (by omega) (by omega) ht (by omega) (keyB (q : Int)) (valB (q : Int)) (keyB_length _) (valB_length _) (by omega) (by omega)
      have bw : ∀ w', (Instr.build 45 #[(0, .int .u8 (q : Int))]).run Tryz.prog w' = .ok (.agg (bts (valB (q : Int))).toArray) w' := fun w' => by have := run_build_val (q : Int) w'; rwa [Int.emod_eq_of_lt (by omega) (by omega)] at this
      have HPT := Lib.hid hPT
      have HTR := Lib.hid ht
      have HSS := Lib.hid hs
      have HU := Lib.hid hu
      have HS := Lib.hid hsp
      clear hsp ht hs hu hsz hln hlf hcn HGH' hPT
      go_wp2_with fail
      refine (HKY.out _).mono ?_
      rintro e w2 ⟨rfl, hu2⟩
      have HS2 := Lib.hid (HS.out.below hu2)
      have HU2 := Lib.hid (HU.out.trans hu2)
      clear hu2
      go_wp2_with fail
      refine (HPT.out _ HS2.out).mono ?_
      rintro e w4 ⟨M', r', rfl, hpt, h4, hu4⟩
      have HPU := Lib.hid hpt
      have H4 := Lib.hid h4
      have HU4 := Lib.hid (late_all HU2.out hu4 HLT.out)
      clear hpt h4 hu4
      go_wp2_with fail
      obtain ⟨S', hT', hGn⟩ := HTR.out.put HPU.out
      refine ⟨⟨q + 1, r', S', M', by omega, by go_num, rfl, rfl, H4.out, ?_, hGn.some HSS.out, HU4.out⟩, by simp [intOf]; omega⟩
      rw [upN_succ, treeL_snoc]
      exact hT'
    · obtain rfl : q = 11 := by omega
      have hqb : decide ((11 : Int) < 11) = false := rfl
      rcases ht.at_ with ⟨_, hnil, _⟩ | ⟨hr0, d, hsh⟩
      · rw [← List.length_eq_zero_iff, up11_len] at hnil; omega
      have hd1 : d = 1 := by
        have hl := up11_len
        cases d with
        | zero => have := hsh.2.2.1.most; rw [List.length_map] at this; omega
        | succ d =>
          have := hsh.manyR
          cases d with
          | zero => rfl
          | succ d =>
            have h7 : 1 ≤ 7 ^ d := Nat.pos_of_ne_zero (by simp)
            rw [Nat.pow_succ] at this; omega
      subst hd1
      have hlow := ht.low
      have HGT : Hid (∀ w', SpAt w' g M → Calls Tryz.prog 26 #[.pointer (some ⟨g.x.tb, 0, none⟩), .int .u32 (r : Int), .agg (bts (keyB 3)).toArray] w' fun e w'' => e = .returned (.tuple #[.agg (bts (valB 3)).toArray, .int .i64 0]) ∧ SpAt w'' g M ∧ Upd [g.j.jb] w' w'') := by
        show ∀ w', _
        intro w' h'
        have := get_spec h' hsh hlow (by omega) (keyB 3) (keyB_length _)
        rw [up11_look] at this
        exact this
      have HDP : Hid (∀ w', SpAt w' g M → Calls Tryz.prog 29 #[.pointer (some ⟨g.x.tb, 0, none⟩), .int .u32 (r : Int)] w' fun e w'' => e = .returned (.tuple #[.int .i64 2, .int .i64 0]) ∧ SpAt w'' g M ∧ Upd [g.j.jb] w' w'') := by
        show ∀ w', _
        exact fun w' h' => depth_spec h' hsh hlow (by omega)
      have HS := Lib.hid hsp
      have HU := Lib.hid hu
      have HK3 := Lib.hid (key_spec 3 wr)
      unfold arr at HK3
      clear hlow hsh hsp hu ht hs
      go_wp2_with fail
      refine HK3.out.mono ?_
      rintro e w2 ⟨rfl, hu2⟩
      have HS2 := Lib.hid (HS.out.below hu2)
      have HU2 := Lib.hid (HU.out.trans hu2)
      clear hu2
      go_wp2_with fail
      refine (HGT.out _ HS2.out).mono ?_
      rintro e w3 ⟨rfl, h3, hu3⟩
      obtain ⟨w4, hw4⟩ : ∃ w4, w4 = (w3.alloc (.cells #[.int .u8 0, .int .u8 0, .int .u8 0, .int .u8 0, .int .u8 0, .int .u8 0, .int .u8 0, .int .u8 0, .int .u8 0, .int .u8 0, .int .u8 0, .int .u8 0, .int .u8 0, .int .u8 0, .int .u8 0, .int .u8 0] 45)).setRow w3.heap.size (bts (valB 3)).toArray := ⟨_, rfl⟩
      have s6 := store_blk (blk_alloc (w := w3) (.cells #[.int .u8 0, .int .u8 0, .int .u8 0, .int .u8 0, .int .u8 0, .int .u8 0, .int .u8 0, .int .u8 0, .int .u8 0, .int .u8 0, .int .u8 0, .int .u8 0, .int .u8 0, .int .u8 0, .int .u8 0, .int .u8 0] 45)) (l := bts (valB 3)) (by rw [bts_length, valB_length]; rfl) (bts_one _)
      rw [← hw4] at s6
      have c6 : w4.heap[w3.heap.size]? = some (.cells (bts (valB 3)).toArray 45 (0, 0)) := by rw [hw4]; exact setRow_heap _ _ _ _ _ _ (blk_alloc _)
      have hu4 : Upd [] w3 w4 := by
        rw [hw4, setRow_alloc]
        exact (Upd.refl _ _).alloc _
      have hz6 : (valB 3).length = 16 := valB_length 3
      have H4 := Lib.hid (h3.below hu4)
      have C6 := Lib.hid c6
      have HU4 := Lib.hid (late_all (late_all HU2.out hu3 (fun k hk => HLT.out k (g.mem k hk))) (hu4.mono (T := []) (by simp)) (by simp))
      clear h3 hu3 hw4 c6 hu4
      go_wp2_with fail
      refine (HDP.out _ H4.out).mono ?_
      rintro e w5 ⟨rfl, h5, hu5⟩
      have m6 : w5.cell? ⟨w3.heap.size, 0, none⟩ = some (.int .u8 3) := (blk_cell ((hu5.block _ (blk_lt C6.out) (fun q => H4.out.other9 C6.out (.inr (.inr (.inr (.inl rfl)))) (g.mem _ q))).trans C6.out) 0).trans rfl
      have HU5 := Lib.hid (late_all HU4.out hu5 (fun k hk => HLT.out k (g.mem k hk)))
      clear h5 hu5
      go_wp2_with fail
      go_ret
      exact ⟨rfl, HU5.out⟩

end Go.Proofs.YtceakcejchbbjaaGreat
end
