/-
  cofferlaw9.begun.
-/
import Derived.Test.YtceakcejchbbjaaGreatTsA
set_option linter.unusedSimpArgs false
set_option linter.unusedVariables false
namespace Go.Proofs.YtceakcejchbbjaaGreat
open Go.RowKit Go.MapKept Go.ChangeMaps

def upN (q : Nat) : List Int := (List.range q).map fun (i : Nat) => (i : Int)
theorem upN_succ (q : Nat) : upN (q + 1) = upN q ++ [(q : Int)] := by unfold upN; rw [List.range_succ, List.map_append]; rfl
theorem upN_length (q : Nat) : (upN q).length = q := by simp [upN]
theorem up11_len : (treeL [] (upN 11)).length = 11 := by decide +kernel
theorem up11_look : lookL (treeL [] (upN 11)) (keyB 3) = some (valB 3) := by decide +kernel
/-- A tree on a new space. -/
theorem BgAt.tree {w0 w : World} {g : Sg} {n ring : Nat} (h : BgAt w0 w g n ring) : TreeOn (g.cur fun _ => none) g.h 0 [] [] :=
  ⟨.inl ⟨rfl, rfl, rfl⟩, by simp, by simp, fun i => by have := h.T i; simpa [Sg.T] using this⟩
attribute [-go_sem] loadCells storeCells Instr.build Instr.buildSlice
set_option maxRecDepth 100000 in
set_option maxHeartbeats 4000000 in
theorem begun9_spec (w : World) : Calls Tryz.prog 21 #[] w fun e w' => e = .returned (.bool true) ∧ Upd [] w w' := by
  have HB : Hid (Calls Tryz.prog 14 #[.int .i64 128, .int .i64 60] w fun e w' => ∃ g : Sg, e = .returned (.tuple #[.pointer (some ⟨g.j.jb, 0, none⟩), .pointer (some ⟨g.x.tb, 0, none⟩)]) ∧ BgAt w w' g 128 60 ∧ Upd [] w w') := Lib.hid (begunS 128 60 128 rfl (by omega) (by omega) (by omega) (by omega) (by omega) w)
  go_enter Tryz.func21, Tryz.ntmps21
  go_wp2_with fail
  refine HB.out.mono ?_
  rintro e w1 ⟨g, rfl, hg, hu1⟩
  have hgh : g.h = 66 := by unfold Sg.h; rw [hg.n, hg.ring]
  have HLT : Hid (∀ k, k ∈ g.S → w.heap.size ≤ k) := by show ∀ k, _; exact fun k hk => hg.late k (by simp [hk])
  have HT := Lib.hid hg.tree
  have HSP := Lib.hid hg.sp
  have HU1 := Lib.hid hu1
  have HGH := Lib.hid hgh
  clear hg hu1 hgh
  go_wp2_with fail
  go_loopw [5, 3, 4] (fun i ro er wr => ∃ (q r : Nat) (S : List Nat) (M : Nat → Option Sec), q ≤ 11 ∧ i = .int .i64 (q : Int) ∧ ro = .int .u32 (r : Int) ∧ er = .int .i64 0 ∧ SpAt wr g M ∧ TreeOn (g.cur M) g.h r (treeL [] (upN q)) S ∧ (∀ i, (M i).isSome = true → i = 1 ∨ i ∈ S) ∧ Upd [] w wr) (fun i _ _ _ => 11 - (intOf i).toNat)
  case atStart => exact ⟨0, 0, [], fun _ => none, by omega, rfl, rfl, rfl, HSP.out, HT.out, by simp, HU1.out⟩
  case round =>
    obtain ⟨q, r, S, M, hq, rfl, rfl, rfl, hsp, ht, hs, hu⟩ := hrel
    rcases Nat.lt_or_ge q 11 with hlt | hge
    · have hqb : decide ((q : Int) < 11) = true := decide_eq_true (by omega)
      have hsz : 4 * S.length ≤ (treeL [] (upN q)).length + 3 := ht.at_.size
      have hln := treeL_len (upN q) []
      rw [upN_length] at hln
      simp only [List.length_nil] at hln
      have hlf := ht.left
      have hcn := cnt_of_some hsp.ok hs
      have HGH' := HGH.out
      have HKY : Hid (∀ w', Calls Tryz.prog 25 #[.int .i64 (q : Int)] w' fun e w'' => e = .returned (.agg (bts (keyB (q : Int))).toArray) ∧ Upd [] w' w'') := by
        show ∀ w', _
        exact fun w' => key_spec (q : Int) w'
      have hPT : ∀ w', SpAt w' g M → Calls Tryz.prog 24 #[.pointer (some ⟨g.x.tb, 0, none⟩), .int .u32 (r : Int), .agg (bts (keyB (q : Int))).toArray, .agg (bts (valB (q : Int))).toArray] w' (fun e w'' => ∃ M' r', e = .returned (.tuple #[.int .u32 ((r' : Nat) : Int), .int .i64 0]) ∧ PutTop g M M' r r' (treeL [] (upN q)) S (keyB (q : Int)) (valB (q : Int)) 7 ∧ SpAt w'' g M' ∧ Upd g.S w' w'') :=
        fun w' h' => top_put h' (by omega) (by omega) ht (by omega) (keyB (q : Int)) (valB (q : Int)) (keyB_length _) (valB_length _) (by omega) (by omega)
      have bw : ∀ w', (Instr.build 45 #[(0, .int .u8 (q : Int))]).run Tryz.prog w' = .ok (.agg (bts (valB (q : Int))).toArray) w' := fun w' => by have := run_build_val (q : Int) w'; rwa [Int.emod_eq_of_lt (by omega) (by omega)] at this
      have HPT := Lib.hid hPT
      have HTR := Lib.hid ht
      have HSS := Lib.hid hs
      have HU := Lib.hid hu
      have HS := Lib.hid hsp
      clear hsp ht hs hu hsz hln hlf hcn HGH' hPT
      go_wp2_with fail
      refine (HKY.out _).mono ?_
      rintro e w2 ⟨rfl, hu2⟩
      have HS2 := Lib.hid (HS.out.below hu2)
      have HU2 := Lib.hid (HU.out.trans hu2)
      clear hu2
      go_wp2_with fail
      refine (HPT.out _ HS2.out).mono ?_
      rintro e w4 ⟨M', r', rfl, hpt, h4, hu4⟩
      have HPU := Lib.hid hpt
      have H4 := Lib.hid h4
      have HU4 := Lib.hid (late_all HU2.out hu4 HLT.out)
      clear hpt h4 hu4
      go_wp2_with fail
      obtain ⟨S', hT', hGn⟩ := HTR.out.put HPU.out
      refine ⟨⟨q + 1, r', S', M', by omega, by go_num, rfl, rfl, H4.out, ?_, hGn.some HSS.out, HU4.out⟩, by simp [intOf]; omega⟩
      rw [upN_succ, treeL_snoc]
      exact hT'
    · obtain rfl : q = 11 := by omega
      have hqb : decide ((11 : Int) < 11) = false := rfl
      rcases ht.at_ with ⟨_, hnil, _⟩ | ⟨hr0, d, hsh⟩
      · rw [← List.length_eq_zero_iff, up11_len] at hnil; omega
      have hd1 : d = 1 := by
        have hl := up11_len
        cases d with
        | zero => have := hsh.2.2.1.most; rw [List.length_map] at this; omega
        | succ d =>
          have := hsh.manyR
          cases d with
          | zero => rfl
          | succ d =>
            have h7 : 1 ≤ 7 ^ d := Nat.pos_of_ne_zero (by simp)
            rw [Nat.pow_succ] at this; omega
      subst hd1
      have hlow := ht.low
      have HGT : Hid (∀ w', SpAt w' g M → Calls Tryz.prog 26 #[.pointer (some ⟨g.x.tb, 0, none⟩), .int .u32 (r : Int), .agg (bts (keyB 3)).toArray] w' fun e w'' => e = .returned (.tuple #[.agg (bts (valB 3)).toArray, .int .i64 0]) ∧ SpAt w'' g M ∧ Upd [g.j.jb] w' w'') := by
        show ∀ w', _
        intro w' h'
        have := get_spec h' hsh hlow (by omega) (keyB 3) (keyB_length _)
        rw [up11_look] at this
        exact this
      have HDP : Hid (∀ w', SpAt w' g M → Calls Tryz.prog 29 #[.pointer (some ⟨g.x.tb, 0, none⟩), .int .u32 (r : Int)] w' fun e w'' => e = .returned (.tuple #[.int .i64 2, .int .i64 0]) ∧ SpAt w'' g M ∧ Upd [g.j.jb] w' w'') := by
        show ∀ w', _
        exact fun w' h' => depth_spec h' hsh hlow (by omega)
      have HS := Lib.hid hsp
      have HU := Lib.hid hu
      have HK3 := Lib.hid (key_spec 3 wr)
      unfold arr at HK3
      clear hlow hsh hsp hu ht hs
      go_wp2_with fail
      refine HK3.out.mono ?_
      rintro e w2 ⟨rfl, hu2⟩
      have HS2 := Lib.hid (HS.out.below hu2)
      have HU2 := Lib.hid (HU.out.trans hu2)
      clear hu2
      go_wp2_with fail
      refine (HGT.out _ HS2.out).mono ?_
      rintro e w3 ⟨rfl, h3, hu3⟩
      obtain ⟨w4, hw4⟩ : ∃ w4, w4 = (w3.alloc (.cells #[.int .u8 0, .int .u8 0, .int .u8 0, .int .u8 0, .int .u8 0, .int .u8 0, .int .u8 0, .int .u8 0, .int .u8 0, .int .u8 0, .int .u8 0, .int .u8 0, .int .u8 0, .int .u8 0, .int .u8 0, .int .u8 0] 45)).setRow w3.heap.size (bts (valB 3)).toArray := ⟨_, rfl⟩
      have s6 := store_blk (blk_alloc (w := w3) (.cells #[.int .u8 0, .int .u8 0, .int .u8 0, .int .u8 0, .int .u8 0, .int .u8 0, .int .u8 0, .int .u8 0, .int .u8 0, .int .u8 0, .int .u8 0, .int .u8 0, .int .u8 0, .int .u8 0, .int .u8 0, .int .u8 0] 45)) (l := bts (valB 3)) (by rw [bts_length, valB_length]; rfl) (bts_one _)
      rw [← hw4] at s6
      have c6 : w4.heap[w3.heap.size]? = some (.cells (bts (valB 3)).toArray 45 (0, 0)) := by rw [hw4]; exact setRow_heap _ _ _ _ _ _ (blk_alloc _)
      have hu4 : Upd [] w3 w4 := by
        rw [hw4, setRow_alloc]
        exact (Upd.refl _ _).alloc _
      have hz6 : (valB 3).length = 16 := valB_length 3
      have H4 := Lib.hid (h3.below hu4)
      have C6 := Lib.hid c6
      have HU4 := Lib.hid (late_all (late_all HU2.out hu3 (fun k hk => HLT.out k (g.mem k hk))) (hu4.mono (T := []) (by simp)) (by simp))
      clear h3 hu3 hw4 c6 hu4
      go_wp2_with fail
      refine (HDP.out _ H4.out).mono ?_
      rintro e w5 ⟨rfl, h5, hu5⟩
      have m6 : w5.cell? ⟨w3.heap.size, 0, none⟩ = some (.int .u8 3) := (blk_cell ((hu5.block _ (blk_lt C6.out) (fun q => H4.out.other9 C6.out (.inr (.inr (.inr (.inl rfl)))) (g.mem _ q))).trans C6.out) 0).trans rfl
      have HU5 := Lib.hid (late_all HU4.out hu5 (fun k hk => HLT.out k (g.mem k hk)))
      clear h5 hu5
      go_wp2_with fail
      go_ret
      exact ⟨rfl, HU5.out⟩

end Go.Proofs.YtceakcejchbbjaaGreat
