/-
  sha.spread, walked.
-/
import Derived.Test.YtceakcejchbbjaaGreatShB
set_option linter.unusedSimpArgs false
set_option linter.unusedVariables false
namespace Go.Proofs.YtceakcejchbbjaaGreat
open Go.RowKit Go.MapKept Go.ChangeMaps
attribute [-go_sem] loadCells storeCells Instr.build
set_option maxRecDepth 100000 in
set_option maxHeartbeats 4000000 in
theorem spread_spec {w : World} {hb0 o : Nat} {b : List UInt8} (hr : w.rangeAt hb0 o (bts b)) (hl : b.length = 64) :
    Calls Tryz.prog 219 #[.pointer (some ⟨hb0, o, none⟩)] w fun e w' => e = .returned (.agg (wvs (extW b 48)).toArray) ∧ Upd [] w w' := by
  obtain ⟨wA, hwA⟩ : ∃ wA, wA = (w.alloc (.cells (wvs (fstW [] 0)).toArray 293)).alloc (.cells (wvs (fstW [] 0)).toArray 293) := ⟨_, rfl⟩
  obtain ⟨b2, hb2⟩ : ∃ b, b = w.heap.size := ⟨_, rfl⟩
  obtain ⟨b3, hb3⟩ : ∃ b, b = w.heap.size + 1 := ⟨_, rfl⟩
  have hne : b2 ≠ b3 := by omega
  have h2 : wA.heap[b2]? = some (.cells (wvs (fstW [] 0)).toArray 293 (0, 0)) := by rw [hwA, hb2, blk_alloc_ne (by simp)]; exact blk_alloc _
  have h3 : wA.heap[b3]? = some (.cells (wvs (fstW b 0)).toArray 293 (0, 0)) := by rw [hwA, hb3, show fstW b 0 = fstW [] 0 from rfl]; have := blk_alloc (w := w.alloc (.cells (wvs (fstW [] 0)).toArray 293)) (.cells (wvs (fstW [] 0)).toArray 293); simpa using this
  have huA : Upd [] w wA := by rw [hwA]; exact ((Upd.refl _ _).alloc _).alloc _
  have hhb : hb0 < b3 := by
    have : hb0 < w.heap.size := block_lt_of_cell (hr 0 (bv (b[0]'(by omega))) (by simp [bts, hl]))
    omega
  have HR := Lib.hid hr
  have HW := Lib.hid hwA
  have HB2 := Lib.hid hb2
  have HB3 := Lib.hid hb3
  have H2 := Lib.hid h2
  have H3 := Lib.hid h3
  have HUA := Lib.hid huA
  have HNE := Lib.hid hne
  clear hwA hb2 hb3 h2 h3 huA hr hne
  go_enter Tryz.func219, Tryz.ntmps219
  go_wp2_with fail
  have hwA := HW.out
  have hb2 := HB2.out
  have hb3 := HB3.out
  rw [z64_lit, ← hwA, ← hb3, ← hb2]
  clear hwA hb2 hb3
  go_loopw [8] (fun i wr => ∃ q : Nat, q ≤ 16 ∧ i = .int .i64 (q : Int) ∧ wr.heap[b3]? = some (.cells (wvs (fstW b q)).toArray 293 (0, 0)) ∧ Upd [b3] wA wr) (fun i _ => 16 - (intOf i).toNat)
  case atStart => exact ⟨0, by omega, rfl, H3.out, Upd.refl _ _⟩
  case round =>
    obtain ⟨q, hq, rfl, hb, hu⟩ := hrel
    rcases Nat.lt_or_ge q 16 with hlt | hge
    · have hq16 : decide ((q : Int) < 16) = true := decide_eq_true (by omega)
      obtain ⟨p0, hp0⟩ : ∃ p0, p0 = 4 * q := ⟨_, rfl⟩
      obtain ⟨p1, hp1⟩ : ∃ p1, p1 = 4 * q + 1 := ⟨_, rfl⟩
      obtain ⟨p2, hp2⟩ : ∃ p2, p2 = 4 * q + 2 := ⟨_, rfl⟩
      obtain ⟨p3, hp3⟩ : ∃ p3, p3 = 4 * q + 3 := ⟨_, rfl⟩
      have e0 : IntKind.i64.wrap (4 * (q : Int)) = (p0 : Int) := by rw [IntKind.wrap_i64]; omega
      have e1 : IntKind.i64.wrap ((p0 : Int) + 1) = (p1 : Int) := by rw [IntKind.wrap_i64]; omega
      have e2 : IntKind.i64.wrap ((p0 : Int) + 2) = (p2 : Int) := by rw [IntKind.wrap_i64]; omega
      have e3 : IntKind.i64.wrap ((p0 : Int) + 3) = (p3 : Int) := by rw [IntKind.wrap_i64]; omega
      have cell : ∀ p, p < 64 → wr.cell? ⟨hb0, o + p, none⟩ = some (.int .u8 (byI b p)) := fun p hp => by
        have hu2 : Upd [b3] w wr := ⟨(HUA.out.late hu (fun k hk => .inr (by simp at hk; have := HB3.out; omega))).os, (HUA.out.late hu (fun k hk => .inr (by simp at hk; have := HB3.out; omega))).tape, (HUA.out.late hu (fun k hk => .inr (by simp at hk; have := HB3.out; omega))).output, (HUA.out.late hu (fun k hk => .inr (by simp at hk; have := HB3.out; omega))).size, fun k hk hs => (HUA.out.late hu (fun k hk => .inr (by simp at hk; have := HB3.out; omega))).block k hk (by simp)⟩
        have hc := HR.out p (bv (b.getD p 0)) (by rw [bts_get, List.getD_eq_getElem?_getD, List.getElem?_eq_getElem (by omega)]; rfl)
        have hlt : hb0 < w.heap.size := block_lt_of_cell hc
        rw [World.cell?_of_block (w := w) (hu2.block _ hlt (by simp; omega))]; exact hc
      have wrapb : ∀ p, IntKind.u32.wrap (byI b p) = byI b p := fun p => by
        rw [IntKind.wrap_u32]; unfold byI; have := (b.getD p 0).toNat_lt; omega
      have m0 := cell p0 (by omega)
      have m1 := cell p1 (by omega)
      have m2 := cell p2 (by omega)
      have m3 := cell p3 (by omega)
      have v0 := wrapb p0
      have v1 := wrapb p1
      have v2 := wrapb p2
      have v3 := wrapb p3
      have hwd : word0 b q = bits .or .u32 (bits .or .u32 (bits .or .u32 (byI b p0 * 16777216 % 4294967296) (byI b p1 * 65536 % 4294967296)) (byI b p2 * 256 % 4294967296)) (byI b p3) := by unfold word0; rw [hp0, hp1, hp2, hp3]
      have g0 : (0 : Int) ≤ p0 := by omega
      have g1 : (0 : Int) ≤ p1 := by omega
      have g2 : (0 : Int) ≤ p2 := by omega
      have g3 : (0 : Int) ≤ p3 := by omega
      have k0 : (p0 : Int) < 64 := by omega
      have k1 : (p1 : Int) < 64 := by omega
      have k2 : (p2 : Int) < 64 := by omega
      have k3 : (p3 : Int) < 64 := by omega
      have kq : (q : Int) < 64 := by omega
      have gq : (0 : Int) ≤ q := by omega
      have st : ∀ x : Int, (storeCells ⟨b3, q, none⟩ [.int .u32 x] 0).run Tryz.prog wr.drew = .ok () (wr.drew.setCell ⟨b3, q, none⟩ (.int .u32 x)) := fun x => storeW1 (w := wr.drew) hb q (by rw [List.size_toArray, wvs_length, fstW_length]; omega) rfl
      generalize byI b p0 = c0 at m0 v0 hwd
      generalize byI b p1 = c1 at m1 v1 hwd
      generalize byI b p2 = c2 at m2 v2 hwd
      generalize byI b p3 = c3 at m3 v3 hwd
      have HP : Hid (p0 = 4 * q ∧ p1 = 4 * q + 1 ∧ p2 = 4 * q + 2 ∧ p3 = 4 * q + 3) := Lib.hid ⟨hp0, hp1, hp2, hp3⟩
      have HWD := Lib.hid hwd
      have HBK := Lib.hid hb
      have HUR := Lib.hid hu
      clear hp0 hp1 hp2 hp3 cell wrapb hwd hb hu
      go_wp2_with fail
      go_region
      have hwd := HWD.out
      rw [← hwd]
      have hbn : (wr.setCell ⟨b3, q, none⟩ (.int .u32 (word0 b q))).drew.heap[b3]? = some (.cells (wvs (fstW b (q + 1))).toArray 293 (0, 0)) := by
        show (wr.setCell ⟨b3, q, none⟩ (.int .u32 (word0 b q))).heap[b3]? = _
        rw [blk_set HBK.out, fstW, wvs_set]; simp
      have hun : Upd [b3] wA (wr.setCell ⟨b3, q, none⟩ (.int .u32 (word0 b q))).drew := (HUR.out.set _ (.inl (by simp))).drew
      have HBN := Lib.hid hbn
      have HUN := Lib.hid hun
      clear hwd hbn hun
      go_wp2_with fail
      exact ⟨⟨q + 1, by omega, by simp, HBN.out, HUN.out⟩, by simp [intOf]; omega⟩
    · obtain rfl : q = 16 := by omega
      have HBK := Lib.hid hb
      have HUR := Lib.hid hu
      clear hb hu
      go_wp2_with fail
      go_loopw [5] (fun i wr => ∃ q : Nat, q ≤ 48 ∧ i = .int .i64 ((16 + q : Nat) : Int) ∧ wr.heap[b3]? = some (.cells (wvs (extW b q)).toArray 293 (0, 0)) ∧ Upd [b3] wA wr) (fun i _ => 64 - (intOf i).toNat)
      case atStart => exact ⟨0, by omega, rfl, by rw [extW]; exact HBK.out, HUR.out⟩
      case round =>
        obtain ⟨q, hq, rfl, hb, hu⟩ := hrel
        obtain ⟨n, hn⟩ : ∃ n, n = 16 + q := ⟨_, rfl⟩
        rw [← hn]
        rcases Nat.lt_or_ge q 48 with hlt | hge
        · have hn64 : decide ((n : Int) < 64) = true := decide_eq_true (by omega)
          obtain ⟨n15, hn15⟩ : ∃ k, k = n - 15 := ⟨_, rfl⟩
          obtain ⟨n2, hn2⟩ : ∃ k, k = n - 2 := ⟨_, rfl⟩
          obtain ⟨n16, hn16⟩ : ∃ k, k = n - 16 := ⟨_, rfl⟩
          obtain ⟨n7, hn7⟩ : ∃ k, k = n - 7 := ⟨_, rfl⟩
          have e15 : IntKind.i64.wrap ((n : Int) - 15) = (n15 : Int) := by rw [IntKind.wrap_i64]; omega
          have e2 : IntKind.i64.wrap ((n : Int) - 2) = (n2 : Int) := by rw [IntKind.wrap_i64]; omega
          have e16 : IntKind.i64.wrap ((n : Int) - 16) = (n16 : Int) := by rw [IntKind.wrap_i64]; omega
          have e7 : IntKind.i64.wrap ((n : Int) - 7) = (n7 : Int) := by rw [IntKind.wrap_i64]; omega
          obtain ⟨n1, hn1⟩ : ∃ k, k = n + 1 := ⟨_, rfl⟩
          have cell : ∀ p, p < 64 → wr.cell? ⟨b3, p, none⟩ = some (.int .u32 ((extW b q).getD p 0)) := fun p hp => by
            rw [blk_cell hb, List.getElem?_toArray, wvs_get _ (by rw [extW_length]; omega)]
          have m15 := cell n15 (by omega)
          have m2 := cell n2 (by omega)
          have m16 := cell n16 (by omega)
          have m7 := cell n7 (by omega)
          have hnw : newW (extW b q) n = (((extW b q).getD n16 0) + bits BinOp.xor IntKind.u32 (bits BinOp.xor IntKind.u32 (rotw 33554432 128 ((extW b q).getD n15 0)) (rotw 16384 262144 ((extW b q).getD n15 0))) (((extW b q).getD n15 0) / 8) + ((extW b q).getD n7 0) + bits BinOp.xor IntKind.u32 (bits BinOp.xor IntKind.u32 (rotw 32768 131072 ((extW b q).getD n2 0)) (rotw 8192 524288 ((extW b q).getD n2 0))) (((extW b q).getD n2 0) / 1024)) % 4294967296 := by unfold newW xr; rw [hn16, hn15, hn7, hn2]
          have g15 : (0 : Int) ≤ n15 := by omega
          have g2 : (0 : Int) ≤ n2 := by omega
          have g16 : (0 : Int) ≤ n16 := by omega
          have g7 : (0 : Int) ≤ n7 := by omega
          have gn : (0 : Int) ≤ n := by omega
          have k15 : (n15 : Int) < 64 := by omega
          have k2 : (n2 : Int) < 64 := by omega
          have k16 : (n16 : Int) < 64 := by omega
          have k7 : (n7 : Int) < 64 := by omega
          have kn : (n : Int) < 64 := by omega
          generalize (extW b q).getD n15 0 = x15 at m15 hnw
          generalize (extW b q).getD n2 0 = x2 at m2 hnw
          generalize (extW b q).getD n16 0 = x16 at m16 hnw
          generalize (extW b q).getD n7 0 = x7 at m7 hnw
          have en2 : IntKind.i64.wrap ((n : Int) + 1) = (n1 : Int) := by rw [IntKind.wrap_i64]; omega
          have en : wrap64 ((n : Int) + 1) = (n1 : Int) := by unfold wrap64; omega
          have HBK2 := Lib.hid hb
          have HUR2 := Lib.hid hu
          have HNW := Lib.hid hnw
          have HN := Lib.hid hn
          have HN1 := Lib.hid hn1
          have HLT := Lib.hid hlt
          clear hn15 hn2 hn16 hn7 hn1 cell hb hu hnw hn hlt hq
          go_wp2_with fail
          go_quiet (fail)
          obtain ⟨wq, hwq⟩ : ∃ wq, wq = wr.drewN nq := ⟨_, rfl⟩
          rw [← hwq]
          have hbq : wq.heap[b3]? = some (.cells (wvs (extW b q)).toArray 293 (0, 0)) := by rw [hwq]; exact HBK2.out
          have huq : Upd [b3] wA wq := by rw [hwq]; exact HUR2.out.drewN _
          have st : ∀ x : Int, (storeCells ⟨b3, n, none⟩ [.int .u32 x] 0).run Tryz.prog wq.drew = .ok () (wq.drew.setCell ⟨b3, n, none⟩ (.int .u32 x)) := fun x => storeW1 (w := wq.drew) hbq n (by rw [List.size_toArray, wvs_length, extW_length]; omega) rfl
          have q16 : wq.cell? ⟨b3, n16, none⟩ = some (.int .u32 x16) := by rw [hwq]; exact m16
          have q7 : wq.cell? ⟨b3, n7, none⟩ = some (.int .u32 x7) := by rw [hwq]; exact m7
          have HBQ := Lib.hid hbq
          have HUQ := Lib.hid huq
          clear m16 m7 m15 m2 hwq hbq huq
          go_wp2_with fail
          refine (rot_spec _ (-7) 25 33554432 128 (by simp [rotTab]) _).mono ?_
          rintro e w' ⟨rfl, rfl⟩
          go_wp2_with fail
          refine (rot_spec _ (-18) 14 16384 262144 (by simp [rotTab]) _).mono ?_
          rintro e w' ⟨rfl, rfl⟩
          go_wp2_with fail
          refine (rot_spec _ (-17) 15 32768 131072 (by simp [rotTab]) _).mono ?_
          rintro e w' ⟨rfl, rfl⟩
          go_wp2_with fail
          refine (rot_spec _ (-19) 13 8192 524288 (by simp [rotTab]) _).mono ?_
          rintro e w' ⟨rfl, rfl⟩
          go_wp2_with fail
          go_region
          have hnw := HNW.out
          rw [← hnw]
          have hn' := HN.out
          have hn1' := HN1.out
          have hbn : (wq.setCell ⟨b3, n, none⟩ (.int .u32 (newW (extW b q) n))).drew.heap[b3]? = some (.cells (wvs (extW b (q + 1))).toArray 293 (0, 0)) := by
            show (wq.setCell ⟨b3, n, none⟩ (.int .u32 (newW (extW b q) n))).heap[b3]? = _
            rw [blk_set HBQ.out, extW, wvs_set, hn']; simp
          have hun : Upd [b3] wA (wq.setCell ⟨b3, n, none⟩ (.int .u32 (newW (extW b q) n))).drew := (HUQ.out.set _ (.inl (by simp))).drew
          have HBN := Lib.hid hbn
          have HUN := Lib.hid hun
          clear hnw hbn hun hn' hn1'
          go_wp2_with fail
          have hn' := HN.out
          have hn1' := HN1.out
          have hlt' := HLT.out
          clear en en2 e15 e2 e16 e7
          have he : n1 = 16 + (q + 1) := by omega
          have hq48 : q + 1 ≤ 48 := by omega
          have hme : 64 - (intOf (.int .i64 (n1 : Int))).toNat < 64 - (intOf (.int .i64 (n : Int))).toNat := by simp [intOf]; omega
          refine ⟨⟨.int .i64 (n1 : Int), _, _, _, _, _, _, _, _, _, _, _, _, _, _, _, _, _, _, _, _, _, _, _, _, _, _, _, _, _, _, _, _, _, _, _, _, _, _, _, _, _, _, _, _, _, ⟨q + 1, hq48, by rw [he], HBN.out, HUN.out⟩, rfl⟩, hme⟩
        · obtain rfl : q = 48 := by omega
          obtain rfl : n = 64 := hn
          have HBK2 := Lib.hid hb
          have HUR2 := Lib.hid hu
          have lf := run_cellsW (n := 64) hb (by rw [wvs_length, extW_length])
          have h2r := (hu.block _ (blk_lt H2.out) (by simpa using HNE.out)).trans H2.out
          have st := store_blkW h2r (l := wvs (extW b 48)) (by rw [List.size_toArray, wvs_length, wvs_length, fstW_length, extW_length]) (wvs_one _)
          have hkl : (wvs (extW b 48)).length = 64 := by rw [wvs_length, extW_length]
          have hik := w64 (extW_length b 48)
          have HU : Hid (Upd [] w (wr.setRow b2 (wvs (extW b 48)).toArray)) := by
            show Upd _ _ _
            have g2 := HB2.out
            have g3 := HB3.out
            have a1 : Upd [] w wr := HUA.out.late hu (fun k hk => .inr (by simp at hk; omega))
            exact upd_rowW a1 _ (.inr (by omega))
          have H2R := Lib.hid h2r
          clear hb hu h2r hge hq
          go_wp2_with fail
          refine bodyPost_ret (results_cell_row (p := 2) (ty := 293) ?_ _ _ b2 _ _ _ _ ?_ (setRow_heap _ _ _ _ _ _ H2R.out) Tryz.underlying293 rfl hik) ?_ ?_
          · rfl
          · rfl
          · rfl
          exact ⟨rfl, HU.out⟩
end Go.Proofs.YtceakcejchbbjaaGreat
