/-
  cofferlaw9.next.
-/
import Derived.Test.YtceakcejchbbjaaGreatTsL
set_option linter.unusedSimpArgs false
set_option linter.unusedVariables false
namespace Go.Proofs.YtceakcejchbbjaaGreat
open Go.RowKit Go.MapKept Go.ChangeMaps
attribute [-go_sem] loadCells storeCells
set_option maxRecDepth 100000 in
set_option maxHeartbeats 4000000 in
theorem next_spec {id : Bs} {c : UInt8} (hl : id.length = 32) (h30 : id[30]? = some 0) (h31 : id[31]? = some c) (w : World) :
    Calls Tryz.prog 34 #[arr id] w fun e w' => e = .returned (arr (nextK id c)) ∧ Upd [] w w' := by
  obtain ⟨wA, hwA⟩ : ∃ wA, wA = (w.alloc (.cells (bts id).toArray 35)).alloc (.cells #[.int .u8 0, .int .u8 0, .int .u8 0, .int .u8 0, .int .u8 0, .int .u8 0, .int .u8 0, .int .u8 0, .int .u8 0, .int .u8 0, .int .u8 0, .int .u8 0, .int .u8 0, .int .u8 0, .int .u8 0, .int .u8 0, .int .u8 0, .int .u8 0, .int .u8 0, .int .u8 0, .int .u8 0, .int .u8 0, .int .u8 0, .int .u8 0, .int .u8 0, .int .u8 0, .int .u8 0, .int .u8 0, .int .u8 0, .int .u8 0, .int .u8 0, .int .u8 0] 35) := ⟨_, rfl⟩
  obtain ⟨b2, hb2⟩ : ∃ b, b = w.heap.size := ⟨_, rfl⟩
  obtain ⟨b3, hb3⟩ : ∃ b, b = w.heap.size + 1 := ⟨_, rfl⟩
  have hne : b2 ≠ b3 := by omega
  have h2 : wA.heap[b2]? = some (.cells (bts id).toArray 35 (0, 0)) := by rw [hwA, hb2, blk_alloc_ne (by simp)]; exact blk_alloc _
  have h3 : wA.heap[b3]? = some (.cells (bts z32).toArray 35 (0, 0)) := by rw [hwA, hb3, z32_lit]; have := blk_alloc (w := w.alloc (.cells (bts id).toArray 35)) (.cells (bts z32).toArray 35); simpa using this
  have huA : Upd [] w wA := by rw [hwA]; exact ((Upd.refl _ _).alloc _).alloc _
  have HW := Lib.hid hwA
  have HB2 := Lib.hid hb2
  have HB3 := Lib.hid hb3
  have H2 := Lib.hid h2
  have H3 := Lib.hid h3
  have HUA := Lib.hid huA
  clear hwA hb2 hb3 h2 h3 huA
  unfold arr
  go_enter Tryz.func34, Tryz.ntmps34
  go_wp2_with fail
  have hwA := HW.out
  have hb2 := HB2.out
  have hb3 := HB3.out
  rw [← hwA, ← hb3, ← hb2]
  clear hwA hb2 hb3
  go_loopw [3] (fun i wr => ∃ (q : Nat) (L : Bs) (x : UInt8), q ≤ 31 ∧ i = .int .i64 (q : Int) ∧ L.length = 32 ∧ L[q]? = some x ∧ wr.heap[b2]? = some (.cells (bts L).toArray 35 (0, 0)) ∧ Upd [b2] wA wr ∧
      (x.toNat = 255 → q = 31 ∧ (L.set 31 0)[30]? = some 0 ∧ (L.set 31 0).set 30 1 = nextK id c) ∧ (x.toNat ≠ 255 → L.set q (u8I ((x.toNat : Int) + 1)) = nextK id c)) (fun i _ => (intOf i).toNat)
  case atStart =>
    refine ⟨31, id, c, by omega, rfl, hl, h31, H2.out, Upd.refl _ _, fun hc => ⟨rfl, ?_, ?_⟩, fun hc => ?_⟩
    · rw [List.getElem?_set_ne (by decide)]; exact h30
    · unfold nextK; rw [if_pos hc]
    · unfold nextK; rw [if_neg hc]; congr 1; unfold u8I
      have := c.toNat_lt
      congr 1; omega
  case round =>
    obtain ⟨q, L, x, hq, rfl, hL, hx, hb, hu, hf1, hf2⟩ := hrel
    have hq0 : (0 : Int) ≤ (q : Int) := by omega
    have hqd : decide ((0 : Int) ≤ (q : Int)) = true := decide_eq_true hq0
    have hq32 : (q : Int) < 32 := by omega
    have hks := key_set hb q (by rw [hL]; omega) ((x.toNat : Int) + 1)
    have m0 : wr.cell? ⟨b2, q, none⟩ = some (.int .u8 (x.toNat : Int)) := by rw [blk_cell hb, List.getElem?_toArray, bts_get, hx]; rfl
    obtain ⟨w1, hw1⟩ : ∃ w1, w1 = wr.setCell ⟨b2, q, none⟩ (.int .u8 (((x.toNat : Int) + 1) % 256)) := ⟨_, rfl⟩
    rw [← hw1] at hks
    have hu1 : Upd [b2] wA w1 := by rw [hw1]; exact hu.set _ (.inl (by simp))
    have st := hks.1
    have hqL : q < L.length := by omega
    have m1 : w1.cell? ⟨b2, q, none⟩ = some (.int .u8 (((x.toNat : Int) + 1) % 256)) := by
      rw [blk_cell hks.2, List.getElem?_toArray, bts_get, List.getElem?_set_self hqL, u8I_int]
      unfold u8I
      show some (Value.int .u8 ((UInt8.ofNat _).toNat : Int)) = _
      rw [UInt8.toNat_ofNat', Nat.mod_eq_of_lt (u8I_lt _)]
    have HK := Lib.hid hks.2
    have HU1 := Lib.hid hu1
    have HF1 := Lib.hid hf1
    have HF2 := Lib.hid hf2
    have HLL := Lib.hid hL
    clear hks hw1 hu1 hb hu hf1 hf2 hL hqL hx
    have hxl := x.toNat_lt
    by_cases h255 : x.toNat = 255
    · have hv : ((x.toNat : Int) + 1) % 256 = 0 := by omega
      obtain ⟨rfl, e30, efin⟩ := HF1.out h255
      rw [hv] at st m1
      rw [show ((x.toNat : Int)) = 255 by omega] at m0
      have HKK : Hid (w1.heap[b2]? = some (.cells (bts (L.set 31 0)).toArray 35 (0, 0))) := by
        have := HK.out
        rw [show u8I ((x.toNat : Int) + 1) = 0 by unfold u8I; rw [hv]; rfl] at this
        exact this
      clear h255 hv HK hxl hq
      go_wp2_with fail
      refine ⟨⟨30, L.set 31 0, 0, by omega, rfl, by rw [List.length_set]; exact HLL.out, e30, HKK.out, HU1.out, fun e => by simp at e, fun _ => efin⟩, by simp [intOf]⟩
    · have hv : (((x.toNat : Int) + 1) == 0) = false := by rw [beq_eq_false_iff_ne]; omega
      have hv3 : ((x.toNat : Int) + 1) % 256 = (x.toNat : Int) + 1 := by omega
      rw [hv3] at st m1
      have hfin := HF2.out h255
      have hb1 := HK.out
      rw [hfin] at hb1
      have hNl : (nextK id c).length = 32 := by rw [← hfin, List.length_set]; exact HLL.out
      have l3 := run_cells_blk (n := 32) hb1 (by rw [bts_length]; exact hNl)
      have h3C := (HU1.out.block _ (blk_lt H3.out) (by simpa using hne.symm)).trans H3.out
      have s4 := store_blk h3C (l := bts (nextK id c)) (by rw [List.size_toArray, bts_length, bts_length, hNl, z32_length]) (bts_one _)
      have hik : (Tryz.prog.info? 35).map (·.size) = some (bts (nextK id c)).toArray.size := by rw [List.size_toArray, bts_length, hNl]; exact infoID
      have HU : Hid (Upd [] w (w1.setRow b3 (bts (nextK id c)).toArray)) := by
        show Upd _ _ _
        have a2 : Upd [b3] w1 (w1.setRow b3 (bts (nextK id c)).toArray) := upd_row (Upd.refl _ _) _ (.inl (by simp))
        have g2 := HB2.out
        have g3 := HB3.out
        exact (HUA.out.late HU1.out (fun i hi => .inr (by simp at hi; omega))).late a2 (fun i hi => .inr (by simp at hi; omega))
      have H3C := Lib.hid h3C
      clear hb1 h3C
      go_wp2_with fail
      refine bodyPost_ret (results_cell_row (p := 2) (ty := 35) ?_ _ _ b3 _ _ _ _ ?_ (setRow_heap _ _ _ _ _ _ H3C.out) Tryz.underlying35 rfl hik) ?_ ?_
      · rfl
      · rfl
      · rfl
      exact ⟨rfl, HU.out⟩
end Go.Proofs.YtceakcejchbbjaaGreat
