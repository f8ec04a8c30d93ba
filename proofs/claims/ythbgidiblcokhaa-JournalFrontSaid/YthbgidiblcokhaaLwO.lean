/-
  header: some sector.
-/
import Derived.Test.YthbgidiblcokhaaLwN
namespace Go.Proofs.Ythbgidiblcokhaa
open Go.RowKit

theorem byte_wrap (x : Int) : ∃ c : UInt8, bv c = .int .u8 (IntKind.u8.wrap x) := by
  rw [IntKind.wrap_u8]
  refine ⟨UInt8.ofNat (x % 256).toNat, ?_⟩
  unfold bv
  congr 1
  have : (UInt8.ofNat (x % 256).toNat).toNat = (x % 256).toNat % 256 := by simp
  rw [this]; omega
theorem byte_mod (x : Int) : ∃ c : UInt8, bv c = .int .u8 (x % 256) := by
  obtain ⟨c, hc⟩ := byte_wrap x
  rw [IntKind.wrap_u8] at hc
  exact ⟨c, hc⟩
/-- Block k is a sector of bytes. -/
def SecAt (w : World) (k : Nat) : Prop := ∃ l : List UInt8, l.length = 512 ∧ w.heap[k]? = some (.cells (bts l).toArray 5 (0, 0))
theorem SecAt.set {w : World} {k : Nat} (h : SecAt w k) (i : Nat) (c : UInt8) : SecAt (w.setCell ⟨k, i, none⟩ (bv c)) k := by
  obtain ⟨l, hl, hb⟩ := h
  refine ⟨l.set i c, by rw [List.length_set]; exact hl, ?_⟩
  rw [blk_set hb]
  congr 2
  rw [List.setIfInBounds_toArray]
  unfold bts
  rw [List.map_set]
theorem SecAt.setw {w : World} {k : Nat} (h : SecAt w k) (i : Nat) (x : Int) : SecAt (w.setCell ⟨k, i, none⟩ (.int .u8 (IntKind.u8.wrap x))) k := by
  obtain ⟨c, hc⟩ := byte_wrap x
  rw [← hc]; exact h.set i c
theorem SecAt.setm {w : World} {k : Nat} (h : SecAt w k) (i : Nat) (x : Int) : SecAt (w.setCell ⟨k, i, none⟩ (.int .u8 (x % 256))) k := by
  obtain ⟨c, hc⟩ := byte_mod x
  rw [← hc]; exact h.set i c
theorem SecAt.cell {w : World} {k : Nat} (h : SecAt w k) {i : Nat} (hi : i < 512) : ∃ v, w.cell? ⟨k, i, none⟩ = some v ∧ w.frozen? ⟨k, i, none⟩ = false := by
  obtain ⟨l, hl, hb⟩ := h
  have : i < (bts l).toArray.size := by simp [hl, hi]
  exact ⟨_, (blk_cell hb i).trans (Array.getElem?_eq_getElem this), blk_free hb i⟩

set_option maxRecDepth 100000 in
set_option maxHeartbeats 2000000 in
theorem header_spec (tag : Int) (home : Int) (w : World) :
    Calls Try.prog 34 #[.int .u64 tag, .int .i64 home] w fun e w' => e = .returned (.slice (some ⟨w.heap.size, 0, none⟩) 512 512) ∧ SecAt w' w.heap.size ∧ Upd [] w w' := by
  have hmk := run_make_512
  have hA : Upd [] w (w.alloc (.cells (bts zsec).toArray 5)) := (Upd.refl _ _).alloc _
  have hS : SecAt (w.alloc (.cells (bts zsec).toArray 5)) w.heap.size := ⟨zsec, zsec_length, blk_alloc _⟩
  have HA := Lib.hid hA
  have HS := Lib.hid hS
  clear hA hS
  generalize (bts zsec).toArray = Z at *
  go_enter Try.func34, Try.ntmps34
  go_wp2_with fail
  go_loopw [6] (fun i wr => ∃ k : Nat, k ≤ 8 ∧ i = .int .i64 (k : Int) ∧ SecAt wr w.heap.size ∧ Upd [] w wr) (fun i _ => 8 - (intOf i).toNat)
  case atStart => exact ⟨0, by omega, rfl, HS.out, HA.out⟩
  case round =>
    clear hmk HS HA
    obtain ⟨k, hk, rfl, hs, hu⟩ := hrel
    have HS := Lib.hid hs
    have HU := Lib.hid hu
    by_cases hlt : k < 8
    · obtain ⟨x1, c1, f1⟩ := hs.cell (i := 7 - k) (by omega)
      obtain ⟨x2, c2, f2⟩ := hs.cell (i := 511 - k) (by omega)
      clear hs hu
      obtain rfl | rfl | rfl | rfl | rfl | rfl | rfl | rfl : k = 0 ∨ k = 1 ∨ k = 2 ∨ k = 3 ∨ k = 4 ∨ k = 5 ∨ k = 6 ∨ k = 7 := by omega
      · have c1' : wr.cell? ⟨w.heap.size, 7, none⟩ = some x1 := c1
        have c2' : wr.cell? ⟨w.heap.size, 511, none⟩ = some x2 := c2
        have f1' : wr.frozen? ⟨w.heap.size, 7, none⟩ = false := f1
        have f2' : wr.frozen? ⟨w.heap.size, 511, none⟩ = false := f2
        clear c1 c2 f1 f2
        go_wp2_with fail
        go_region
        all_goals go_wp2_with fail
        all_goals exact ⟨⟨1, by omega, rfl, (HS.out.setm _ _).setm _ _, ((HU.out.set _ (.inr (Nat.le_refl _))).set _ (.inr (Nat.le_refl _))).drew⟩, by simp [intOf]⟩
      · have c1' : wr.cell? ⟨w.heap.size, 6, none⟩ = some x1 := c1
        have c2' : wr.cell? ⟨w.heap.size, 510, none⟩ = some x2 := c2
        have f1' : wr.frozen? ⟨w.heap.size, 6, none⟩ = false := f1
        have f2' : wr.frozen? ⟨w.heap.size, 510, none⟩ = false := f2
        clear c1 c2 f1 f2
        go_wp2_with fail
        go_region
        all_goals go_wp2_with fail
        all_goals exact ⟨⟨2, by omega, rfl, (HS.out.setm _ _).setm _ _, ((HU.out.set _ (.inr (Nat.le_refl _))).set _ (.inr (Nat.le_refl _))).drew⟩, by simp [intOf]⟩
      · have c1' : wr.cell? ⟨w.heap.size, 5, none⟩ = some x1 := c1
        have c2' : wr.cell? ⟨w.heap.size, 509, none⟩ = some x2 := c2
        have f1' : wr.frozen? ⟨w.heap.size, 5, none⟩ = false := f1
        have f2' : wr.frozen? ⟨w.heap.size, 509, none⟩ = false := f2
        clear c1 c2 f1 f2
        go_wp2_with fail
        go_region
        all_goals go_wp2_with fail
        all_goals exact ⟨⟨3, by omega, rfl, (HS.out.setm _ _).setm _ _, ((HU.out.set _ (.inr (Nat.le_refl _))).set _ (.inr (Nat.le_refl _))).drew⟩, by simp [intOf]⟩
      · have c1' : wr.cell? ⟨w.heap.size, 4, none⟩ = some x1 := c1
        have c2' : wr.cell? ⟨w.heap.size, 508, none⟩ = some x2 := c2
        have f1' : wr.frozen? ⟨w.heap.size, 4, none⟩ = false := f1
        have f2' : wr.frozen? ⟨w.heap.size, 508, none⟩ = false := f2
        clear c1 c2 f1 f2
        go_wp2_with fail
        go_region
        all_goals go_wp2_with fail
        all_goals exact ⟨⟨4, by omega, rfl, (HS.out.setm _ _).setm _ _, ((HU.out.set _ (.inr (Nat.le_refl _))).set _ (.inr (Nat.le_refl _))).drew⟩, by simp [intOf]⟩
      · have c1' : wr.cell? ⟨w.heap.size, 3, none⟩ = some x1 := c1
        have c2' : wr.cell? ⟨w.heap.size, 507, none⟩ = some x2 := c2
        have f1' : wr.frozen? ⟨w.heap.size, 3, none⟩ = false := f1
        have f2' : wr.frozen? ⟨w.heap.size, 507, none⟩ = false := f2
        clear c1 c2 f1 f2
        go_wp2_with fail
        go_region
        all_goals go_wp2_with fail
        all_goals exact ⟨⟨5, by omega, rfl, (HS.out.setm _ _).setm _ _, ((HU.out.set _ (.inr (Nat.le_refl _))).set _ (.inr (Nat.le_refl _))).drew⟩, by simp [intOf]⟩
      · have c1' : wr.cell? ⟨w.heap.size, 2, none⟩ = some x1 := c1
        have c2' : wr.cell? ⟨w.heap.size, 506, none⟩ = some x2 := c2
        have f1' : wr.frozen? ⟨w.heap.size, 2, none⟩ = false := f1
        have f2' : wr.frozen? ⟨w.heap.size, 506, none⟩ = false := f2
        clear c1 c2 f1 f2
        go_wp2_with fail
        go_region
        all_goals go_wp2_with fail
        all_goals exact ⟨⟨6, by omega, rfl, (HS.out.setm _ _).setm _ _, ((HU.out.set _ (.inr (Nat.le_refl _))).set _ (.inr (Nat.le_refl _))).drew⟩, by simp [intOf]⟩
      · have c1' : wr.cell? ⟨w.heap.size, 1, none⟩ = some x1 := c1
        have c2' : wr.cell? ⟨w.heap.size, 505, none⟩ = some x2 := c2
        have f1' : wr.frozen? ⟨w.heap.size, 1, none⟩ = false := f1
        have f2' : wr.frozen? ⟨w.heap.size, 505, none⟩ = false := f2
        clear c1 c2 f1 f2
        go_wp2_with fail
        go_region
        all_goals go_wp2_with fail
        all_goals exact ⟨⟨7, by omega, rfl, (HS.out.setm _ _).setm _ _, ((HU.out.set _ (.inr (Nat.le_refl _))).set _ (.inr (Nat.le_refl _))).drew⟩, by simp [intOf]⟩
      · have c1' : wr.cell? ⟨w.heap.size, 0, none⟩ = some x1 := c1
        have c2' : wr.cell? ⟨w.heap.size, 504, none⟩ = some x2 := c2
        have f1' : wr.frozen? ⟨w.heap.size, 0, none⟩ = false := f1
        have f2' : wr.frozen? ⟨w.heap.size, 504, none⟩ = false := f2
        clear c1 c2 f1 f2
        go_wp2_with fail
        go_region
        all_goals go_wp2_with fail
        all_goals exact ⟨⟨8, by omega, rfl, (HS.out.setm _ _).setm _ _, ((HU.out.set _ (.inr (Nat.le_refl _))).set _ (.inr (Nat.le_refl _))).drew⟩, by simp [intOf]⟩
    · obtain rfl : k = 8 := by omega
      obtain ⟨x1, c1, f1⟩ := hs.cell (i := 9) (by omega)
      obtain ⟨x2, c2, f2⟩ := hs.cell (i := 19) (by omega)
      clear hs hu
      go_wp2_with fail
      go_ret
      exact ⟨rfl, (HS.out.set 9 1).setm 19 home, (HU.out.set _ (.inr (Nat.le_refl _))).set _ (.inr (Nat.le_refl _))⟩

theorem StrsB.lower {w : World} {B B' : Nat} {v : Value} {ss : List (List UInt8)} (h : StrsB w B v ss) (hB : B' ≤ B) : StrsB w B' v ss := by
  refine ⟨h.1, ?_⟩
  rcases h.2 with h | ⟨g, cap, cur, e, hb, r⟩
  · exact .inl h
  · exact .inr ⟨g, cap, cur, e, Nat.le_trans hB hb, r⟩
theorem run_build_put2 (i i2 : Int) (ad ad2 : Option Addr) (n c n2 c2 : Nat) (w : World) : (Instr.buildSlice 35 2 #[(0, .agg #[.int .i64 i, .slice ad n c]), (1, .agg #[.int .i64 i2, .slice ad2 n2 c2])]).run Try.prog w = .ok (.slice (some ⟨w.heap.size, 0, none⟩) 2 2) (w.alloc (.cells #[.int .i64 i, .slice ad n c, .int .i64 i2, .slice ad2 n2 c2] 40)) := by kernel_rfl
theorem putsAt_two {w : World} (i i2 : Int) (ad ad2 : Option Addr) (n c n2 c2 : Nat) (b b2 : List UInt8) (h : Rd w (.slice ad n c) b) (h2 : Rd w (.slice ad2 n2 c2) b2) :
    PutsAt (w.alloc (.cells #[.int .i64 i, .slice ad n c, .int .i64 i2, .slice ad2 n2 c2] 40)) (.slice (some ⟨w.heap.size, 0, none⟩) 2 2) [(i, b), (i2, b2)] := by
  refine ⟨[(i, .slice ad n c), (i2, .slice ad2 n2 c2)], ⟨by simp [putCells], .inr ⟨w.heap.size, 2, #[.int .i64 i, .slice ad n c, .int .i64 i2, .slice ad2 n2 c2], rfl, Nat.zero_le _, blk_alloc _, Nat.le_refl _, by unfold maxLen; omega, by simp, by simp [putCells]⟩⟩, rfl, fun k p hp => ?_⟩
  match k with
  | 0 => simp at hp; subst hp; exact ⟨(i, b), rfl, rfl, h.alloc _⟩
  | 1 => simp at hp; subst hp; exact ⟨(i2, b2), rfl, rfl, h2.alloc _⟩
  | k + 2 => simp at hp
theorem run_build_strs0 (w : World) : (Instr.buildSlice 33 0 #[]).run Try.prog w = .ok (.slice (some ⟨w.heap.size, 0, none⟩) 0 0) (w.alloc (.cells #[] 9)) := by kernel_rfl
/-- A row of strings of the law's own is copied: append([]string{}, x...). -/
theorem strs_copy {w w0 : World} {B : Nat} {g cap : Nat} {ss : List (List UInt8)} {S : List Nat} (hp : StrsB w B (.slice (some ⟨g, 0, none⟩) ss.length cap) ss) (hl : ss.length ≤ 100000) (h0 : Upd S w0 w) :
    ∃ a b c' w', (∀ ty, (Builtin.append_ #[33, 33] ty #[.slice (some ⟨w.heap.size, 0, none⟩) 0 0, .slice (some ⟨g, 0, none⟩) ss.length cap]).run Try.prog (w.alloc (.cells #[] 9)) = .ok (.slice a b c') w') ∧ StrsB w' w.heap.size (.slice a b c') ss ∧
      (∀ k, k < w.heap.size → w'.heap[k]? = w.heap[k]?) ∧ Upd S w0 w' := by
  obtain ⟨i0, hi, hz0, hz1, hz2⟩ := info_parts infoStr
  have hcell : ∀ j u, (ss.map sv)[j]? = some u → (w.alloc (.cells #[] 9)).cell? ((⟨g, 0, none⟩ : Addr).add j) = some u := by
    intro j u hj
    have hlt : j < ss.length := by have := (List.getElem?_eq_some_iff.1 hj).1; simpa using this
    obtain ⟨b, off, e, hc⟩ := hp.rd.cell j (by simpa using hlt)
    cases e
    rw [addr_add, World.cell?_of_block (w := w) (blk_alloc_ne (block_lt_of_cell hc)), hc]
    rw [List.getElem?_eq_getElem (by simpa using hlt)] at hj
    exact hj
  obtain ⟨v', w', hrun, hown, hg, _⟩ := run_append_own (P := Try.prog) (w.alloc (.cells #[] 9)) w.heap.size 33 0 9 i0 _ 1 16 Try.underlying33 hi hz0 hz1 hz2 rfl (by decide) _ 0 []
    (World.ownsRow_made w #[] 0 (Nat.le_refl _) (by unfold maxLen; omega) rfl) ⟨g, 0, none⟩ ss.length cap (ss.map sv) (by simp) hcell (fun u hu => by obtain ⟨s, _, rfl⟩ := List.mem_map.1 hu; rfl) (by unfold maxLen; omega) (by omega) (by simp)
  have hs : StrsB w' w.heap.size v' ss := by
    unfold StrsB
    simpa using hown
  obtain ⟨a, c', rfl⟩ := hs.shape
  refine ⟨a, _, c', w', fun _ => hrun, hs, fun k hk => ?_, (h0.alloc _).low (fun k hk => ?_) ⟨hg.size, hg.os, hg.tape, hg.output⟩⟩
  · rw [hg.block k (by simp; omega) (fun e => by simp [Value.ownBlock] at e; omega), blk_alloc_ne hk]
  · exact hg.block k (by have := h0.size; simp; omega) (fun e => by simp [Value.ownBlock] at e; have := h0.size; omega)

end Go.Proofs.Ythbgidiblcokhaa
