/-
  cofferref8.New.
-/
import Derived.Test.YtlncfncolkgjfaaSpK
import Derived.Laws.Rows
namespace Go.Proofs.Ytlncfncolkgjfaa
open Go.RowKit Go.MapKept Go.ChangeMaps

theorem Upd.row {S : List Nat} {a w : World} (h : Upd S a w) {b : Nat} (cs : Array Value) (hb : b ∈ S ∨ a.heap.size ≤ b) : Upd S a (w.setRow b cs) :=
  ⟨h.os, h.tape, h.output, by simpa using h.size, fun k hk hs => by
    rw [setRow_other _ _ _ _ (by rintro rfl; rcases hb with q | q; exact hs q; omega)]; exact h.block k hk hs⟩
theorem infoSp : (Try.prog.info? 43).map (·.size) = some 17 := by kernel_rfl
theorem spCells_one (a : Option Addr) (n c : Nat) (r : Nat → Nat) : (spCells (.slice a n c) r).all (·.oneCell') = true := by
  refine Array.all_eq_true_iff_forall_mem.2 (fun v hv => ?_)
  simp only [spCells, List.mem_toArray, List.mem_cons, List.not_mem_nil, or_false] at hv
  rcases hv with rfl | rfl | rfl | rfl | rfl | rfl | rfl | rfl | rfl | rfl | rfl | rfl | rfl | rfl | rfl | rfl | rfl <;> rfl
set_option maxRecDepth 100000 in
set_option maxHeartbeats 1000000 in
theorem new8_spec (n : Nat) (ni : Int) (hni : ni = (n : Int)) (h4 : 4 ≤ n) (hn : n ≤ 100000) (w : World) :
    Calls Try.prog 15 #[.int .i64 ni] w fun e w' => ∃ sb, e = .returned (.agg (spCells (.slice (some ⟨sb, 0, none⟩) n n) (fun _ => 0))) ∧ w.heap.size ≤ sb ∧ BlG w' sb n (fun j => decide (j < 4)) ∧ Upd [] w w' := by
  subst hni
  obtain ⟨w1, hmk, hbl, hu⟩ := run_make_bool n (by omega) (n : Int) (by omega) (w.alloc (.cells (spZ (.slice none 0 0)) 43))
  have hs0 : (w.alloc (.cells (spZ (.slice none 0 0)) 43)).heap.size = w.heap.size + 1 := by unfold World.alloc; exact Array.size_push _
  rw [hs0] at hmk hbl
  have hlt1 : w.heap.size + 1 < w1.heap.size := by unfold BlF at hbl; exact blk_lt hbl
  have hz : w1.heap[w.heap.size]? = some (.cells (spZ (.slice none 0 0)) 43 (0, 0)) := (hu.block _ (by rw [hs0]; omega) (by simp)).trans (blk_alloc _)
  obtain ⟨w2, hw2⟩ : ∃ w2, w2 = w1.alloc (.cells (spZ (.slice (some ⟨w.heap.size + 1, 0, none⟩) n n)) 43) := ⟨_, rfl⟩
  have hs1 : w2.heap[w1.heap.size]? = some (.cells (spZ (.slice (some ⟨w.heap.size + 1, 0, none⟩) n n)) 43 (0, 0)) := by rw [hw2]; exact blk_alloc _
  have hu1 : Upd [] w1 w2 := by rw [hw2]; exact (Upd.refl _ _).alloc _
  have hbl1 := hbl.upd hu1 (by simp)
  have hz1 := (hu1.block _ (blk_lt hz) (by simp)).trans hz
  have hu01 : Upd [] w w2 := (((Upd.refl [] w).alloc _).trans hu).trans hu1
  have hsb1 : w.heap.size < w.heap.size + 1 := by omega
  generalize w.heap.size + 1 = sb at *
  unfold spZ at hmk hw2
  have HS1 := Lib.hid hs1
  have HZ1 := Lib.hid hz1
  have HBL1 := Lib.hid hbl1
  have HU01 := Lib.hid hu01
  have HW2 := Lib.hid hw2
  clear hbl hu hs0 hz hu1 hs1 hz1 hbl1 hu01 hw2
  go_enter Try.func15, Try.ntmps15
  go_wp2
  have hw2 := HW2.out
  rw [← hw2]
  clear hw2 hmk
  go_loopw [4] (fun i wr => ∃ q : Nat, q ≤ 4 ∧ i = .int .i64 (q : Int) ∧ BlF wr sb n (fun j => decide (j < q)) ∧ Upd [sb] w2 wr) (fun i _ => 4 - (intOf i).toNat)
  case atStart => exact ⟨0, by omega, rfl, HBL1.out.ext (fun i _ => decide_eq_false (by omega)), Upd.refl _ _⟩
  case round =>
    obtain ⟨q, hq, rfl, hb, hu⟩ := hrel
    have hs2 := (hu.block _ (blk_lt HS1.out) (by simp; omega)).trans HS1.out
    have hz2 := (hu.block _ (blk_lt HZ1.out) (by simp; omega)).trans HZ1.out
    by_cases hlt : q < 4
    · have hlt' : decide ((q : Int) < 4) = true := decide_eq_true (by omega)
      have hlt2 : decide (q < n) = true := decide_eq_true (by omega)
      obtain ⟨hc, hf⟩ := hb.cell (i := q) (by omega)
      have i0 : (0 : Int) ≤ (q : Int) := by omega
      have i1 : (q : Int) < (n : Int) := by omega
      have c1 := (spz_cells hs2).1
      have u2 : Upd [sb] wr (wr.setCell ⟨sb, q, none⟩ (.bool true)) := (Upd.refl _ _).set _ (by simp)
      have HB2 := Lib.hid ((hb.set (i := q) true).ext (f' := fun j => decide (j < q + 1)) (fun i _ => by
        by_cases e : i = q
        · rw [if_pos e]; exact decide_eq_true (by omega)
        · rw [if_neg e, decide_eq_decide]; omega))
      have HU2 := Lib.hid (hu.trans u2)
      clear hs2 hz2 hb hu u2
      go_wp2
      exact ⟨⟨q + 1, by omega, by go_num, HB2.out, HU2.out⟩, by simp [intOf]; omega⟩
    · obtain rfl : q = 4 := by omega
      have hlt' : decide (((4 : Nat) : Int) < 4) = false := rfl
      have HB := Lib.hid ((hb.g).upd ((Upd.refl [w.heap.size] wr).row (b := w.heap.size) (spZ (.slice (some ⟨sb, 0, none⟩) n n)) (.inl (by simp))) (by simp; omega))
      have HU : Hid (Upd [] w (wr.setRow w.heap.size (spZ (.slice (some ⟨sb, 0, none⟩) n n)))) := Lib.hid ((HU01.out.late hu (fun k hk => by simp at hk; subst hk; exact .inr (by omega))).row _ (.inr (Nat.le_refl _)))
      have HZ3 := Lib.hid (setRow_heap wr w.heap.size _ (spZ (.slice (some ⟨sb, 0, none⟩) n n)) _ _ hz2)
      have HS2 := Lib.hid hs2
      have HZ2 := Lib.hid hz2
      clear hs2 hz2 hb hu
      go_wp2_with (first | (refine wpList_load_row (by rfl) 43 (.tmp 3) (by rfl) w1.heap.size (by rfl) _ _ _ _ HS2.out Try.underlying43 rfl infoSp ?_) | (refine wpList_store_row (by rfl) 43 (.tmp 2) (.tmp 21) (by rfl) w.heap.size (spZ (.slice (some ⟨sb, 0, none⟩) n n)) (by rfl) (by rfl) _ _ HZ2.out infoSp rfl (spCells_one _ _ _ (fun _ => 0)) ?_))
      refine bodyPost_ret (results_cell_row (p := 2) (ty := 43) ?_ _ _ w.heap.size _ _ _ _ ?_ HZ3.out Try.underlying43 rfl infoSp) ?_ ?_
      · rfl
      · rfl
      · rfl
      exact ⟨sb, rfl, by omega, HB.out, HU.out⟩

end Go.Proofs.Ytlncfncolkgjfaa
