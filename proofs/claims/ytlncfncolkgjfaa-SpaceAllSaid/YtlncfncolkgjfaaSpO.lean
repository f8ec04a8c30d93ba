/-
  cofferref8.Copy.
-/
import Derived.Test.YtlncfncolkgjfaaSpL
import Derived.Deep.MidRow
import Derived.Laws.Rows
namespace Go.Proofs.Ytlncfncolkgjfaa
open Go.RowKit Go.MapKept Go.ChangeMaps

theorem run_build_bools0 (w : World) : (Instr.buildSlice 29 0 #[]).run Try.prog w = .ok (.slice (some ⟨w.heap.size, 0, none⟩) 0 0) (w.alloc (.cells #[] 4)) := by kernel_rfl
/-- A row of bools is copied: append([]bool{}, x...). -/
theorem bools_copy {W w0 : World} {B sb h c : Nat} {f : Nat → Bool} (hB : W.heap[B]? = some (.cells #[] 4 (0, 0))) (hb : BlG W sb h f) (h0 : 0 < h) (hl : h ≤ 100000) (hu : Upd [] w0 W) (hB0 : w0.heap.size ≤ B) :
    ∃ g c' w', (∀ ty, (Builtin.append_ #[29, 29] ty #[.slice (some ⟨B, 0, none⟩) 0 0, .slice (some ⟨sb, 0, none⟩) h c]).run Try.prog W = .ok (.slice (some ⟨g, 0, none⟩) h c') w') ∧ h ≤ c' ∧ B ≤ g ∧ BlG w' g h f ∧ Upd [B] W w' ∧ Upd [] w0 w' := by
  obtain ⟨i0, hi, hz0, hz1, hz2⟩ := info_parts infoBool
  have hcell : ∀ j u, ((List.range h).map fun i => Value.bool (f i))[j]? = some u → W.cell? ((⟨sb, 0, none⟩ : Addr).add j) = some u := by
    intro j u hj
    have hlt : j < h := by have := (List.getElem?_eq_some_iff.1 hj).1; simpa using this
    have hc := (hb.cell hlt).1
    rw [addr_add, Nat.zero_add, hc]
    rw [List.getElem?_map, List.getElem?_range hlt] at hj
    exact hj
  obtain ⟨v', w', hrun, hown, hg, _⟩ := run_append_own (P := Try.prog) W B 29 0 4 i0 _ 1 1 Try.underlying29 hi hz0 hz1 hz2 rfl (by decide) (.slice (some ⟨B, 0, none⟩) 0 0) 0 []
    ⟨by first | rfl | simp, .inr ⟨B, 0, #[], rfl, Nat.le_refl _, hB, Nat.le_refl _, by unfold maxLen; omega, by first | rfl | simp, by first | rfl | simp⟩⟩ ⟨sb, 0, none⟩ h c ((List.range h).map fun i => Value.bool (f i)) (by simp) hcell (fun u hu => by obtain ⟨s, _, rfl⟩ := List.mem_map.1 hu; rfl) (by unfold maxLen; omega) (by omega) (Nat.le_of_lt (blk_lt hB))
  have hup : Upd [B] W w' := (Upd.refl [B] W).grown hg (fun k hk => by simp [Value.ownBlock] at hk; subst hk; exact .inl (by simp))
  have hup0 : Upd [] w0 w' := hu.grown hg (fun k hk => by simp [Value.ownBlock] at hk; subst hk; exact .inr hB0)
  rcases hown with ⟨q1, ⟨rfl, q2⟩ | ⟨g, cap, cur, rfl, q2, q3, q4, q5, q6, q7⟩⟩
  · simp at q2; omega
  · simp only [Nat.zero_add, Nat.mul_one, List.nil_append] at q4 q7 hrun
    refine ⟨g, cap, w', fun _ => hrun, q4, q2, ⟨cur.toList.drop h, ?_⟩, hup, hup0⟩
    rw [q3, ← q7, List.take_append_drop]

theorem keep_alloc {w : World} {a : Addr} {v : Value} {o : Obj} (h : w.cell? a = some v) : (w.alloc o).drew.cell? a = some v := by
  show (w.alloc o).cell? a = some v
  rw [World.cell?_of_block (w := w) (blk_alloc_ne (block_lt_of_cell h))]; exact h
theorem keep_upd {w w' : World} {S : List Nat} {a : Addr} {v : Value} (h : w.cell? a = some v) (hu : Upd S w w') (hS : a.block ∉ S) : w'.cell? a = some v := by
  rw [World.cell?_of_block (w := w) (hu.block _ (block_lt_of_cell h) hS)]; exact h
theorem keep_range {w w' : World} {S : List Nat} {b o : Nat} {cs : List Value} (h : w.rangeAt b o cs) (hu : Upd S w w') (hS : b ∉ S) : w'.rangeAt b o cs := fun j v hv => keep_upd (h j v hv) hu hS
/-- A store of a whole block, as one step of a region that draws its order. -/
theorem step_store_row {P : Program} {ops : Array Oper} {o : Oper} {a : Act} {w : World} {K : Act → World → Prop} {Q : Exit → Act → World → Prop} {E : Prop} (hgd : o.guard = none) (ty : TypeId) (x y : Operand) (ho : o.op = .store ty x y)
    (g : Nat) (cells : Array Value) (hx : a.eval x = .pointer (some ⟨g, 0, none⟩)) (hy : a.eval y = .agg cells)
    (t : TypeId) (old : Array Value) (hg : w.heap[g]? = some (.cells old t (0, 0))) (hi : (P.info? ty).map (·.size) = some cells.size)
    (hold : old.size = cells.size) (h1 : cells.all (·.oneCell') = true)
    (h : K (a.put o.dst undef) (w.setRow g cells)) : if Region.wanted o (yielded ops a.tmps) = true then Oper.wp P o a w K Q else E := by
  rw [if_pos (by simp [Region.wanted, hgd])]
  exact wp_store_row ty x y ho g cells hx hy t old hg hi hold h1 h
theorem sp_store_run {w : World} {b : Nat} (h : w.heap[b]? = some (.cells (spZ (.slice none 0 0)) 43 (0, 0))) (a : Option Addr) (n c : Nat) (r0 r1 r2 r3 r4 r5 r6 r7 r8 r9 r10 r11 r12 r13 r14 r15 : Int) :
    (Instr.storeAt 43 (.pointer (some ⟨b, 0, none⟩)) (.agg #[.slice a n c, .int .u32 r0, .int .u32 r1, .int .u32 r2, .int .u32 r3, .int .u32 r4, .int .u32 r5, .int .u32 r6, .int .u32 r7, .int .u32 r8, .int .u32 r9, .int .u32 r10, .int .u32 r11, .int .u32 r12, .int .u32 r13, .int .u32 r14, .int .u32 r15])).run Try.prog w = .ok () (w.setRow b #[.slice a n c, .int .u32 r0, .int .u32 r1, .int .u32 r2, .int .u32 r3, .int .u32 r4, .int .u32 r5, .int .u32 r6, .int .u32 r7, .int .u32 r8, .int .u32 r9, .int .u32 r10, .int .u32 r11, .int .u32 r12, .int .u32 r13, .int .u32 r14, .int .u32 r15]) := by
  simp only [Instr.storeAt, Instr.sureAddr, Sem.run_bind, Sem.run_pure, Result.andThen_ok]
  refine run_storeVar_row w b _ _ _ _ h infoSp rfl ?_
  refine Array.all_eq_true_iff_forall_mem.2 (fun v hv => ?_)
  simp only [List.mem_toArray, List.mem_cons, List.not_mem_nil, or_false] at hv
  rcases hv with rfl | rfl | rfl | rfl | rfl | rfl | rfl | rfl | rfl | rfl | rfl | rfl | rfl | rfl | rfl | rfl | rfl <;> rfl
theorem sp_cells_run {w : World} {b : Nat} (h : w.heap[b]? = some (.cells (spZ (.slice none 0 0)) 43 (0, 0))) (a : Option Addr) (n c : Nat) (r0 r1 r2 r3 r4 r5 r6 r7 r8 r9 r10 r11 r12 r13 r14 r15 : Int) :
    (storeCells ⟨b, 0, none⟩ [.slice a n c, .int .u32 r0, .int .u32 r1, .int .u32 r2, .int .u32 r3, .int .u32 r4, .int .u32 r5, .int .u32 r6, .int .u32 r7, .int .u32 r8, .int .u32 r9, .int .u32 r10, .int .u32 r11, .int .u32 r12, .int .u32 r13, .int .u32 r14, .int .u32 r15] 0).run Try.prog w = .ok () (w.setRow b #[.slice a n c, .int .u32 r0, .int .u32 r1, .int .u32 r2, .int .u32 r3, .int .u32 r4, .int .u32 r5, .int .u32 r6, .int .u32 r7, .int .u32 r8, .int .u32 r9, .int .u32 r10, .int .u32 r11, .int .u32 r12, .int .u32 r13, .int .u32 r14, .int .u32 r15]) := by
  have := run_storeCells_from (P := Try.prog) b 43 [.slice a n c, .int .u32 r0, .int .u32 r1, .int .u32 r2, .int .u32 r3, .int .u32 r4, .int .u32 r5, .int .u32 r6, .int .u32 r7, .int .u32 r8, .int .u32 r9, .int .u32 r10, .int .u32 r11, .int .u32 r12, .int .u32 r13, .int .u32 r14, .int .u32 r15] 0 (spZ (.slice none 0 0)) w h rfl (fun v hv => by
    simp only [List.mem_cons, List.not_mem_nil, or_false] at hv
    rcases hv with rfl | rfl | rfl | rfl | rfl | rfl | rfl | rfl | rfl | rfl | rfl | rfl | rfl | rfl | rfl | rfl | rfl <;> rfl)
  simpa [spZ] using this
attribute [-go_sem] storeCells
attribute [local go_sem] sp_cells_run
def rootL (r : Nat → Nat) : List Value := (spCells undef r).toList.drop 1
theorem infoRoots : (Try.prog.info? 41).map (·.size) = some 16 := by kernel_rfl
set_option maxRecDepth 100000 in
set_option maxHeartbeats 2000000 in
theorem copy8_spec {w : World} {b sb h : Nat} {f : Nat → Bool} {r : Nat → Nat} (H : RfAt w b sb h f r) (h0 : 0 < h) (hh : h ≤ 4096) :
    Calls Try.prog 16 #[.pointer (some ⟨b, 0, none⟩)] w fun e w' => ∃ g c, e = .returned (.agg (spCells (.slice (some ⟨g, 0, none⟩) h c) r)) ∧ h ≤ c ∧ w.heap.size ≤ g ∧ BlG w' g h f ∧ Upd [] w w' := by
  obtain ⟨c, hc, e⟩ := H.st
  obtain ⟨wA, hwA⟩ : ∃ wA, wA = w.alloc (.cells (spZ (.slice none 0 0)) 43) := ⟨_, rfl⟩
  have huA : Upd [] w wA := by rw [hwA]; exact (Upd.refl _ _).alloc _
  have hA := H.below huA (by simp) (by simp)
  have hz : wA.heap[w.heap.size]? = some (.cells (spZ (.slice none 0 0)) 43 (0, 0)) := by rw [hwA]; exact blk_alloc _
  have eA := (huA.block _ (blk_lt e) (by simp)).trans e
  have c0 := (sp_cells eA).1
  have r1 : wA.rangeAt b 1 (rootL r) := fun j v hv => by
    rw [blk_cell eA, ← hv, ← Array.getElem?_toList, Nat.add_comm]
    unfold rootL
    rw [List.getElem?_drop, Nat.add_comm 1 j]
    rfl
  have hu16 := Try.underlying41
  have hi16 : (Try.prog.info? 41).map (·.size) = some (rootL r).length := infoRoots
  have hlen : (rootL r).length = 16 := rfl
  have huB : Upd [] wA (wA.alloc (.cells #[] 4)).drew := ((Upd.refl [] wA).alloc _).drew
  obtain ⟨g, c', w5, hrun, hc', hg, hbl, hu5, hu05⟩ := bools_copy (W := (wA.alloc (.cells #[] 4)).drew) (B := wA.heap.size) (w0 := wA) (c := c) (blk_alloc (w := wA) _) (hA.row.upd huB (by simp)) h0 (by omega) huB (Nat.le_refl _)
  have hbA : b < wA.heap.size := blk_lt eA
  have hbw : b < w.heap.size := blk_lt e
  have HZS := Lib.hid (setRow_heap w5 w.heap.size _ (spCells (.slice (some ⟨g, 0, none⟩) h c') r) _ _ ((hu05.block _ (blk_lt hz) (by simp)).trans hz))
  have HBS := Lib.hid (hbl.upd ((Upd.refl [w.heap.size] w5).row (b := w.heap.size) (spCells (.slice (some ⟨g, 0, none⟩) h c') r) (.inl (by simp))) (by have := blk_lt hz; simp; omega))
  have HUS := Lib.hid ((huA.trans hu05).row (b := w.heap.size) (spCells (.slice (some ⟨g, 0, none⟩) h c') r) (.inr (Nat.le_refl _)))
  have hzA : w.heap.size < wA.heap.size := blk_lt hz
  have hgA : w.heap.size ≤ g := by omega
  have H5 : Hid (BlG w5 g h f) := Lib.hid hbl
  have HZ5 := Lib.hid ((hu05.block _ hzA (by simp)).trans hz)
  have HU5 := Lib.hid (huA.trans hu05)
  have hz5 := HZ5.out
  have hz5d : w5.drew.heap[w.heap.size]? = some (.cells (spZ (.slice none 0 0)) 43 (0, 0)) := HZ5.out
  have HU45 := Lib.hid hu5
  have HU05 := Lib.hid hu05
  have HZ := Lib.hid hz
  have HA := Lib.hid hA
  have HUA := Lib.hid huA
  have hwA2 := hwA
  unfold spZ at hwA2
  have HWA := Lib.hid hwA2
  unfold rootL spCells at r1 hi16 hlen
  simp only [List.drop_succ_cons, List.drop_zero] at r1 hi16 hlen
  clear H e huA hA hz eA hwA hwA2 huB hbl hu5 hu05
  go_enter Try.func16, Try.ntmps16
  go_wp2
  have hwA := HWA.out
  rw [← hwA]
  clear hwA
  go_region_held3 (fun w' => w'.cell? ⟨b, 0, none⟩ = some (.slice (some ⟨sb, 0, none⟩) h c) ∧ w'.rangeAt b 1 [.int .u32 (r 0 : Int), .int .u32 (r 1 : Int), .int .u32 (r 2 : Int), .int .u32 (r 3 : Int), .int .u32 (r 4 : Int), .int .u32 (r 5 : Int), .int .u32 (r 6 : Int), .int .u32 (r 7 : Int), .int .u32 (r 8 : Int), .int .u32 (r 9 : Int), .int .u32 (r 10 : Int), .int .u32 (r 11 : Int), .int .u32 (r 12 : Int), .int .u32 (r 13 : Int), .int .u32 (r 14 : Int), .int .u32 (r 15 : Int)]) (refine ⟨?_, ?_⟩ <;> first | (exact keep_alloc (by assumption)) | (exact keep_upd (by assumption) ((Upd.refl [] _).drew) (by simp)) | (exact keep_range (by assumption) ((Upd.refl [] _).drew) (by simp)) | (exact keep_range (by assumption) (((Upd.refl [] _).alloc _).drew) (by simp)) | (exact keep_upd (by assumption) (((Upd.refl [wA.heap.size] _).alloc _).drew.trans HU45.out) (by simp; omega)) | (exact keep_upd (by assumption) HU05.out (by simp)) | (exact keep_upd (by assumption) HU05.out.drew (by simp)) | (exact keep_range (by assumption) HU05.out (by simp)) | (exact keep_range (by assumption) HU05.out.drew (by simp)) | (exact keep_upd (by assumption) HU45.out (by simp; omega)) | (exact keep_upd c0 ((HU05.out.mono (T := [w.heap.size]) (by simp)).row (b := w.heap.size) _ (.inl (by simp))) (by simp; omega)) | (exact keep_range r1 ((HU05.out.mono (T := [w.heap.size]) (by simp)).row (b := w.heap.size) _ (.inl (by simp))) (by simp; omega)) | (exact keep_upd (by assumption) HU45.out.drew (by simp; omega)) | (exact keep_range (by assumption) HU45.out (by simp; omega)) | (exact keep_range (by assumption) HU45.out.drew (by simp; omega)))
    (first | (refine step_append_run (by rfl) _ _ _ (by rfl) (by rfl) (by rfl) hrun ?_))
  go_wp2
  refine bodyPost_ret (results_cell_row (p := 2) (ty := 43) ?_ _ _ w.heap.size _ _ _ _ ?_ HZS.out Try.underlying43 rfl infoSp) ?_ ?_
  · rfl
  · rfl
  · rfl
  · exact ⟨g, c', rfl, hc', hgA, HBS.out, HUS.out⟩

end Go.Proofs.Ytlncfncolkgjfaa
