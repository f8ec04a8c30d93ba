/-
  frame's check, walked.
-/
import Derived.Test.YtceakcejchbbjaaGreatShG
set_option linter.unusedSimpArgs false
set_option linter.unusedVariables false
namespace Go.Proofs.YtceakcejchbbjaaGreat
open Go.RowKit Go.MapKept Go.ChangeMaps
attribute [-go_sem] loadCells storeCells Instr.build

/-- The first bytes of a hash, as a frame has them. -/
def chk (key b : List UInt8) : List UInt8 := (shaOf (key ++ b)).take 8
theorem chk_length (key b : List UInt8) : (chk key b).length = 8 := by unfold chk; rw [List.length_take, shaOf_length]; rfl
set_option maxRecDepth 100000 in
set_option maxHeartbeats 2000000 in
theorem check_spec {w : World} {va vb : Value} {key b : List UInt8} (ha : Rd w va key) (hb : Rd w vb b) (hl : key.length + b.length ≤ 100000000) :
    Calls Tryz.prog 104 #[va, vb] w fun e w' => ∃ g, e = .returned (.slice (some ⟨g, 0, none⟩) 8 8) ∧ w.heap.size ≤ g ∧ Rd w' (.slice (some ⟨g, 0, none⟩) 8 8) (chk key b) ∧ Upd [] w w' := by
  obtain ⟨wA, hwA⟩ : ∃ wA, wA = w.alloc (.cells #[va, vb] 37) := ⟨_, rfl⟩
  have huA : Upd [] w wA := by rw [hwA]; exact (Upd.refl _ _).alloc _
  have hrl : RdL wA [] (.slice (some ⟨w.heap.size, 0, none⟩) 2 2) [va, vb] := by
    refine ⟨_, _, rfl, Nat.le_refl _, fun _ => ⟨_, _, by simp, rfl, fun i hi => ?_⟩⟩
    rw [hwA, blk_cell (blk_alloc _), Nat.zero_add]
    simp at hi
    rcases (by omega : i = 0 ∨ i = 1) with rfl | rfl <;> rfl
  have hrm : RdM wA [va, vb] [key, b] := ⟨rfl, fun i x l hx hl => by
    have hi := (List.getElem?_eq_some_iff.1 hx).1
    simp at hi
    rcases (by omega : i = 0 ∨ i = 1) with rfl | rfl
    · simp at hx hl; subst hx hl; exact ha.below huA
    · simp at hx hl; subst hx hl; exact hb.below huA⟩
  have hof := of_sha hrl hrm (by simp; omega) (by simp)
  rw [show ([key, b] : List (List UInt8)).flatten = key ++ b by simp] at hof
  obtain ⟨R, hR⟩ : ∃ R, R = shaOf (key ++ b) := ⟨_, rfl⟩
  have hRl : R.length = 32 := by rw [hR]; exact shaOf_length _
  rw [← hR, hwA] at hof
  have hck : chk key b = R.take 8 := by rw [hR]; rfl
  have HOF := Lib.hid hof
  have HCK := Lib.hid hck
  have HUA := Lib.hid huA
  have HWA := Lib.hid hwA
  clear hof hrl hrm huA hwA hR hck
  obtain ⟨aa, ca, rfl, _⟩ := ha
  obtain ⟨ab, cb, rfl, _⟩ := hb
  go_enter Tryz.func104, Tryz.ntmps104
  go_wp2_with fail
  refine HOF.out.mono ?_
  rintro e w1 ⟨rfl, hu1⟩
  have hwA := HWA.out
  have hb5 : (w1.alloc (.cells (bts zb32).toArray 35)).heap[w1.heap.size]? = some (.cells (bts zb32).toArray 35 (0, 0)) := blk_alloc _
  have st := store_blkW hb5 (l := bts R) (by rw [List.size_toArray, bts_length, bts_length, hRl]; rfl) (bts_one _)
  have hset := setRow_heap _ _ _ (bts R).toArray 35 (0, 0) hb5
  rw [← zb32_lit] at st
  have hol : (bts R).length = 32 := by rw [bts_length, hRl]
  have HSET := Lib.hid hset
  have HU1 := Lib.hid hu1
  clear hset hu1 hb5 hwA
  go_wp2_with fail
  rw [zb32_lit]
  go_ret
  refine ⟨_, rfl, ?_, ?_, ?_⟩
  · exact Nat.le_trans HUA.out.size (by have := HU1.out.size; have e := HWA.out; rw [e]; exact this)
  · rw [HCK.out]
    refine ⟨_, _, by rw [List.length_take, hRl]; rfl, by rw [List.length_take, hRl]; decide, fun _ => ⟨_, _, rfl, fun i hi => ?_⟩⟩
    rw [blk_cell HSET.out, List.getElem?_toArray, Nat.zero_add, bts_get]
    rw [List.length_take, hRl] at hi
    rw [List.getElem?_eq_getElem (by omega), List.getElem_take]
    rfl
  · have h1 : Upd [] w w1 := by have e := HWA.out; have := HU1.out; rw [← e] at this; exact HUA.out.trans this
    exact upd_rowW (h1.alloc _) _ (.inr h1.size)
end Go.Proofs.YtceakcejchbbjaaGreat
