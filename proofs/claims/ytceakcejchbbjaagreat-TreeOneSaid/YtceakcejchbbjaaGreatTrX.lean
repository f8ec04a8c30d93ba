/-
  cofferlaw9.Key, tree.onlyOK.
-/
import Derived.Test.YtceakcejchbbjaaGreatTrU
import Derived.Test.YtceakcejchbbjaaGreatTrQ
namespace Go.Proofs.YtceakcejchbbjaaGreat
open Go.RowKit Go.MapKept Go.ChangeMaps

def u8I (x : Int) : UInt8 := UInt8.ofNat (x % 256).toNat
def z32 : Bs := List.replicate 32 0
theorem z32_length : z32.length = 32 := rfl
/-- A key, by a number. -/
def keyB (k : Int) : Bs := ((z32.set 0 (u8I (wrap64 (Int.tmod k 7 * 41)))).set 1 (u8I (k / 256))).set 31 (u8I k)
theorem keyB_length (k : Int) : (keyB k).length = 32 := by unfold keyB; rw [List.length_set, List.length_set, List.length_set, z32_length]
theorem u8I_int (x : Int) : Value.int .u8 (x % 256) = Value.int .u8 (((x % 256).toNat : Nat) : Int) := by
  rw [Int.toNat_of_nonneg (Int.emod_nonneg _ (by decide))]
theorem u8I_lt (x : Int) : (x % 256).toNat < 256 := by have := Int.emod_lt_of_pos x (show (0 : Int) < 256 by decide); omega

theorem store_1 {w : World} {b : Nat} {C : Array Value} {T : TypeId} (h : w.heap[b]? = some (.cells C T (0, 0))) (i : Nat) {v : Value} (hi : i < C.size) (h1 : v.oneCell' = true) : (storeCells ⟨b, i, none⟩ [v] 0).run Tryz.prog w = .ok () (w.setCell ⟨b, i, none⟩ v) := by
  have hc : w.cell? ⟨b, i, none⟩ = some C[i] := by rw [blk_cell h]; simp [hi]
  have hf := blk_free h i
  have := run_storeCells_cells (P := Tryz.prog) b i [v] 0 w (by simp [hc]) (by simpa using hf) (by simpa using h1)
  simpa [World.setCells] using this
attribute [-go_sem] loadCells storeCells
set_option maxRecDepth 100000 in
theorem onlyOK_spec (r : Int) (w : World) : Calls Tryz.prog 71 #[.int .u32 r, .int .i64 0] w fun e w' => e = .returned (.tuple #[.int .u32 r, .int .i64 0]) ∧ Upd [] w w' := by
  go_enter Tryz.func71, Tryz.ntmps71
  go_wp2_with fail
  go_ret2
  exact ⟨rfl, Upd.refl [] w⟩
theorem z32_lit : (#[.int .u8 0, .int .u8 0, .int .u8 0, .int .u8 0, .int .u8 0, .int .u8 0, .int .u8 0, .int .u8 0, .int .u8 0, .int .u8 0, .int .u8 0, .int .u8 0, .int .u8 0, .int .u8 0, .int .u8 0, .int .u8 0, .int .u8 0, .int .u8 0, .int .u8 0, .int .u8 0, .int .u8 0, .int .u8 0, .int .u8 0, .int .u8 0, .int .u8 0, .int .u8 0, .int .u8 0, .int .u8 0, .int .u8 0, .int .u8 0, .int .u8 0, .int .u8 0] : Array Value) = (bts z32).toArray := rfl
theorem key_set {w : World} {b : Nat} {l : Bs} (h : w.heap[b]? = some (.cells (bts l).toArray 35 (0, 0))) (i : Nat) (hi : i < l.length) (x : Int) : (storeCells ⟨b, i, none⟩ [.int .u8 (x % 256)] 0).run Tryz.prog w = .ok () (w.setCell ⟨b, i, none⟩ (.int .u8 (x % 256))) ∧ (w.setCell ⟨b, i, none⟩ (.int .u8 (x % 256))).heap[b]? = some (.cells (bts (l.set i (u8I x))).toArray 35 (0, 0)) := by
  refine ⟨store_1 h i (by rw [List.size_toArray, bts_length]; exact hi) rfl, ?_⟩
  rw [u8I_int]
  exact blk_set_u8 h i (u8I_lt x)
set_option maxRecDepth 100000 in
theorem key_spec (k : Int) (w : World) : Calls Tryz.prog 25 #[.int .i64 k] w fun e w' => e = .returned (arr (keyB k)) ∧ Upd [] w w' := by
  obtain ⟨wA, hwA⟩ : ∃ wA, wA = (w.alloc (.cells #[.int .u8 0, .int .u8 0, .int .u8 0, .int .u8 0, .int .u8 0, .int .u8 0, .int .u8 0, .int .u8 0, .int .u8 0, .int .u8 0, .int .u8 0, .int .u8 0, .int .u8 0, .int .u8 0, .int .u8 0, .int .u8 0, .int .u8 0, .int .u8 0, .int .u8 0, .int .u8 0, .int .u8 0, .int .u8 0, .int .u8 0, .int .u8 0, .int .u8 0, .int .u8 0, .int .u8 0, .int .u8 0, .int .u8 0, .int .u8 0, .int .u8 0, .int .u8 0] 35)).alloc (.cells #[.int .u8 0, .int .u8 0, .int .u8 0, .int .u8 0, .int .u8 0, .int .u8 0, .int .u8 0, .int .u8 0, .int .u8 0, .int .u8 0, .int .u8 0, .int .u8 0, .int .u8 0, .int .u8 0, .int .u8 0, .int .u8 0, .int .u8 0, .int .u8 0, .int .u8 0, .int .u8 0, .int .u8 0, .int .u8 0, .int .u8 0, .int .u8 0, .int .u8 0, .int .u8 0, .int .u8 0, .int .u8 0, .int .u8 0, .int .u8 0, .int .u8 0, .int .u8 0] 35) := ⟨_, rfl⟩
  obtain ⟨b2, hb2⟩ : ∃ b, b = w.heap.size := ⟨_, rfl⟩
  obtain ⟨b3, hb3⟩ : ∃ b, b = w.heap.size + 1 := ⟨_, rfl⟩
  have hne : b2 ≠ b3 := by omega
  have h2 : wA.heap[b2]? = some (.cells (bts z32).toArray 35 (0, 0)) := by rw [hwA, hb2, blk_alloc_ne (by simp)]; exact blk_alloc _
  have h3 : wA.heap[b3]? = some (.cells (bts z32).toArray 35 (0, 0)) := by rw [hwA, hb3, z32_lit]; have := blk_alloc (w := w.alloc (.cells (bts z32).toArray 35)) (.cells (bts z32).toArray 35); simpa using this
  have s1 := key_set h3 0 (by rw [z32_length]; omega) (wrap64 (Int.tmod k 7 * 41))
  have s2 := key_set s1.2 1 (by rw [List.length_set, z32_length]; omega) (k / 256)
  have s3 := key_set s2.2 31 (by rw [List.length_set, List.length_set, z32_length]; omega) k
  obtain ⟨w1, hw1⟩ : ∃ w1, w1 = wA.setCell ⟨b3, 0, none⟩ (.int .u8 (wrap64 (Int.tmod k 7 * 41) % 256)) := ⟨_, rfl⟩
  rw [← hw1] at s1 s2 s3
  obtain ⟨wB, hwB⟩ : ∃ w2, w2 = w1.setCell ⟨b3, 1, none⟩ (.int .u8 (k / 256 % 256)) := ⟨_, rfl⟩
  rw [← hwB] at s2 s3
  obtain ⟨wC, hwC⟩ : ∃ w3, w3 = wB.setCell ⟨b3, 31, none⟩ (.int .u8 (k % 256)) := ⟨_, rfl⟩
  rw [← hwC] at s3
  have u1 : Upd [b3] wA w1 := by rw [hw1]; exact (Upd.refl _ _).set _ (.inl (by simp))
  have u2 : Upd [b3] wA wB := by rw [hwB]; exact u1.set _ (.inl (by simp))
  have u3 : Upd [b3] wA wC := by rw [hwC]; exact u2.set _ (.inl (by simp))
  have h2C := (u3.block _ (blk_lt h2) (by simpa using hne)).trans h2
  have l3 := run_cells_blk (n := 32) s3.2 (by rw [bts_length]; exact keyB_length k)
  have s4 := store_blk h2C (l := bts (keyB k)) (by rw [List.size_toArray, bts_length, bts_length, keyB_length, z32_length]) (bts_one _)
  have r1 := s1.1
  have r2 := s2.1
  have r3 := s3.1
  have HU : Hid (Upd [] w (wC.setRow b2 (bts (keyB k)).toArray)) := by
    show Upd _ _ _
    have a1 : Upd [] w wA := by rw [hwA]; exact ((Upd.refl _ _).alloc _).alloc _
    have a2 : Upd [b2] wC (wC.setRow b2 (bts (keyB k)).toArray) := upd_row (Upd.refl _ _) _ (.inl (by simp))
    exact (a1.late u3 (fun i hi => .inr (by simp at hi; omega))).late a2 (fun i hi => .inr (by simp at hi; omega))
  have H2C := Lib.hid h2C
  have HW := Lib.hid hwA
  have HB := Lib.hid (And.intro hb2 hb3)
  have rr := @results_cell_row Tryz.prog
  rw [hwA, hb3] at r1
  rw [hb3] at r2 r3 l3
  rw [hb2] at s4
  have hik : (Tryz.prog.info? 35).map (·.size) = some (bts (keyB k)).toArray.size := by rw [List.size_toArray, bts_length, keyB_length]; exact infoID
  clear hwA hb3 h2 h3 s1 s2 s3 hw1 hwB hwC u1 u2 u3 h2C hne rr HW HB
  have HB2 := Lib.hid hb2
  have el : keyB k = ((z32.set 0 (u8I (wrap64 (Int.tmod k 7 * 41)))).set 1 (u8I (k / 256))).set 31 (u8I k) := rfl
  rw [← el] at l3
  clear el hb2
  go_enter Tryz.func25, Tryz.ntmps25
  go_wp2_with fail
  have hb2 := HB2.out
  rw [← hb2]
  refine bodyPost_ret (results_cell_row (p := 2) (ty := 35) ?_ _ _ b2 _ _ _ _ ?_ (setRow_heap _ _ _ _ _ _ H2C.out) Tryz.underlying35 rfl hik) ?_ ?_
  · rfl
  · rfl
  · rfl
  exact ⟨rfl, HU.out⟩

end Go.Proofs.YtceakcejchbbjaaGreat
