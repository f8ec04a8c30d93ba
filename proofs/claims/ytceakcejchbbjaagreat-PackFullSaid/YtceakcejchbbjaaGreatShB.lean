/-
  sha.spread and what it calls, walked.
-/
import Derived.Test.YtceakcejchbbjaaGreatShA
import Derived.BigQuiet
import Derived.BigRegion
set_option linter.unusedSimpArgs false
set_option linter.unusedVariables false
namespace Go.Proofs.YtceakcejchbbjaaGreat
open Go.RowKit Go.MapKept Go.ChangeMaps

def wv (x : Int) : Value := .int .u32 x
def wvs (l : List Int) : List Value := l.map wv
theorem wvs_length (l : List Int) : (wvs l).length = l.length := by unfold wvs; rw [List.length_map]
theorem wvs_get (l : List Int) {i : Nat} (h : i < l.length) : (wvs l)[i]? = some (.int .u32 (l.getD i 0)) := by
  unfold wvs; rw [List.getElem?_map, List.getD_eq_getElem?_getD, List.getElem?_eq_getElem h]; rfl
theorem wvs_one (l : List Int) : ∀ u ∈ wvs l, u.oneCell' = true := by
  intro u hu
  unfold wvs at hu
  obtain ⟨x, _, rfl⟩ := List.mem_map.1 hu
  rfl
theorem wvs_set (l : List Int) (i : Nat) (x : Int) : wvs (l.set i x) = (wvs l).set i (.int .u32 x) := by
  unfold wvs; rw [List.map_set]; rfl
def rotTab : List (Int × Int × Int × Int) := [(-7, 25, 33554432, 128), (-18, 14, 16384, 262144), (-17, 15, 32768, 131072), (-19, 13, 8192, 524288), (-6, 26, 67108864, 64), (-11, 21, 2097152, 2048), (-25, 7, 128, 33554432), (-2, 30, 1073741824, 4), (-13, 19, 524288, 8192), (-22, 10, 1024, 4194304)]
theorem rotTab_and : ∀ t, t ∈ rotTab → bits BinOp.and IntKind.u64 (IntKind.u64.wrap t.1) 31 = t.2.1 ∧ IntKind.u64.wrap (32 - t.2.1) = 32 - t.2.1 := by decide
set_option maxRecDepth 100000 in
set_option maxHeartbeats 2000000 in
theorem rot_spec (x k s p q : Int) (hk : (k, s, p, q) ∈ rotTab) (w : World) :
    Calls Tryz.prog 220 #[.int .u32 x, .int .i64 k] w fun e w' => e = .returned (.int .u32 (rotw p q x)) ∧ w = w' := by
  have hs := (rotTab_and _ hk).1
  dsimp only at hs
  simp only [rotTab, List.mem_cons, Prod.mk.injEq, List.not_mem_nil, or_false] at hk
  rcases hk with ⟨rfl, rfl, rfl, rfl⟩ | ⟨rfl, rfl, rfl, rfl⟩ | ⟨rfl, rfl, rfl, rfl⟩ | ⟨rfl, rfl, rfl, rfl⟩ | ⟨rfl, rfl, rfl, rfl⟩ | ⟨rfl, rfl, rfl, rfl⟩ | ⟨rfl, rfl, rfl, rfl⟩ | ⟨rfl, rfl, rfl, rfl⟩ | ⟨rfl, rfl, rfl, rfl⟩ | ⟨rfl, rfl, rfl, rfl⟩
  all_goals
    go_enter Tryz.func220, Tryz.ntmps220
    go_wp2_with fail
    go_ret
    exact ⟨rfl, rfl⟩
theorem z64_lit : (#[.int .u32 0, .int .u32 0, .int .u32 0, .int .u32 0, .int .u32 0, .int .u32 0, .int .u32 0, .int .u32 0, .int .u32 0, .int .u32 0, .int .u32 0, .int .u32 0, .int .u32 0, .int .u32 0, .int .u32 0, .int .u32 0, .int .u32 0, .int .u32 0, .int .u32 0, .int .u32 0, .int .u32 0, .int .u32 0, .int .u32 0, .int .u32 0, .int .u32 0, .int .u32 0, .int .u32 0, .int .u32 0, .int .u32 0, .int .u32 0, .int .u32 0, .int .u32 0, .int .u32 0, .int .u32 0, .int .u32 0, .int .u32 0, .int .u32 0, .int .u32 0, .int .u32 0, .int .u32 0, .int .u32 0, .int .u32 0, .int .u32 0, .int .u32 0, .int .u32 0, .int .u32 0, .int .u32 0, .int .u32 0, .int .u32 0, .int .u32 0, .int .u32 0, .int .u32 0, .int .u32 0, .int .u32 0, .int .u32 0, .int .u32 0, .int .u32 0, .int .u32 0, .int .u32 0, .int .u32 0, .int .u32 0, .int .u32 0, .int .u32 0, .int .u32 0] : Array Value) = (wvs (fstW [] 0)).toArray := by rfl
theorem store_blkW {w : World} {b : Nat} {C : Array Value} {T : TypeId} (h : w.heap[b]? = some (.cells C T (0, 0))) {l : List Value} (hl : l.length = C.size) (h1 : ∀ u ∈ l, u.oneCell' = true) : (storeCells ⟨b, 0, none⟩ l 0).run Tryz.prog w = .ok () (w.setRow b l.toArray) := by
  have := run_storeCells_from (P := Tryz.prog) b T l 0 C w h (by omega) h1
  rw [this, List.take_zero, List.nil_append]
theorem storeW1 {w : World} {b : Nat} {C : Array Value} {T : TypeId} (h : w.heap[b]? = some (.cells C T (0, 0))) (i : Nat) {v : Value} (hi : i < C.size) (h1 : v.oneCell' = true) : (storeCells ⟨b, i, none⟩ [v] 0).run Tryz.prog w = .ok () (w.setCell ⟨b, i, none⟩ v) := by
  have hc : w.cell? ⟨b, i, none⟩ = some C[i] := by rw [blk_cell h]; simp [hi]
  have hf := blk_free h i
  have := run_storeCells_cells (P := Tryz.prog) b i [v] 0 w (by simp [hc]) (by simpa using hf) (by simpa using h1)
  simpa [World.setCells] using this
theorem run_cellsW {w : World} {b n : Nat} {cs : List Value} {T : TypeId} {fr : Nat × Nat} (h : w.heap[b]? = some (.cells cs.toArray T fr)) (hn : cs.length = n) : (loadCells ⟨b, 0, none⟩ n).run Tryz.prog w = .ok cs.toArray w := by
  have := run_loadCells_list (P := Tryz.prog) w ⟨b, 0, none⟩ cs (fun j v hv => by rw [Addr.add_mid, blk_cell h, List.getElem?_toArray, Nat.zero_add]; exact hv)
  rw [hn] at this
  exact this
theorem upd_rowW {S : List Nat} {a w : World} (h : Upd S a w) {b : Nat} (cs : Array Value) (hb : b ∈ S ∨ a.heap.size ≤ b) : Upd S a (w.setRow b cs) :=
  ⟨h.os, h.tape, h.output, by simpa using h.size, fun k hk hs => by
    rw [setRow_other _ _ _ _ (by rintro rfl; rcases hb with q | q; exact hs q; omega)]; exact h.block k hk hs⟩
theorem infoW64 : (Tryz.prog.info? 293).map (·.size) = some 64 := by kernel_rfl
theorem w64 {l : List Int} (h : l.length = 64) : (Tryz.prog.info? 293).map (·.size) = some (wvs l).toArray.size := by rw [List.size_toArray, wvs_length, h]; exact infoW64
theorem build_primes (w : World) : (Instr.build 293 #[(0, .int .u32 1116352408), (1, .int .u32 1899447441), (2, .int .u32 3049323471), (3, .int .u32 3921009573), (4, .int .u32 961987163), (5, .int .u32 1508970993), (6, .int .u32 2453635748), (7, .int .u32 2870763221), (8, .int .u32 3624381080), (9, .int .u32 310598401), (10, .int .u32 607225278), (11, .int .u32 1426881987), (12, .int .u32 1925078388), (13, .int .u32 2162078206), (14, .int .u32 2614888103), (15, .int .u32 3248222580), (16, .int .u32 3835390401), (17, .int .u32 4022224774), (18, .int .u32 264347078), (19, .int .u32 604807628), (20, .int .u32 770255983), (21, .int .u32 1249150122), (22, .int .u32 1555081692), (23, .int .u32 1996064986), (24, .int .u32 2554220882), (25, .int .u32 2821834349), (26, .int .u32 2952996808), (27, .int .u32 3210313671), (28, .int .u32 3336571891), (29, .int .u32 3584528711), (30, .int .u32 113926993), (31, .int .u32 338241895), (32, .int .u32 666307205), (33, .int .u32 773529912), (34, .int .u32 1294757372), (35, .int .u32 1396182291), (36, .int .u32 1695183700), (37, .int .u32 1986661051), (38, .int .u32 2177026350), (39, .int .u32 2456956037), (40, .int .u32 2730485921), (41, .int .u32 2820302411), (42, .int .u32 3259730800), (43, .int .u32 3345764771), (44, .int .u32 3516065817), (45, .int .u32 3600352804), (46, .int .u32 4094571909), (47, .int .u32 275423344), (48, .int .u32 430227734), (49, .int .u32 506948616), (50, .int .u32 659060556), (51, .int .u32 883997877), (52, .int .u32 958139571), (53, .int .u32 1322822218), (54, .int .u32 1537002063), (55, .int .u32 1747873779), (56, .int .u32 1955562222), (57, .int .u32 2024104815), (58, .int .u32 2227730452), (59, .int .u32 2361852424), (60, .int .u32 2428436474), (61, .int .u32 2756734187), (62, .int .u32 3204031479), (63, .int .u32 3329325298)]).run Tryz.prog w = .ok (.agg (wvs shaK).toArray) w := run_build w _ _ _ (by kernel_rfl)
attribute [-go_sem] loadCells storeCells Instr.build
set_option maxRecDepth 100000 in
set_option maxHeartbeats 2000000 in
theorem primes_spec (w : World) :
    Calls Tryz.prog 218 #[] w fun e w' => e = .returned (.agg (wvs shaK).toArray) ∧ Upd [] w w' := by
  obtain ⟨w1, hw1⟩ : ∃ w1, w1 = w.alloc (.cells (wvs (fstW [] 0)).toArray 293) := ⟨_, rfl⟩
  obtain ⟨b, hb⟩ : ∃ b, b = w.heap.size := ⟨_, rfl⟩
  have h1 : w1.heap[b]? = some (.cells (wvs (fstW [] 0)).toArray 293 (0, 0)) := by rw [hw1, hb]; exact blk_alloc _
  have st := store_blkW h1 (l := wvs shaK) (by rw [List.size_toArray, wvs_length, wvs_length, fstW_length]; rfl) (wvs_one _)
  have hu : Upd [] w (w1.setRow b (wvs shaK).toArray) := upd_rowW (by rw [hw1]; exact (Upd.refl _ _).alloc _) _ (.inr (by omega))
  have bp := build_primes
  have hkl : (wvs shaK).length = 64 := by rw [wvs_length]; rfl
  have hik := w64 (l := shaK) rfl
  rw [hw1, hb, ← z64_lit] at st
  have H1 := Lib.hid h1
  have HU := Lib.hid hu
  have HW := Lib.hid hw1
  have HB := Lib.hid hb
  clear h1 hu hw1 hb
  go_enter Tryz.func218, Tryz.ntmps218
  go_wp2_with fail
  have hw1 := HW.out
  have hb := HB.out
  rw [z64_lit, ← hw1, ← hb]
  clear hw1 hb
  refine bodyPost_ret (results_cell_row (p := 0) (ty := 293) ?_ _ _ b _ _ _ _ ?_ (setRow_heap _ _ _ _ _ _ H1.out) Tryz.underlying293 rfl hik) ?_ ?_
  · rfl
  · rfl
  · rfl
  exact ⟨rfl, HU.out⟩
end Go.Proofs.YtceakcejchbbjaaGreat
