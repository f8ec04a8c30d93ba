/-
  cofferlaw9.Key, tree.onlyOK. A tree on sectors of which it is known which are taken; trees grown key by key. No program in sight.
-/
import Derived.Test.YtceakcejchbbjaaGreatTrU
import Derived.Test.YtceakcejchbbjaaGreatTrQ
section
namespace Go.Proofs.YtceakcejchbbjaaGreat
open Go.RowKit Go.MapKept Go.ChangeMaps

def u8I (x : Int) : UInt8 := UInt8.ofNat (x % 256).toNat
def z32 : Bs := List.replicate 32 0
theorem z32_length : z32.length = 32 := rfl
/-- A key, by a number. -/
def keyB (k : Int) : Bs := ((z32.set 0 (u8I (wrap64 (Int.tmod k 7 * 41)))).set 1 (u8I (k / 256))).set 31 (u8I k)
theorem keyB_length (k : Int) : (keyB k).length = 32 := by unfold keyB; rw [List.length_set, List.length_set, List.length_set, z32_length]
theorem u8I_int (x : Int) : Value.int .u8 (x % 256) = Value.int .u8 (((x % 256).toNat : Nat) : Int) := by
  rw [Int.toNat_of_nonneg (Int.emod_nonneg _ (by decide))]
theorem u8I_lt (x : Int) : (x % 256).toNat < 256 := by have := Int.emod_lt_of_pos x (show (0 : Int) < 256 by decide); omega

theorem store_1 {w : World} {b : Nat} {C : Array Value} {T : TypeId} (h : w.heap[b]? = some (.cells C T (0, 0))) (i : Nat) {v : Value} (hi : i < C.size) (h1 : v.oneCell' = true) : (storeCells ⟨b, i, none⟩ [v] 0).run Tryz.prog w = .ok () (w.setCell ⟨b, i, none⟩ v) := by
  have hc : w.cell? ⟨b, i, none⟩ = some C[i] := by rw [blk_cell h]; simp [hi]
  have hf := blk_free h i
  have := run_storeCells_cells (P := Tryz.prog) b i [v] 0 w (by simp [hc]) (by simpa using hf) (by simpa using h1)
  simpa [World.setCells] using this
attribute [-go_sem] loadCells storeCells
set_option maxRecDepth 100000 in
theorem onlyOK_spec (r : Int) (w : World) : Calls Tryz.prog 71 #[.int .u32 r, .int .i64 0] w fun e w' => e = .returned (.tuple #[.int .u32 r, .int .i64 0]) ∧ Upd [] w w' := by
  go_enter Tryz.func71, Tryz.ntmps71
  go_wp2_with fail
  go_ret2
  exact ⟨rfl, Upd.refl [] w⟩
theorem z32_lit : (#[.int .u8 0, .int .u8 0, .int .u8 0, .int .u8 0, .int .u8 0, .int .u8 0, .int .u8 0, .int .u8 0, .int .u8 0, .int .u8 0, .int .u8 0, .int .u8 0, .int .u8 0, .int .u8 0, .int .u8 0, .int .u8 0, .int .u8 0, .int .u8 0, .int .u8 0, .int .u8 0, .int .u8 0, .int .u8 0, .int .u8 0, .int .u8 0, .int .u8 0, .int .u8 0, .int .u8 0, .int .u8 0, .int .u8 0, .int .u8 0, .int .u8 0, .int .u8 0] : Array Value) = (bts z32).toArray := rfl
theorem key_set {w : World} {b : Nat} {l : Bs} (h : w.heap[b]? = some (.cells (bts l).toArray 35 (0, 0))) (i : Nat) (hi : i < l.length) (x : Int) : (storeCells ⟨b, i, none⟩ [.int .u8 (x % 256)] 0).run Tryz.prog w = .ok () (w.setCell ⟨b, i, none⟩ (.int .u8 (x % 256))) ∧ (w.setCell ⟨b, i, none⟩ (.int .u8 (x % 256))).heap[b]? = some (.cells (bts (l.set i (u8I x))).toArray 35 (0, 0)) := by
  refine ⟨store_1 h i (by rw [List.size_toArray, bts_length]; exact hi) rfl, ?_⟩
  rw [u8I_int]
  exact blk_set_u8 h i (u8I_lt x)
set_option maxRecDepth 100000 in
theorem key_spec (k : Int) (w : World) : Calls Tryz.prog 25 #[.int .i64 k] w fun e w' => e = .returned (arr (keyB k)) ∧ Upd [] w w' := by
  obtain ⟨wA, hwA⟩ : ∃ wA, wA = (w.alloc (.cells #[.int .u8 0, .int .u8 0, .int .u8 0, .int .u8 0, .int .u8 0, .int .u8 0, .int .u8 0, .int .u8 0, .int .u8 0, .int .u8 0, .int .u8 0, .int .u8 0, .int .u8 0, .int .u8 0, .int .u8 0, .int .u8 0, .int .u8 0, .int .u8 0, .int .u8 0, .int .u8 0, .int .u8 0, .int .u8 0, .int .u8 0, .int .u8 0, .int .u8 0, .int .u8 0, .int .u8 0, .int .u8 0, .int .u8 0, .int .u8 0, .int .u8 0, .int .u8 0] 35)).alloc (.cells #[.int .u8 0, .int .u8 0, .int .u8 0, .int .u8 0, .int .u8 0, .int .u8 0, .int .u8 0, .int .u8 0, .int .u8 0, .int .u8 0, .int .u8 0, .int .u8 0, .int .u8 0, .int .u8 0, .int .u8 0, .int .u8 0, .int .u8 0, .int .u8 0, .int .u8 0, .int .u8 0, .int .u8 0, .int .u8 0, .int .u8 0, .int .u8 0, .int .u8 0, .int .u8 0, .int .u8 0, .int .u8 0, .int .u8 0, .int .u8 0, .int .u8 0, .int .u8 0] 35) := ⟨_, rfl⟩
  obtain ⟨b2, hb2⟩ : ∃ b, b = w.heap.size := ⟨_, rfl⟩
  obtain ⟨b3, hb3⟩ : ∃ b, b = w.heap.size + 1 := ⟨_, rfl⟩
  have hne : b2 ≠ b3 := by omega
  have h2 : wA.heap[b2]? = some (.cells (bts z32).toArray 35 (0, 0)) := by rw [hwA, hb2, blk_alloc_ne (by simp)]; exact blk_alloc _
  have h3 : wA.heap[b3]? = some (.cells (bts z32).toArray 35 (0, 0)) := by rw [hwA, hb3, z32_lit]; have := blk_alloc (w := w.alloc (.cells (bts z32).toArray 35)) (.cells (bts z32).toArray 35); simpa using this
  have s1 := key_set h3 0 (by rw [z32_length]; omega) (wrap64 (Int.tmod k 7 * 41))
  have s2 := key_set s1.2 1 (by rw [List.length_set, z32_length]; omega) (k / 256)
  have s3 := key_set s2.2 31 (by rw [List.length_set, List.length_set, z32_length]; omega) k
  obtain ⟨w1, hw1⟩ : ∃ w1, w1 = wA.setCell ⟨b3, 0, none⟩ (.int .u8 (wrap64 (Int.tmod k 7 * 41) % 256)) := ⟨_, rfl⟩
  rw [← hw1] at s1 s2 s3
  obtain ⟨wB, hwB⟩ : ∃ w2, w2 = w1.setCell ⟨b3, 1, none⟩ (.int .u8 (k / 256 % 256)) := ⟨_, rfl⟩
  rw [← hwB] at s2 s3
  obtain ⟨wC, hwC⟩ : ∃ w3, w3 = wB.setCell ⟨b3, 31, none⟩ (.int .u8 (k % 256)) := ⟨_, rfl⟩
  rw [← hwC] at s3
  have u1 : Upd [b3] wA w1 := by rw [hw1]; exact (Upd.refl _ _).set _ (.inl (by simp))
  have u2 : Upd [b3] wA wB := by rw [hwB]; exact u1.set _ (.inl (by simp))
  have u3 : Upd [b3] wA wC := by rw [hwC]; exact u2.set _ (.inl (by simp))
  have h2C := (u3.block _ (blk_lt h2) (by simpa using hne)).trans h2
  have l3 := run_cells_blk (n := 32) s3.2 (by rw [bts_length]; exact keyB_length k)
  have s4 := store_blk h2C (l := bts (keyB k)) (by rw [List.size_toArray, bts_length, bts_length, keyB_length, z32_length]) (bts_one _)
  have r1 := s1.1
  have r2 := s2.1
  have r3 := s3.1
  have HU : Hid (Upd [] w (wC.setRow b2 (bts (keyB k)).toArray)) := by
    show Upd _ _ _
    have a1 : Upd [] w wA := by rw [hwA]; exact ((Upd.refl _ _).alloc _).alloc _
    have a2 : Upd [b2] wC (wC.setRow b2 (bts (keyB k)).toArray) := upd_row (Upd.refl _ _) _ (.inl (by simp))
    exact (a1.late u3 (fun i hi => .inr (by simp at hi; omega))).late a2 (fun i hi => .inr (by simp at hi; omega))
  have H2C := Lib.hid h2C
  have HW := Lib.hid hwA
  have HB := Lib.hid (And.intro hb2 hb3)
  have rr := @results_cell_row Tryz.prog
  rw [hwA, hb3] at r1
  rw [hb3] at r2 r3 l3
  rw [hb2] at s4
  have hik : (Tryz.prog.info? 35).map (·.size) = some (bts (keyB k)).toArray.size := by rw [List.size_toArray, bts_length, keyB_length]; exact infoID
  clear hwA hb3 h2 h3 s1 s2 s3 hw1 hwB hwC u1 u2 u3 h2C hne rr HW HB
  have HB2 := Lib.hid hb2
  have el : keyB k = ((z32.set 0 (u8I (wrap64 (Int.tmod k 7 * 41)))).set 1 (u8I (k / 256))).set 31 (u8I k) := rfl
  rw [← el] at l3
  clear el hb2
  go_enter Tryz.func25, Tryz.ntmps25
  go_wp2_with fail
  have hb2 := HB2.out
  rw [← hb2]
  refine bodyPost_ret (results_cell_row (p := 2) (ty := 35) ?_ _ _ b2 _ _ _ _ ?_ (setRow_heap _ _ _ _ _ _ H2C.out) Tryz.underlying35 rfl hik) ?_ ?_
  · rfl
  · rfl
  · rfl
  exact ⟨rfl, HU.out⟩

end Go.Proofs.YtceakcejchbbjaaGreat
end

section
namespace Go.Proofs.YtceakcejchbbjaaGreat
open Go.RowKit

/-- A tree; nothing else is taken. -/
structure TreeOn (C : Nat → Sec) (h r : Nat) (l : List Pair9) (S : List Nat) : Prop where
  at_ : TreeAt C r l S
  nd : S.Nodup
  low : ∀ s, s ∈ S → 4 ≤ s ∧ s < h
  T : ∀ i, bitB (fixB (C 1)) i = (decide (i < 4) || decide (i ∈ S))
theorem TreeOn.sgT {g : Sg} {M : Nat → Option Sec} {h r : Nat} {l : List Pair9} {S : List Nat} (ht : TreeOn (g.cur M) h r l S) (i : Nat) : g.T M i = (decide (i < 4) || decide (i ∈ S)) := ht.T i
theorem TreeOn.held {g : Sg} {M : Nat → Option Sec} {r : Nat} {l : List Pair9} {S : List Nat} (ht : TreeOn (g.cur M) g.h r l S) : Held9 g M S :=
  ⟨ht.nd, ht.low, fun s hs => by rw [ht.sgT]; simp [hs]⟩
theorem leftN_four : ∀ h, leftN (fun i => decide (i < 4)) h = h - 4
  | 0 => rfl
  | h + 1 => by
    unfold leftN
    rw [leftN_four h]
    by_cases e : h < 4
    · rw [decide_eq_true e]; simp; omega
    · rw [decide_eq_false e]; simp; omega
theorem leftN_list {h : Nat} : ∀ {S : List Nat}, S.Nodup → (∀ s, s ∈ S → 4 ≤ s ∧ s < h) → leftN (fun i => decide (i < 4) || decide (i ∈ S)) h + S.length = h - 4
  | [], _, _ => by
    have : (fun i => decide (i < 4) || decide (i ∈ ([] : List Nat))) = fun i => decide (i < 4) := by funext i; simp
    rw [this, leftN_four]; simp
  | s :: S, hn, hl => by
    have ih := leftN_list (h := h) (List.nodup_cons.1 hn).2 (fun x hx => hl x (List.mem_cons_of_mem _ hx))
    have hs := hl s (by simp)
    have := leftN_take (T := fun i => decide (i < 4) || decide (i ∈ S)) (T' := fun i => decide (i < 4) || decide (i ∈ s :: S)) (s := s) (fun i => by
      by_cases e : i = s
      · subst e; simp
      · simp [e]) (by simp [(List.nodup_cons.1 hn).1]; omega) h
    rw [if_pos hs.2] at this
    simp only [List.length_cons]
    omega
theorem TreeOn.left {g : Sg} {M : Nat → Option Sec} {r : Nat} {l : List Pair9} {S : List Nat} (ht : TreeOn (g.cur M) g.h r l S) : leftN (g.T M) g.h + S.length = g.h - 4 := by
  have : g.T M = fun i => decide (i < 4) || decide (i ∈ S) := funext ht.sgT
  rw [this]
  exact leftN_list ht.nd ht.low
theorem TreeOn.put {g : Sg} {M M' : Nat → Option Sec} {r r' : Nat} {l : List Pair9} {S : List Nat} {key v : Bs} {m : Nat} (ht : TreeOn (g.cur M) g.h r l S) (hp : PutTop g M M' r r' l S key v m) : ∃ S', TreeOn (g.cur M') g.h r' (insL l key v) S' ∧ Grown g M M' S S' 4 m := by
  obtain ⟨S', h1, _, h3, _⟩ := hp
  have hh := h3.held ht.held
  refine ⟨S', ⟨h1, hh.nd, hh.low, fun i => ?_⟩, h3⟩
  show g.T M' i = _
  rw [h3.T, ht.sgT]
  by_cases e : i ∈ S
  · simp [e, h3.sub i e]
  · simp [e]
theorem keys_perm {M : Nat → Option Sec} {h : Nat} {L : List Nat} (ho : MOk M h) (hL : ∀ i, (M i).isSome = true → i ∈ L) : cntM M h ≤ L.length := by
  unfold cntM
  exact (keysM_nodup M h).length_le_of_subset fun i hi => hL i ((mem_keysM ho).1 hi)
/-- Which sectors are touched at most. -/
theorem Grown.some {g : Sg} {M M' : Nat → Option Sec} {S S' : List Nat} {n m : Nat} (h : Grown g M M' S S' n m) (hM : ∀ i, (M i).isSome = true → i = 1 ∨ i ∈ S) : ∀ i, (M' i).isSome = true → i = 1 ∨ i ∈ S' := fun i hi => by
  by_cases e1 : i = 1
  · exact .inl e1
  · by_cases e2 : i ∈ S'
    · exact .inr e2
    · rw [h.keep i e2 e1] at hi
      exact .inr (((hM i hi).resolve_left e1) |> h.sub i)
theorem cnt_of_some {M : Nat → Option Sec} {h : Nat} {S : List Nat} (ho : MOk M h) (hM : ∀ i, (M i).isSome = true → i = 1 ∨ i ∈ S) : cntM M h + c1M M ≤ S.length + 2 := by
  have := keys_perm (L := 1 :: S) ho (fun i hi => by rcases hM i hi with q | q <;> simp [q])
  have h2 : c1M M ≤ 1 := by unfold c1M; split <;> omega
  simp only [List.length_cons] at this
  omega
def valB (k : Int) : Bs := z16.set 0 (u8I k)
theorem valB_length (k : Int) : (valB k).length = 16 := by unfold valB; rw [List.length_set]; rfl
/-- The tree's pairs, behind these keys. -/
def treeL (l : List Pair9) (ks : List Int) : List Pair9 := ks.foldl (fun l k => insL l (keyB k) (valB k)) l
theorem treeL_snoc (l : List Pair9) (ks : List Int) (k : Int) : treeL l (ks ++ [k]) = insL (treeL l ks) (keyB k) (valB k) := by unfold treeL; rw [List.foldl_append]; rfl
theorem insL_len_le (l : List Pair9) (key v : Bs) : (insL l key v).length ≤ l.length + 1 := by rw [insL_length]; split <;> omega
theorem treeL_len : ∀ (ks : List Int) (l : List Pair9), (treeL l ks).length ≤ l.length + ks.length
  | [], l => by simp [treeL]
  | k :: ks, l => by
    have := treeL_len ks (insL l (keyB k) (valB k))
    have h2 := insL_len_le l (keyB k) (valB k)
    show (treeL (insL l (keyB k) (valB k)) ks).length ≤ _
    simp only [List.length_cons]; omega
theorem sorted_treeL : ∀ (ks : List Int) (l : List Pair9), (l.map (·.1)).Pairwise (fun x y => ltB x y = true) → ((treeL l ks).map (·.1)).Pairwise (fun x y => ltB x y = true)
  | [], _, h => h
  | _ :: ks, _, h => sorted_treeL ks _ (insL_sorted h)
theorem lookL_some_ins {l : List Pair9} (hs : (l.map (·.1)).Pairwise (fun x y => ltB x y = true)) {key v k : Bs} (h : lookL l k ≠ none) : lookL (insL l key v) k ≠ none := by
  by_cases e : k = key
  · subst e; rw [lookL_ins]; simp
  · rw [lookL_ne e l hs]; exact h
theorem treeL_keep : ∀ (ks : List Int) (l : List Pair9), (l.map (·.1)).Pairwise (fun x y => ltB x y = true) → ∀ {k : Bs}, lookL l k ≠ none → lookL (treeL l ks) k ≠ none
  | [], _, _, _, h => h
  | _ :: ks, _, hs, _, h => treeL_keep ks _ (insL_sorted hs) (lookL_some_ins hs h)
theorem treeL_has : ∀ (ks : List Int) (l : List Pair9), (l.map (·.1)).Pairwise (fun x y => ltB x y = true) → ∀ {k : Int}, k ∈ ks → lookL (treeL l ks) (keyB k) ≠ none
  | [], _, _, _, h => by simp at h
  | k0 :: ks, l, hs, k, h => by
    rcases List.mem_cons.1 h with rfl | h
    · exact treeL_keep ks _ (insL_sorted hs) (by rw [lookL_ins]; simp)
    · exact treeL_has ks _ (insL_sorted hs) h

end Go.Proofs.YtceakcejchbbjaaGreat
end
