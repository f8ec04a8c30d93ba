/-
  sha's mix, walked.
-/
import Derived.Test.YtceakcejchbbjaaGreatShC
import Derived.Test.YtceakcejchbbjaaGreatOrdI
set_option linter.unusedSimpArgs false
set_option linter.unusedVariables false
namespace Go.Proofs.YtceakcejchbbjaaGreat
open Go.RowKit Go.MapKept Go.ChangeMaps
attribute [-go_sem] loadCells storeCells Instr.build

theorem rot_quiet (x k s p q : Int) (hk : (k, s, p, q) ∈ rotTab) (wr : World) (n : Nat) :
    Calls Tryz.prog 220 #[.int .u32 x, .int .i64 k] (wr.drewN n) fun e w'' => e = .returned (.int .u32 (rotw p q x)) ∧ ∃ n, w'' = wr.drewN n :=
  (rot_spec x k s p q hk _).mono fun _ _ ⟨a, b⟩ => ⟨a, n, b.symm⟩
/-- A hash's cells. -/
def hcl (l : List Int) (wait : List UInt8) (n : Nat) : List Value := .bool true :: (wvs l ++ (bts wait ++ [.int .u64 (n : Int)]))
def hsC (H : Hs) : List Value := hcl H.st.l H.wait H.n
theorem hcl_set (l : List Int) (wait : List UInt8) (n : Nat) {q : Nat} (hq : q < l.length) (x : Int) : (hcl l wait n).set (1 + q) (.int .u32 x) = hcl (l.set q x) wait n := by
  unfold hcl
  rw [show 1 + q = q + 1 by omega, List.set_cons_succ, List.set_append_left _ _ (by rw [wvs_length]; exact hq), wvs_set]
theorem hcl_store {w : World} {b : Nat} {l : List Int} {wait : List UInt8} {n : Nat} (h : w.heap[b]? = some (.cells (hcl l wait n).toArray 284 (0, 0))) {q : Nat} (hq : q < l.length) (x : Int) :
    (w.setCell ⟨b, 1 + q, none⟩ (.int .u32 x)).heap[b]? = some (.cells (hcl (l.set q x) wait n).toArray 284 (0, 0)) := by
  rw [blk_set h, ← hcl_set l wait n hq x, List.setIfInBounds_toArray]
theorem hsC_wait {w : World} {b : Nat} {H : Hs} (h : w.heap[b]? = some (.cells (hsC H).toArray 284 (0, 0))) : w.rangeAt b 9 (bts H.wait) := fun j u hj => by
  rw [blk_cell h, List.getElem?_toArray]
  have hlt := (List.getElem?_eq_some_iff.1 hj).1
  unfold hsC hcl
  rw [show 9 + j = (j + 8) + 1 by omega, List.getElem?_cons_succ, List.getElem?_append_right (by rw [wvs_length]; simp [W8.l])]
  rw [show j + 8 - (wvs H.st.l).length = j by rw [wvs_length]; simp [W8.l], List.getElem?_append_left hlt]
  exact hj
theorem hsC_st {w : World} {b : Nat} {H : Hs} (h : w.heap[b]? = some (.cells (hsC H).toArray 284 (0, 0))) : (loadCells ⟨b, 1, none⟩ 8).run Tryz.prog w = .ok (wvs H.st.l).toArray w := by
  have := run_loadCells_list (P := Tryz.prog) w ⟨b, 1, none⟩ (wvs H.st.l) (fun j v hv => by
    have hlt := (List.getElem?_eq_some_iff.1 hv).1
    rw [Addr.add_mid, blk_cell h, List.getElem?_toArray]
    unfold hsC hcl
    rw [show 1 + j = j + 1 by omega, List.getElem?_cons_succ, List.getElem?_append_left hlt]
    exact hv)
  rwa [wvs_length] at this
theorem z8_lit : (#[.int .u32 0, .int .u32 0, .int .u32 0, .int .u32 0, .int .u32 0, .int .u32 0, .int .u32 0, .int .u32 0] : Array Value) = (wvs (List.replicate 8 0)).toArray := by rfl
theorem build8 : ∀ (x0 x1 x2 x3 x4 x5 x6 x7 : Int) (w : World), (Instr.build 281 #[(0, .int .u32 x0), (1, .int .u32 x1), (2, .int .u32 x2), (3, .int .u32 x3), (4, .int .u32 x4), (5, .int .u32 x5), (6, .int .u32 x6), (7, .int .u32 x7)]).run Tryz.prog w = .ok (.agg #[.int .u32 x0, .int .u32 x1, .int .u32 x2, .int .u32 x3, .int .u32 x4, .int .u32 x5, .int .u32 x6, .int .u32 x7]) w := fun x0 x1 x2 x3 x4 x5 x6 x7 w => run_build w _ _ _ (by kernel_rfl)
/-- What stands in a round of mix. -/
structure MixW (w1 : World) (b2 b3 b4 : Nat) (ks ws : List Int) (S : W8) (w : World) : Prop where
  c4 : w.heap[b4]? = some (.cells (wvs S.l).toArray 281 (0, 0))
  c2 : w.heap[b2]? = some (.cells (wvs ks).toArray 293 (0, 0))
  c3 : w.heap[b3]? = some (.cells (wvs ws).toArray 293 (0, 0))
  upd : Upd [b4] w1 w
theorem MixW.drewN {w1 : World} {b2 b3 b4 : Nat} {ks ws : List Int} {S : W8} {w : World} (h : MixW w1 b2 b3 b4 ks ws S w) (n : Nat) : MixW w1 b2 b3 b4 ks ws S (w.drewN n) := ⟨h.c4, h.c2, h.c3, h.upd.drewN n⟩
def mixV (b : Nat) (st ws ks : List Int) : List (Nat × Nat × Value) :=
  [(0, 11, .agg (wvs ks).toArray), (1, 12, .pointer (some ⟨b, 0, none⟩)), (2, 13, .pointer (some ⟨b, 0, none⟩)), (3, 14, .pointer (some ⟨b, 9, none⟩)), (4, 15, .agg (wvs ws).toArray),
   (5, 16, .pointer (some ⟨b, 0, none⟩)), (6, 17, .pointer (some ⟨b, 0, none⟩)), (7, 18, .pointer (some ⟨b, 1, none⟩)), (8, 19, .agg (wvs st).toArray)]
def mixB (st ws ks z : List Int) : List BlkT :=
  [⟨9, 2, 12, 293, (wvs z).toArray, (wvs ks).toArray⟩, ⟨10, 3, 13, 293, (wvs z).toArray, (wvs ws).toArray⟩,
   ⟨11, 4, 14, 281, (wvs (List.replicate 8 0)).toArray, (wvs st).toArray⟩]
set_option maxRecDepth 100000 in
set_option maxHeartbeats 4000000 in
theorem mix_spec {w : World} {b : Nat} {H : Hs} (hb : w.heap[b]? = some (.cells (hsC H).toArray 284 (0, 0))) (hw : H.wait.length = 64) :
    Calls Tryz.prog 206 #[.pointer (some ⟨b, 0, none⟩)] w fun e w' => e = .returned (.tuple #[]) ∧
      w'.heap[b]? = some (.cells (hsC ⟨mixS H.st H.wait, H.wait, H.n⟩).toArray 284 (0, 0)) ∧ Upd [b] w w' := by
  obtain ⟨ws, hws⟩ : ∃ ws, extW H.wait 48 = ws := ⟨_, rfl⟩
  obtain ⟨ks, hks⟩ : ∃ ks, shaK = ks := ⟨_, rfl⟩
  obtain ⟨z, hz⟩ : ∃ z, fstW [] 0 = z := ⟨_, rfl⟩
  have hwl : ws.length = 64 := by rw [← hws]; exact extW_length _ _
  have hkl : ks.length = 64 := by rw [← hks]; rfl
  have hzl : z.length = 64 := by rw [← hz]; exact fstW_length _ _
  have hws64 : (wvs ws).length = 64 := by rw [wvs_length]; exact hwl
  have hks64 : (wvs ks).length = 64 := by rw [wvs_length]; exact hkl
  have HSP : ∀ w' : World, w'.heap[b]? = some (.cells (hsC H).toArray 284 (0, 0)) → Calls Tryz.prog 219 #[.pointer (some ⟨b, 9, none⟩)] w' fun e w2 => e = .returned (.agg (wvs ws).toArray) ∧ Upd [] w' w2 := fun w' hb' => by rw [← hws]; exact spread_spec (hsC_wait hb') hw
  have HPR : ∀ w' : World, Calls Tryz.prog 218 #[] w' fun e w2 => e = .returned (.agg (wvs ks).toArray) ∧ Upd [] w' w2 := fun w' => by rw [← hks]; exact primes_spec w'
  have HWS := Lib.hid hws
  have HKS := Lib.hid hks
  have HZ := Lib.hid hz
  have HB := Lib.hid hb
  clear hb hws hks hz
  go_enter Tryz.func206, Tryz.ntmps206
  go_wp2_with fail
  refine wp_region_reg (mixV b H.st.l ws ks) (mixB H.st.l ws ks z) (by kernel_rfl) (by kernel_rfl) 127 rfl rfl ?_ ?_
  · intro i o L tmps w' ho hI hL hd
    have hi : i < 15 := (Array.getElem?_eq_some_iff.1 ho).1
    have hb' : w'.heap[b]? = some (.cells (hsC H).toArray 284 (0, 0)) := (hI.upd.block _ (blk_lt HB.out) (by simp)).trans HB.out
    have t0 : tmps[0]?.getD undef = .pointer (some ⟨b, 0, none⟩) := (hI.old 0 (by rfl)).trans rfl
    obtain rfl | rfl | rfl | rfl | rfl | rfl | rfl | rfl | rfl | rfl | rfl | rfl | rfl | rfl | rfl : i = 0 ∨ i = 1 ∨ i = 2 ∨ i = 3 ∨ i = 4 ∨ i = 5 ∨ i = 6 ∨ i = 7 ∨ i = 8 ∨ i = 9 ∨ i = 10 ∨ i = 11 ∨ i = 12 ∨ i = 13 ∨ i = 14 := by omega
    · cases ho
      refine wpOp_step rfl (fun K hK => ?_)
      go_simp
      go_at_call 218
      refine (HPR _).mono ?_
      rintro e w2 ⟨rfl, hu⟩
      exact hK _ _ (hI.val_step 0 11 _ (by decide) hu (by simp [mixV]) (by kernel_rfl))
    · cases ho
      refine wpOp_step rfl (fun K hK => ?_)
      go_simp
      exact hK _ _ (hI.val_step 1 12 _ (by decide) (Upd.refl _ _) (by simp [mixV]) (by kernel_rfl))
    · cases ho
      have t12 : tmps[12]?.getD undef = .pointer (some ⟨b, 0, none⟩) := hI.val (1, 12, _) (by simp [mixV]) (hd ⟨1, .data⟩ (by simp) rfl)
      refine wpOp_step rfl (fun K hK => ?_)
      go_simp
      exact hK _ _ (hI.val_step 2 13 _ (by decide) (Upd.refl _ _) (by simp [mixV]) (by kernel_rfl))
    · cases ho
      have t13 : tmps[13]?.getD undef = .pointer (some ⟨b, 0, none⟩) := hI.val (2, 13, _) (by simp [mixV]) (hd ⟨2, .data⟩ (by simp) rfl)
      refine wpOp_step rfl (fun K hK => ?_)
      go_simp
      exact hK _ _ (hI.val_step 3 14 _ (by decide) (Upd.refl _ _) (by simp [mixV]) (by kernel_rfl))
    · cases ho
      have t14 : tmps[14]?.getD undef = .pointer (some ⟨b, 9, none⟩) := hI.val (3, 14, _) (by simp [mixV]) (hd ⟨3, .data⟩ (by simp) rfl)
      refine wpOp_step rfl (fun K hK => ?_)
      go_simp
      go_at_call 219
      refine (HSP _ hb').mono ?_
      rintro e w2 ⟨rfl, hu⟩
      exact hK _ _ (hI.val_step 4 15 _ (by decide) hu (by simp [mixV]) (by kernel_rfl))
    · cases ho
      refine wpOp_step rfl (fun K hK => ?_)
      go_simp
      exact hK _ _ (hI.val_step 5 16 _ (by decide) (Upd.refl _ _) (by simp [mixV]) (by kernel_rfl))
    · cases ho
      have t16 : tmps[16]?.getD undef = .pointer (some ⟨b, 0, none⟩) := hI.val (5, 16, _) (by simp [mixV]) (hd ⟨5, .data⟩ (by simp) rfl)
      refine wpOp_step rfl (fun K hK => ?_)
      go_simp
      exact hK _ _ (hI.val_step 6 17 _ (by decide) (Upd.refl _ _) (by simp [mixV]) (by kernel_rfl))
    · cases ho
      have t17 : tmps[17]?.getD undef = .pointer (some ⟨b, 0, none⟩) := hI.val (6, 17, _) (by simp [mixV]) (hd ⟨6, .data⟩ (by simp) rfl)
      refine wpOp_step rfl (fun K hK => ?_)
      go_simp
      exact hK _ _ (hI.val_step 7 18 _ (by decide) (Upd.refl _ _) (by simp [mixV]) (by kernel_rfl))
    · cases ho
      have t18 : tmps[18]?.getD undef = .pointer (some ⟨b, 1, none⟩) := hI.val (7, 18, _) (by simp [mixV]) (hd ⟨7, .data⟩ (by simp) rfl)
      have ld := hsC_st hb'
      refine wpOp_step rfl (fun K hK => ?_)
      go_simp
      exact hK _ _ (hI.val_step 8 19 _ (by decide) (Upd.refl _ _) (by simp [mixV]) (by kernel_rfl))
    · cases ho
      refine wpOp_step rfl (fun K hK => ?_)
      go_simp
      rw [z64_lit, HZ.out]
      exact hK _ _ (hI.alloc_step 9 2 _ _ (by decide) hL (by simp [mixB]) (by kernel_rfl))
    · cases ho
      refine wpOp_step rfl (fun K hK => ?_)
      go_simp
      rw [z64_lit, HZ.out]
      exact hK _ _ (hI.alloc_step 10 3 _ _ (by decide) hL (by simp [mixB]) (by kernel_rfl))
    · cases ho
      refine wpOp_step rfl (fun K hK => ?_)
      go_simp
      rw [z8_lit]
      exact hK _ _ (hI.alloc_step 11 4 _ _ (by decide) hL (by simp [mixB]) (by kernel_rfl))
    · cases ho
      have tl : L 9 = true := hd ⟨9, .data⟩ (by simp) rfl
      obtain ⟨bk, e1, e2, e3⟩ := hI.blk ⟨9, 2, 12, 293, (wvs z).toArray, (wvs ks).toArray⟩ (by simp [mixB]) tl
      rw [show (if L (BlkT.st ⟨9, 2, 12, 293, (wvs z).toArray, (wvs ks).toArray⟩) = true then BlkT.fin ⟨9, 2, 12, 293, (wvs z).toArray, (wvs ks).toArray⟩ else BlkT.zero ⟨9, 2, 12, 293, (wvs z).toArray, (wvs ks).toArray⟩) = (wvs z).toArray from by rw [if_neg (by rw [hL]; simp)]] at e3
      have ts : tmps[2]?.getD undef = .pointer (some ⟨bk, 0, none⟩) := e1
      have tv : tmps[11]?.getD undef = .agg (wvs ks).toArray := hI.val (0, 11, _) (by simp [mixV]) (hd ⟨0, .data⟩ (by simp) rfl)
      have st := store_blkW e3 (l := wvs ks) (by rw [List.size_toArray, wvs_length, wvs_length]; rw [hkl, hzl]) (wvs_one _)
      refine wpOp_step rfl (fun K hK => ?_)
      go_simp
      exact hK _ _ (hI.store_step (t := ⟨9, 2, 12, 293, (wvs z).toArray, (wvs ks).toArray⟩) (by simp [mixB]) e1 tl e2 (fun u hu hs => by simp [mixB] at hu; rcases hu with rfl | rfl | rfl <;> first | rfl | (simp at hs)) (by kernel_rfl))
    · cases ho
      have tl : L 10 = true := hd ⟨10, .data⟩ (by simp) rfl
      obtain ⟨bk, e1, e2, e3⟩ := hI.blk ⟨10, 3, 13, 293, (wvs z).toArray, (wvs ws).toArray⟩ (by simp [mixB]) tl
      rw [show (if L (BlkT.st ⟨10, 3, 13, 293, (wvs z).toArray, (wvs ws).toArray⟩) = true then BlkT.fin ⟨10, 3, 13, 293, (wvs z).toArray, (wvs ws).toArray⟩ else BlkT.zero ⟨10, 3, 13, 293, (wvs z).toArray, (wvs ws).toArray⟩) = (wvs z).toArray from by rw [if_neg (by rw [hL]; simp)]] at e3
      have ts : tmps[3]?.getD undef = .pointer (some ⟨bk, 0, none⟩) := e1
      have tv : tmps[15]?.getD undef = .agg (wvs ws).toArray := hI.val (4, 15, _) (by simp [mixV]) (hd ⟨4, .data⟩ (by simp) rfl)
      have st := store_blkW e3 (l := wvs ws) (by rw [List.size_toArray, wvs_length, wvs_length]; rw [hzl, hwl]) (wvs_one _)
      refine wpOp_step rfl (fun K hK => ?_)
      go_simp
      exact hK _ _ (hI.store_step (t := ⟨10, 3, 13, 293, (wvs z).toArray, (wvs ws).toArray⟩) (by simp [mixB]) e1 tl e2 (fun u hu hs => by simp [mixB] at hu; rcases hu with rfl | rfl | rfl <;> first | rfl | (simp at hs)) (by kernel_rfl))
    · cases ho
      have tl : L 11 = true := hd ⟨11, .data⟩ (by simp) rfl
      obtain ⟨bk, e1, e2, e3⟩ := hI.blk ⟨11, 4, 14, 281, (wvs (List.replicate 8 0)).toArray, (wvs H.st.l).toArray⟩ (by simp [mixB]) tl
      rw [show (if L (BlkT.st ⟨11, 4, 14, 281, (wvs (List.replicate 8 0)).toArray, (wvs H.st.l).toArray⟩) = true then BlkT.fin ⟨11, 4, 14, 281, (wvs (List.replicate 8 0)).toArray, (wvs H.st.l).toArray⟩ else BlkT.zero ⟨11, 4, 14, 281, (wvs (List.replicate 8 0)).toArray, (wvs H.st.l).toArray⟩) = (wvs (List.replicate 8 0)).toArray from by rw [if_neg (by rw [hL]; simp)]] at e3
      have ts : tmps[4]?.getD undef = .pointer (some ⟨bk, 0, none⟩) := e1
      have tv : tmps[19]?.getD undef = .agg (wvs H.st.l).toArray := hI.val (8, 19, _) (by simp [mixV]) (hd ⟨8, .data⟩ (by simp) rfl)
      have st := store_blkW e3 (l := wvs H.st.l) (by rw [List.size_toArray, wvs_length, wvs_length]; rfl) (wvs_one _)
      refine wpOp_step rfl (fun K hK => ?_)
      go_simp
      exact hK _ _ (hI.store_step (t := ⟨11, 4, 14, 281, (wvs (List.replicate 8 0)).toArray, (wvs H.st.l).toArray⟩) (by simp [mixB]) e1 tl e2 (fun u hu hs => by simp [mixB] at hu; rcases hu with rfl | rfl | rfl <;> first | rfl | (simp at hs)) (by kernel_rfl))
  · intro L tmps w1 hI hall
    obtain ⟨b2, e2, f2, h2⟩ := hI.blk ⟨9, 2, 12, 293, (wvs z).toArray, (wvs ks).toArray⟩ (by simp [mixB]) (hall 9 (by decide))
    obtain ⟨b3, e3, f3, h3⟩ := hI.blk ⟨10, 3, 13, 293, (wvs z).toArray, (wvs ws).toArray⟩ (by simp [mixB]) (hall 10 (by decide))
    obtain ⟨b4, e4, f4, h4⟩ := hI.blk ⟨11, 4, 14, 281, (wvs (List.replicate 8 0)).toArray, (wvs H.st.l).toArray⟩ (by simp [mixB]) (hall 11 (by decide))
    rw [if_pos (hall 12 (by decide))] at h2
    rw [if_pos (hall 13 (by decide))] at h3
    rw [if_pos (hall 14 (by decide))] at h4
    dsimp only at h2 h3 h4 f2 f3 f4 e2 e3 e4
    have hu := hI.upd
    have hat := hI.tmps_eq rfl [(2, .pointer (some ⟨b2, 0, none⟩)), (3, .pointer (some ⟨b3, 0, none⟩)), (4, .pointer (some ⟨b4, 0, none⟩)), (11, .agg (wvs ks).toArray), (12, .pointer (some ⟨b, 0, none⟩)), (13, .pointer (some ⟨b, 0, none⟩)), (14, .pointer (some ⟨b, 9, none⟩)), (15, .agg (wvs ws).toArray),
        (16, .pointer (some ⟨b, 0, none⟩)), (17, .pointer (some ⟨b, 0, none⟩)), (18, .pointer (some ⟨b, 1, none⟩)), (19, .agg (wvs H.st.l).toArray)] (fun j hj => by simp [okO, mixV, mixB] at hj ⊢; simp [hj]) (by
      intro p hp
      simp only [List.mem_cons, List.not_mem_nil, or_false] at hp
      rcases hp with rfl | rfl | rfl | rfl | rfl | rfl | rfl | rfl | rfl | rfl | rfl | rfl
      · exact e2
      · exact e3
      · exact e4
      · exact hI.val (0, 11, _) (by simp [mixV]) (hall 0 (by decide))
      · exact hI.val (1, 12, _) (by simp [mixV]) (hall 1 (by decide))
      · exact hI.val (2, 13, _) (by simp [mixV]) (hall 2 (by decide))
      · exact hI.val (3, 14, _) (by simp [mixV]) (hall 3 (by decide))
      · exact hI.val (4, 15, _) (by simp [mixV]) (hall 4 (by decide))
      · exact hI.val (5, 16, _) (by simp [mixV]) (hall 5 (by decide))
      · exact hI.val (6, 17, _) (by simp [mixV]) (hall 6 (by decide))
      · exact hI.val (7, 18, _) (by simp [mixV]) (hall 7 (by decide))
      · exact hI.val (8, 19, _) (by simp [mixV]) (hall 8 (by decide)))
    dsimp only at hat
    simp only [sets, Array.replicate_succ, Array.replicate_zero, List.push_toArray, List.append_toArray, List.nil_append, List.cons_append, List.setIfInBounds_toArray, List.set_cons_zero, List.set_cons_succ] at hat
    have H2 := Lib.hid h2
    have H3 := Lib.hid h3
    have H4 := Lib.hid h4
    have HU := Lib.hid hu
    have HF : Hid (w.heap.size ≤ b2 ∧ w.heap.size ≤ b3 ∧ w.heap.size ≤ b4) := Lib.hid ⟨f2, f3, f4⟩
    clear h2 h3 h4 hu f2 f3 f4 e2 e3 e4 hI hall
    rw [hat]
    clear hat tmps
    have hne2 : b2 ≠ b4 := by
      rintro rfl
      have := H2.out; rw [H4.out] at this; simp at this
    have hne3 : b3 ≠ b4 := by
      rintro rfl
      have := H3.out; rw [H4.out] at this; simp at this
    have HNE : Hid (b2 ≠ b4 ∧ b3 ≠ b4) := Lib.hid ⟨hne2, hne3⟩
    clear hne2 hne3
    go_wp2_with fail
    go_loopw [20] (fun i wr => ∃ q : Nat, q ≤ 64 ∧ i = .int .i64 (q : Int) ∧ wr.heap[b4]? = some (.cells (wvs (rounds ws H.st q).l).toArray 281 (0, 0)) ∧ Upd [b4] w1 wr) (fun i _ => 64 - (intOf i).toNat)
    case atStart => exact ⟨0, by omega, rfl, H4.out, Upd.refl _ _⟩
    case round =>
      obtain ⟨q, hq, rfl, hc, hu⟩ := hrel
      rcases Nat.lt_or_ge q 64 with hlt | hge
      · have hq64 : decide ((q : Int) < 64) = true := decide_eq_true (by omega)
        obtain ⟨S, hS⟩ : ∃ S, rounds ws H.st q = S := ⟨_, rfl⟩
        rw [hS] at hc
        have HW : Hid (MixW w1 b2 b3 b4 ks ws S wr) := Lib.hid ⟨hc, (hu.block _ (blk_lt H2.out) (by simpa using HNE.out.1)).trans H2.out, (hu.block _ (blk_lt H3.out) (by simpa using HNE.out.2)).trans H3.out, hu⟩
        obtain ⟨kq0, hkq⟩ : ∃ k, ks.getD q 0 = k := ⟨_, rfl⟩
        obtain ⟨wq0, hwq⟩ : ∃ k, ws.getD q 0 = k := ⟨_, rfl⟩
        have hgk : (wvs ks)[q]? = some (.int .u32 kq0) := by rw [← hkq]; exact wvs_get _ (by omega)
        have hgw : (wvs ws)[q]? = some (.int .u32 wq0) := by rw [← hwq]; exact wvs_get _ (by omega)
        have gq : (0 : Int) ≤ q := by omega
        have kq : (q : Int) < 64 := by omega
        have HS := Lib.hid hS
        have HK := Lib.hid hkq
        have HQ := Lib.hid hwq
        have HLT := Lib.hid hlt
        clear hc hu hq hS hkq hwq hlt
        go_upto_region 4 with (fail)
        go_cut [6] (fun s6 wx => s6 = .int .u32 (rndUp S) ∧ MixW w1 b2 b3 b4 ks ws S wx)
        case first =>
          rename_i J K hJ hK
          have m4 : wr.cell? ⟨b4, 4, none⟩ = some (.int .u32 S.e) := by rw [blk_cell HW.out.c4]; rfl
          go_quiet ((go_at_call 220; first | (with_reducible exact rot_quiet _ (-6) 26 67108864 64 (by simp [rotTab]) _ _) | (with_reducible exact rot_quiet _ (-11) 21 2097152 2048 (by simp [rotTab]) _ _) | (with_reducible exact rot_quiet _ (-25) 7 128 33554432 (by simp [rotTab]) _ _)))
          simp only [show bits BinOp.xor IntKind.u32 (bits BinOp.xor IntKind.u32 (rotw 67108864 64 S.e) (rotw 2097152 2048 S.e)) (rotw 128 33554432 S.e) = rndUp S from by simp only [rndUp, xr]]
          refine hK _ _ (Met.intro (hJ _ _ ?_))
          repeat apply Exists.intro
          exact ⟨⟨rfl, HW.out.drewN _⟩, rfl⟩
        case rest =>
        rename World => wx
        obtain ⟨rfl, hW⟩ := hcut
        clear HW
        have HW := Lib.hid hW
        clear hW
        obtain ⟨U, hU⟩ : ∃ U, rndUp S = U := ⟨_, rfl⟩
        rw [hU]
        have HUU := Lib.hid hU
        clear hU
        go_upto_region 5 with (fail)
        go_cut [7] (fun s7 wx => s7 = .int .u32 (rndX kq0 wq0 S) ∧ MixW w1 b2 b3 b4 ks ws S wx)
        case first =>
          rename_i J K hJ hK
          have m4 : wx.cell? ⟨b4, 4, none⟩ = some (.int .u32 S.e) := by rw [blk_cell HW.out.c4]; rfl
          have m5 : wx.cell? ⟨b4, 5, none⟩ = some (.int .u32 S.f) := by rw [blk_cell HW.out.c4]; rfl
          have m6 : wx.cell? ⟨b4, 6, none⟩ = some (.int .u32 S.g) := by rw [blk_cell HW.out.c4]; rfl
          have m7 : wx.cell? ⟨b4, 7, none⟩ = some (.int .u32 S.h) := by rw [blk_cell HW.out.c4]; rfl
          have mk : wx.cell? ⟨b2, q, none⟩ = some (.int .u32 kq0) := by rw [blk_cell HW.out.c2, List.getElem?_toArray]; exact hgk
          have mw : wx.cell? ⟨b3, q, none⟩ = some (.int .u32 wq0) := by rw [blk_cell HW.out.c3, List.getElem?_toArray]; exact hgw
          go_quiet (fail)
          simp only [show ((S.h + U + bits BinOp.xor IntKind.u32 (bits BinOp.and IntKind.u32 S.e S.f) (bits BinOp.and IntKind.u32 (bits BinOp.xor IntKind.u32 (if IntKind.u32.signed = true then -1 else IntKind.u32.max) S.e) S.g) + kq0) % 4294967296 + wq0) % 4294967296 = rndX kq0 wq0 S from by simp only [rndX, xr, an, nt, HUU.out]]
          refine hK _ _ (Met.intro (hJ _ _ ?_))
          repeat apply Exists.intro
          exact ⟨⟨rfl, HW.out.drewN _⟩, rfl⟩
        case rest =>
        rename World => wy
        obtain ⟨rfl, hW⟩ := hcut
        clear HW
        have HW := Lib.hid hW
        clear hW
        obtain ⟨X, hX⟩ : ∃ X, rndX kq0 wq0 S = X := ⟨_, rfl⟩
        rw [hX]
        have HX := Lib.hid hX
        clear hX
        go_upto_region 6 with (fail)
        go_cut [8] (fun s8 wx => s8 = .int .u32 (rndDown S) ∧ MixW w1 b2 b3 b4 ks ws S wx)
        case first =>
          rename_i J K hJ hK
          have m0 : wy.cell? ⟨b4, 0, none⟩ = some (.int .u32 S.a) := by rw [blk_cell HW.out.c4]; rfl
          go_quiet ((go_at_call 220; first | (with_reducible exact rot_quiet _ (-2) 30 1073741824 4 (by simp [rotTab]) _ _) | (with_reducible exact rot_quiet _ (-13) 19 524288 8192 (by simp [rotTab]) _ _) | (with_reducible exact rot_quiet _ (-22) 10 1024 4194304 (by simp [rotTab]) _ _)))
          simp only [show bits BinOp.xor IntKind.u32 (bits BinOp.xor IntKind.u32 (rotw 1073741824 4 S.a) (rotw 524288 8192 S.a)) (rotw 1024 4194304 S.a) = rndDown S from by simp only [rndDown, xr]]
          refine hK _ _ (Met.intro (hJ _ _ ?_))
          repeat apply Exists.intro
          exact ⟨⟨rfl, HW.out.drewN _⟩, rfl⟩
        case rest =>
        rename World => wz
        obtain ⟨rfl, hW⟩ := hcut
        clear HW
        have HW := Lib.hid hW
        clear hW
        obtain ⟨DN, hDN⟩ : ∃ D, rndDown S = D := ⟨_, rfl⟩
        rw [hDN]
        have HDN := Lib.hid hDN
        clear hDN
        have m0 : wz.cell? ⟨b4, 0, none⟩ = some (.int .u32 S.a) := by rw [blk_cell HW.out.c4]; rfl
        have m1 : wz.cell? ⟨b4, 1, none⟩ = some (.int .u32 S.b) := by rw [blk_cell HW.out.c4]; rfl
        have m2 : wz.cell? ⟨b4, 2, none⟩ = some (.int .u32 S.c) := by rw [blk_cell HW.out.c4]; rfl
        have m3 : wz.cell? ⟨b4, 3, none⟩ = some (.int .u32 S.d) := by rw [blk_cell HW.out.c4]; rfl
        have m4 : wz.cell? ⟨b4, 4, none⟩ = some (.int .u32 S.e) := by rw [blk_cell HW.out.c4]; rfl
        have m5 : wz.cell? ⟨b4, 5, none⟩ = some (.int .u32 S.f) := by rw [blk_cell HW.out.c4]; rfl
        have m6 : wz.cell? ⟨b4, 6, none⟩ = some (.int .u32 S.g) := by rw [blk_cell HW.out.c4]; rfl
        have m7 : wz.cell? ⟨b4, 7, none⟩ = some (.int .u32 S.h) := by rw [blk_cell HW.out.c4]; rfl
        go_upto_region 7 with (fail)
        go_cut [9] (fun s9 wx => s9 = .int .u32 (rndY S) ∧ wx = wz)
        case first =>
          rename_i J K hJ hK
          go_wp2_with fail
          go_meet
          exact ⟨by simp only [rndY, ad, xr, an, HDN.out], rfl⟩
        case rest =>
        obtain ⟨rfl, rfl⟩ := hcut
        obtain ⟨Y, hY⟩ : ∃ Y, rndY S = Y := ⟨_, rfl⟩
        rw [hY]
        have HY := Lib.hid hY
        clear hY
        have bl := build8
        have st : ∀ x0 x1 x2 x3 x4 x5 x6 x7 : Int, (storeCells ⟨b4, 0, none⟩ [.int .u32 x0, .int .u32 x1, .int .u32 x2, .int .u32 x3, .int .u32 x4, .int .u32 x5, .int .u32 x6, .int .u32 x7] 0).run Tryz.prog wc = .ok () (wc.setRow b4 #[.int .u32 x0, .int .u32 x1, .int .u32 x2, .int .u32 x3, .int .u32 x4, .int .u32 x5, .int .u32 x6, .int .u32 x7]) := fun x0 x1 x2 x3 x4 x5 x6 x7 => store_blkW HW.out.c4 (by rw [List.size_toArray, wvs_length]; rfl) (by simp [Value.oneCell'])
        go_upto_region 8 with (fail)
        go_wp2_with fail
        have hnew : (#[.int .u32 ((X + Y) % 4294967296), .int .u32 S.a, .int .u32 S.b, .int .u32 S.c, .int .u32 ((S.d + X) % 4294967296), .int .u32 S.e, .int .u32 S.f, .int .u32 S.g] : Array Value) = (wvs (rounds ws H.st (q + 1)).l).toArray := by
          rw [rounds, HKS.out, HK.out, HQ.out, HS.out]
          simp only [rnd, W8.l, wvs, wv, List.map, HX.out, HY.out, ad]
        have hcn := setRow_heap wc b4 _ #[.int .u32 ((X + Y) % 4294967296), .int .u32 S.a, .int .u32 S.b, .int .u32 S.c, .int .u32 ((S.d + X) % 4294967296), .int .u32 S.e, .int .u32 S.f, .int .u32 S.g] 281 (0, 0) HW.out.c4
        rw [hnew] at hcn ⊢
        exact ⟨⟨q + 1, by have := HLT.out; omega, by simp, hcn, upd_rowW HW.out.upd _ (.inl (by simp))⟩, by have := HLT.out; simp [intOf]; omega⟩
      · obtain rfl : q = 64 := by omega
        obtain ⟨S, hS⟩ : ∃ S, rounds ws H.st 64 = S := ⟨_, rfl⟩
        rw [hS] at hc
        have HC := Lib.hid hc
        have HU3 := Lib.hid hu
        have HS := Lib.hid hS
        have hbr : wr.heap[b]? = some (.cells (hcl (addQ H.st.l S.l 0) H.wait H.n).toArray 284 (0, 0)) := by
          have h1 := HF.out
          have hlt := blk_lt HB.out
          have hb1 : w1.heap[b]? = w.heap[b]? := HU.out.block b hlt (by simp)
          exact (hu.block b (by have := HU.out.size; show b < w1.heap.size; exact Nat.lt_of_lt_of_le hlt this) (by simp; omega)).trans (hb1.trans HB.out)
        have HBR := Lib.hid hbr
        clear hc hu hS hbr hge hq
        go_wp2_with fail
        go_loopw [110] (fun i wy => ∃ q : Nat, q ≤ 8 ∧ i = .int .i64 (q : Int) ∧ wy.heap[b]? = some (.cells (hcl (addQ H.st.l S.l q) H.wait H.n).toArray 284 (0, 0)) ∧ Upd [b] wr wy) (fun i _ => 8 - (intOf i).toNat)
        case atStart => exact ⟨0, by omega, rfl, HBR.out, Upd.refl _ _⟩
        case round =>
          rename World => wy
          obtain ⟨q, hq, rfl, hb, hu⟩ := hrel
          rcases Nat.lt_or_ge q 8 with hlt | hge
          · have hq8 : decide ((q : Int) < 8) = true := decide_eq_true (by omega)
            have hne : b4 ≠ b := by have := HF.out; have := blk_lt HB.out; omega
            have hal : (addQ H.st.l S.l q).length = 8 := by rw [addQ_length]; rfl
            have hc4 := (hu.block _ (blk_lt HC.out) (by simpa using hne)).trans HC.out
            have m4 : wy.cell? ⟨b4, q, none⟩ = some (.int .u32 (S.l.getD q 0)) := by rw [blk_cell hc4, List.getElem?_toArray, wvs_get _ (by show q < 8; exact hlt)]
            have mH : wy.cell? ⟨b, 1 + q, none⟩ = some (.int .u32 ((addQ H.st.l S.l q).getD q 0)) := by
              rw [blk_cell hb, List.getElem?_toArray, hcl, show 1 + q = q + 1 by omega, List.getElem?_cons_succ, List.getElem?_append_left (by rw [wvs_length, hal]; exact hlt), wvs_get _ (by rw [hal]; exact hlt)]
            have st : ∀ x : Int, (storeCells ⟨b, 1 + q, none⟩ [.int .u32 x] 0).run Tryz.prog wy.drew = .ok () (wy.drew.setCell ⟨b, 1 + q, none⟩ (.int .u32 x)) := fun x => storeW1 (w := wy.drew) hb (1 + q) (by rw [List.size_toArray, hcl, List.length_cons, List.length_append, wvs_length, hal]; omega) rfl
            have hset : ∀ x : Int, (wy.setCell ⟨b, 1 + q, none⟩ (.int .u32 x)).drew.heap[b]? = some (.cells (hcl ((addQ H.st.l S.l q).set q x) H.wait H.n).toArray 284 (0, 0)) := fun x => hcl_store hb (by rw [hal]; exact hlt) x
            have hun : ∀ x : Int, Upd [b] wr (wy.setCell ⟨b, 1 + q, none⟩ (.int .u32 x)).drew := fun x => (hu.set _ (.inl (by simp))).drew
            have hstep : addQ H.st.l S.l (q + 1) = (addQ H.st.l S.l q).set q (((addQ H.st.l S.l q).getD q 0 + S.l.getD q 0) % 4294967296) := by rw [addQ, ad]
            have gq : (0 : Int) ≤ q := by omega
            have kq : (q : Int) < 8 := by omega
            have HSET := fun x => Lib.hid (hset x)
            have HUN := fun x => Lib.hid (hun x)
            have HST := Lib.hid hstep
            have HLT := Lib.hid hlt
            generalize (addQ H.st.l S.l q).getD q 0 = x0 at mH hstep HST
            generalize S.l.getD q 0 = y0 at m4 hstep HST
            clear hset hun hstep hlt hb hu hc4 hal hne hq
            go_wp2_with fail
            go_region
            go_wp2_with fail
            exact ⟨⟨q + 1, by have := HLT.out; omega, by simp, by rw [HST.out]; exact (HSET _).out, (HUN _).out⟩, by have := HLT.out; simp [intOf]; omega⟩
          · obtain rfl : q = 8 := by omega
            have HEND : Hid (wy.heap[b]? = some (.cells (hsC ⟨mixS H.st H.wait, H.wait, H.n⟩).toArray 284 (0, 0)) ∧ Upd [b] w wy) := by
              refine Lib.hid ⟨?_, ?_⟩
              · rw [hb, addQ_full]
                show _ = some (Obj.cells (hcl (mixS H.st H.wait).l H.wait H.n).toArray _ _)
                rw [mixS, HWS.out, HS.out]
              · have h1 := HF.out
                have a1 : Upd [] w w1 := ⟨HU.out.os, HU.out.tape, HU.out.output, HU.out.size, HU.out.block⟩
                have a2 : Upd [] w wr := a1.late HU3.out (fun k hk => .inr (by simp at hk; omega))
                have a3 : Upd [b] w wr := ⟨a2.os, a2.tape, a2.output, a2.size, fun k hk _ => a2.block k hk (by simp)⟩
                exact a3.trans hu
            clear hb hu hge hq
            go_wp2_with fail
            go_end0
            exact ⟨rfl, HEND.out⟩
end Go.Proofs.YtceakcejchbbjaaGreat
