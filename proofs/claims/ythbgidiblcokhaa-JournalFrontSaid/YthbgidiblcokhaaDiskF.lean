/-
  What Disk.Waiting and Disk.Power do.
-/
import Derived.Test.YthbgidiblcokhaaDiskE
import Derived.Test.YthbgidiblcokhaaIter
import Derived.BigQuiet
namespace Go.Proofs.Ythbgidiblcokhaa
open Go.RowKit

theorem DiskAt.keysF_eq {w : World} {F : Nat → Prop} {D : Dk} {f : Int → Option Value} (hok : D.Ok)
    (hf1 : ∀ k v, f k = some v → 0 ≤ k ∧ ∃ s, D.wait k.toNat = some s ∧ Own w 5 F v s) (hf2 : ∀ (i : Nat) s, D.wait i = some s → ∃ v, f (i : Int) = some v) :
    keysF f D.n = D.waiting ∧ ∀ k v, f k = some v → 0 ≤ k ∧ k < D.n := by
  constructor
  · unfold keysF Dk.waiting
    refine List.filter_congr fun i _ => ?_
    cases hq : D.wait i with
    | none =>
      cases hr : f (i : Int) with
      | none => rfl
      | some v => obtain ⟨_, s, e, _⟩ := hf1 _ _ hr; rw [Int.toNat_natCast, hq] at e; simp at e
    | some s => obtain ⟨v, hv⟩ := hf2 i s hq; rw [hv]; rfl
  · intro k v hk
    obtain ⟨h0, s, e, _⟩ := hf1 k v hk
    have := (hok.wait _ _ e).1
    omega

set_option maxHeartbeats 400000 in
theorem waiting_spec {w : World} {F : Nat → Prop} {g : DG} {D : Dk} (h : DiskAt w F g D) :
    Calls Try.prog 36 #[.pointer (some ⟨g.db, 0, none⟩)] w fun e w' => ∃ v, e = .returned v ∧ w'.ownsRow w.heap.size 3 1 v D.waiting.length (D.waiting.map fun i : Nat => .int .i64 (i : Int)) ∧ Upd [] w w' := by
  have H := Lib.hid h
  obtain ⟨fv, a1, _⟩ := h.st
  obtain ⟨f, hf, hf1, hf2⟩ := h.wait
  have hn := h.ok.n0
  have hn1 := h.ok.n1
  have hn' : ((D.n : Int) == 0) = false := beq_eq_false_iff_ne.2 (by omega)
  have hc := blk_cell a1
  obtain ⟨hk1, hk2⟩ := DiskAt.keysF_eq h.ok hf1 hf2
  have cS := sorted_call hf D.n (by omega) hk2
  rw [hk1] at cS
  have CS := Lib.hid cS
  clear h a1 hf hf1 hf2 hk1 hk2 cS
  go_enter Try.func36, Try.ntmps36
  go_wp2_with (first | (go_at_call 46; refine (len_spec H.out).mono ?_; rintro e w' ⟨rfl, rfl⟩) | (go_at_call 67; refine (keys_call _ _).mono ?_; rintro e w' ⟨rfl, rfl⟩) | (go_at_call 66; refine CS.out.mono ?_; rintro e w' ⟨v, rfl, h1, h2⟩))
  go_ret
  exact ⟨v, rfl, h1, h2⟩

/-- A slice that reads, cell by cell, as cs, in a block that is none of S. -/
def RdL (w : World) (S : List Nat) (v : Value) (cs : List Value) : Prop :=
  ∃ ao cap, v = .slice ao cs.length cap ∧ cs.length ≤ cap ∧
    (0 < cs.length → ∃ b off, b ∉ S ∧ ao = some ⟨b, off, none⟩ ∧ ∀ i (h : i < cs.length), w.cell? ⟨b, off + i, none⟩ = some cs[i])

theorem RdL.upd {w w' : World} {S T : List Nat} {v : Value} {cs : List Value} (h : RdL w S v cs) (hu : Upd T w w') (hT : ∀ k, k ∈ T → k ∈ S) : RdL w' S v cs := by
  obtain ⟨ao, cap, e, hc, hh⟩ := h
  refine ⟨ao, cap, e, hc, fun hp => ?_⟩
  obtain ⟨b, off, hb, rfl, hcell⟩ := hh hp
  refine ⟨b, off, hb, rfl, fun i hi => ?_⟩
  have hl := hcell i hi
  rw [World.cell?_of_block (w := w) (hu.block _ (block_lt_of_cell hl) (fun q => hb (hT _ q)))]; exact hl

theorem RdL.of_row {w : World} {base : Nat} {e : TypeId} {v : Value} {cs : List Value} (h : w.ownsRow base e 1 v cs.length cs) {S : List Nat} (hS : ∀ k c, w.heap[k]? = some (.cells c e (0, 0)) → k ∉ S) : RdL w S v cs := by
  rcases h.2 with ⟨rfl, h0⟩ | ⟨g, cap, cur, rfl, hb, hg, hc, _, hs, ht⟩
  · have : cs = [] := List.eq_nil_of_length_eq_zero h0
    subst this
    exact ⟨none, 0, rfl, by simp, by simp⟩
  · refine ⟨_, cap, rfl, hc, fun _ => ⟨g, 0, hS _ _ hg, rfl, fun i hi => ?_⟩⟩
    rw [blk_cell hg]
    rw [Nat.mul_one] at ht
    have : cs[i]? = cur[0 + i]? := by
      rw [← ht, List.getElem?_take, if_pos hi]; simp
    rw [← this, List.getElem?_eq_getElem hi]

/-- The row in the midst of Power: the first k of what waits have been looked at. -/
def PwRow (D : Dk) (keep : List Bool) (k : Nat) (i : Nat) : Sec := if D.waiting.idxOf i < k ∧ keep.getD (D.waiting.idxOf i) false = true then D.now i else D.last i

def PwRel (w1 : World) (F : Nat → Prop) (g : DG) (D : Dk) (keep : List Bool) (k : Nat) (wr : World) : Prop :=
  ∃ lv' : List Value, wr.heap[g.lb]? = some (.cells lv'.toArray 36 (0, 0)) ∧ lv'.length = D.n ∧ (∀ (i : Nat) (v : Value), lv'[i]? = some v → LastV w1 F v (PwRow D keep k i)) ∧ Upd [g.lb] w1 wr

theorem Dk.waiting_nodup (D : Dk) : D.waiting.Nodup := by
  unfold Dk.waiting
  exact List.Pairwise.filter _ (List.pairwise_lt_range.imp fun h e => by omega)
theorem Dk.mem_waiting {D : Dk} {i : Nat} : i ∈ D.waiting ↔ i < D.n ∧ (D.wait i).isSome = true := by
  unfold Dk.waiting; rw [List.mem_filter, List.mem_range]
theorem Dk.idx_waiting {D : Dk} {k : Nat} (hk : k < D.waiting.length) (i : Nat) : D.waiting.idxOf i = k ↔ i = D.waiting[k] := by
  constructor
  · intro e
    have : D.waiting.idxOf i < D.waiting.length := by omega
    have := List.getElem_idxOf this
    subst e; exact this.symm
  · rintro rfl
    exact List.Nodup.idxOf_getElem D.waiting_nodup _ _

theorem PwRow.succ_hit {D : Dk} {keep : List Bool} {k : Nat} (hk : k < D.waiting.length) (hb : keep.getD k false = true) (i : Nat) : PwRow D keep (k + 1) i = if i = D.waiting[k] then D.now i else PwRow D keep k i := by
  unfold PwRow
  by_cases e : i = D.waiting[k]
  · have := (Dk.idx_waiting hk i).2 e
    rw [if_pos e, if_pos ⟨by omega, by rw [this]; exact hb⟩]
  · have : D.waiting.idxOf i ≠ k := fun q => e ((Dk.idx_waiting hk i).1 q)
    rw [if_neg e]
    by_cases h1 : D.waiting.idxOf i < k
    · simp [h1, show D.waiting.idxOf i < k + 1 by omega]
    · simp [h1, show ¬ D.waiting.idxOf i < k + 1 by omega]
theorem PwRow.succ_miss {D : Dk} {keep : List Bool} {k : Nat} (hb : keep.getD k false = false) (i : Nat) : PwRow D keep (k + 1) i = PwRow D keep k i := by
  unfold PwRow
  by_cases e : D.waiting.idxOf i = k
  · rw [e, hb]; simp
  · by_cases h1 : D.waiting.idxOf i < k
    · simp [h1, show D.waiting.idxOf i < k + 1 by omega]
    · simp [h1, show ¬ D.waiting.idxOf i < k + 1 by omega]
theorem PwRow.full {D : Dk} {keep : List Bool} {i : Nat} (hi : i < D.n) : PwRow D keep D.waiting.length i = D.kept keep i := by
  unfold PwRow Dk.kept
  by_cases hm : i ∈ D.waiting
  · have := List.idxOf_lt_length_iff.2 hm
    simp [this]
  · have hnone : D.wait i = none := by
      cases hq : D.wait i with
      | none => rfl
      | some s => exact absurd (Dk.mem_waiting.2 ⟨hi, by simp [hq]⟩) hm
    have h1 : ¬ D.waiting.idxOf i < D.waiting.length := fun q => hm (List.idxOf_lt_length_iff.1 q)
    have h2 : D.now i = D.last i := by simp [Dk.now, hnone]
    rw [h2]; simp [h1]
theorem PwRow.zero {D : Dk} {keep : List Bool} (i : Nat) : PwRow D keep 0 i = D.last i := by unfold PwRow; simp

theorem PwRel.miss {w1 : World} {F : Nat → Prop} {g : DG} {D : Dk} {keep : List Bool} {k : Nat} {wr : World} (h : PwRel w1 F g D keep k wr) (hb : keep.getD k false = false) : PwRel w1 F g D keep (k + 1) wr := by
  obtain ⟨lv', h1, h2, h3, h4⟩ := h
  exact ⟨lv', h1, h2, fun i v hv => by rw [PwRow.succ_miss hb]; exact h3 i v hv, h4⟩
theorem PwRel.hit {w1 : World} {F : Nat → Prop} {g : DG} {D : Dk} {keep : List Bool} {k : Nat} {wr wq : World} (h : PwRel w1 F g D keep k wr) (hk : k < D.waiting.length) (hb : keep.getD k false = true) {v : Value}
    (ho : LastV w1 F v (D.now D.waiting[k])) (hq : wq = wr ∨ wq = wr.drew) : PwRel w1 F g D keep (k + 1) (wq.setCell ⟨g.lb, D.waiting[k], none⟩ v) := by
  obtain ⟨lv', h1, h2, h3, h4⟩ := h
  have h1' : wq.heap[g.lb]? = some (.cells lv'.toArray 36 (0, 0)) := by rcases hq with rfl | rfl <;> exact h1
  have h4' : Upd [g.lb] w1 wq := by rcases hq with rfl | rfl; exact h4; exact h4.drew
  refine ⟨lv'.set D.waiting[k] v, by rw [blk_set h1']; simp, by simpa using h2, ?_, h4'.set _ (.inl (by simp))⟩
  intro i u hu
  rw [PwRow.succ_hit hk hb]
  rw [List.getElem?_set] at hu
  by_cases e : D.waiting[k] = i
  · rw [if_pos e] at hu
    split at hu
    · cases hu
      rw [if_pos e.symm, ← e]; exact ho
    · simp at hu
  · rw [if_neg e] at hu
    rw [if_neg (Ne.symm e)]
    exact h3 i u hu

theorem PwRel.disk {w1 : World} {F : Nat → Prop} {g : DG} {D : Dk} {keep : List Bool} {wr : World} (h : PwRel w1 F g D keep D.waiting.length wr) (hD : DiskAt w1 F g D) : DiskAt wr F g { D with last := D.kept keep } := by
  obtain ⟨lv', h1, h2, h3, h4⟩ := h
  have ha : ∀ k c, F k → w1.heap[k]? = some (.cells c 5 (0, 0)) → wr.heap[k]? = w1.heap[k]? := fun k c _ hk => h4.block _ (blk_lt hk) (fun q => hD.byte hk (by simp at q; simp [q]))
  obtain ⟨fv, a1, a2⟩ := hD.st
  refine ⟨⟨fv, (h4.block _ hD.lt.1 (by simpa using Ne.symm hD.ne1)).trans a1, a2.world ha⟩, ⟨lv', h1, h2, fun i v hv => ?_⟩, hD.wait.world (h4.block _ hD.lt.2.2 (by simpa using hD.ne3)) ha, ?_⟩
  · have hi : i < D.n := by rw [← h2]; exact (List.getElem?_eq_some_iff.1 hv).1
    have := h3 i v hv
    rw [PwRow.full hi] at this
    exact this.world ha
  · have ok := hD.ok
    refine ⟨ok.n0, ok.n1, fun i => ?_, ok.wait, ok.armed0, ok.armed1, ok.part, ok.way, ok.front⟩
    show (D.kept keep i).length = 512
    unfold Dk.kept Dk.now
    split
    · cases hq : D.wait i with
      | none => exact ok.last i
      | some s => exact (ok.wait i s hq).2
    · exact ok.last i

/-- clear(d.wait) -/
theorem DiskAt.cleared {w : World} {F : Nat → Prop} {g : DG} {D : Dk} (h : DiskAt w F g D) :
    ∃ W, (∀ ty, (Builtin.clear_ #[49] ty #[.map (some g.mb)]).run Try.prog w = .ok (.tuple #[]) W) ∧ W.heap[g.db]? = w.heap[g.db]? ∧ DiskAt W F g { D with wait := fun _ => none } ∧ Upd [g.mb] w W := by
  obtain ⟨f, hm, _⟩ := h.wait
  obtain ⟨o, hclr, hmap⟩ := hm.clear (P := Try.prog) (T := 49) Try.underlying49 0
  have hdb : (ChangeMaps.setBlock w g.mb o).heap[g.db]? = w.heap[g.db]? := setBlock_ne _ (Ne.symm h.ne2)
  refine ⟨_, fun _ => hclr, hdb, ⟨?_, ?_, ⟨_, hmap, by simp, by simp⟩, ?_⟩, (Upd.refl _ _).setBlock _ (.inl (by simp))⟩
  · obtain ⟨fv, a1, a2⟩ := h.st
    exact ⟨fv, hdb.trans a1, a2.world (fun k c _ hk => setBlock_ne _ (fun e => h.byte hk (by simp [e])))⟩
  · obtain ⟨lv, b1, b2, b3⟩ := h.last
    exact ⟨lv, (setBlock_ne _ (Ne.symm h.ne3)).trans b1, b2, fun i v hv => (b3 i v hv).world (fun k c _ hk => setBlock_ne _ (fun e => h.byte hk (by simp [e])))⟩
  · have ok := h.ok
    exact ⟨ok.n0, ok.n1, ok.last, by simp, ok.armed0, ok.armed1, ok.part, ok.way, ok.front⟩

/-- The power is back. -/
theorem DiskAt.powered {w : World} {F : Nat → Prop} {g : DG} {D : Dk} (h : DiskAt w F g D) :
    DiskAt (((((w.setCell ⟨g.db, 2, none⟩ (.bool false)).setCell ⟨g.db, 3, none⟩ (.int .i64 (-1))).setCell ⟨g.db, 5, none⟩ (.int .i64 (-1))).setCell ⟨g.db, 6, none⟩ (.slice none 0 0)).setCell ⟨g.db, 8, none⟩ (.int .i64 (wrap64 (D.lives + 1)))) F g { D with off := false, armed := -1, way := none, front := [], lives := wrap64 (D.lives + 1) } ∧
    Upd [g.db] w (((((w.setCell ⟨g.db, 2, none⟩ (.bool false)).setCell ⟨g.db, 3, none⟩ (.int .i64 (-1))).setCell ⟨g.db, 5, none⟩ (.int .i64 (-1))).setCell ⟨g.db, 6, none⟩ (.slice none 0 0)).setCell ⟨g.db, 8, none⟩ (.int .i64 (wrap64 (D.lives + 1)))) := by
  obtain ⟨fv, a1, a2⟩ := h.st
  constructor
  · refine h.re ⟨.slice none 0 0, ?_, .inr ⟨rfl, rfl⟩⟩ (fun k _ hk => by rw [blk_set_ne _ _ hk, blk_set_ne _ _ hk, blk_set_ne _ _ hk, blk_set_ne _ _ hk, blk_set_ne _ _ hk]) rfl rfl rfl ?_
    · rw [blk_set (blk_set (blk_set (blk_set (blk_set a1 2 _) 3 _) 5 _) 6 _) 8 _]; simp [wayv]
    · have ok := h.ok
      exact ⟨ok.n0, ok.n1, ok.last, ok.wait, by simp, by simp, ok.part, by simp, by simp⟩
  · exact (((((Upd.refl _ _).set _ (.inl (by simp))).set _ (.inl (by simp))).set _ (.inl (by simp))).set _ (.inl (by simp))).set _ (.inl (by simp))

/-- The front of a torn sector is copied over a fresh one. -/
theorem torn_copy {wr : World} {x : Sec} {fv : Value} {front : List UInt8} (hx : x.length = 512) (hr : Rd wr fv front) (hf : front.length ≤ 512) :
    ∃ W9, (∀ ty, (Builtin.copy_ #[36, 36] ty #[.slice (some ⟨wr.heap.size, 0, none⟩) 512 512, fv]).run Try.prog (wr.alloc (.cells (bts x).toArray 5)).drew = .ok (goInt ((min front.length 512 : Nat) : Int)) W9) ∧
      W9.heap[wr.heap.size]? = some (.cells (bts (front ++ x.drop front.length)).toArray 5 (0, 0)) ∧ (∀ k, k < wr.heap.size → W9.heap[k]? = wr.heap[k]?) ∧ Upd [] wr W9 := by
  have hb' : (wr.alloc (.cells (bts x).toArray 5)).drew.heap[wr.heap.size]? = some (.cells (bts x).toArray 5 (0, 0)) := blk_alloc _
  have hr' : Rd (wr.alloc (.cells (bts x).toArray 5)).drew fv front := (hr.alloc _).of_block fun _ _ _ _ => rfl
  have hrun := fun ty => run_copy_rd (P := Try.prog) (dT := 36) (sT := 36) (ty := ty) (u8 := 5) Try.underlying36 sizeU8 wr.heap.size 0 512 512 (bts x) hb' (by rw [bts_length, hx]; omega) hr'
  refine ⟨_, hrun, ?_, ?_, ?_⟩
  · rw [setRow_heap _ _ _ _ _ _ hb']
    rw [List.take_of_length_le hf, splice_head, bts_length]
    congr 3
    simp [bts, List.map_drop]
  · intro k hk
    rw [setRow_other _ _ _ _ (by omega)]
    exact blk_alloc_ne hk
  · exact ⟨rfl, rfl, rfl, by simp, fun k hk _ => by rw [setRow_other _ _ _ _ (by omega)]; exact blk_alloc_ne hk⟩

theorem DiskAt.torn {wr W9 : World} {F : Nat → Prop} {g : DG} {D : Dk} (h : DiskAt wr F g D) (i : Nat) (hway : D.way = some i) {s : Sec} (hs : s.length = 512)
    (h9n : W9.heap[wr.heap.size]? = some (.cells (bts s).toArray 5 (0, 0))) (h9o : ∀ k, k < wr.heap.size → W9.heap[k]? = wr.heap[k]?) (h9u : Upd [] wr W9) :
    DiskAt (W9.setCell ⟨g.lb, i, none⟩ (.slice (some ⟨wr.heap.size, 0, none⟩) 512 512)).drew (Gr F wr.heap.size) g { D with last := fun j => if D.way = some j then s else D.last j } ∧
    Upd [g.lb] wr (W9.setCell ⟨g.lb, i, none⟩ (.slice (some ⟨wr.heap.size, 0, none⟩) 512 512)).drew := by
  refine ⟨?_, ((h9u.mono (by simp)).set _ (.inl (by simp))).drew⟩
  have hlt := h.lt
  have hne : ∀ k, k < wr.heap.size → k ≠ g.lb → (W9.setCell ⟨g.lb, i, none⟩ (.slice (some ⟨wr.heap.size, 0, none⟩) 512 512)).drew.heap[k]? = wr.heap[k]? := fun k hk hn => by
    rw [blk_drew, blk_set_ne _ _ hn]; exact h9o k hk
  have ha : ∀ k c, F k → wr.heap[k]? = some (.cells c 5 (0, 0)) → (W9.setCell ⟨g.lb, i, none⟩ (.slice (some ⟨wr.heap.size, 0, none⟩) 512 512)).drew.heap[k]? = wr.heap[k]? := fun k c _ hk =>
    hne k (blk_lt hk) (fun e => h.byte hk (by simp [e]))
  obtain ⟨fv, a1, a2⟩ := h.st
  obtain ⟨lv, b1, b2, b3⟩ := h.last
  refine ⟨⟨fv, (hne _ hlt.1 (Ne.symm h.ne1)).trans a1, (a2.world ha).mono Gr.old⟩, ⟨lv.set i (.slice (some ⟨wr.heap.size, 0, none⟩) 512 512), ?_, by simpa using b2, ?_⟩, (h.wait.world (hne _ hlt.2.2 h.ne3) ha).mono Gr.old, ?_⟩
  · rw [blk_drew, blk_set ((h9o _ hlt.2.1).trans b1)]; simp
  · intro j v hv
    rw [List.getElem?_set] at hv
    by_cases e : i = j
    · subst e
      rw [if_pos rfl] at hv
      split at hv
      · cases hv
        simp only [hway, if_true]
        refine .inr ⟨wr.heap.size, [], .inr (Nat.le_refl _), by simp [hs], ?_⟩
        rw [blk_drew, blk_set_ne _ _ (by omega), h9n]; simp
      · simp at hv
    · rw [if_neg e] at hv
      have hne2 : D.way ≠ some j := by rw [hway]; simpa using e
      simp only [hne2, if_false]
      exact ((b3 j v hv).world ha).mono Gr.old
  · have ok := h.ok
    refine ⟨ok.n0, ok.n1, fun j => ?_, ok.wait, ok.armed0, ok.armed1, ok.part, ok.way, ok.front⟩
    show (if D.way = some j then s else D.last j).length = 512
    split
    · exact hs
    · exact ok.last j

set_option maxHeartbeats 1000000 in
theorem power_spec {w : World} {F : Nat → Prop} {g : DG} {D : Dk} (h : DiskAt w F g D) (v : Value) (keep : List Bool) (hr : RdL w [g.db, g.lb, g.mb] v (keep.map Value.bool)) :
    Calls Try.prog 23 #[.pointer (some ⟨g.db, 0, none⟩), v] w fun e w' => e = .returned (.tuple #[]) ∧ DiskAt w' (Gr F w.heap.size) g (D.power keep) ∧ Upd [g.db, g.lb, g.mb] w w' := by
  have H := Lib.hid h
  have hn := h.ok.n0
  have hn1 := h.ok.n1
  have hn' : ((D.n : Int) == 0) = false := beq_eq_false_iff_ne.2 (by omega)
  have HR := Lib.hid hr
  obtain ⟨ao, cap, rfl, hcap, _⟩ := id hr
  rw [List.length_map] at hcap
  simp only [List.length_map] at HR ⊢
  clear h hr
  go_enter Try.func23, Try.ntmps23
  go_wp2_with (first | (go_at_call 46; refine (len_spec H.out).mono ?_; rintro e w' ⟨rfl, rfl⟩) | fail)
  refine (waiting_spec H.out).mono ?_
  rintro e w1 ⟨vw, rfl, hrow, hu1⟩
  have hD1 : DiskAt w1 F g D := H.out.world (hu1.block _ H.out.lt.1 (by simp)) (hu1.block _ H.out.lt.2.1 (by simp)) (hu1.block _ H.out.lt.2.2 (by simp)) (fun k c _ hk => hu1.block _ (blk_lt hk) (by simp))
  have hrl : RdL w1 [g.db, g.lb, g.mb] vw (D.waiting.map fun i : Nat => .int .i64 (i : Int)) := by
    refine RdL.of_row (by simpa using hrow) (fun k c hk => ?_)
    obtain ⟨⟨fv, a1, _⟩, ⟨lv, b1, _⟩, ⟨f, hf, _⟩, _⟩ := hD1
    simp only [List.mem_cons, List.not_mem_nil, or_false, not_or]
    refine ⟨?_, ?_, hf.not_cells hk⟩
    · rintro rfl; rw [a1] at hk; simp at hk
    · rintro rfl; rw [b1] at hk; simp at hk
  obtain ⟨aw, capw, rfl, hcapw, _⟩ := id hrl
  simp only [List.length_map] at hrl hrow ⊢
  have HK := Lib.hid (HR.out.upd hu1 (by simp))
  have HRL := Lib.hid hrl
  have HD1 := Lib.hid hD1
  have HU1 := Lib.hid hu1
  clear hrl hD1 hu1 hrow hcapw
  go_wp2_with fail
  go_loopw [13] (fun i wr => ∃ k : Nat, k ≤ D.waiting.length ∧ i = .int .i64 (k : Int) ∧ PwRel w1 F g D keep k wr) (fun i _ => D.waiting.length - (intOf i).toNat)
  case atStart =>
    obtain ⟨lv, b1, b2, b3⟩ := HD1.out.last
    exact ⟨0, Nat.zero_le _, rfl, lv, b1, b2, fun i v hv => by rw [PwRow.zero]; exact b3 i v hv, Upd.refl _ _⟩
  case round =>
    obtain ⟨k, hk, rfl, hrel⟩ := hrel
    have hwl : D.waiting.length ≤ D.n := by
      unfold Dk.waiting
      exact Nat.le_trans (List.length_filter_le _ _) (by simp)
    by_cases hlt : k < D.waiting.length
    · obtain ⟨aw', capw', e, _, hh⟩ := HRL.out
      simp only [List.length_map, Value.slice.injEq] at e hh
      obtain ⟨rfl, _, rfl⟩ := e
      obtain ⟨wb, woff, hwb, rfl, hcw⟩ := hh (by omega)
      have hcell : wr.cell? ⟨wb, woff + k, none⟩ = some (.int .i64 (D.waiting[k] : Int)) := by
        have hx := hcw k hlt
        rw [List.getElem_map] at hx
        obtain ⟨_, _, _, _, hu⟩ := hrel
        rw [World.cell?_of_block (w := w1) (hu.block _ (block_lt_of_cell hx) (by simp at hwb ⊢; exact hwb.2.1))]
        exact hx
      have hmw := Dk.mem_waiting.1 (List.getElem_mem hlt)
      have hD1 := HD1.out
      obtain ⟨lv', hl1, hl2, hl3, hu⟩ := id hrel
      obtain ⟨fv, a1, _⟩ := hD1.st
      have adb : wr.heap[g.db]? = _ := (hu.block _ hD1.lt.1 (by simpa using Ne.symm hD1.ne1)).trans a1
      have hcd := blk_cell adb
      have hfl := blk_free hl1
      obtain ⟨j, hj⟩ : ∃ j, j = D.waiting[k] := ⟨_, rfl⟩
      rw [← hj] at hcell hmw
      by_cases hkk : k < keep.length
      · obtain ⟨_, _, e2, _, hh2⟩ := HK.out
        simp only [List.length_map, Value.slice.injEq] at e2 hh2
        obtain ⟨rfl, _, rfl⟩ := e2
        obtain ⟨kb, koff, hkb, rfl, hck⟩ := hh2 (by omega)
        have hcellk : wr.cell? ⟨kb, koff + k, none⟩ = some (.bool keep[k]) := by
          have hx := hck k hkk
          rw [List.getElem_map] at hx
          rw [World.cell?_of_block (w := w1) (hu.block _ (block_lt_of_cell hx) (by simp at hkb ⊢; exact hkb.2.1))]
          exact hx
        have hgd : keep.getD k false = keep[k] := by simp [hkk]
        cases hkv : keep[k] with
        | false =>
          rw [hkv] at hcellk hgd
          have HREL := Lib.hid (hrel.miss hgd)
          clear hrel hl1 hl2 hl3 hu a1 adb hD1 hcw hck hh hh2 hj hgd hkv hfl
          go_wp2
          go_roundw
          case rel => exact ⟨k + 1, by omega, by go_num, HREL.out⟩
          case measure => simp [intOf]; omega
        | true =>
          rw [hkv] at hcellk hgd
          obtain ⟨f, hf, hf1, hf2⟩ := hD1.wait
          obtain ⟨sj, hsj⟩ := Option.isSome_iff_exists.1 hmw.2
          obtain ⟨vj, hvj⟩ := hf2 j sj hsj
          obtain ⟨_, sj', hsj', hoj⟩ := hf1 _ _ hvj
          have hnow : D.now D.waiting[k] = sj' := by
            rw [← hj]; rw [Int.toNat_natCast] at hsj'; simp [Dk.now, hsj']
          have hrel2 : ∀ wq, (wq = wr ∨ wq = wr.drew) → PwRel w1 F g D keep (k + 1) (wq.setCell ⟨g.lb, j, none⟩ vj) := fun wq hq => by
            have := hrel.hit hlt hgd (v := vj) (by rw [hnow]; exact .inr hoj) hq
            rw [← hj] at this; exact this
          have hfr : MapI wr.drew g.mb f := hf.world (hu.block _ hf.lt (by simpa using hD1.ne3))
          have hlk := hfr.lookup (P := Try.prog) (T := 49) Try.underlying49 Try.underlying3 (zeroBytes _) (j : Int) false
          rw [hvj] at hlk
          simp only [Bool.false_eq_true, if_false, Option.getD_some] at hlk
          obtain ⟨kx, rest, _, rfl, _⟩ := hoj
          have hjn := hmw.1
          obtain ⟨old, hcl⟩ : ∃ old, wr.cell? ⟨g.lb, j, none⟩ = some old := ⟨lv'[j]'(by omega), by rw [blk_cell hl1]; simp [hl2, hjn]⟩
          have HREL := Lib.hid hrel2
          have hfl' := hfl j
          have hcd0 : wr.cell? ⟨g.db, 0, none⟩ = some (.slice (some ⟨g.lb, 0, none⟩) D.n D.n) := by rw [hcd]; rfl
          have hcd1 : wr.cell? ⟨g.db, 1, none⟩ = some (.map (some g.mb)) := by rw [hcd]; rfl
          have hjn1 : (j : Int) < (D.n : Int) := by omega
          have hj0 : (0 : Int) ≤ (j : Int) := by omega
          clear hrel hrel2 hl1 hl3 hu a1 adb hD1 hcw hck hh hh2 hj hgd hkv hf hf1 hf2 hvj hsj hsj' hnow hfr hfl hcd hmw
          go_wp2_with fail
          go_region
          go_wp2
          go_roundw
          case rel => exact ⟨k + 1, by omega, by go_num, HREL.out wr.drew (.inr rfl)⟩
          case measure => simp [intOf]; omega
      · have hgd : keep.getD k false = false := by simp [hkk]
        have HREL := Lib.hid (hrel.miss hgd)
        clear hrel hl1 hl2 hl3 hu a1 adb hD1 hcw hh hj hgd hfl
        go_wp2
        go_roundw
        case rel => exact ⟨k + 1, by omega, by go_num, HREL.out⟩
        case measure => simp [intOf]; omega
    · obtain rfl : k = D.waiting.length := by omega
      have hDr := hrel.disk HD1.out
      obtain ⟨_, _, _, _, hur⟩ := hrel
      obtain ⟨fv, a1, a2⟩ := hDr.st
      obtain ⟨aq, nq, cq, rfl⟩ := a2.shape
      have hc := blk_cell a1
      have hf := blk_free a1
      have HDR := Lib.hid hDr
      have HUR := Lib.hid hur
      have HA1 := Lib.hid a1
      have HA2 := Lib.hid a2
      cases hway : D.way with
      | none =>
        have hw0 : wayv D.way < 0 := by rw [hway]; simp [wayv]
        obtain ⟨W, hclr, hW1, hW2, hW3⟩ := hDr.cleared
        rw [a1] at hW1
        have hcW := blk_cell hW1
        have hfW := blk_free hW1
        have HWAY := Lib.hid hway
        have HW1 := Lib.hid hW1
        have HW2 := Lib.hid hW2
        have HW3 := Lib.hid hW3
        clear hDr hur a1 a2 hway hW1 hW2 hW3 hf
        go_wp2
        go_end0
        have hp : D.power keep = { D with last := D.kept keep, wait := fun _ => none, off := false, armed := -1, way := none, front := [], lives := wrap64 (D.lives + 1) } := by
          unfold Dk.power; rw [HWAY.out]; simp
        have hfin := HW2.out.powered
        rw [hp]
        refine ⟨rfl, hfin.1.mono Gr.old, ?_⟩
        exact (((HU1.out.mono (T := [g.db, g.lb, g.mb]) (by simp)).trans (HUR.out.mono (by simp))).trans (HW3.out.mono (by simp))).trans (hfin.2.mono (by simp))
      | some i =>
        have hin : i < D.n := HD1.out.ok.way i hway
        have hwv : wayv D.way = (i : Int) := by rw [hway]; rfl
        rw [hwv] at a1 hc
        obtain ⟨lv, b1, b2, b3⟩ := hDr.last
        simp only at b2
        obtain ⟨vi, hvi⟩ : ∃ vi, lv[i]? = some vi := ⟨_, List.getElem?_eq_getElem (by omega)⟩
        have hcl : wr.cell? ⟨g.lb, i, none⟩ = some vi := by rw [blk_cell b1]; simpa using hvi
        obtain ⟨li, hri, hpi⟩ : ∃ l, Rd wr vi l ∧ pad l = D.kept keep i := by
          rcases b3 i vi hvi with ⟨rfl, e⟩ | o
          · exact ⟨[], Rd.nil _, by rw [pad_nil]; exact e.symm⟩
          · exact ⟨_, o.rd, pad_full (hDr.ok.last i)⟩
        have HRI := Lib.hid hri
        have HPI := Lib.hid hpi
        have hc0 : wr.cell? ⟨g.db, 0, none⟩ = some (.slice (some ⟨g.lb, 0, none⟩) D.n D.n) := by rw [hc]; rfl
        have hc5 : wr.cell? ⟨g.db, 5, none⟩ = some (.int .i64 (i : Int)) := by rw [hc]; rfl
        have hc6 : wr.cell? ⟨g.db, 6, none⟩ = some (.slice aq nq cq) := by rw [hc]; rfl
        have hlt1 := hDr.lt.1
        have hlt2 := hDr.lt.2.1
        have hi1 : (i : Int) < (D.n : Int) := by omega
        have hi0 : (0 : Int) ≤ (i : Int) := by omega
        obtain ⟨W9, hcp, h9n, h9o, h9u⟩ := torn_copy (wr := wr) (x := pad li) (pad_length _) (HA2.out.rd) HD1.out.ok.front
        have hD9 := hDr.torn i hway (s := D.front ++ (D.kept keep i).drop D.front.length) (by have := HD1.out.ok.front; have := hDr.ok.last i; simp only [List.length_append, List.length_drop] at *; omega) (by rw [h9n, hpi]) h9o h9u
        have h9c0 : W9.cell? ⟨g.db, 0, none⟩ = some (.slice (some ⟨g.lb, 0, none⟩) D.n D.n) := by rw [World.cell?_of_block (w := wr) (h9o _ hlt1)]; exact hc0
        have h9c5 : W9.cell? ⟨g.db, 5, none⟩ = some (.int .i64 (i : Int)) := by rw [World.cell?_of_block (w := wr) (h9o _ hlt1)]; exact hc5
        have h9cl : W9.cell? ⟨g.lb, i, none⟩ = some vi := by rw [World.cell?_of_block (w := wr) (h9o _ hlt2)]; exact hcl
        have h9f : W9.frozen? ⟨g.lb, i, none⟩ = false := by rw [World.frozen?_of_block (w := wr) (h9o _ hlt2)]; exact blk_free b1 i
        obtain ⟨W, hclr, hW1, hW2, hW3⟩ := hD9.1.cleared
        have h9db : (W9.setCell ⟨g.lb, i, none⟩ (.slice (some ⟨wr.heap.size, 0, none⟩) 512 512)).drew.heap[g.db]? = wr.heap[g.db]? := by
          rw [blk_drew, blk_set_ne _ _ (Ne.symm hDr.ne1)]; exact h9o _ hlt1
        have hcX : (W9.setCell ⟨g.lb, i, none⟩ (.slice (some ⟨wr.heap.size, 0, none⟩) 512 512)).cell? ⟨g.db, 1, none⟩ = some (.map (some g.mb)) := by
          rw [World.cell?_of_block (w := wr) h9db, hc]; rfl
        rw [h9db, a1] at hW1
        have hcW := blk_cell hW1
        have hfW := blk_free hW1
        have HW2 := Lib.hid hW2
        have HW3 := Lib.hid hW3
        have HU9 := Lib.hid hD9.2
        have HWAY := Lib.hid hway
        clear hDr hur a1 a2 hway hwv b1 b2 b3 hvi hri hpi hc hf hW1 hW2 hW3 hD9 h9db h9n h9o h9u
        go_wp2_with fail
        go_region_held3 (fun w' => w'.cell? ⟨g.db, 0, none⟩ = some (.slice (some ⟨g.lb, 0, none⟩) D.n D.n) ∧ w'.cell? ⟨g.db, 5, none⟩ = some (.int .i64 (i : Int)) ∧ w'.cell? ⟨g.lb, i, none⟩ = some vi) (go_keep)
          (first | (go_at_call 64; refine (whole_spec _ li _ ?_).mono ?_; exact HRI.out; rintro e w' ⟨rfl, rfl⟩))
        go_wp2_with fail
        go_region
        go_wp2
        go_end0
        have hp : D.power keep = { D with last := fun j => if D.way = some j then D.front ++ (D.kept keep j).drop D.front.length else D.kept keep j, wait := fun _ => none, off := false, armed := -1, way := none, front := [], lives := wrap64 (D.lives + 1) } := rfl
        have hlast : (fun j => if D.way = some j then D.front ++ (D.kept keep j).drop D.front.length else D.kept keep j) = (fun j => if D.way = some j then D.front ++ (D.kept keep i).drop D.front.length else D.kept keep j) := by
          funext j
          by_cases e : D.way = some j
          · have : j = i := by rw [HWAY.out] at e; exact (Option.some.inj e).symm
            rw [this]
          · rw [if_neg e, if_neg e]
        rw [hlast] at hp
        have hfin := HW2.out.powered
        rw [hp]
        have hsz := HU1.out.size
        have hsz2 := HUR.out.size
        refine ⟨rfl, hfin.1.mono (Gr.gr (by omega)), ?_⟩
        exact ((((HU1.out.mono (T := [g.db, g.lb, g.mb]) (by simp)).trans (HUR.out.mono (by simp))).trans (HU9.out.mono (by simp))).trans (HW3.out.mono (by simp))).trans (hfin.2.mono (by simp))

end Go.Proofs.Ythbgidiblcokhaa
