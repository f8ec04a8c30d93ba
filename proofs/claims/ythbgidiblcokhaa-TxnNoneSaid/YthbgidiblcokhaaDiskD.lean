/-
  What Disk.Write does.
-/
import Derived.Test.YthbgidiblcokhaaDiskC
import Derived.Deep.RegionHeld3
import Derived.Deep.DeepFit
namespace Go.Proofs.Ythbgidiblcokhaa
open Go.RowKit

/-- F, and whatever is new since there were n blocks. -/
def Gr (F : Nat → Prop) (n : Nat) : Nat → Prop := fun k => F k ∨ n ≤ k
theorem Gr.old {F : Nat → Prop} {n : Nat} : ∀ k, F k → Gr F n k := fun _ h => .inl h
theorem Gr.new {F : Nat → Prop} {n m : Nat} (h : n ≤ m) : ∀ k, m ≤ k → Gr F n k := fun _ hk => .inr (Nat.le_trans h hk)
theorem Gr.gr {F : Nat → Prop} {n m : Nat} (h : n ≤ m) : ∀ k, Gr F m k → Gr F n k := fun _ hk => hk.imp id (Nat.le_trans h)
theorem Gr.gr2 {F : Nat → Prop} {n m : Nat} (h : n ≤ m) : ∀ k, Gr (Gr F n) m k → Gr F n k := fun _ hk => hk.elim id (fun q => .inr (Nat.le_trans h q))

theorem OwnN.shape {w : World} {u8 : TypeId} {F : Nat → Prop} {v : Value} {l : List UInt8} (h : OwnN w u8 F v l) : ∃ a n c, v = .slice a n c := by
  rcases h with ⟨k, r, _, e, _⟩ | ⟨_, e⟩
  · exact ⟨_, _, _, e⟩
  · exact ⟨_, _, _, e⟩
theorem Rd.of_block {w w' : World} {v : Value} {l : List UInt8} (h : Rd w v l) (hb : ∀ b o c, w.cell? ⟨b, o, none⟩ = some (bv c) → w'.heap[b]? = w.heap[b]?) : Rd w' v l := by
  obtain ⟨ao, cap, e, hc, hh⟩ := h
  refine ⟨ao, cap, e, hc, fun hp => ?_⟩
  obtain ⟨b, off, rfl, hcell⟩ := hh hp
  refine ⟨b, off, rfl, fun i hi => ?_⟩
  rw [World.cell?_of_block (w := w) (hb _ _ _ (hcell i hi))]; exact hcell i hi

theorem Rd.below {w w' : World} {v : Value} {l : List UInt8} (h : Rd w v l) (hb : Upd [] w w') : Rd w' v l :=
  h.of_block fun _ _ _ hc => hb.block _ (block_lt_of_cell hc) (by simp)

/-- A byte's cell is in none of a disk's three blocks. -/
theorem DiskAt.cell {w : World} {F : Nat → Prop} {g : DG} {D : Dk} (h : DiskAt w F g D) {b o : Nat} {c : UInt8} (hc : w.cell? ⟨b, o, none⟩ = some (bv c)) : b ∉ [g.db, g.lb, g.mb] := by
  obtain ⟨⟨fv, a1, a2⟩, ⟨lv, b1, _, b3⟩, ⟨f, hf, _⟩, _⟩ := h
  simp only [List.mem_cons, List.not_mem_nil, or_false, not_or]
  refine ⟨?_, ?_, ?_⟩
  · rintro rfl
    rw [blk_cell a1] at hc
    have hfv : fv ≠ bv c := by
      rcases a2 with ⟨k, r, _, e, _⟩ | ⟨_, e⟩ <;> rw [e] <;> simp [bv]
    match o, hc with
    | 0, hc | 1, hc | 2, hc | 3, hc | 4, hc | 5, hc | 7, hc | 8, hc => simp [bv] at hc
    | 6, hc => simp at hc; exact hfv hc
    | o + 9, hc => simp at hc
  · rintro rfl
    rw [blk_cell b1] at hc
    have hl := b3 o _ (by simpa using hc)
    rcases hl with ⟨e, _⟩ | ⟨k, r, _, e, _⟩ <;> simp [bv] at e
  · rintro rfl
    obtain ⟨es, clock, hm, _⟩ := hf
    simp [World.cell?, hm] at hc

theorem Rd.disk {w w' : World} {F : Nat → Prop} {g : DG} {D : Dk} (h : DiskAt w F g D) {v : Value} {l : List UInt8} (hr : Rd w v l) {S : List Nat} (hu : Upd S w w') (hS : ∀ k, k ∈ S → k ∈ [g.db, g.lb, g.mb]) : Rd w' v l :=
  hr.of_block fun _ _ _ hc => hu.block _ (block_lt_of_cell hc) (fun q => h.cell hc (hS _ q))

theorem Rd.take {w : World} {ao : Option Addr} {n cap : Nat} {l : List UInt8} (h : Rd w (.slice ao n cap) l) (k : Nat) (hk : k ≤ l.length) : Rd w (.slice ao k cap) (l.take k) := by
  obtain ⟨ao', cap', e, hc, hh⟩ := h
  simp only [Value.slice.injEq] at e
  obtain ⟨rfl, rfl, rfl⟩ := e
  have hlen : (l.take k).length = k := by rw [List.length_take]; omega
  refine ⟨ao, cap, by rw [hlen], by omega, fun hp => ?_⟩
  obtain ⟨b, off, rfl, hcell⟩ := hh (by omega)
  refine ⟨b, off, rfl, fun i hi => ?_⟩
  rw [List.getElem_take]
  exact hcell i (by omega)

set_option maxHeartbeats 400000 in
theorem write_err {w : World} {F : Nat → Prop} {g : DG} {D : Dk} (h : DiskAt w F g D) (i : Int) (v : Value) (hm : D.may i ≠ 0) :
    Calls Try.prog 48 #[.pointer (some ⟨g.db, 0, none⟩), .int .i64 i, v] w fun e w' => e = .returned (.int .i64 (D.may i)) ∧ w = w' := by
  have H := Lib.hid h
  have hm' : (D.may i != 0) = true := by simpa using hm
  clear h hm
  go_enter Try.func48, Try.ntmps48
  go_wp2_with (go_at_call 69; refine (may_spec H.out _).mono ?_; rintro e w' ⟨rfl, rfl⟩)
  go_ret
  exact ⟨rfl, rfl⟩

set_option maxHeartbeats 400000 in
theorem write_size {w : World} {F : Nat → Prop} {g : DG} {D : Dk} (h : DiskAt w F g D) (i : Int) (ao : Option Addr) (n cap : Nat) (hm : D.may i = 0) (hn : n ≠ 512) :
    Calls Try.prog 48 #[.pointer (some ⟨g.db, 0, none⟩), .int .i64 i, .slice ao n cap] w fun e w' => e = .returned (.int .i64 9) ∧ w = w' := by
  have H := Lib.hid h
  have hm' : (D.may i != 0) = false := by simp [hm]
  have hn' : ((n : Int) != 512) = true := by rw [bne_iff_ne]; omega
  clear h hm hn
  go_enter Try.func48, Try.ntmps48
  go_wp2_with (go_at_call 69; refine (may_spec H.out _).mono ?_; rintro e w' ⟨rfl, rfl⟩)
  go_ret
  exact ⟨rfl, rfl⟩

set_option maxHeartbeats 400000 in
theorem write_fail {w : World} {F : Nat → Prop} {g : DG} {D : Dk} (h : DiskAt w F g D) (i : Nat) (v : Value) (b : List UInt8) (hr : Rd w v b) (hoff : D.off = false) (hi : i < D.n) (hb : b.length = 512) (harm : D.armed = 0) :
    Calls Try.prog 48 #[.pointer (some ⟨g.db, 0, none⟩), .int .i64 (i : Int), v] w fun e w' => e = .returned (.int .i64 8) ∧ DiskAt w' (Gr F w.heap.size) g { D with off := true, way := some i, front := b.take D.part } ∧ Upd [g.db] w w' := by
  have H := Lib.hid h
  have hm : D.may i = 0 := Dk.may_of hoff (by omega) (by omega)
  have hm' : (D.may i != 0) = false := by simp [hm]
  have ha : (D.armed != 0) = false := by simp [harm]
  have HA := Lib.hid harm
  have HR := Lib.hid hr
  have HB := Lib.hid hb
  have HOK := Lib.hid h.ok
  have hp := h.ok.part
  obtain ⟨ao, cap, rfl, hcap, _⟩ := id hr
  have hn' : ((b.length : Int) != 512) = false := by simp [hb]
  have hbl : 512 ≤ b.length := by omega
  have hbl2 : b.length ≤ 512 := by omega
  clear h hm harm hr hb
  go_enter Try.func48, Try.ntmps48
  go_wp2_with (first | (go_at_call 69; refine (may_spec H.out _).mono ?_; rintro e w' ⟨rfl, rfl⟩) | fail)
  refine (goes_spec H.out).mono ?_
  rintro e w1 ⟨rfl, hD1, hu1⟩
  have hgone : D.gone = { D with off := true } := by unfold Dk.gone; rw [if_pos HA.out]
  rw [hgone] at hD1
  have HR1 := Lib.hid ((HR.out.disk H.out hu1 (by simp)).take D.part (by omega))
  have HD1 := Lib.hid hD1
  obtain ⟨fv, a1, _⟩ := hD1.st
  have hc := blk_cell a1
  have HA1 := Lib.hid a1
  have HU1 := Lib.hid hu1
  clear hgone hD1 hu1 a1
  go_wp2_with fail
  refine (clone_spec _ _ _ HR1.out (by rw [List.length_take]; omega)).mono ?_
  rintro e w2 ⟨v', rfl, hu2, ho2⟩
  obtain ⟨aq, nq, cq, rfl⟩ := ho2.shape
  have a2 : w2.heap[g.db]? = _ := (hu2.block _ (blk_lt HA1.out) (by simp)).trans HA1.out
  have hc2 := blk_cell a2
  have hf2 := blk_free a2
  have HU2 := Lib.hid hu2
  have HO2 := Lib.hid ho2
  have HA2 := Lib.hid a2
  clear hu2 ho2 a2 hc
  go_wp2
  go_ret
  have hsz := HU1.out.size
  refine ⟨rfl, ?_, ?_⟩
  · have hD2 : DiskAt w2 (Gr F w.heap.size) g { D with off := true } :=
      (HD1.out.world (HU2.out.block _ HD1.out.lt.1 (by simp)) (HU2.out.block _ HD1.out.lt.2.1 (by simp)) (HU2.out.block _ HD1.out.lt.2.2 (by simp)) (fun k c _ hk => HU2.out.block _ (blk_lt hk) (by simp))).mono Gr.old
    refine hD2.re ⟨.slice aq nq cq, ?_, ?_⟩ (fun k _ hk => by rw [blk_set_ne _ _ hk, blk_set_ne _ _ hk]) rfl rfl rfl ?_
    · rw [blk_set (blk_set HA2.out 5 _) 6 _]; simp [wayv]
    · refine (HO2.out.mono (Gr.new hsz)).world (fun k c _ hk => ?_)
      have hne : k ≠ g.db := by rintro rfl; rw [HA2.out] at hk; simp at hk
      rw [blk_set_ne _ _ hne, blk_set_ne _ _ hne]
    · have ok := HOK.out
      exact ⟨ok.n0, ok.n1, ok.last, ok.wait, ok.armed0, ok.armed1, ok.part, fun j hj => by cases hj; exact hi, by simp; omega⟩
  · exact ((HU1.out.late HU2.out (by simp)).set _ (.inl (by simp))).set _ (.inl (by simp))

set_option maxHeartbeats 1000000 in
theorem write_ok {w : World} {F : Nat → Prop} {g : DG} {D : Dk} (h : DiskAt w F g D) (i : Nat) (v : Value) (b : List UInt8) (hr : Rd w v b) (hoff : D.off = false) (hi : i < D.n) (hb : b.length = 512) (harm : D.armed ≠ 0) :
    Calls Try.prog 48 #[.pointer (some ⟨g.db, 0, none⟩), .int .i64 (i : Int), v] w fun e w' => e = .returned (.int .i64 0) ∧ DiskAt w' (Gr F w.heap.size) g { D.step with wait := fun j => if j = i then some b else D.wait j, writes := wrap64 (D.writes + 1) } ∧ Upd [g.db, g.mb] w w' := by
  have H := Lib.hid h
  have hm : D.may i = 0 := Dk.may_of hoff (by omega) (by omega)
  have hm' : (D.may i != 0) = false := by simp [hm]
  have ha : (D.armed != 0) = true := by simpa using harm
  have HA := Lib.hid harm
  have HR := Lib.hid hr
  have HB := Lib.hid hb
  obtain ⟨ao, cap, rfl, hcap, _⟩ := id hr
  have hn' : ((b.length : Int) != 512) = false := by simp [hb]
  clear h hm harm hr hb
  go_enter Try.func48, Try.ntmps48
  go_wp2_with (first | (go_at_call 69; refine (may_spec H.out _).mono ?_; rintro e w' ⟨rfl, rfl⟩) | fail)
  refine (goes_spec H.out).mono ?_
  rintro e w1 ⟨rfl, hD1, hu1⟩
  have hgone : D.gone = D.step := by unfold Dk.gone; rw [if_neg HA.out]
  rw [hgone] at hD1
  have HR1 := Lib.hid (HR.out.disk H.out hu1 (by simp))
  have HD1 := Lib.hid hD1
  obtain ⟨fv, a1, _⟩ := hD1.st
  have hc := blk_cell a1
  have HA1 := Lib.hid a1
  have HU1 := Lib.hid hu1
  have hlt : g.db < w1.heap.size := hD1.lt.1
  have hcm : w1.cell? ⟨g.db, 1, none⟩ = some (.map (some g.mb)) := by rw [hc]; rfl
  obtain ⟨f, hf, hf1, hf2⟩ := hD1.wait
  have hfW : MapI (w1.alloc (.cells (bts (pad b)).toArray 5)).drew g.mb f := hf.world (blk_alloc_ne hf.lt)
  obtain ⟨o, hrun, hmap⟩ := hfW.update (P := Try.prog) (T := 49) Try.underlying49 Try.underlying3 (i : Int) (.slice (some ⟨w1.heap.size, 0, none⟩) 512 512)
  have hkeep : (ChangeMaps.setBlock (w1.alloc (.cells (bts (pad b)).toArray 5)).drew g.mb o).cell? ⟨g.db, 1, none⟩ = some (.map (some g.mb)) := by
    rw [World.cell?_of_block (w := w1)]
    · exact hcm
    · rw [setBlock_ne _ (Ne.symm hD1.ne2)]; exact blk_alloc_ne hlt
  have HM := Lib.hid hmap
  have HF1 := Lib.hid hf1
  have HF2 := Lib.hid hf2
  clear hgone hD1 hu1 a1 hf hfW hmap hf1 hf2 hc
  go_wp2_with fail
  go_region_held3 (fun w' => w'.cell? ⟨g.db, 1, none⟩ = some (.map (some g.mb))) (go_keep)
    (first | (go_at_call 64; refine (whole_spec _ b _ ?_).mono ?_; exact HR1.out; rintro e w' ⟨rfl, rfl⟩))
  have eW : ∀ k, k < w1.heap.size → k ≠ g.mb → (ChangeMaps.setBlock (w1.alloc (.cells (bts (pad b)).toArray 5)).drew g.mb o).heap[k]? = w1.heap[k]? := fun k hk hne => by
    rw [setBlock_ne _ hne]; exact blk_alloc_ne hk
  have eN : (ChangeMaps.setBlock (w1.alloc (.cells (bts (pad b)).toArray 5)).drew g.mb o).heap[w1.heap.size]? = some (.cells (bts (pad b)).toArray 5) := by
    rw [setBlock_ne _ (by have := HD1.out.lt.2.2; omega)]; exact blk_alloc _
  have eU : Upd [g.mb] w1 (ChangeMaps.setBlock (w1.alloc (.cells (bts (pad b)).toArray 5)).drew g.mb o) := ((Upd.refl _ _).alloc _).drew.setBlock _ (.inl (by simp))
  generalize ChangeMaps.setBlock (w1.alloc (.cells (bts (pad b)).toArray 5)).drew g.mb o = W at *
  have aW : W.heap[g.db]? = _ := (eW _ hlt (Ne.symm HD1.out.ne2)).trans HA1.out
  have hcW := blk_cell aW
  have hfW := blk_free aW
  have HE := Lib.hid eW
  have HN := Lib.hid eN
  have HU := Lib.hid eU
  have HAW := Lib.hid aW
  clear eW eN eU aW hkeep hrun hcm
  go_wp2
  go_ret
  have hw : D.step.writes = D.writes := by unfold Dk.step; split <;> rfl
  have hwt : D.step.wait = D.wait := by unfold Dk.step; split <;> rfl
  have hs1 := HU1.out.size
  refine ⟨rfl, ?_, ?_⟩
  · have ha : ∀ k c, F k → w1.heap[k]? = some (.cells c 5 (0, 0)) → W.heap[k]? = w1.heap[k]? := fun k c _ hk =>
      HE.out k (blk_lt hk) (fun e => HD1.out.byte hk (by simp [e]))
    have hDW : DiskAt W (Gr F w.heap.size) g { D.step with wait := fun j => if j = i then some b else D.wait j } := by
      obtain ⟨⟨fv', q1, q2⟩, ⟨lv, b1, b2, b3⟩, _, ok⟩ := HD1.out
      refine ⟨⟨fv', (HE.out _ hlt (Ne.symm HD1.out.ne2)).trans q1, (q2.world ha).mono Gr.old⟩, ⟨lv, (HE.out _ HD1.out.lt.2.1 (Ne.symm HD1.out.ne3)).trans b1, b2, fun j v hv => ((b3 j v hv).world ha).mono Gr.old⟩, ⟨_, HM.out, ?_, ?_⟩, ?_⟩
      · intro k v hk
        by_cases hki : k = (i : Int)
        · rw [if_pos hki] at hk
          cases hk
          refine ⟨by omega, b, by simp [hki], ⟨w1.heap.size, [], .inr hs1, by simp [HB.out], ?_⟩⟩
          rw [HN.out, pad_full HB.out]; simp
        · rw [if_neg hki] at hk
          obtain ⟨k0, s, e1, o1⟩ := HF1.out k v hk
          exact ⟨k0, s, by rw [hwt] at e1; show (if k.toNat = i then some b else D.wait k.toNat) = some s; rw [if_neg (by omega)]; exact e1, (o1.world ha).mono Gr.old⟩
      · intro j s hj
        by_cases hji : (j : Int) = (i : Int)
        · exact ⟨_, if_pos hji⟩
        · obtain ⟨v, hv⟩ := HF2.out j s (by rw [hwt]; rw [← hj]; show D.wait j = if j = i then some b else D.wait j; rw [if_neg (by omega)])
          exact ⟨v, by rw [if_neg hji]; exact hv⟩
      · refine ⟨ok.n0, ok.n1, ok.last, ?_, ok.armed0, ok.armed1, ok.part, ok.way, ok.front⟩
        intro j s hj
        have hn : D.step.n = D.n := by unfold Dk.step; split <;> rfl
        by_cases hji : j = i
        · simp only [if_pos hji, Option.some.injEq] at hj
          subst hj
          exact ⟨by show j < D.step.n; omega, HB.out⟩
        · simp only [if_neg hji] at hj
          exact ok.wait j s (by rw [hwt]; exact hj)
    obtain ⟨fv', q1, q2⟩ := hDW.st
    refine hDW.re ⟨fv', ?_, ?_⟩ (fun k _ hk => blk_set_ne _ _ hk) rfl rfl rfl ?_
    · rw [blk_set q1]; simp [hw]
    · exact q2.world (fun k c _ hk => blk_set_ne _ _ (by rintro rfl; rw [q1] at hk; simp at hk))
    · have ok := hDW.ok
      exact ⟨ok.n0, ok.n1, ok.last, ok.wait, ok.armed0, ok.armed1, ok.part, ok.way, ok.front⟩
  · exact ((HU1.out.mono (by simp)).trans (HU.out.mono (by simp))).set _ (.inl (by simp))

end Go.Proofs.Ythbgidiblcokhaa
