/-
  frame.Put, walked.
-/
import Derived.Test.YtceakcejchbbjaaGreatFrC
set_option linter.unusedSimpArgs false
set_option linter.unusedVariables false
namespace Go.Proofs.YtceakcejchbbjaaGreat
open Go.RowKit Go.MapKept Go.ChangeMaps
attribute [-go_sem] loadCells storeCells Instr.build

/-- A frame. -/
def frameB (key b : List UInt8) : List UInt8 := [199, 70] ++ be 4 b.length ++ chk key b ++ key ++ b
theorem frameB_length {key b : List UInt8} (hk : key.length = 32) : (frameB key b).length = 46 + b.length := by
  unfold frameB
  simp only [List.length_append, be_length, chk_length, hk]
  rfl
theorem BRow.low {w : World} {B B' : Nat} {v : Value} {l : List UInt8} (h : BRow w B v l) (hB : B' ≤ B) : BRow w B' v l := by
  refine ⟨h.1, ?_⟩
  rcases h.2 with h | ⟨g, cap, cur, hv, hb, r⟩
  · exact .inl h
  · exact .inr ⟨g, cap, cur, hv, Nat.le_trans hB hb, r⟩
theorem rd_blk {w : World} {b : Nat} {l : List UInt8} {T : TypeId} {n : Nat} (h : w.heap[b]? = some (.cells (bts l).toArray T (0, 0))) (hn : l.length = n) : Rd w (.slice (some ⟨b, 0, none⟩) n n) l := by
  subst hn
  refine ⟨_, _, rfl, Nat.le_refl _, fun _ => ⟨_, _, rfl, fun i hi => ?_⟩⟩
  rw [blk_cell h, List.getElem?_toArray, Nat.zero_add, bts_get, List.getElem?_eq_getElem hi]; rfl
set_option maxRecDepth 100000 in
set_option maxHeartbeats 2000000 in
theorem put_frame {w : World} {v : Value} {key b : List UInt8} (hr : Rd w v b) (hk : key.length = 32) (hb : b.length ≤ 4200) :
    Calls Tryz.prog 59 #[.agg (bts key).toArray, v] w fun e w' => ∃ a c, e = .returned (.tuple #[.slice a (46 + b.length) c, .int .i64 0]) ∧ BRow w' w.heap.size (.slice a (46 + b.length) c) (frameB key b) ∧ Upd [] w w' := by
  obtain ⟨w1, hw1⟩ : ∃ w1, w1 = w.alloc (.cells (bts key).toArray 35) := ⟨_, rfl⟩
  obtain ⟨kb, hkb⟩ : ∃ k, k = w.heap.size := ⟨_, rfl⟩
  have hc1 : w1.heap[kb]? = some (.cells (bts key).toArray 35 (0, 0)) := by rw [hw1, hkb]; exact blk_alloc _
  have hu1 : Upd [] w w1 := by rw [hw1]; exact (Upd.refl _ _).alloc _
  obtain ⟨w2, hw2⟩ : ∃ w2, w2 = w1.alloc (.cells #[.int .u8 199, .int .u8 70] 5) := ⟨_, rfl⟩
  have hu2 : Upd [] w1 w2 := by rw [hw2]; exact (Upd.refl _ _).alloc _
  have hr2 : Rd w2 (.slice (some ⟨w1.heap.size, 0, none⟩) 2 2) [199, 70] := rd_blk (b := w1.heap.size) (T := 5) (by rw [hw2]; exact blk_alloc _) rfl
  have hp4 := put4_spec hr2 (by simp) b.length (by omega)
  have hsz1 : w1.heap.size = w.heap.size + 1 := by rw [hw1]; simp
  rw [hsz1, hw2, hw1] at hp4
  have HP4 := Lib.hid hp4
  have HR := Lib.hid hr
  have HC1 := Lib.hid hc1
  have HU2 := Lib.hid (hu1.trans hu2)
  have HU1 := Lib.hid hu1
  have HU12 := Lib.hid hu2
  have HW1 := Lib.hid hw1
  have HW2 := Lib.hid hw2
  have HKB := Lib.hid hkb
  have hn0 : decide ((4200 : Int) < (b.length : Int)) = false := decide_eq_false (by omega)
  have hn1 : decide (4200 < b.length) = false := decide_eq_false (by omega)
  have hwl : IntKind.u64.wrap (b.length : Int) = (b.length : Int) := by rw [IntKind.wrap_u64]; omega
  have hkl : (bts key).length = 32 := by rw [bts_length, hk]
  obtain ⟨av, cv, rfl, _⟩ := hr
  clear hc1 hu1 hu2 hr2 hp4 hw1 hw2 hkb
  go_enter Tryz.func59, Tryz.ntmps59
  go_wp2_with fail
  refine HP4.out.mono ?_
  rintro e w3 ⟨a3, c3, rfl, h3, hu3⟩
  have hw1 := HW1.out
  have hw2 := HW2.out
  have hkb := HKB.out
  rw [← hw1, ← hw2] at h3 hu3
  have hk3 : w3.heap[kb]? = some (.cells (bts key).toArray 35 (0, 0)) := by
    have hlt := blk_lt HC1.out
    exact (hu3.block _ (Nat.lt_of_lt_of_le hlt HU12.out.size) (by simp)).trans ((HU12.out.block _ hlt (by simp)).trans HC1.out)
  have hck := check_spec (rd_blk hk3 hk) (HR.out.below (HU2.out.trans hu3)) (by omega)
  have HCK := Lib.hid hck
  have H3 := Lib.hid h3
  have HU3 := Lib.hid hu3
  have HK3 := Lib.hid hk3
  rw [hkb] at HCK
  clear h3 hu3 hk3 hck hw1 hw2 hkb
  go_wp2_with fail
  refine HCK.out.mono ?_
  rintro e w4 ⟨g, rfl, hg, hr4, hu4⟩
  have hsz2 : w2.heap.size ≤ w4.heap.size := Nat.le_trans HU3.out.size hu4.size
  have h3' : BRow w3 w2.heap.size (.slice a3 ([199, 70] ++ be 4 b.length).length c3) ([199, 70] ++ be 4 b.length) := by
    have := H3.out; simpa [be_length] using this
  obtain ⟨a5, c5, w5, hrun5, h5, hu5⟩ := bytes_app (h3'.keep hu4) hr4 (by simp [be_length, chk_length]) hsz2
  have hw25 : Upd [] w2 w5 := hu5 w2 (Nat.le_refl _) (HU3.out.trans hu4)
  have hk5 : w5.heap[kb]? = some (.cells (bts key).toArray 35 (0, 0)) := by
    have hlt := blk_lt HC1.out
    exact (hw25.block _ (Nat.lt_of_lt_of_le hlt HU12.out.size) (by simp)).trans ((HU12.out.block _ hlt (by simp)).trans HC1.out)
  have h5' : BRow w5 w2.heap.size (.slice a5 ([199, 70] ++ be 4 b.length ++ chk key b).length c5) ([199, 70] ++ be 4 b.length ++ chk key b) := by rw [List.length_append]; exact h5
  obtain ⟨a6, c6, w6, hrun6, h6, hu6⟩ := bytes_app h5' (rd_blk hk5 hk) (by simp [be_length, chk_length, hk]) hw25.size
  have hw26 : Upd [] w2 w6 := hu6 w2 (Nat.le_refl _) hw25
  have h6' : BRow w6 w2.heap.size (.slice a6 ([199, 70] ++ be 4 b.length ++ chk key b ++ key).length c6) ([199, 70] ++ be 4 b.length ++ chk key b ++ key) := by rw [List.length_append]; exact h6
  obtain ⟨a7, c7, w7, hrun7, h7, hu7⟩ := bytes_app h6' (HR.out.below (HU2.out.trans hw26)) (by simp [be_length, chk_length, hk]; omega) hw26.size
  have hw27 : Upd [] w2 w7 := hu7 w2 (Nat.le_refl _) hw26
  have e5 : ([199, 70] ++ be 4 b.length : List UInt8).length + (chk key b).length = 14 := by simp [be_length, chk_length]
  have e6 : ([199, 70] ++ be 4 b.length ++ chk key b : List UInt8).length + key.length = 46 := by simp [be_length, chk_length, hk]
  have e7 : ([199, 70] ++ be 4 b.length ++ chk key b ++ key : List UInt8).length + b.length = 46 + b.length := by simp [be_length, chk_length, hk]
  have e3 : ([199, 70] ++ be 4 b.length : List UInt8).length = 6 := by simp [be_length]
  rw [e5, e3] at hrun5
  rw [e6, List.length_append, e5] at hrun6
  rw [e7, List.length_append, e6] at hrun7
  rw [e7] at h7
  have HF := Lib.hid (h7.low HU2.out.size)
  have HUF := Lib.hid (HU2.out.trans hw27)
  rw [HKB.out] at hrun6
  clear hr4 hu4 hsz2 h3' h5 hu5 hw25 hk5 h5' h6 hu6 hw26 h6' h7 hu7 hw27 e5 e6 e7 e3
  go_wp2_with (at_builtin; first | (refine wpList_append_run rfl _ _ _ rfl rfl rfl hrun5 ?_; clear hrun5) | (refine wpList_append_run rfl _ _ _ rfl rfl rfl hrun6 ?_; clear hrun6) | (refine wpList_append_run rfl _ _ _ rfl rfl rfl hrun7 ?_; clear hrun7))
  go_ret2
  exact ⟨_, _, rfl, HF.out, HUF.out⟩
end Go.Proofs.YtceakcejchbbjaaGreat
