/-
  Twin; List: what is committed.
-/
import Derived.Test.YthbgidiblcokhaaLwF
namespace Go.Proofs.Ythbgidiblcokhaa
open Go.RowKit

set_option maxRecDepth 100000 in
set_option maxHeartbeats 1000000 in
theorem twin_spec (v : Value) (l : List UInt8) (w : World) (hr : Rd w v l) (hl : l.length ≤ 10000) :
    Calls Try.prog 65 #[v] w fun e w' => ∃ k c, e = .returned (.slice (some ⟨k, 0, none⟩) l.length c) ∧ Own w' 5 (fun k => w.heap.size ≤ k) (.slice (some ⟨k, 0, none⟩) l.length c) l ∧ Upd [] w w' := by
  obtain ⟨ao, cap, rfl, hcap, hh⟩ := hr
  have hr : Rd w (.slice ao l.length cap) l := ⟨ao, cap, rfl, hcap, hh⟩
  have hmk : (Instr.makeSlice 36 (.int .i64 ((l.length : Int) + 3)) (.int .i64 ((l.length : Int) + 3))).run Try.prog w = .ok (.slice (some ⟨w.heap.size, 0, none⟩) (l.length + 3) (l.length + 3)) (w.alloc (.cells (bts (List.replicate (l.length + 3) 0)).toArray 5)) := by
    have := run_make_u8 (l.length + 3) (by omega) w
    rw [show ((l.length + 3 : Nat) : Int) = (l.length : Int) + 3 from by omega] at this
    exact this
  have hcp : ∀ ty, (Builtin.copy_ #[36, 36] ty #[.slice (some ⟨w.heap.size, 0, none⟩) (l.length + 3) (l.length + 3), .slice ao l.length cap]).run Try.prog (w.alloc (.cells (bts (List.replicate (l.length + 3) 0)).toArray 5)) = .ok (goInt ((min l.length (l.length + 3) : Nat) : Int)) (w.alloc (.cells (bts (l ++ [0, 0, 0])).toArray 5)) := by
    intro ty
    rw [run_copy_rd (u8 := 5) Try.underlying36 sizeU8 w.heap.size 0 (l.length + 3) (l.length + 3) (bts (List.replicate (l.length + 3) 0)) (blk_alloc _) (by rw [bts_length]; simp) (hr.alloc _), setRow_alloc]
    have e : splice (bts (List.replicate (l.length + 3) 0)) 0 (bts (l.take (l.length + 3))) = bts (l ++ [0, 0, 0]) := by
      rw [splice_head, bts_length, List.take_of_length_le (by omega), bts_append]
      congr 1
      show (List.map bv _).drop _ = _
      rw [← List.map_drop, List.drop_replicate, show l.length + 3 - l.length = 3 from by omega]; rfl
    rw [e]
  clear hr hh
  obtain ⟨w1, hw1⟩ : ∃ w1, w1 = w.alloc (.cells (bts (List.replicate (l.length + 3) 0)).toArray 5) := ⟨_, rfl⟩
  obtain ⟨w2, hw2⟩ : ∃ w2, w2 = w.alloc (.cells (bts (l ++ [0, 0, 0])).toArray 5) := ⟨_, rfl⟩
  rw [← hw1] at hmk
  rw [← hw1, ← hw2] at hcp
  have HU2 : Hid (Upd [] w w2) := by show Upd _ _ _; rw [hw2]; exact (Upd.refl _ _).alloc _
  have HB2 : Hid (w2.heap[w.heap.size]? = some (.cells (bts l ++ bts [0, 0, 0]).toArray 5 (0, 0))) := by show _ = _; rw [hw2, ← bts_append]; exact blk_alloc _
  clear hw1 hw2
  obtain ⟨n, hn⟩ : ∃ n, n = l.length := ⟨_, rfl⟩
  rw [← hn] at hmk hcp hl ⊢
  have HN := Lib.hid hn
  clear hn hcap
  go_enter Try.func65, Try.ntmps65
  go_wp2_with fail
  go_loopw [4] (fun i wr => ∃ k : Nat, k ≤ 3 ∧ i = .int .i64 ((n + k : Nat) : Int) ∧ (∃ r : List Value, r.length = 3 ∧ wr.heap[w.heap.size]? = some (.cells (bts l ++ r).toArray 5 (0, 0))) ∧ Upd [] w wr) (fun i _ => n + 3 - (intOf i).toNat)
  case atStart => exact ⟨0, by omega, rfl, ⟨bts [0, 0, 0], rfl, HB2.out⟩, HU2.out⟩
  case round =>
    obtain ⟨k, hk, rfl, ⟨r, hr3, hb⟩, hu⟩ := hrel
    by_cases hlt : k < 3
    · have hlt' : decide (((n + k : Nat) : Int) < (n : Int) + 3) = true := by simp; omega
      obtain ⟨x0, hx0⟩ : ∃ x, (bts l ++ r).toArray[n + k]? = some x := by
        have : n + k < (bts l ++ r).toArray.size := by have := HN.out; simp; omega
        exact ⟨_, Array.getElem?_eq_getElem this⟩
      have hc : wr.cell? ⟨w.heap.size, n + k, none⟩ = some x0 := (blk_cell hb _).trans hx0
      have hf := blk_free hb (n + k)
      have HB := Lib.hid hb
      have HU := Lib.hid hu
      have i0 : (0 : Int) ≤ ((n + k : Nat) : Int) := by omega
      have i1 : ((n + k : Nat) : Int) < ((n + 3 : Nat) : Int) := by omega
      clear hb hu hx0
      go_wp2_with fail
      refine ⟨⟨k + 1, by omega, by rw [show ((n + (k + 1) : Nat) : Int) = (n : Int) + (k : Int) + 1 from by omega], ⟨r.set k (.int .u8 229), by simp [hr3], ?_⟩, HU.out.set _ (.inr (Nat.le_refl _))⟩, by simp [intOf]; omega⟩
      rw [blk_set HB.out]
      congr 2
      rw [List.setIfInBounds_toArray, HN.out]
      congr 1
      rw [List.set_append_right _ _ (by simp), bts_length, Nat.add_sub_cancel_left]
    · obtain rfl : k = 3 := by omega
      have hlt' : decide (((n + 3 : Nat) : Int) < (n : Int) + 3) = false := by simp
      have HB := Lib.hid hb
      have HU := Lib.hid hu
      clear hb hu
      go_wp2_with fail
      go_ret
      exact ⟨_, _, rfl, ⟨w.heap.size, r, Nat.le_refl _, by rw [hr3, ← HN.out], HB.out⟩, HU.out⟩

/-- One of a law's puts: where, what, whether just that. -/
structure Pz where
  I : Int
  B : List UInt8
  Odd : Bool
def Pz.put (p : Pz) : Put := (p.I, if p.Odd then p.B else pad p.B)
/-- A slice of puts that reads as l. -/
def PzIn (w : World) (v : Value) (l : List Pz) : Prop :=
  ∃ ao cap, v = .slice ao l.length cap ∧ l.length ≤ cap ∧ (0 < l.length → ∃ b off, ao = some ⟨b, off, none⟩ ∧ ∀ i (h : i < l.length), ∃ vb, w.cell? ⟨b, off + i * 3, none⟩ = some (.int .i64 l[i].I) ∧ w.cell? ⟨b, off + i * 3 + 1, none⟩ = some vb ∧ w.cell? ⟨b, off + i * 3 + 2, none⟩ = some (.bool l[i].Odd) ∧ Rd w vb l[i].B)
theorem Rd.upd0 {w w' : World} {v : Value} {l : List UInt8} (h : Rd w v l) (hu : Upd [] w w') : Rd w' v l := h.below hu
theorem PzIn.below {w w' : World} {v : Value} {l : List Pz} (h : PzIn w v l) (hu : Upd [] w w') : PzIn w' v l := by
  obtain ⟨ao, cap, e, hc, hh⟩ := h
  refine ⟨ao, cap, e, hc, fun hp => ?_⟩
  obtain ⟨b, off, hab, hcell⟩ := hh hp
  refine ⟨b, off, hab, fun i hi => ?_⟩
  obtain ⟨vb, c0, c1, c2, hr⟩ := hcell i hi
  have keep : ∀ {o : Nat} {x : Value}, w.cell? ⟨b, o, none⟩ = some x → w'.cell? ⟨b, o, none⟩ = some x := fun hx => by
    rw [World.cell?_of_block (w := w) (hu.block _ (block_lt_of_cell hx) (by simp))]; exact hx
  exact ⟨vb, keep c0, keep c1, keep c2, hr.below hu⟩

set_option maxRecDepth 100000 in
set_option maxHeartbeats 1000000 in
theorem list_spec (v : Value) (l : List Pz) (w : World) (hv : PzIn w v l) (hl : l.length ≤ 10000) (hB : ∀ p ∈ l, p.B.length ≤ 10000) :
    Calls Try.prog 31 #[v] w fun e w' => ∃ a n c, e = .returned (.slice a n c) ∧ PutsOwnB w' w.heap.size AnyF (.slice a n c) (l.map Pz.put) ∧ Upd [] w w' := by
  have hbp := run_build_put
  obtain ⟨ao, cap, rfl, hcap, hh⟩ := hv
  have HV : Hid (PzIn w (.slice ao l.length cap) l) := ⟨ao, cap, rfl, hcap, hh⟩
  have HB := Lib.hid hB
  clear hh hB
  go_enter Try.func31, Try.ntmps31
  go_wp2_with fail
  go_loopw [4, 3] (fun i m wr => ∃ k : Nat, k ≤ l.length ∧ i = .int .i64 (k : Int) ∧ PutsOwnB wr w.heap.size AnyF m ((l.take k).map Pz.put) ∧ Upd [] w wr) (fun i _ _ => l.length - (intOf i).toNat)
  case atStart => exact ⟨0, Nat.zero_le _, rfl, ⟨[], ⟨by simp, .inl ⟨rfl, rfl⟩⟩, by simp, by simp⟩, Upd.refl _ _⟩
  case round =>
    obtain ⟨k, hk, rfl, hm, hu⟩ := hrel
    obtain ⟨am, nm, cm, rfl⟩ := hm.shape3
    by_cases hlt : k < l.length
    · have hlt' : decide ((k : Int) < (l.length : Int)) = true := by simpa using hlt
      obtain ⟨ao', cap', e, _, hh⟩ := HV.out.below hu
      obtain ⟨b, off, rfl, hcell⟩ := hh (by omega)
      cases e
      obtain ⟨vb, c0, c1, c2, hrd⟩ := hcell k hlt
      obtain ⟨ab, cb, rfl, _⟩ := id hrd
      have i0 : (0 : Int) ≤ (k : Int) := by omega
      have i1 : (k : Int) < (l.length : Int) := by omega
      have HF := Lib.hid (full_spec _ _ wr hrd)
      have HRD := Lib.hid hrd
      have htk : (l.take (k + 1)).map Pz.put = (l.take k).map Pz.put ++ [(l[k].I, if l[k].Odd then l[k].B else pad l[k].B)] := by
        rw [List.take_succ_eq_append_getElem hlt, List.map_append]; rfl
      have HTK := Lib.hid htk
      have HM := Lib.hid hm
      have HU := Lib.hid hu
      have hBk := HB.out l[k] (List.getElem_mem hlt)
      have HBK := Lib.hid hBk
      have hzr := hu.size
      clear hcell hh hrd htk hm hu hBk
      generalize l[k].I = I at *
      generalize l[k].B = B at *
      generalize l[k].Odd = od at *
      go_wp2_with fail
      refine HF.out.mono ?_
      rintro e w1 ⟨rfl, hw1⟩
      have HU1 : Hid (Upd [] wr w1) := by show Upd _ _ _; rw [← hw1]; exact (Upd.refl _ _).alloc _
      have hb1 : w1.heap[wr.heap.size]? = some (.cells (bts (pad B)).toArray 5 (0, 0)) := by rw [← hw1]; exact blk_alloc _
      have HB1 := Lib.hid hb1
      clear hw1 hb1
      have keep : ∀ {o : Nat} {x : Value}, wr.cell? ⟨b, o, none⟩ = some x → w1.cell? ⟨b, o, none⟩ = some x := fun hx => by
        rw [World.cell?_of_block (w := wr) (HU1.out.block _ (block_lt_of_cell hx) (by simp))]; exact hx
      have d0 := keep c0
      have d1 := keep c1
      have d2 := keep c2
      cases od
      · obtain ⟨a', b', c', w3, hrun, hs3, hk3, hu3, _⟩ := puts_push (HM.out.upd HU1.out (by simp) (by simp)) (by rw [List.length_map, List.length_take]; omega) (by have := HU1.out.size; omega) (HU.out.trans HU1.out) (Nat.le_refl _) I wr.heap.size 512 512 (pad B) ⟨wr.heap.size, [], trivial, by rw [pad_length]; rfl, by simpa using HB1.out⟩
        have HS3 := Lib.hid hs3
        have HU3 := Lib.hid hu3
        clear hs3 hk3 hu3 keep
        go_wp2_with (at_builtin; refine wpList_append_run rfl _ _ _ rfl rfl rfl hrun ?_)
        exact ⟨⟨k + 1, by omega, by go_num, by rw [HTK.out]; exact HS3.out, HU3.out⟩, by simp [intOf]; omega⟩
      · have HT := Lib.hid (twin_spec _ _ w1 (HRD.out.below HU1.out) HBK.out)
        go_wp2_with fail
        refine HT.out.mono ?_
        rintro e w2 ⟨k2, c2', rfl, ho2, hu2⟩
        have keep2 : ∀ {o : Nat} {x : Value}, w1.cell? ⟨b, o, none⟩ = some x → w2.cell? ⟨b, o, none⟩ = some x := fun hx => by
          rw [World.cell?_of_block (w := w1) (hu2.block _ (block_lt_of_cell hx) (by simp))]; exact hx
        have e0 := keep2 d0
        obtain ⟨a', b', c', w3, hrun, hs3, hk3, hu3, _⟩ := puts_push ((HM.out.upd HU1.out (by simp) (by simp)).upd hu2 (by simp) (by simp)) (by rw [List.length_map, List.length_take]; omega) (by have := HU1.out.size; have := hu2.size; omega) ((HU.out.trans HU1.out).trans hu2) (Nat.le_refl _) I k2 B.length c2' B (ho2.mono fun _ _ => trivial)
        have HS3 := Lib.hid hs3
        have HU3 := Lib.hid hu3
        clear hs3 hk3 hu3 keep keep2 ho2 hu2
        go_wp2_with (at_builtin; refine wpList_append_run rfl _ _ _ rfl rfl rfl hrun ?_)
        exact ⟨⟨k + 1, by omega, by go_num, by rw [HTK.out]; exact HS3.out, HU3.out⟩, by simp [intOf]; omega⟩
    · obtain rfl : k = l.length := by omega
      have hlt' : decide ((l.length : Int) < (l.length : Int)) = false := by simp
      have HM := Lib.hid hm
      have HU := Lib.hid hu
      clear hm hu
      go_wp2_with fail
      go_ret
      have := HM.out
      rw [List.take_length] at this
      exact ⟨_, _, _, rfl, this, HU.out⟩

end Go.Proofs.Ythbgidiblcokhaa
