/-
  PackTold: cofferlaw11.body. A row of places of the law's own.
-/
import Derived.Test.YtceakcejchbbjaaGreatFrD
section
set_option linter.unusedSimpArgs false
set_option linter.unusedVariables false
namespace Go.Proofs.YtceakcejchbbjaaGreat
open Go.RowKit Go.MapKept Go.ChangeMaps

def bodyB (i N : Nat) : List UInt8 := (List.range N).map fun k => UInt8.ofNat (i + k)
theorem bodyB_length (i N : Nat) : (bodyB i N).length = N := by unfold bodyB; simp
def bodyP (i N k : Nat) : List UInt8 := bodyB i k ++ List.replicate (N - k) 0
theorem bodyP_zero (i N : Nat) : bodyP i N 0 = List.replicate N 0 := by unfold bodyP bodyB; simp
theorem bodyP_full (i N : Nat) : bodyP i N N = bodyB i N := by unfold bodyP; simp
theorem bodyP_set {i N k : Nat} (hk : k < N) : (bts (bodyP i N k)).set k (.int .u8 (((i + k) % 256 : Nat) : Int)) = bts (bodyP i N (k + 1)) := by
  have h1 : Value.int .u8 (((i + k) % 256 : Nat) : Int) = bv (UInt8.ofNat (i + k)) := by
    show _ = Value.int .u8 ((UInt8.ofNat (i + k)).toNat : Int)
    rw [UInt8.toNat_ofNat']
  rw [h1]
  unfold bts
  rw [← List.map_set]
  congr 1
  unfold bodyP
  rw [List.set_append_right _ _ (by rw [bodyB_length]; exact Nat.le_refl _), bodyB_length, Nat.sub_self]
  obtain ⟨m, hm⟩ : ∃ m, N - k = m + 1 := ⟨N - k - 1, by omega⟩
  rw [hm, List.replicate_succ, List.set_cons_zero, show N - (k + 1) = m by omega]
  unfold bodyB
  rw [List.range_succ, List.map_append, List.append_assoc]
  rfl
set_option maxRecDepth 100000 in
theorem body_spec (i : Nat) (hi : i ≤ 40) (a : Int) (w : World) : Calls Tryz.prog 30 #[.int .i64 (i : Int), .int .i64 a] w fun e w' => ∃ v, e = .returned v ∧ Rd w' v (bodyB i (placeN a 4201)) ∧ Upd [] w w' := by
  have hS := placeN_lt (k := a) (n := 4201) (by omega)
  have HS := fun w => Lib.hid (place_spec a 4201 w (by omega) (by omega))
  generalize placeN a 4201 = N at *
  have hmk := run_make_u8 N (by omega) w
  obtain ⟨wA, hwA⟩ : ∃ wA, wA = w.alloc (.cells (bts (List.replicate N 0)).toArray 5) := ⟨_, rfl⟩
  obtain ⟨b, hb⟩ : ∃ b, b = w.heap.size := ⟨_, rfl⟩
  have hbl : wA.heap[b]? = some (.cells (bts (bodyP i N 0)).toArray 5 (0, 0)) := by rw [hwA, hb, bodyP_zero]; exact blk_alloc _
  have huA : Upd [] w wA := by rw [hwA]; exact (Upd.refl _ _).alloc _
  have HWA := Lib.hid hwA
  have HBE := Lib.hid hb
  have HBL := Lib.hid hbl
  have HUA := Lib.hid huA
  rw [← hwA, ← hb] at hmk
  clear hwA hb hbl huA
  go_enter Tryz.func30, Tryz.ntmps30
  go_wp2_with fail
  refine (HS _).out.mono ?_
  rintro e w' ⟨rfl, rfl⟩
  go_wp2_with fail
  go_loopw [6] (fun q wr => ∃ k : Nat, k ≤ N ∧ q = .int .i64 (k : Int) ∧ wr.heap[b]? = some (.cells (bts (bodyP i N k)).toArray 5 (0, 0)) ∧ Upd [b] wA wr) (fun q _ => N - (intOf q).toNat)
  case atStart => exact ⟨0, by omega, rfl, HBL.out, Upd.refl _ _⟩
  case round =>
    obtain ⟨k, hk, rfl, hb, hu⟩ := hrel
    rcases Nat.lt_or_ge k N with h4 | h4
    · have cj : decide ((k : Int) < (N : Int)) = true := decide_eq_true (by omega)
      obtain ⟨w1, hw1⟩ : ∃ w1, w1 = wr.setCell ⟨b, k, none⟩ (.int .u8 (((i + k) % 256 : Nat) : Int)) := ⟨_, rfl⟩
      have hb1 : w1.heap[b]? = some (.cells (bts (bodyP i N (k + 1))).toArray 5 (0, 0)) := by
        rw [hw1, ← bodyP_set h4]
        have := blk_set hb k (.int .u8 (((i + k) % 256 : Nat) : Int))
        simpa using this
      have hu1 : Upd [b] wA w1 := by rw [hw1]; exact hu.set _ (.inl (by simp))
      have hlen : k < (bts (bodyP i N k)).toArray.size := by
        rw [List.size_toArray, bts_length]
        unfold bodyP
        rw [List.length_append, bodyB_length, List.length_replicate]; omega
      have m0 : ∃ x, wr.cell? ⟨b, k, none⟩ = some x := by
        rw [blk_cell hb]
        exact ⟨_, Array.getElem?_eq_getElem hlen⟩
      obtain ⟨x, m0⟩ := m0
      have f0 := blk_free hb k
      have hcv : (IntKind.u8.wrap ((i : Int) + (k : Int))) = (((i + k) % 256 : Nat) : Int) := by rw [IntKind.wrap_u8]; omega
      have hki : k < N := h4
      have HB1 := Lib.hid hb1
      have HU1 := Lib.hid hu1
      have HW1 := Lib.hid hw1
      clear hb hu hb1 hu1 hw1 hlen
      go_wp2_with fail
      have hw1 := HW1.out
      rw [show (((i + k) % 256 : Nat) : Int) = ((i : Int) + (k : Int)) % 256 by omega] at hw1
      rw [← hw1]
      exact ⟨⟨k + 1, by omega, by go_num, HB1.out, HU1.out⟩, by simp [intOf]; omega⟩
    · obtain rfl : k = N := by omega
      have cj : decide ((k : Int) < (k : Int)) = false := decide_eq_false (by omega)
      have HBB := Lib.hid hb
      have HU1 := Lib.hid (HUA.out.late hu (fun j hj => .inr (by have := HBE.out; simp at hj; omega)))
      clear hb hu
      go_wp2_with fail
      go_ret
      refine ⟨_, rfl, ?_, HU1.out⟩
      rw [← bodyP_full]
      exact rd_blk HBB.out (by rw [bodyP_full, bodyB_length])
end Go.Proofs.YtceakcejchbbjaaGreat
end

section
namespace Go.Proofs.YtceakcejchbbjaaGreat
open Go.RowKit

def plCells (ps : List (Nat × Nat × Nat)) : List Value := ps.flatMap fun p => [.int .i64 (p.1 : Int), .int .i64 (p.2.1 : Int), .int .i64 (p.2.2 : Int)]
theorem plCells_length (ps : List (Nat × Nat × Nat)) : (plCells ps).length = ps.length * 3 := by
  induction ps with
  | nil => rfl
  | cons p ps ih => simp [plCells] at *; omega
theorem plCells_append (a b : List (Nat × Nat × Nat)) : plCells (a ++ b) = plCells a ++ plCells b := by simp [plCells]
theorem plCells_get : ∀ (ps : List (Nat × Nat × Nat)) (k : Nat) (p : Nat × Nat × Nat), ps[k]? = some p → (plCells ps)[k * 3]? = some (.int .i64 (p.1 : Int)) ∧ (plCells ps)[k * 3 + 1]? = some (.int .i64 (p.2.1 : Int)) ∧ (plCells ps)[k * 3 + 2]? = some (.int .i64 (p.2.2 : Int))
  | [], k, p, h => by simp at h
  | q :: ps, 0, p, h => by simp at h; subst h; simp [plCells]
  | q :: ps, k + 1, p, h => by
    have ih := plCells_get ps k p (by simpa using h)
    have e : plCells (q :: ps) = [.int .i64 (q.1 : Int), .int .i64 (q.2.1 : Int), .int .i64 (q.2.2 : Int)] ++ plCells ps := rfl
    rw [e, List.getElem?_append_right (by simp; omega), List.getElem?_append_right (by simp; omega), List.getElem?_append_right (by simp; omega)]
    simp only [List.length_cons, List.length_nil]
    rw [show (k + 1) * 3 - (0 + 1 + 1 + 1) = k * 3 from by omega, show (k + 1) * 3 + 1 - (0 + 1 + 1 + 1) = k * 3 + 1 from by omega, show (k + 1) * 3 + 2 - (0 + 1 + 1 + 1) = k * 3 + 2 from by omega]
    exact ih
theorem infoPl : (Tryz.prog.info? 30).map (fun i => (i.zero, i.size, i.bytes)) = some (some (.agg #[.int .i64 0, .int .i64 0, .int .i64 0]), 3, 24) := by kernel_rfl
def PlB (w : World) (B : Nat) (v : Value) (ps : List (Nat × Nat × Nat)) : Prop := w.ownsRow B 30 3 v ps.length (plCells ps)
theorem PlB.nil (w : World) (B : Nat) : PlB w B (.slice none 0 0) [] := ⟨by simp [plCells], .inl ⟨rfl, rfl⟩⟩
theorem PlB.keep {w w' : World} {B : Nat} {v : Value} {ps : List (Nat × Nat × Nat)} (h : PlB w B v ps) (hk : ∀ (k : Nat) (c : Array Value), w.heap[k]? = some (.cells c 30 (0, 0)) → w'.heap[k]? = w.heap[k]?) : PlB w' B v ps := by
  refine ⟨h.1, ?_⟩
  rcases h.2 with h | ⟨g, cap, cur, e, hb, hg, r⟩
  · exact .inl h
  · exact .inr ⟨g, cap, cur, e, hb, (hk g cur hg).trans hg, r⟩
theorem PlB.upd {w w' : World} {B : Nat} {v : Value} {ps : List (Nat × Nat × Nat)} (h : PlB w B v ps) {S : List Nat} (hu : Upd S w w') (hS : ∀ (k : Nat) (c : Array Value), k ∈ S → w.heap[k]? ≠ some (.cells c 30 (0, 0))) : PlB w' B v ps :=
  h.keep fun k c e => hu.block _ (blk_lt e) fun q => hS k c q e
theorem PlB.shape {w : World} {B : Nat} {v : Value} {ps : List (Nat × Nat × Nat)} (h : PlB w B v ps) : ∃ a c, v = .slice a ps.length c := by
  rcases h.2 with ⟨e, h0⟩ | ⟨g, cap, cur, e, _⟩
  · exact ⟨none, 0, by rw [e, h0]⟩
  · exact ⟨_, _, e⟩
theorem PlB.cell {w : World} {B : Nat} {v : Value} {ps : List (Nat × Nat × Nat)} (h : PlB w B v ps) (k : Nat) (hk : k < ps.length) : ∃ g c, v = .slice (some ⟨g, 0, none⟩) ps.length c ∧ w.cell? ⟨g, k * 3, none⟩ = some (.int .i64 (ps[k].1 : Int)) ∧ w.cell? ⟨g, k * 3 + 1, none⟩ = some (.int .i64 (ps[k].2.1 : Int)) ∧ w.cell? ⟨g, k * 3 + 2, none⟩ = some (.int .i64 (ps[k].2.2 : Int)) := by
  rcases h.2 with ⟨rfl, h0⟩ | ⟨g, cap, cur, rfl, hb, hg, hc, _, hs, ht⟩
  · omega
  · obtain ⟨c0, c1, c2⟩ := plCells_get ps k _ (List.getElem?_eq_getElem hk)
    have cell : ∀ o x, (plCells ps)[o]? = some x → w.cell? ⟨g, o, none⟩ = some x := fun o x hx => by
      rw [blk_cell hg, ← hx, ← ht, List.getElem?_take_of_lt (by have := (List.getElem?_eq_some_iff.1 hx).1; rw [plCells_length] at this; omega)]; simp
    exact ⟨g, cap, rfl, cell _ _ c0, cell _ _ c1, cell _ _ c2⟩
theorem pl_push {w : World} {B : Nat} {v : Value} {ps : List (Nat × Nat × Nat)} (hp : PlB w B v ps) (hl : ps.length ≤ 100000) (hB : B ≤ w.heap.size) (p : Nat × Nat × Nat) :
    ∃ a b c' w' S, (∀ ty, (Builtin.append_ #[60, 60] ty #[v, .slice (some ⟨w.heap.size, 0, none⟩) 1 1]).run Tryz.prog (w.alloc (.cells #[.int .i64 (p.1 : Int), .int .i64 (p.2.1 : Int), .int .i64 (p.2.2 : Int)] 30)) = .ok (.slice a b c') w') ∧ PlB w' B (.slice a b c') (ps ++ [p]) ∧
      Upd S w w' ∧ (∀ k, k ∈ S → B ≤ k ∧ ∃ c, w.heap[k]? = some (.cells c 30 (0, 0))) := by
  obtain ⟨i0, hi, hz0, hz1, hz2⟩ := info_parts infoPl
  have hp1 : PlB (w.alloc (.cells #[.int .i64 (p.1 : Int), .int .i64 (p.2.1 : Int), .int .i64 (p.2.2 : Int)] 30)) B v ps := hp.keep fun k c e => blk_alloc_ne (blk_lt e)
  obtain ⟨v', w', hrun, hown, hg, _⟩ := run_append_own (P := Tryz.prog) (w.alloc (.cells #[.int .i64 (p.1 : Int), .int .i64 (p.2.1 : Int), .int .i64 (p.2.2 : Int)] 30)) B 60 0 30 i0 _ 3 24 Tryz.underlying60 hi hz0 hz1 hz2 rfl (by decide) v ps.length (plCells ps) hp1 ⟨w.heap.size, 0, none⟩ 1 1 [.int .i64 (p.1 : Int), .int .i64 (p.2.1 : Int), .int .i64 (p.2.2 : Int)] rfl
    (fun k u hj => by
      rw [addr_add, blk_cell (blk_alloc _)]
      match k, hj with
      | 0, hj => simpa using hj
      | 1, hj => simpa using hj
      | 2, hj => simpa using hj
      | k + 3, hj => simp at hj)
    (fun u hu => by simp at hu; rcases hu with rfl | rfl | rfl <;> rfl) (by unfold maxLen; omega) (by omega) (by simp; omega)
  have hs : PlB w' B v' (ps ++ [p]) := by
    unfold PlB; rw [List.length_append, plCells_append]; exact hown
  obtain ⟨a, c', rfl⟩ := hs.shape
  have hsz := hg.size
  have hos : w'.os = w.os ∧ w'.tape = w.tape ∧ w'.output = w.output := ⟨hg.os, hg.tape, hg.output⟩
  have hsz' : w.heap.size ≤ w'.heap.size := by simp at hsz; omega
  rcases hp.2 with ⟨rfl, _⟩ | ⟨g, cap, cur, rfl, hb, hgb, _⟩
  · refine ⟨a, _, c', w', [], fun _ => hrun, hs, ⟨hos.1, hos.2.1, hos.2.2, hsz', fun k hk _ => ?_⟩, by simp⟩
    rw [hg.block k (by simp; omega) (by simp [Value.ownBlock]), blk_alloc_ne hk]
  · refine ⟨a, _, c', w', [g], fun _ => hrun, hs, ⟨hos.1, hos.2.1, hos.2.2, hsz', fun k hk hS => ?_⟩, by simp; exact ⟨hb, _, hgb⟩⟩
    rw [hg.block k (by simp; omega) (by simp [Value.ownBlock]; rintro rfl; exact hS (by simp)), blk_alloc_ne hk]
theorem run_build_pl (p : Nat × Nat × Nat) (w : World) : (Instr.buildSlice 60 1 #[(0, .agg #[.int .i64 (p.1 : Int), .int .i64 (p.2.1 : Int), .int .i64 (p.2.2 : Int)])]).run Tryz.prog w = .ok (.slice (some ⟨w.heap.size, 0, none⟩) 1 1) (w.alloc (.cells #[.int .i64 (p.1 : Int), .int .i64 (p.2.1 : Int), .int .i64 (p.2.2 : Int)] 30)) := by kernel_rfl

end Go.Proofs.YtceakcejchbbjaaGreat
end
