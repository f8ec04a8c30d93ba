/-
  pack's read, walked.
-/
import Derived.Test.YtceakcejchbbjaaGreatPkH
import Derived.Test.YtceakcejchbbjaaGreatFrE
set_option linter.unusedSimpArgs false
set_option linter.unusedVariables false
namespace Go.Proofs.YtceakcejchbbjaaGreat
open Go.RowKit Go.MapKept Go.ChangeMaps
attribute [local go_sem] Oper.semAt_some

/-- Bytes appended: what turns is a block of bytes of one's own. -/
theorem bytes_app2 {w : World} {B : Nat} {v x : Value} {l lx : List UInt8} (hp : BRow w B v l) (hx : Rd w x lx) (hx0 : 0 < lx.length) (hln : l.length + lx.length ≤ 100000) (hB : B ≤ w.heap.size) :
    ∃ a c w' S, (∀ ty, (Builtin.append_ #[37, 37] ty #[v, x]).run Tryz.prog w = .ok (.slice a (l.length + lx.length) c) w') ∧ BRow w' B (.slice a (l.length + lx.length) c) (l ++ lx) ∧
      Upd S w w' ∧ ∀ k, k ∈ S → B ≤ k ∧ ∃ c, w.heap[k]? = some (.cells c 5 (0, 0)) := by
  obtain ⟨ao, cap, rfl, hcx, hh⟩ := hx.cells
  obtain ⟨i0, hi0, hz0, hz1, hz2⟩ := info_parts infoU8
  obtain ⟨ad, rfl, hcell⟩ := hh hx0
  obtain ⟨v', w', hrun, hown, hg, _⟩ := run_append_own (P := Tryz.prog) w B 37 0 5 i0 (.int .u8 0) 1 1 Tryz.underlying37 hi0 hz0 hz1 hz2 rfl (by decide) v l.length _ hp ad lx.length cap (bts lx) (by rw [bts_length, Nat.mul_one])
    (fun k u hj => hcell k u hj) (bts_one _) (by unfold maxLen; omega) (by omega) hB
  have hsh : ∃ a c, v' = .slice a (l.length + lx.length) c := by
    rcases hown.2 with ⟨h, h0⟩ | ⟨g, cap, cur, h, _⟩
    · exact ⟨none, 0, by rw [h, h0]⟩
    · exact ⟨_, _, h⟩
  obtain ⟨a, c', rfl⟩ := hsh
  have hbr : BRow w' B (.slice a (l.length + lx.length) c') (l ++ lx) := by
    unfold BRow
    rw [List.length_append, show bts (l ++ lx) = bts l ++ bts lx by simp [bts]]
    exact hown
  rcases hp.2 with ⟨rfl, _⟩ | ⟨g, cap, cur, rfl, hb, hgb, _⟩
  · exact ⟨a, c', w', [], fun _ => hrun, hbr, ⟨hg.os, hg.tape, hg.output, hg.size, fun k hk _ => hg.block k hk (by simp [Value.ownBlock])⟩, by simp⟩
  · refine ⟨a, c', w', [g], fun _ => hrun, hbr, ⟨hg.os, hg.tape, hg.output, hg.size, fun k hk hs => hg.block k hk (by simp [Value.ownBlock]; simp at hs; exact fun e => hs e)⟩, ?_⟩
    intro k hk
    simp at hk
    subst hk
    exact ⟨hb, _, hgb⟩
def rdV (av : Option Addr) (nv cv bk cp pb fr tt : Nat) (ao : Option Addr) (no co : Nat) : List (Nat × Nat × Value) := [(0, 29, .slice av nv cv), (1, 30, .slice (some ⟨bk, 0, none⟩) 512 cp), (2, 31, .pointer (some ⟨pb, 1, none⟩)), (3, 32, .int .i64 (fr : Int)), (4, 33, .pointer (some ⟨pb, 2, none⟩)), (5, 34, .int .i64 (tt : Int)), (6, 35, .slice (some ⟨bk, fr, none⟩) (tt - fr) (cp - fr)), (7, 36, .slice ao no co)]
/-- What stands behind q pieces read. -/
structure RdJ (w W : World) (g : Sg) (M : Nat → Option Sec) (s a0 n0 : Nat) (d : List UInt8) (q a' n' f' : Nat) (vo : Value) : Prop where
  le : n' ≤ f'
  sum : a' + n' = a0 + n0
  from_ : a0 ≤ a'
  drop : (pcs s n0 a0 n0).drop q = pcs s f' a' n'
  sp : SpAt W g M
  b1 : W.heap[w.heap.size + 1]? = some (.cells #[.pointer (some ⟨g.x.tb, 0, none⟩)] 25 (0, 0))
  b2 : W.heap[w.heap.size + 1 + 1]? = some (.cells #[.slice none 0 0] 37 (0, 0))
  b3 : W.heap[w.heap.size + 1 + 1 + 1]? = some (.cells #[.int .i64 0] 31 (0, 0))
  b4 : W.heap[w.heap.size + 1 + 1 + 1 + 1]? = some (.cells #[vo] 37 (0, 0))
  row : BRow W (w.heap.size + 10) vo ((d.drop a0).take (a' - a0))
  b5 : ∃ v, W.heap[w.heap.size + 1 + 1 + 1 + 1 + 1 + 1]? = some (.cells #[v] 3 (0, 0))
  upd : Upd [g.j.jb] w W
def RdI (w W : World) (g : Sg) (M : Nat → Option Sec) (s a0 n0 : Nat) (d : List UInt8) (q : Nat) : Prop := ∃ a' n' f' vo, RdJ w W g M s a0 n0 d q a' n' f' vo
theorem RdJ.keep {w W W' : World} {g : Sg} {M : Nat → Option Sec} {s a0 n0 : Nat} {d : List UInt8} {q a' n' f' : Nat} {vo : Value} (h : RdJ w W g M s a0 n0 d q a' n' f' vo) (h0 : SpAt w g M) {S : List Nat} (hu : Upd S W W')
    (hS : ∀ k, k ∈ S → w.heap.size ≤ k ∧ k ≠ w.heap.size + 1 ∧ k ≠ w.heap.size + 1 + 1 ∧ k ≠ w.heap.size + 1 + 1 + 1 ∧ k ≠ w.heap.size + 1 + 1 + 1 + 1 ∧ ∀ c, W.heap[k]? ≠ some (.cells c 5 (0, 0)))
    (h5 : ∃ v, W'.heap[w.heap.size + 1 + 1 + 1 + 1 + 1 + 1]? = some (.cells #[v] 3 (0, 0))) : RdJ w W' g M s a0 n0 d q a' n' f' vo := by
  refine ⟨h.le, h.sum, h.from_, h.drop, h0.late h.sp h.upd hu (fun k hk => (hS k hk).1), ?_, ?_, ?_, ?_, ?_, h5, ?_⟩
  · exact (hu.block _ (blk_lt h.b1) (fun q => (hS _ q).2.1 rfl)).trans h.b1
  · exact (hu.block _ (blk_lt h.b2) (fun q => (hS _ q).2.2.1 rfl)).trans h.b2
  · exact (hu.block _ (blk_lt h.b3) (fun q => (hS _ q).2.2.2.1 rfl)).trans h.b3
  · exact (hu.block _ (blk_lt h.b4) (fun q => (hS _ q).2.2.2.2.1 rfl)).trans h.b4
  · exact h.row.other fun k c e => hu.block _ (blk_lt e) (fun q => (hS _ q).2.2.2.2.2 c e)
  · exact h.upd.late hu (fun i hi => .inr (hS i hi).1)
set_option maxRecDepth 100000 in
set_option maxHeartbeats 4000000 in
theorem readP_spec {w : World} {g : Sg} {M : Nat → Option Sec} (h : SpAt w g M) (hh2 : g.h ≤ 4096) (s u v a0 n0 : Nat) (d : List UInt8) (hs2 : s + 16 ≤ g.h) (ha : a0 + n0 ≤ d.length) (hdl : d.length ≤ 8192)
    (hd : PkD (g.cur M) s d) :
    Calls Tryz.prog 82 #[stV (s, u, v), .pointer (some ⟨g.x.tb, 0, none⟩), .int .i64 (a0 : Int), .int .i64 (n0 : Int)] w fun e w' => ∃ x, e = .returned (.tuple #[x, .int .i64 0]) ∧ BRow w' w.heap.size x ((d.drop a0).take n0) ∧ SpAt w' g M ∧ Upd [g.j.jb] w w' := by
  have hlt := h.lt
  obtain ⟨w4, hw4⟩ : ∃ w4, w4 = ((((w.alloc (.cells #[.int .i64 (s : Int), .int .i64 (u : Int), .int .i64 (v : Int)] 119)).alloc (.cells #[.pointer (some ⟨g.x.tb, 0, none⟩)] 25)).alloc (.cells #[.slice none 0 0] 37)).alloc (.cells #[.int .i64 0] 31)).alloc (.cells #[.slice none 0 0] 37) := ⟨_, rfl⟩
  unfold stV
  refine (callsIn_wide (n := 5)).1 ?_
  refine callsIn_of_wp_marks Tryz.func82 rfl trivial ?_ rfl
  simp only [Tryz.ntmps82, List.size_toArray, List.length_cons, List.length_nil, Nat.reduceAdd, Nat.reduceSub, Array.replicate_succ, Array.replicate_zero, List.push_toArray, List.append_toArray, List.nil_append, List.cons_append]
  gi_wp2_with fail
  refine ⟨trivial, (callsIn_wide.2 (pieces_spec _ _ _ _ _ _)).mono ?_⟩
  rintro e w7 ⟨rfl, hw7⟩
  rw [← hw4] at hw7
  have e4 : w4.heap.size = w.heap.size + 1 + 1 + 1 + 1 + 1 := by rw [hw4]; simp
  have e7 : w7.heap.size = w.heap.size + 1 + 1 + 1 + 1 + 1 + 1 + 1 + 1 := by rw [hw7]; simp [e4]
  rw [← hw4, e4]
  have hu4 : Upd [] w w4 := by rw [hw4]; exact (((((Upd.refl _ _).alloc _).alloc _).alloc _).alloc _).alloc _
  have hu7 : Upd [] w w7 := by rw [hw7]; exact ((hu4.alloc _).alloc _).alloc _
  have hB1 : w7.heap[w.heap.size + 1]? = some (.cells #[.pointer (some ⟨g.x.tb, 0, none⟩)] 25 (0, 0)) := by rw [hw7, hw4]; simp only [alloc_get, World.size_alloc]; repeat (first | rw [if_pos trivial] | rw [if_pos rfl] | rw [if_neg (by omega)])
  have hB2 : w7.heap[w.heap.size + 1 + 1]? = some (.cells #[.slice none 0 0] 37 (0, 0)) := by rw [hw7, hw4]; simp only [alloc_get, World.size_alloc]; repeat (first | rw [if_pos trivial] | rw [if_pos rfl] | rw [if_neg (by omega)])
  have hB3 : w7.heap[w.heap.size + 1 + 1 + 1]? = some (.cells #[.int .i64 0] 31 (0, 0)) := by rw [hw7, hw4]; simp only [alloc_get, World.size_alloc]; repeat (first | rw [if_pos trivial] | rw [if_pos rfl] | rw [if_neg (by omega)])
  have hB4 : w7.heap[w.heap.size + 1 + 1 + 1 + 1]? = some (.cells #[.slice none 0 0] 37 (0, 0)) := by rw [hw7, hw4]; simp only [alloc_get, World.size_alloc]; repeat (first | rw [if_pos trivial] | rw [if_pos rfl] | rw [if_neg (by omega)])
  have hB5 : w7.heap[w.heap.size + 1 + 1 + 1 + 1 + 1]? = some (.cells #[.int .i64 (s : Int), .int .i64 (u : Int), .int .i64 (v : Int)] 119 (0, 0)) := by rw [hw7, hw4]; simp only [alloc_get, World.size_alloc]; repeat (first | rw [if_pos trivial] | rw [if_pos rfl] | rw [if_neg (by omega)])
  have hB6 : w7.heap[w.heap.size + 1 + 1 + 1 + 1 + 1 + 1]? = some (.cells #[.int .i64 (a0 : Int)] 3 (0, 0)) := by rw [hw7, hw4]; simp only [alloc_get, World.size_alloc]; repeat (first | rw [if_pos trivial] | rw [if_pos rfl] | rw [if_neg (by omega)])
  have hB7 : w7.heap[w.heap.size + 1 + 1 + 1 + 1 + 1 + 1 + 1]? = some (.cells #[.int .i64 (n0 : Int)] 3 (0, 0)) := by rw [hw7, hw4]; simp only [alloc_get, World.size_alloc]; repeat (first | rw [if_pos trivial] | rw [if_pos rfl] | rw [if_neg (by omega)])
  clear hw4 hw7
  gi_wp2_with fail
  refine wpIn_rangeFunc_gives rfl (by omega) (gf := 172) (encs := encP) (L := pcs s n0 a0 n0) (bs := [w.heap.size + 1 + 1 + 1 + 1 + 1 + 1, w.heap.size + 1 + 1 + 1 + 1 + 1 + 1 + 1, w.heap.size + 1 + 1 + 1 + 1 + 1]) (b1 := w.heap.size + 1 + 1 + 1 + 1 + 1 + 1) (lb := #[.pointer (some ⟨w.heap.size + 1 + 1 + 1 + 1 + 1 + 1, 0, none⟩), .pointer (some ⟨w.heap.size + 1 + 1 + 1 + 1 + 1 + 1 + 1, 0, none⟩), .pointer (some ⟨w.heap.size + 1 + 1 + 1 + 1 + 1, 0, none⟩)]) rfl trivial
    (enters_of Tryz.func172 (by kernel_rfl) rfl) (pieces_gives hB6 hB7 hB5 (by omega) (by omega) (by omega) (by omega) _) (fun b hb => ?_) (by omega) (fun _ => rfl)
    (fun q W => RdI w W g M s a0 n0 d q) ?_ ?_ ?_ ?_ ?_
  · simp at hb; omega
  · intro q W W' hI hu hn
    obtain ⟨a1, n1, f1, v1, hJ⟩ := hI
    obtain ⟨v5, b5⟩ := hJ.b5
    refine ⟨a1, n1, f1, v1, hJ.keep h hu (fun k hk => ?_) ⟨v5, (hu.block _ (blk_lt b5) (by simp; omega)).trans b5⟩⟩
    have hk' := hk
    simp at hk'
    refine ⟨by omega, by omega, by omega, by omega, by omega, fun c e => hn k hk _ e⟩
  · intro q W v' hI
    obtain ⟨a1, n1, f1, v1, hJ⟩ := hI
    obtain ⟨v5, b5⟩ := hJ.b5
    refine ⟨a1, n1, f1, v1, hJ.keep h (S := [w.heap.size + 1 + 1 + 1 + 1 + 1 + 1]) ((Upd.refl _ _).set _ (by simp)) (fun k hk => ?_) ⟨v', by rw [blk_set b5]; rfl⟩⟩
    simp at hk
    subst hk
    refine ⟨by omega, by omega, by omega, by omega, by omega, fun c e => ?_⟩
    rw [b5] at e
    injection e with e
    injection e with _ q2
    exact absurd q2 (by decide)
  · exact ⟨a0, n0, n0, _, ⟨Nat.le_refl _, rfl, Nat.le_refl _, rfl, h.below hu7, hB1, hB2, hB3, hB4, by rw [Nat.sub_self, List.take_zero]; exact BRow.nil _ _, ⟨_, hB6⟩, hu7.mono (by simp)⟩⟩
  · intro l q x W hl hx hI hlW
    obtain ⟨a', n', f', vo, hJ⟩ := hI
    obtain ⟨hpos, rfl, f2, hf2, hdn⟩ := pcs_step hJ.le hJ.drop hx
    obtain ⟨v5, b5⟩ := hJ.b5
    obtain ⟨fr, hfr⟩ : ∃ fr, fr = a' % 512 := ⟨_, rfl⟩
    obtain ⟨k, hk⟩ : ∃ k, k = min (512 - fr) n' := ⟨_, rfl⟩
    obtain ⟨se, hse⟩ : ∃ se, se = s + a' / 512 := ⟨_, rfl⟩
    obtain ⟨tt, htt⟩ : ∃ tt, tt = fr + k := ⟨_, rfl⟩
    rw [← hfr, ← hk] at hdn
    rw [← hfr, ← hk, ← hse, ← htt]
    unfold encP
    dsimp only
    obtain ⟨pb, hpb⟩ : ∃ pb, pb = W.heap.size := ⟨_, rfl⟩
    obtain ⟨W1, hW1⟩ : ∃ W1, W1 = W.alloc (.cells #[.int .i64 (se : Int), .int .i64 (fr : Int), .int .i64 (tt : Int)] 217) := ⟨_, rfl⟩
    have hB1' : W1.heap[pb]? = some (.cells #[.int .i64 (se : Int), .int .i64 (fr : Int), .int .i64 (tt : Int)] 217 (0, 0)) := by rw [hW1, hpb]; exact blk_alloc _
    have hU1 : Upd [] W W1 := by rw [hW1]; exact (Upd.refl _ _).alloc _
    have HFR := Lib.hid hfr
    have HKK := Lib.hid hk
    have HSE := Lib.hid hse
    have HTT := Lib.hid htt
    have HPB := Lib.hid hpb
    have HW1 := Lib.hid hW1
    have HE7 := Lib.hid e7
    have HL := Lib.hid hl
    clear hW1 hfr hk hse htt hpb e7 e4 hl
    gi_wp2_with fail
    have hpb := HPB.out
    have hW1 := HW1.out
    rw [← hW1]
    clear hW1 hpb
    have hwl : w7.heap.size ≤ W.heap.size := by have := HL.out; omega
    have hJ1 : RdJ w W1 g M s a0 n0 d q a' n' f' vo := hJ.keep h (S := []) hU1 (by simp) ⟨v5, (hU1.block _ (blk_lt b5) (by simp)).trans b5⟩
    refine ⟨fun b hb => hU1.block _ (by have := HL.out; simp at hb; omega) (by simp), fun W2 hu2 ho2 => ?_⟩
    have hJ2 : RdJ w W2 g M s a0 n0 d q a' n' f' vo := hJ1.keep h hu2 (fun k hk => by
      have e7 := HE7.out
      have hl := HL.out
      simp at hk
      subst hk
      refine ⟨by omega, by omega, by omega, by omega, by omega, fun c e => ?_⟩
      obtain ⟨o, ho, hn⟩ := ho2
      rw [e] at ho
      cases ho
      exact hn) (by
      have e7 := HE7.out
      have hl := HL.out
      have b5' := (hU1.block _ (blk_lt b5) (by simp)).trans b5
      exact ⟨v5, (hu2.block _ (blk_lt b5') (by simp; omega)).trans b5'⟩)
    have hB2' : W2.heap[pb]? = some (.cells #[.int .i64 (se : Int), .int .i64 (fr : Int), .int .i64 (tt : Int)] 217 (0, 0)) := (hu2.block _ (blk_lt hB1') (by
      have e7 := HE7.out
      have hl := HL.out
      have hpb := HPB.out
      simp; omega)).trans hB1'
    have c1 : W2.cell? ⟨w.heap.size + 1, 0, none⟩ = some (.pointer (some ⟨g.x.tb, 0, none⟩)) := by rw [blk_cell hJ2.b1]; rfl
    have p0 : W2.cell? ⟨W.heap.size, 0, none⟩ = some (.int .i64 (se : Int)) := by rw [← HPB.out, blk_cell hB2']; rfl
    have HRD := Lib.hid (readS hJ2.sp se (by
      have h1 := HSE.out
      have h2 := hJ.sum
      have h3 := hpos
      omega))
    have HJ := Lib.hid hJ
    have HJ2 := Lib.hid hJ2
    have HB2 := Lib.hid hB2'
    have HU2 := Lib.hid hu2
    have HU1W := Lib.hid hU1
    have HDN := Lib.hid hdn
    have HF2 := Lib.hid hf2
    clear hJ hJ1 hJ2 hB2' hu2 ho2 hU1 hB1' hdn hf2 hx b5
    gi_wp2_with fail
    refine ⟨trivial, (CallsIn.inRound l (callsIn_wide.2 HRD.out)).mono ?_⟩
    rintro e W3 ⟨bv0, rfl, ho, h3, hu3⟩
    have hLl := HJ2.out.sp.cur_len se
    obtain ⟨L, hL⟩ : ∃ L, L = g.cur M se := ⟨_, rfl⟩
    rw [← hL] at ho hLl
    obtain ⟨bk, bc, rfl, hbc, hbk, -⟩ := ho.sec hLl
    obtain ⟨bk', rest, hbk', ebk, hrow⟩ := ho.own (by omega)
    obtain ⟨rfl, rfl⟩ : bk = bk' ∧ L.length + rest.length = bc := by
      injection ebk with e1 e2 e3
      injection e1 with e1
      injection e1 with e1
      exact ⟨e1, e3.symm⟩
    have hlt3 : ∀ k, k ∈ [g.j.jb] → k < w.heap.size := fun k hk => hlt.1 k (g.mem k hk)
    have hne3 : ∀ k, w.heap.size ≤ k → k ∉ [g.j.jb] := fun k hk q => by have := hlt3 k q; omega
    have b1 := (hu3.block _ (blk_lt HJ2.out.b1) (hne3 _ (by omega))).trans HJ2.out.b1
    have b2 := (hu3.block _ (blk_lt HJ2.out.b2) (hne3 _ (by omega))).trans HJ2.out.b2
    have b3 := (hu3.block _ (blk_lt HJ2.out.b3) (hne3 _ (by omega))).trans HJ2.out.b3
    have b4 := (hu3.block _ (blk_lt HJ2.out.b4) (hne3 _ (by omega))).trans HJ2.out.b4
    have bp := (hu3.block _ (blk_lt HB2.out) (hne3 _ (by have := HPB.out; have := HE7.out; omega))).trans HB2.out
    have row3 : BRow W3 (w.heap.size + 10) vo ((d.drop a0).take (a' - a0)) := HJ2.out.row.other fun k c e => hu3.block _ (blk_lt e) (fun q => by
      simp at q
      subst q
      have := HJ2.out.sp.jr.at_.st
      rw [this] at e
      injection e with e
      injection e with _ q2
      exact absurd q2 (by decide))
    have hsum := HJ2.out.sum
    have hfrm := HJ2.out.from_
    have hpl : ((d.drop a0).take (a' - a0)).length = a' - a0 := by rw [List.length_take, List.length_drop]; omega
    obtain ⟨av, cv, rfl, _, _⟩ := row3.shape
    rw [hpl] at row3 b4
    have hfr512 : fr < 512 := by have := HFR.out; omega
    have hkl : k ≤ n' ∧ fr + k ≤ 512 ∧ 1 ≤ k := by have := HKK.out; omega
    have htt := HTT.out
    have hpart : (L.drop fr).take k = (d.drop a').take k := by
      have := hd.part (a := a') (k := k) (by have := HFR.out; omega) (by omega) (by rw [← HSE.out, ← hL]; exact hLl)
      rw [← HFR.out, ← HSE.out, ← hL] at this
      exact this
    have hrs : Rd W3.drew (.slice (some ⟨bk, fr, none⟩) (tt - fr) (L.length + rest.length - fr)) ((d.drop a').take k) := by
      have h0 : Rd W3 (.slice (some ⟨bk, 0, none⟩) L.length (L.length + rest.length)) L := by
        have := (ho.own (by omega)).rd
        rw [hLl] at *
        exact this
      have := h0.sub fr k (L.length + rest.length - fr) (by omega) (by omega)
      rw [hpart, Nat.zero_add, show k = tt - fr by omega] at this
      rw [show k = tt - fr by omega]
      exact this.below ((Upd.refl _ _).drew)
    have hsl : ((d.drop a').take k).length = k := by rw [List.length_take, List.length_drop]; omega
    obtain ⟨ao, co, W4, S4, hcp0, hrow4, hu4', hS4⟩ := bytes_app2 (B := w.heap.size + 10) (row3.keep ((Upd.refl [] W3).drew)) hrs (by omega) (by rw [hpl]; omega) (by
      have h1 := HE7.out
      have h2 := HL.out
      have h3 := HU1W.out.size
      have h4 := HU2.out.size
      have h5 := hu3.size
      show _ ≤ W3.heap.size
      omega)
    rw [hpl, hsl] at hcp0 hrow4
    obtain ⟨no, hno⟩ : ∃ no, no = a' - a0 + k := ⟨_, rfl⟩
    obtain ⟨nv, hnv⟩ : ∃ nv, nv = a' - a0 := ⟨_, rfl⟩
    rw [hpl] at *
    rw [← hno, ← hnv] at hcp0
    rw [← hno] at hrow4
    rw [← hnv] at b4
    have hcp : ∀ ty, (Builtin.append_ #[37, 37] ty #[.slice av nv cv, .slice (some ⟨bk, fr, none⟩) (tt - fr) (512 + rest.length - fr)]).run Tryz.prog W3.drew = .ok (.slice ao no co) W4 := by
      rw [← hLl]; exact hcp0
    have hu4w : Upd S4 W3 W4 := ((Upd.refl _ _).drew).trans hu4'
    have hS4' : ∀ k, k ∈ S4 → w.heap.size + 10 ≤ k ∧ ∃ c, W3.heap[k]? = some (.cells c 5 (0, 0)) := hS4
    have hno4 : ∀ (k : Nat) (c : Array Value) (T : TypeId) (fr : Nat × Nat), W3.heap[k]? = some (.cells c T fr) → T ≠ 5 → k ∉ S4 := fun k c T fr e hT q => by
      obtain ⟨_, c2, e2⟩ := hS4' k q
      rw [e] at e2
      injection e2 with e2
      injection e2 with _ q2
      exact hT q2
    have HU3 := Lib.hid hu3
    have HU4 := Lib.hid hu4w
    have HL2 := Lib.hid hL
    have HSP3 := Lib.hid h3
    have HROW := Lib.hid hrow4
    have HS4 := Lib.hid hS4'
    have HNO := Lib.hid hno
    have HNV := Lib.hid hnv
    have m2 : W3.cell? ⟨w.heap.size + 1 + 1 + 1 + 1, 0, none⟩ = some (.slice av nv cv) := by rw [blk_cell b4]; rfl
    have q1 : W3.cell? ⟨W.heap.size, 1, none⟩ = some (.int .i64 (fr : Int)) := by rw [← HPB.out, blk_cell bp]; rfl
    have q2 : W3.cell? ⟨W.heap.size, 2, none⟩ = some (.int .i64 (tt : Int)) := by rw [← HPB.out, blk_cell bp]; rfl
    have b1' := (hu4w.block _ (blk_lt b1) (hno4 _ _ _ _ b1 (by decide))).trans b1
    have b2' := (hu4w.block _ (blk_lt b2) (hno4 _ _ _ _ b2 (by decide))).trans b2
    have b3' := (hu4w.block _ (blk_lt b3) (hno4 _ _ _ _ b3 (by decide))).trans b3
    have b4' := (hu4w.block _ (blk_lt b4) (hno4 _ _ _ _ b4 (by decide))).trans b4
    have m2_ : W3.drew.cell? ⟨w.heap.size + 1 + 1 + 1 + 1, 0, none⟩ = some (.slice av nv cv) := m2
    have q1_ : W3.drew.cell? ⟨W.heap.size, 1, none⟩ = some (.int .i64 (fr : Int)) := q1
    have q2_ : W3.drew.cell? ⟨W.heap.size, 2, none⟩ = some (.int .i64 (tt : Int)) := q2
    have n2_ : W4.cell? ⟨w.heap.size + 1 + 1 + 1 + 1, 0, none⟩ = some (.slice av nv cv) := by rw [blk_cell b4']; rfl
    have fz_ := blk_free b4' 0
    obtain ⟨W5, hW5⟩ : ∃ W5, W5 = W4.setCell ⟨w.heap.size + 1 + 1 + 1 + 1, 0, none⟩ (.slice ao no co) := ⟨_, rfl⟩
    have HW5 := Lib.hid hW5
    have HB1C := Lib.hid b1'
    have HB2C := Lib.hid b2'
    have HB3C := Lib.hid b3'
    have HB4C := Lib.hid b4'
    have i0 : (0 : Int) ≤ (fr : Int) := by omega
    have i1 : (fr : Int) ≤ (tt : Int) := by omega
    have i2 : (tt : Int) ≤ 512 + (rest.length : Int) := by omega
    have i6 : fr ≤ tt := by omega
    have i3 : ¬ (512 + rest.length = fr) := by omega
    clear hW5 m2 q1 q2 b1' b2' b3' b4' hu4' hu4w hu3 h3 ho row3 b1 b2 b3 b4 bp hrow hL hbk' ebk htt hbk hrs hsl hpl hcp0 hrow4 hS4 hS4' hno hnv hpart c1 p0 hno4
    gi_wp2_with fail
    --REG
    refine wpIn_region_w (fun L => (if L 7 = true then (if L 8 = true then W5 else W4) else W3.drew)) (rdV av nv cv bk (512 + rest.length) W.heap.size fr tt ao no co) (by kernel_rfl) (by kernel_rfl) 38 rfl rfl rfl ?_ ?_
    · intro i o L tmps w' ho hI hL hd hcl
      have hi : i < 9 := (Array.getElem?_eq_some_iff.1 ho).1
      have t10 : tmps[10]?.getD undef = .pointer (some ⟨w.heap.size + 1 + 1 + 1 + 1, 0, none⟩) := (hI.old 10 (by rfl)).trans rfl
      have t11 : tmps[11]?.getD undef = .pointer (some ⟨W.heap.size, 0, none⟩) := (hI.old 11 (by rfl)).trans rfl
      have t12 : tmps[12]?.getD undef = .slice (some ⟨bk, 0, none⟩) 512 (512 + rest.length) := (hI.old 12 (by rfl)).trans rfl
      obtain rfl | rfl | rfl | rfl | rfl | rfl | rfl | rfl | rfl : i = 0 ∨ i = 1 ∨ i = 2 ∨ i = 3 ∨ i = 4 ∨ i = 5 ∨ i = 6 ∨ i = 7 ∨ i = 8 := by omega
      · cases ho
        have g7 : L 7 = false := hcl.not_up (i := 0) (s := 7) 9 (by kernel_rfl) hL
        have g8 : L 8 = false := hcl.not_up (i := 0) (s := 8) 9 (by kernel_rfl) hL
        have hw0 : w' = W3.drew := by rw [hI.wd]; simp [g7, g8]
        have m2 : w'.cell? ⟨w.heap.size + 1 + 1 + 1 + 1, 0, none⟩ = some (.slice av nv cv) := by rw [hw0]; exact m2_
        have q1 : w'.cell? ⟨W.heap.size, 1, none⟩ = some (.int .i64 (fr : Int)) := by rw [hw0]; exact q1_
        have q2 : w'.cell? ⟨W.heap.size, 2, none⟩ = some (.int .i64 (tt : Int)) := by rw [hw0]; exact q2_
        have HW0 := Lib.hid hw0
        clear hw0
        refine wpOpIn_step rfl (fun K hK => ?_)
        go_simp
        exact hK _ _ (hI.val_step 0 29 (.slice av nv cv) (by decide) (by rw [hI.wd]; rfl) (by simp [rdV]) (by kernel_rfl))
      · cases ho
        have g7 : L 7 = false := hcl.not_up (i := 1) (s := 7) 9 (by kernel_rfl) hL
        have g8 : L 8 = false := hcl.not_up (i := 1) (s := 8) 9 (by kernel_rfl) hL
        have hw0 : w' = W3.drew := by rw [hI.wd]; simp [g7, g8]
        have m2 : w'.cell? ⟨w.heap.size + 1 + 1 + 1 + 1, 0, none⟩ = some (.slice av nv cv) := by rw [hw0]; exact m2_
        have q1 : w'.cell? ⟨W.heap.size, 1, none⟩ = some (.int .i64 (fr : Int)) := by rw [hw0]; exact q1_
        have q2 : w'.cell? ⟨W.heap.size, 2, none⟩ = some (.int .i64 (tt : Int)) := by rw [hw0]; exact q2_
        have HW0 := Lib.hid hw0
        clear hw0
        refine wpOpIn_step rfl (fun K hK => ?_)
        go_simp
        exact hK _ _ (hI.val_step 1 30 (.slice (some ⟨bk, 0, none⟩) 512 (512 + rest.length)) (by decide) (by rw [hI.wd]; rfl) (by simp [rdV]) (by kernel_rfl))
      · cases ho
        have g7 : L 7 = false := hcl.not_up (i := 2) (s := 7) 9 (by kernel_rfl) hL
        have g8 : L 8 = false := hcl.not_up (i := 2) (s := 8) 9 (by kernel_rfl) hL
        have hw0 : w' = W3.drew := by rw [hI.wd]; simp [g7, g8]
        have m2 : w'.cell? ⟨w.heap.size + 1 + 1 + 1 + 1, 0, none⟩ = some (.slice av nv cv) := by rw [hw0]; exact m2_
        have q1 : w'.cell? ⟨W.heap.size, 1, none⟩ = some (.int .i64 (fr : Int)) := by rw [hw0]; exact q1_
        have q2 : w'.cell? ⟨W.heap.size, 2, none⟩ = some (.int .i64 (tt : Int)) := by rw [hw0]; exact q2_
        have HW0 := Lib.hid hw0
        clear hw0
        refine wpOpIn_step rfl (fun K hK => ?_)
        go_simp
        exact hK _ _ (hI.val_step 2 31 (.pointer (some ⟨W.heap.size, 1, none⟩)) (by decide) (by rw [hI.wd]; rfl) (by simp [rdV]) (by kernel_rfl))
      · cases ho
        have t31 : tmps[31]?.getD undef = .pointer (some ⟨W.heap.size, 1, none⟩) := hI.val (2, 31, _) (by simp [rdV]) (hd ⟨2, .data⟩ (by simp) rfl)
        have g7 : L 7 = false := hcl.not_up (i := 3) (s := 7) 9 (by kernel_rfl) hL
        have g8 : L 8 = false := hcl.not_up (i := 3) (s := 8) 9 (by kernel_rfl) hL
        have hw0 : w' = W3.drew := by rw [hI.wd]; simp [g7, g8]
        have m2 : w'.cell? ⟨w.heap.size + 1 + 1 + 1 + 1, 0, none⟩ = some (.slice av nv cv) := by rw [hw0]; exact m2_
        have q1 : w'.cell? ⟨W.heap.size, 1, none⟩ = some (.int .i64 (fr : Int)) := by rw [hw0]; exact q1_
        have q2 : w'.cell? ⟨W.heap.size, 2, none⟩ = some (.int .i64 (tt : Int)) := by rw [hw0]; exact q2_
        have HW0 := Lib.hid hw0
        clear hw0
        refine wpOpIn_step rfl (fun K hK => ?_)
        go_simp
        exact hK _ _ (hI.val_step 3 32 (.int .i64 (fr : Int)) (by decide) (by rw [hI.wd]; rfl) (by simp [rdV]) (by kernel_rfl))
      · cases ho
        have g7 : L 7 = false := hcl.not_up (i := 4) (s := 7) 9 (by kernel_rfl) hL
        have g8 : L 8 = false := hcl.not_up (i := 4) (s := 8) 9 (by kernel_rfl) hL
        have hw0 : w' = W3.drew := by rw [hI.wd]; simp [g7, g8]
        have m2 : w'.cell? ⟨w.heap.size + 1 + 1 + 1 + 1, 0, none⟩ = some (.slice av nv cv) := by rw [hw0]; exact m2_
        have q1 : w'.cell? ⟨W.heap.size, 1, none⟩ = some (.int .i64 (fr : Int)) := by rw [hw0]; exact q1_
        have q2 : w'.cell? ⟨W.heap.size, 2, none⟩ = some (.int .i64 (tt : Int)) := by rw [hw0]; exact q2_
        have HW0 := Lib.hid hw0
        clear hw0
        refine wpOpIn_step rfl (fun K hK => ?_)
        go_simp
        exact hK _ _ (hI.val_step 4 33 (.pointer (some ⟨W.heap.size, 2, none⟩)) (by decide) (by rw [hI.wd]; rfl) (by simp [rdV]) (by kernel_rfl))
      · cases ho
        have t33 : tmps[33]?.getD undef = .pointer (some ⟨W.heap.size, 2, none⟩) := hI.val (4, 33, _) (by simp [rdV]) (hd ⟨4, .data⟩ (by simp) rfl)
        have g7 : L 7 = false := hcl.not_up (i := 5) (s := 7) 9 (by kernel_rfl) hL
        have g8 : L 8 = false := hcl.not_up (i := 5) (s := 8) 9 (by kernel_rfl) hL
        have hw0 : w' = W3.drew := by rw [hI.wd]; simp [g7, g8]
        have m2 : w'.cell? ⟨w.heap.size + 1 + 1 + 1 + 1, 0, none⟩ = some (.slice av nv cv) := by rw [hw0]; exact m2_
        have q1 : w'.cell? ⟨W.heap.size, 1, none⟩ = some (.int .i64 (fr : Int)) := by rw [hw0]; exact q1_
        have q2 : w'.cell? ⟨W.heap.size, 2, none⟩ = some (.int .i64 (tt : Int)) := by rw [hw0]; exact q2_
        have HW0 := Lib.hid hw0
        clear hw0
        refine wpOpIn_step rfl (fun K hK => ?_)
        go_simp
        exact hK _ _ (hI.val_step 5 34 (.int .i64 (tt : Int)) (by decide) (by rw [hI.wd]; rfl) (by simp [rdV]) (by kernel_rfl))
      · cases ho
        have t30 : tmps[30]?.getD undef = .slice (some ⟨bk, 0, none⟩) 512 (512 + rest.length) := hI.val (1, 30, _) (by simp [rdV]) (hd ⟨1, .data⟩ (by simp) rfl)
        have t32 : tmps[32]?.getD undef = .int .i64 (fr : Int) := hI.val (3, 32, _) (by simp [rdV]) (hd ⟨3, .data⟩ (by simp) rfl)
        have t34 : tmps[34]?.getD undef = .int .i64 (tt : Int) := hI.val (5, 34, _) (by simp [rdV]) (hd ⟨5, .data⟩ (by simp) rfl)
        have g7 : L 7 = false := hcl.not_up (i := 6) (s := 7) 9 (by kernel_rfl) hL
        have g8 : L 8 = false := hcl.not_up (i := 6) (s := 8) 9 (by kernel_rfl) hL
        have hw0 : w' = W3.drew := by rw [hI.wd]; simp [g7, g8]
        have m2 : w'.cell? ⟨w.heap.size + 1 + 1 + 1 + 1, 0, none⟩ = some (.slice av nv cv) := by rw [hw0]; exact m2_
        have q1 : w'.cell? ⟨W.heap.size, 1, none⟩ = some (.int .i64 (fr : Int)) := by rw [hw0]; exact q1_
        have q2 : w'.cell? ⟨W.heap.size, 2, none⟩ = some (.int .i64 (tt : Int)) := by rw [hw0]; exact q2_
        have HW0 := Lib.hid hw0
        clear hw0
        refine wpOpIn_step rfl (fun K hK => ?_)
        go_simp
        exact hK _ _ (hI.val_step 6 35 (.slice (some ⟨bk, fr, none⟩) (tt - fr) (512 + rest.length - fr)) (by decide) (by rw [hI.wd]; rfl) (by simp [rdV]) (by kernel_rfl))
      · cases ho
        have t29 : tmps[29]?.getD undef = .slice av nv cv := hI.val (0, 29, _) (by simp [rdV]) (hd ⟨0, .data⟩ (by simp) rfl)
        have t35 : tmps[35]?.getD undef = .slice (some ⟨bk, fr, none⟩) (tt - fr) (512 + rest.length - fr) := hI.val (6, 35, _) (by simp [rdV]) (hd ⟨6, .data⟩ (by simp) rfl)
        have g7 : L 7 = false := hcl.not_up (i := 7) (s := 7) 9 (by kernel_rfl) hL
        have g8 : L 8 = false := hcl.not_up (i := 7) (s := 8) 9 (by kernel_rfl) hL
        have hw0 : w' = W3.drew := by rw [hI.wd]; simp [g7, g8]
        have m2 : w'.cell? ⟨w.heap.size + 1 + 1 + 1 + 1, 0, none⟩ = some (.slice av nv cv) := by rw [hw0]; exact m2_
        have q1 : w'.cell? ⟨W.heap.size, 1, none⟩ = some (.int .i64 (fr : Int)) := by rw [hw0]; exact q1_
        have q2 : w'.cell? ⟨W.heap.size, 2, none⟩ = some (.int .i64 (tt : Int)) := by rw [hw0]; exact q2_
        have HW0 := Lib.hid hw0
        clear hw0
        have hcp' := hcp
        rw [← HW0.out] at hcp'
        refine wpOpIn_step rfl (fun K hK => ?_)
        rw [if_pos (by rfl)]
        refine wpIn_append_runK (.tmp 29) (.tmp 35) _ _ rfl (by simpa [Act.eval] using t29) (by simpa [Act.eval] using t35) hcp' ?_
        exact hK _ _ (hI.val_step 7 36 (.slice ao no co) (by decide) (by simp [upL, g7, g8]) (by simp [rdV]) (by kernel_rfl))
      · cases ho
        have t36 : tmps[36]?.getD undef = .slice ao no co := hI.val (7, 36, _) (by simp [rdV]) (hd ⟨7, .data⟩ (by simp) rfl)
        have g7 : L 7 = true := hcl.dep_up (i := 8) (s := 7) rfl hd 9 (by kernel_rfl) (by decide)
        have g8 : L 8 = false := hcl.not_up (i := 8) (s := 8) 9 (by kernel_rfl) hL
        have hw0 : w' = W4 := by rw [hI.wd]; simp [g7, g8]
        have m2 : w'.cell? ⟨w.heap.size + 1 + 1 + 1 + 1, 0, none⟩ = some (.slice av nv cv) := by rw [hw0]; exact n2_
        have fz : w'.frozen? ⟨w.heap.size + 1 + 1 + 1 + 1, 0, none⟩ = false := by rw [hw0]; exact fz_
        have HW0 := Lib.hid hw0
        clear hw0
        refine wpOpIn_step rfl (fun K hK => ?_)
        go_simp
        rw [HW0.out, ← HW5.out]
        exact hK _ _ (hI.none_step 8 (by simp [upL, g7, g8]) (by kernel_rfl))
    · intro Lu tmps w9 hI hall
      have hat := hI.fin rfl (fun t ht => hall _ (by have h9 := List.all_eq_true.1 (show ((rdV av nv cv bk (512 + rest.length) W.heap.size fr tt ao no co).all fun t => decide (t.1 < 9)) = true from rfl) t ht; simpa using h9))
      have hw9 : w9 = W5 := by rw [hI.wd]; simp [hall 7 (by decide), hall 8 (by decide)]
      clear hI hall
      simp only [rdV, List.map_cons, List.map_nil, sets, List.setIfInBounds_toArray, List.set_cons_zero, List.set_cons_succ] at hat
      rw [hat]
      clear hat tmps
      rw [hw9]
      clear hw9
      gi_wp2_with fail
      have hfr := HFR.out
      have hk := HKK.out
      have hse := HSE.out
      have e7 := HE7.out
      have hll := HL.out
      have hf2 := HF2.out
      have J := HJ2.out
      have h1 := J.sum
      have h2 := J.from_
      have hw5 := HW5.out
      have hu5 : Upd [w.heap.size + 1 + 1 + 1 + 1] W4 W5 := by rw [hw5]; exact (Upd.refl _ _).set _ (by simp)
      have hz1 := HU1W.out.size
      have hz2 := HU2.out.size
      have hz3 := HU3.out.size
      have hA : ∀ i, w.heap.size ≤ i → i < w.heap.size + 10 → i ≠ w.heap.size + 1 + 1 + 1 + 1 → W5.heap[i]? = W2.heap[i]? := fun i hi hi2 hne => by
        have a1 := HU3.out.block i (by omega) (fun q => by have := hlt.1 i (g.mem i q); omega)
        have a2 := HU4.out.block i (by omega) (fun q => by have := (HS4.out i q).1; omega)
        have a3 := hu5.block i (by have := HU4.out.size; omega) (by simpa using hne)
        exact a3.trans (a2.trans a1)
      refine ⟨fun b hb => hA _ (by simp at hb; omega) (by simp at hb; omega) (by simp at hb; omega), ?_, fun b hb => ?_⟩
      · have b4' : W5.heap[w.heap.size + 1 + 1 + 1 + 1]? = some (.cells #[.slice ao no co] 37 (0, 0)) := by rw [hw5, blk_set HB4C.out]; rfl
        have hcat : (d.drop a0).take (a' - a0) ++ (d.drop a').take k = (d.drop a0).take (a' + k - a0) := by
          rw [Nat.sub_add_comm h2, List.take_add, List.drop_drop, Nat.add_sub_of_le h2]
        have hrow := HROW.out
        rw [hcat] at hrow
        have hue : Upd [g.j.jb] w W5 := by
          have a1 : Upd [g.j.jb] w W3 := J.upd.trans HU3.out
          have a2 := a1.late HU4.out (fun i hi => .inr (by have := (HS4.out i hi).1; omega))
          exact a2.late hu5 (fun i hi => .inr (by simp at hi; omega))
        refine ⟨a' + k, n' - k, f2, .slice ao no co, ?_, ?_, ?_, HDN.out, ?_, ?_, ?_, ?_, b4', ?_, ?_, hue⟩
        · have := J.le; omega
        · omega
        · omega
        · have a1 : Upd [g.j.jb] w W3 := J.upd.trans HU3.out
          have s4 : SpAt W4 g M := h.late HSP3.out a1 HU4.out (fun i hi => by have := (HS4.out i hi).1; omega)
          have a2 := a1.late HU4.out (fun i hi => .inr (by have := (HS4.out i hi).1; omega))
          exact h.late s4 a2 hu5 (fun i hi => by simp at hi; omega)
        · rw [hw5, blk_set_ne 0 _ (by omega)]; exact HB1C.out
        · rw [hw5, blk_set_ne 0 _ (by omega)]; exact HB2C.out
        · rw [hw5, blk_set_ne 0 _ (by omega)]; exact HB3C.out
        · exact hrow.other fun k c e => hu5.block _ (blk_lt e) (fun q => by
            simp at q
            subst q
            rw [HB4C.out] at e
            injection e with e
            injection e with _ q2
            exact absurd q2 (by decide))
        · obtain ⟨v5, b5⟩ := J.b5
          exact ⟨v5, (hA _ (by omega) (by omega) (by omega)).trans b5⟩
      · have hb' : w.heap.size ≤ b ∧ b ≠ w.heap.size + 1 + 1 + 1 + 1 ∧ b < w7.heap.size := by simp at hb; omega
        have b1 := HU1W.out.block b (by omega) (by simp)
        have b2 := HU2.out.block b (by omega) (by simp; omega)
        have b3 := hA b hb'.1 (by omega) hb'.2.1
        exact b3.trans (b2.trans b1)
    --END
  · intro W hI hK
    obtain ⟨a', n', f', vo, hJ⟩ := hI
    have hn0 := pcs_done hJ.le hJ.drop
    have hae : a' - a0 = n0 := by have := hJ.sum; omega
    have hrow := hJ.row
    rw [hae] at hrow
    have b2 := hJ.b2
    have b3 := hJ.b3
    have b4 := hJ.b4
    have hvo : ∃ a n c, vo = .slice a n c := by
      obtain ⟨a, c, e, _⟩ := hrow.shape
      exact ⟨a, _, c, e⟩
    obtain ⟨va, vn, vc, rfl⟩ := hvo
    have m2 : W.cell? ⟨w.heap.size + 1 + 1, 0, none⟩ = some (.slice none 0 0) := by rw [blk_cell b2]; rfl
    have m3 : W.cell? ⟨w.heap.size + 1 + 1 + 1, 0, none⟩ = some (.int .i64 0) := by rw [blk_cell b3]; rfl
    have m4 : W.cell? ⟨w.heap.size + 1 + 1 + 1 + 1, 0, none⟩ = some (.slice va vn vc) := by rw [blk_cell b4]; rfl
    have f2 := blk_free b2 0
    have f3 := blk_free b3 0
    have HJ := Lib.hid hJ
    have HR := Lib.hid hrow
    have HK := Lib.hid hK
    have HB2 := Lib.hid b2
    have HB3 := Lib.hid b3
    clear hJ hrow hK b2 b3 b4
    gi_wp2_with fail
    have J := HJ.out
    obtain ⟨Wf, hWf⟩ : ∃ Wf, Wf = (W.setCell ⟨w.heap.size + 1 + 1, 0, none⟩ (.slice va vn vc)).setCell ⟨w.heap.size + 1 + 1 + 1, 0, none⟩ (.int .i64 0) := ⟨_, rfl⟩
    rw [← hWf]
    have hbf2 : Wf.heap[w.heap.size + 1 + 1]? = some (.cells #[.slice va vn vc] 37 (0, 0)) := by rw [hWf, blk_set_ne 0 _ (by omega), blk_set HB2.out]; rfl
    have hbf : Wf.heap[w.heap.size + 1 + 1 + 1]? = some (.cells #[.int .i64 0] 31 (0, 0)) := by
      rw [hWf]
      have h0 : (W.setCell ⟨w.heap.size + 1 + 1, 0, none⟩ (.slice va vn vc)).heap[w.heap.size + 1 + 1 + 1]? = some (.cells #[.int .i64 0] 31 (0, 0)) := by rw [blk_set_ne 0 _ (by omega)]; exact HB3.out
      rw [blk_set h0]; rfl
    have huf : Upd [w.heap.size + 1 + 1, w.heap.size + 1 + 1 + 1, w7.heap.size] W Wf := by rw [hWf]; exact ((Upd.refl _ _).set _ (by simp)).set _ (by simp)
    have hKf : Wf.heap[w7.heap.size]? = some (.deferred (some [])) := by rw [hWf, blk_set_ne 0 _ (by omega), blk_set_ne 0 _ (by omega)]; exact HK.out
    clear hWf
    refine ⟨by simp, .inl ⟨_, _, rfl, run_takeDeferred hKf, ?_⟩⟩
    obtain ⟨Wg, hWg⟩ : ∃ Wg, Wg = Wf.putObj w7.heap.size (.deferred none) := ⟨_, rfl⟩
    rw [← hWg]
    have hbg : Wg.heap[w.heap.size + 1 + 1 + 1]? = some (.cells #[.int .i64 0] 31 (0, 0)) := by rw [hWg, World.putObj_heap_other (by omega)]; exact hbf
    have hbg2 : Wg.heap[w.heap.size + 1 + 1]? = some (.cells #[.slice va vn vc] 37 (0, 0)) := by rw [hWg, World.putObj_heap_other (by omega)]; exact hbf2
    have hug : Upd [w.heap.size + 1 + 1, w.heap.size + 1 + 1 + 1, w7.heap.size] W Wg := huf.trans (by
      rw [hWg]
      exact ⟨rfl, rfl, rfl, by simp, fun k hk hs => World.putObj_heap_other (by simp at hs; omega)⟩)
    have cg : Wg.cell? ⟨w.heap.size + 1 + 1 + 1, 0, none⟩ = some (.int .i64 0) := by rw [blk_cell hbg]; rfl
    have cg2 : Wg.cell? ⟨w.heap.size + 1 + 1, 0, none⟩ = some (.slice va vn vc) := by rw [blk_cell hbg2]; rfl
    clear hWg
    have hge : ∀ k, k ∈ [w.heap.size + 1 + 1, w.heap.size + 1 + 1 + 1, w7.heap.size] → w.heap.size ≤ k := fun k hk => by simp at hk; omega
    have hrg : BRow Wg w.heap.size (.slice va vn vc) ((d.drop a0).take n0) := (HR.out.low (by omega)).other fun k c e => hug.block _ (blk_lt e) (fun q => by
      simp at q
      rcases q with rfl | rfl | rfl
      · rw [HB2.out] at e
        injection e with e
        injection e with _ q2
        exact absurd q2 (by decide)
      · rw [HB3.out] at e
        injection e with e
        injection e with _ q2
        exact absurd q2 (by decide)
      · rw [HK.out] at e; cases e)
    refine ⟨.tuple #[.slice va vn vc, .int .i64 0], ?_, _, rfl, hrg, h.late J.sp J.upd hug hge, J.upd.late hug (fun i hi => .inr (hge i hi))⟩
    simp [results, Tryz.f82, go_sem, cg, cg2]
end Go.Proofs.YtceakcejchbbjaaGreat
