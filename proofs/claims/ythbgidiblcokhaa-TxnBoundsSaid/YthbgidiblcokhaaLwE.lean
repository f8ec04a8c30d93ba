/-
  JournalBounds answers true.
-/
import Derived.Test.YthbgidiblcokhaaLwC
namespace Go.Proofs.Ythbgidiblcokhaa
open Go.RowKit

theorem JrAt.kept {w w' : World} {j : JG} {J : Jn} {D : Dk} {n ring : Nat} {t m : Int} {H : Nat → Sec} (h : JrAt w j J D n ring t m H) (hk : ∀ k, k < w.heap.size → (∀ c, w.heap[k]? ≠ some (.cells c 40 (0, 0))) → w'.heap[k]? = w.heap[k]?) : JrAt w' j J D n ring t m H := h.of (h.at_.kept hk)
/-- A put is appended to a list of the law's own. -/
theorem puts_push {w w0 : World} {B : Nat} {v : Value} {l : List Put} (hp : PutsOwnB w B AnyF v l) (hl : l.length ≤ 100000) (hB : B ≤ w.heap.size) (h0 : Upd [] w0 w) (hB0 : w0.heap.size ≤ B) (i : Int) (k n c : Nat) (s : List UInt8) (hd : Own w 5 AnyF (.slice (some ⟨k, 0, none⟩) n c) s) :
    ∃ a b c' w', (∀ ty, (Builtin.append_ #[35, 35] ty #[v, .slice (some ⟨w.heap.size, 0, none⟩) 1 1]).run Try.prog (w.alloc (.cells #[.int .i64 i, .slice (some ⟨k, 0, none⟩) n c] 40)) = .ok (.slice a b c') w') ∧ PutsOwnB w' B AnyF (.slice a b c') (l ++ [(i, s)]) ∧
      (∀ k, k < w.heap.size → (∀ c, w.heap[k]? ≠ some (.cells c 40 (0, 0))) → w'.heap[k]? = w.heap[k]?) ∧ Upd [] w0 w' ∧ B ≤ w'.heap.size := by
  obtain ⟨v', w', hrun, hm', hk', hl', hg'⟩ := (PutsOwnB.keep (w' := w.alloc (.cells #[.int .i64 i, .slice (some ⟨k, 0, none⟩) n c] 40)) hp (fun q c hq => blk_alloc_ne (blk_lt hq)) (fun q c _ hq => blk_alloc_ne (blk_lt hq))).append hl (by simp; omega) w.heap.size i (.slice (some ⟨k, 0, none⟩) n c) s (blk_alloc _)
    (hd.world fun q c _ hq => blk_alloc_ne (blk_lt hq)) rfl
  obtain ⟨a, b, c', rfl⟩ := hm'.shape3
  have hsz := hg'.size
  refine ⟨a, b, c', w', hrun, hm', fun q hq ht => ?_, (h0.alloc _).low (fun q hq => hl' q (by omega) (by have := h0.size; simp; omega)) ⟨hg'.size, hg'.os, hg'.tape, hg'.output⟩, by simp at hsz; omega⟩
  rw [hk' q (by simp; omega) (fun c e => ht c (by rw [blk_alloc_ne hq] at e; exact e)), blk_alloc_ne hq]

theorem new_fmt_hiI {w : World} {F : Nat → Prop} {g : DG} {n : Nat} (h : DiskAt w F g (Dk.new n)) (h0 : 32 ≤ n) (h1 : n ≤ 4096) (ri : Int) (ring : Nat) (hri : ri = (ring : Int)) (r0 : 8 ≤ ring) (r1 : ring ≤ 1024) (r2 : ring + 10 ≤ n) :
    Calls Try.prog 17 #[.pointer (some ⟨g.db, 0, none⟩), .int .i64 ri] w fun e w' => e = .returned (.int .i64 0) ∧ DsAt w' g (Jn.fresh ring) ((Dk.new n).fmt ring) n ring 1 1 (fun _ => zsec) ∧ Upd [g.db, g.lb, g.mb] w w' := by
  subst hri; exact new_fmt_hi h h0 h1 ring r0 r1 r2
theorem PutsOwnB.block {w : World} {B : Nat} {F : Nat → Prop} {v : Value} {l : List Put} (h : PutsOwnB w B F v l) (hne : l ≠ []) : ∃ g cap cur ps, v = .slice (some ⟨g, 0, none⟩) l.length cap ∧ B ≤ g ∧ w.heap[g]? = some (.cells cur 40 (0, 0)) ∧ l.length ≤ cap ∧ cap ≤ maxLen ∧ cur.size = cap * 2 ∧ cur.toList.take (l.length * 2) = putCells ps ∧ ps.length = l.length ∧
    ∀ (k : Nat) (p : Int × Value), ps[k]? = some p → ∃ q : Put, l[k]? = some q ∧ p.1 = q.1 ∧ Own w 5 F p.2 q.2 := by
  obtain ⟨ps, g1, g2, g3⟩ := h
  rcases g1.2 with ⟨_, h0⟩ | ⟨g, cap, cur, e, hb, hg, hc, hmx, hs, ht⟩
  · exact absurd (List.eq_nil_of_length_eq_zero (g2.symm.trans h0)) hne
  · exact ⟨g, cap, cur, ps, by rw [e, g2], hb, hg, by omega, hmx, hs, by rw [← g2]; exact ht, g2, g3⟩
/-- The first k of a list of zeros. -/
def zl (k : Nat) : List Put := (List.range k).map fun (i : Nat) => ((i : Int), zsec)
theorem zl_succ (k : Nat) : zl (k + 1) = zl k ++ [((k : Int), zsec)] := by unfold zl; rw [List.range_succ, List.map_append]; rfl
theorem zl_length (k : Nat) : (zl k).length = k := by simp [zl]
theorem zl_get (k : Nat) {i : Nat} (h : i < (zl k).length) : (zl k)[i] = ((i : Int), zsec) := by simp [zl]

theorem take_set2 {L : List Value} {n : Nat} {A B : Value} (h : n * 2 + 2 ≤ L.length) : ((L.set (n * 2) A).set (n * 2 + 1) B).take ((n + 1) * 2) = L.take (n * 2) ++ [A, B] := by
  apply List.ext_getElem?
  intro i
  rw [List.getElem?_take, List.getElem?_append, List.length_take]
  have hmin : min (n * 2) L.length = n * 2 := by omega
  rw [hmin]
  by_cases h1 : i < n * 2
  · rw [if_pos (by omega), if_pos h1, List.getElem?_set_ne (by omega), List.getElem?_set_ne (by omega), List.getElem?_take_of_lt h1]
  · rw [if_neg h1]
    by_cases h2 : i = n * 2
    · subst h2
      rw [if_pos (by omega), List.getElem?_set_ne (by omega), List.getElem?_set_self (by omega), Nat.sub_self]; rfl
    · by_cases h3 : i = n * 2 + 1
      · subst h3
        rw [if_pos (by omega), List.getElem?_set_self (by rw [List.length_set]; omega), show n * 2 + 1 - n * 2 = 1 from by omega]; rfl
      · rw [if_neg (by omega), List.getElem?_eq_none (by simp; omega)]
theorem puts_set {W : World} {gb cap n : Nat} {cur cur' : Array Value} {ps : List (Int × Value)} {l : List Put} {AT : Int} {d : Value} {s : List UInt8} (htk : cur.toList.take ((n + 1) * 2) = putCells ps) (hps : ps.length = n + 1) (hl : l.length = n + 1)
    (hget : ∀ (k : Nat) (p : Int × Value), ps[k]? = some p → ∃ q : Put, l[k]? = some q ∧ p.1 = q.1 ∧ Rd W p.2 q.2) (hb : W.heap[gb]? = some (.cells cur' 40 (0, 0))) (hc : cur'.toList.take ((n + 1) * 2) = cur.toList.take (n * 2) ++ [.int .i64 AT, d])
    (hcap : n + 1 ≤ cap) (hmx : cap ≤ maxLen) (hsz : cur'.size = cap * 2) (hd : Rd W d s) : PutsAt W (.slice (some ⟨gb, 0, none⟩) (n + 1) cap) (l.take n ++ [(AT, s)]) := by
  have hlt : (ps.take n).length = n := by rw [List.length_take]; omega
  have hsplit : cur.toList.take (n * 2) = putCells (ps.take n) := by
    have e1 : ps = ps.take n ++ ps.drop n := (List.take_append_drop n ps).symm
    have e2 : cur.toList.take (n * 2) = (cur.toList.take ((n + 1) * 2)).take (n * 2) := by rw [List.take_take]; congr 1; omega
    rw [e2, htk]
    conv => lhs; rw [e1, putCells_append]
    rw [List.take_append_of_le_length (by rw [putCells_length, hlt]; omega), List.take_of_length_le (by rw [putCells_length, hlt]; omega)]
  refine ⟨ps.take n ++ [(AT, d)], ⟨?_, .inr ⟨gb, cap, cur', ?_, Nat.zero_le _, hb, ?_, hmx, hsz, ?_⟩⟩, ?_, fun k p hp => ?_⟩
  · rw [putCells_length]
  · rw [List.length_append, hlt]; rfl
  · rw [List.length_append, hlt]; exact hcap
  · rw [List.length_append, hlt, putCells_append, ← hsplit]; exact hc
  · rw [List.length_append, List.length_append, hlt, List.length_take, hl]; simp
  · by_cases h1 : k < n
    · rw [List.getElem?_append_left (by omega), List.getElem?_take_of_lt h1] at hp
      obtain ⟨q, a, b, c⟩ := hget k p hp
      exact ⟨q, by rw [List.getElem?_append_left (by rw [List.length_take]; omega), List.getElem?_take_of_lt h1]; exact a, b, c⟩
    · rw [List.getElem?_append_right (by omega), hlt] at hp
      have hk0 : k - n = 0 := by have := (List.getElem?_eq_some_iff.1 hp).1; simp at this; omega
      rw [hk0] at hp
      simp at hp; subst hp
      exact ⟨(AT, s), by rw [List.getElem?_append_right (by rw [List.length_take]; omega), List.length_take, hl, show k - min n (n + 1) = 0 from by omega]; rfl, rfl, hd⟩
theorem zl_take {n k : Nat} (h : n ≤ k) : (zl k).take n = zl n := by
  unfold zl; rw [← List.map_take, List.take_range, Nat.min_eq_left h]
theorem mem_zl {n : Nat} {x : Int} : x ∈ ((zl n).map (·.1)).reverse ↔ 0 ≤ x ∧ x < (n : Int) := by
  rw [List.mem_reverse, List.mem_map]
  unfold zl
  constructor
  · rintro ⟨p, hp, rfl⟩
    obtain ⟨i, hi, rfl⟩ := List.mem_map.1 hp
    have : i < n := by simpa using hi
    show 0 ≤ (i : Int) ∧ (i : Int) < n
    omega
  · rintro ⟨h0, h1⟩
    exact ⟨(x, zsec), List.mem_map.2 ⟨x.toNat, by simp; omega, by ext; exact Int.toNat_of_nonneg h0; rfl⟩, rfl⟩
theorem fitsL_cons (homes : Nat) (seen : List Int) (i : Int) (b : List UInt8) (l : List Put) : fitsL homes seen ((i, b) :: l) = if i < 0 ∨ (homes : Int) ≤ i ∨ i ∈ seen then 1 else if b.length ≠ 512 then 9 else fitsL homes (i :: seen) l := rfl
theorem fits_zl {homes : Nat} : ∀ (k : Nat) (rest : List Put), k ≤ homes → fitsL homes [] (zl k ++ rest) = fitsL homes ((zl k).map (·.1)).reverse rest
  | 0, _, _ => rfl
  | k + 1, rest, hk => by
    rw [zl_succ, List.append_assoc, fits_zl k _ (by omega)]
    show fitsL homes _ (((k : Int), zsec) :: rest) = _
    rw [fitsL_cons, if_neg (by rw [mem_zl]; omega), if_neg (by rw [zsec_length]; simp), List.map_append, List.reverse_append]; rfl
def wantN (homes R n : Nat) (AT : Int) (len : Nat) : Int := if AT < 0 ∨ (homes : Int) ≤ AT ∨ AT < (n : Int) then 1 else if len ≠ 512 then 9 else if 40 < n + 1 ∨ R ≤ n + 1 then 2 else 0
theorem fits_want {nn R n : Nat} {AT : Int} {s : List UInt8} (hn : n ≤ nn - 2 - R) : fitsR nn R (zl n ++ [(AT, s)]) = wantN (nn - 2 - R) R n AT s.length := by
  have e : fitsL (nn - 2 - R) [] (zl n ++ [(AT, s)]) = if AT < 0 ∨ ((nn - 2 - R : Nat) : Int) ≤ AT ∨ AT < (n : Int) then 1 else if s.length ≠ 512 then 9 else 0 := by
    rw [fits_zl n _ hn]
    rw [fitsL_cons]
    have hq : (AT < 0 ∨ ((nn - 2 - R : Nat) : Int) ≤ AT ∨ AT ∈ ((zl n).map (·.1)).reverse) ↔ (AT < 0 ∨ ((nn - 2 - R : Nat) : Int) ≤ AT ∨ AT < (n : Int)) := by rw [mem_zl]; omega
    by_cases q : AT < 0 ∨ ((nn - 2 - R : Nat) : Int) ≤ AT ∨ AT < (n : Int)
    · rw [if_pos (hq.2 q), if_pos q]
    · rw [if_neg (fun r => q (hq.1 r)), if_neg q]; rfl
  unfold fitsR wantN
  rw [e, List.length_append, zl_length]
  split
  · simp
  · split
    · simp
    · simp

set_option maxRecDepth 100000 in
set_option maxHeartbeats 2000000 in
theorem bounds6_spec (a0 a1 a2 a3 : Int) (a4 : Bool) (w : World) : Calls Try.prog 6 #[.int .i64 a0, .int .i64 a1, .int .i64 a2, .int .i64 a3, .bool a4] w fun e w' => e = .returned (.bool true) ∧ Upd [] w w' := by
  have hmk := run_make_512
  have hbp := run_build_put
  have hR := placeN_lt (k := a0) (n := 50) (by omega)
  have hN := placeN_lt (k := a1) (n := 45) (by omega)
  have hS := placeN_lt (k := a3) (n := 5) (by omega)
  have HPR := fun w => Lib.hid (place_spec a0 50 w (by omega) (by omega))
  have HPN := fun w => Lib.hid (place_spec a1 45 w (by omega) (by omega))
  have HPS := fun w => Lib.hid (place_spec a3 5 w (by omega) (by omega))
  generalize placeN a0 50 = pR at *
  generalize placeN a1 45 = pN at *
  generalize placeN a3 5 = pS at *
  go_enter Try.func6, Try.ntmps6
  go_wp2_with fail
  refine (begun6_spec w).mono ?_
  rintro e w1 ⟨rfl, hu1⟩
  have HU1 := Lib.hid hu1
  clear hu1
  go_wp2_with fail
  refine (HPR _).out.mono ?_
  rintro e w' ⟨rfl, rfl⟩
  go_wp2_with fail
  refine (HPN _).out.mono ?_
  rintro e w' ⟨rfl, rfl⟩
  go_wp2_with fail
  refine (HPS _).out.mono ?_
  rintro e w' ⟨rfl, rfl⟩
  go_wp2_with fail
  refine (new_hi 140 (by omega) (by omega) _).mono ?_
  rintro e w2 ⟨g, rfl, hd2, hg1, hg2, hg3, hu2⟩
  have HG : Hid (g.Late w) := ⟨Nat.le_trans HU1.out.size hg1, Nat.le_trans HU1.out.size hg2, Nat.le_trans HU1.out.size hg3⟩
  have HU2 := Lib.hid (HU1.out.trans hu2)
  have HF2 := Lib.hid (new_fmt_hiI hd2 (by omega) (by omega) (8 + (pR : Int)) (8 + pR) (by omega) (by omega) (by omega) (by omega))
  clear hd2 hg1 hg2 hg3 hu2
  go_wp2_with fail
  refine HF2.out.mono ?_
  rintro e w3 ⟨rfl, hd3, hu3⟩
  have HU3 := Lib.hid (HU2.out.lateD hu3 HG.out)
  have HO3 := Lib.hid (open_hi hd3 (by omega) (by omega))
  clear hd3 hu3
  go_wp2_with fail
  refine HO3.out.mono ?_
  rintro e w4 ⟨jb, ab, rfl, hj1, hj2, ⟨J, D, hr4, _⟩, hu4⟩
  have HJ : Hid (JG.Late ⟨jb, ab, g⟩ w) := ⟨Nat.le_trans HU3.out.size hj1, Nat.le_trans HU3.out.size hj2, HG.out⟩
  have HU4 := Lib.hid (HU3.out.lateD hu4 HG.out)
  have HR4 := Lib.hid hr4
  clear hj1 hj2 hr4 hu4
  go_wp2_with fail
  go_loopw [15, 14] (fun i m wr => ∃ k : Nat, k ≤ 1 + pN ∧ i = .int .i64 (k : Int) ∧ PutsOwnB wr w4.heap.size AnyF m (zl k) ∧ JrAt wr ⟨jb, ab, g⟩ J D 140 (8 + pR) 1 (1 + 1) (fun _ => zsec) ∧ Upd [] w4 wr) (fun i _ _ => 1 + pN - (intOf i).toNat)
  case atStart => exact ⟨0, by omega, rfl, ⟨[], ⟨by simp, .inl ⟨rfl, rfl⟩⟩, by simp [zl], by simp⟩, HR4.out, Upd.refl _ _⟩
  case round =>
    obtain ⟨k, hk, rfl, hm, hr, hu⟩ := hrel
    by_cases hlt : k < 1 + pN
    · have hlt' : decide ((k : Int) < 1 + (pN : Int)) = true := by simp; omega
      obtain ⟨am, nm, cm, rfl⟩ := hm.shape3
      have hu5 : Upd [] wr (wr.alloc (.cells (bts zsec).toArray 5)) := (Upd.refl _ _).alloc _
      have hb5 : (wr.alloc (.cells (bts zsec).toArray 5)).heap[wr.heap.size]? = some (.cells (bts zsec).toArray 5 (0, 0)) := blk_alloc _
      obtain ⟨w5, hw5⟩ : ∃ w5, w5 = wr.alloc (.cells (bts zsec).toArray 5) := ⟨_, rfl⟩
      rw [← hw5] at hu5 hb5
      have hz := hu.size
      have hz5 := hu5.size
      have hm5 := hm.upd hu5 (by simp) (by simp)
      obtain ⟨a', b', c', w6, hrun, hm6, hk6, hu6, _⟩ := puts_push hm5 (by rw [zl_length]; omega) (by omega) (hu.trans hu5) (Nat.le_refl _) (k : Int) wr.heap.size 512 512 zsec ⟨wr.heap.size, [], trivial, rfl, by simpa using hb5⟩
      rw [← zl_succ] at hm6
      have HR6 := Lib.hid ((hr.below hu5).kept hk6)
      have HM6 := Lib.hid hm6
      have HU6 := Lib.hid hu6
      have HW5 := Lib.hid hw5
      have hmk5 : (Instr.makeSlice 36 (.int .i64 512) (.int .i64 512)).run Try.prog wr = .ok (.slice (some ⟨wr.heap.size, 0, none⟩) 512 512) w5 := by rw [hw5]; exact run_make_512 wr
      clear hm hr hu hu5 hb5 hz hz5 hm5 hm6 hk6 hu6 hw5 hmk
      go_wp2_with (at_builtin; refine wpList_append_run rfl _ _ _ rfl rfl rfl hrun ?_)
      exact ⟨⟨k + 1, by omega, by go_num, HM6.out, HR6.out, HU6.out⟩, by simp [intOf]; omega⟩
    · obtain rfl : k = 1 + pN := by omega
      have hlt' : decide (((1 + pN : Nat) : Int) < 1 + (pN : Int)) = false := by simp
      have hpos : zl (1 + pN) ≠ [] := by intro q; have := congrArg List.length q; rw [zl_length] at this; simp at this
      obtain ⟨gb, cap, cur, ps, hv, hB, hb, hcap, hmx, hsz, htk, hps, hget⟩ := hm.block hpos
      rw [zl_length] at hv hcap htk hps
      subst hv
      have hmkS : (Instr.makeSlice 36 (.int .i64 (510 + (pS : Int))) (.int .i64 (510 + (pS : Int)))).run Try.prog wr = .ok (.slice (some ⟨wr.heap.size, 0, none⟩) (510 + pS) (510 + pS)) (wr.alloc (.cells (bts (List.replicate (510 + pS) 0)).toArray 5)) := by
        have := run_make_u8 (510 + pS) (by omega) wr
        rw [show ((510 + pS : Nat) : Int) = 510 + (pS : Int) from by omega] at this
        exact this
      have hu5 : Upd [] wr (wr.alloc (.cells (bts (List.replicate (510 + pS) 0)).toArray 5)) := (Upd.refl _ _).alloc _
      have hb5 : (wr.alloc (.cells (bts (List.replicate (510 + pS) 0)).toArray 5)).heap[wr.heap.size]? = some (.cells (bts (List.replicate (510 + pS) 0)).toArray 5 (0, 0)) := blk_alloc _
      obtain ⟨w5, hw5⟩ : ∃ w5, w5 = wr.alloc (.cells (bts (List.replicate (510 + pS) 0)).toArray 5) := ⟨_, rfl⟩
      rw [← hw5] at hu5 hb5 hmkS
      have hbg5 : w5.heap[gb]? = some (.cells cur 40 (0, 0)) := (hu5.block _ (blk_lt hb) (by simp)).trans hb
      obtain ⟨xa, hxa⟩ : ∃ xa, cur[pN * 2]? = some xa := ⟨cur[pN * 2]'(by omega), Array.getElem?_eq_getElem (by omega)⟩
      obtain ⟨xb, hxb⟩ : ∃ xb, cur[pN * 2 + 1]? = some xb := ⟨cur[pN * 2 + 1]'(by omega), Array.getElem?_eq_getElem (by omega)⟩
      have hca : w5.cell? ⟨gb, pN * 2, none⟩ = some xa := (blk_cell hbg5 _).trans hxa
      have hcb : w5.cell? ⟨gb, pN * 2 + 1, none⟩ = some xb := (blk_cell hbg5 _).trans hxb
      have hfa := blk_free hbg5 (pN * 2)
      have hfb := blk_free hbg5 (pN * 2 + 1)
      have HR5 := Lib.hid (hr.below hu5)
      have HU5 := Lib.hid (HU4.out.trans (hu.trans hu5))
      have HU45 := Lib.hid hu5
      have HB5 := Lib.hid hb5
      have HBG := Lib.hid hbg5
      have HGET := Lib.hid hget
      have HTK := Lib.hid htk
      clear hm hr hu hu5 hb5 hw5 hmk hb hbg5 hget htk
      have key : ∀ (W : World) (cur' : Array Value) (AT : Int), W.heap[gb]? = some (.cells cur' 40 (0, 0)) → cur'.toList.take ((pN + 1) * 2) = cur.toList.take (pN * 2) ++ [.int .i64 AT, .slice (some ⟨wr.heap.size, 0, none⟩) (510 + pS) (510 + pS)] → cur'.size = cap * 2 → Upd [gb] w5 W →
          JrAt W ⟨jb, ab, g⟩ J D 140 (8 + pR) 1 (1 + 1) (fun _ => zsec) ∧ PutsAt W (.slice (some ⟨gb, 0, none⟩) (1 + pN) cap) (zl pN ++ [(AT, List.replicate (510 + pS) 0)]) ∧ Upd [] w W ∧ W.cell? ⟨gb, pN * 2, none⟩ = some (.int .i64 AT) := by
        intro W cur' AT h1 h2 h3 h4
        have hR : JrAt W ⟨jb, ab, g⟩ J D 140 (8 + pR) 1 (1 + 1) (fun _ => zsec) := HR5.out.own h4 (fun q hq => by simp at hq; subst hq; exact ⟨_, _, _, HBG.out, by decide, by decide, by decide, by decide⟩)
        have hrd : ∀ {v : Value} {l : List UInt8}, Own w5 5 AnyF v l → Rd W v l := fun ho => (ho.world fun q c _ hq => h4.block _ (blk_lt hq) (fun e => by simp at e; subst e; rw [HBG.out] at hq; simp at hq)).rd
        have hold : ∀ {v : Value} {l : List UInt8}, Own wr 5 AnyF v l → Own w5 5 AnyF v l := fun ho => ho.world fun q c _ hq => HU45.out.block _ (blk_lt hq) (by simp)
        refine ⟨hR, ?_, HU5.out.late h4 (fun q hq => by simp at hq; subst hq; exact .inr (Nat.le_trans HU4.out.size hB)), ?_⟩
        · have := puts_set (W := W) (gb := gb) (cap := cap) (n := pN) (cur := cur) (cur' := cur') (ps := ps) (l := zl (1 + pN)) (AT := AT) (d := .slice (some ⟨wr.heap.size, 0, none⟩) (510 + pS) (510 + pS)) (s := List.replicate (510 + pS) 0) (by rw [← HTK.out, Nat.add_comm]) (by omega) (by rw [zl_length]; omega)
            (fun k p hp => by obtain ⟨q, a, b, c⟩ := HGET.out k p hp; exact ⟨q, a, b, hrd (hold c)⟩) h1 h2 (by omega) hmx h3 (hrd ⟨wr.heap.size, [], trivial, by simp, by simpa using HB5.out⟩)
          rw [zl_take (by omega), Nat.add_comm pN 1] at this
          exact this
        · rw [blk_cell h1]
          have e : cur'.toList[pN * 2]? = some (.int .i64 AT) := by
            have e1 : (cur'.toList.take ((pN + 1) * 2))[pN * 2]? = cur'.toList[pN * 2]? := List.getElem?_take_of_lt (by omega)
            rw [← e1, h2, List.getElem?_append_right (by rw [List.length_take]; omega), List.length_take, show pN * 2 - min (pN * 2) cur.toList.length = 0 from by rw [Array.length_toList]; omega]; rfl
          rw [← e]; simp
      have KEY := Lib.hid key
      clear key
      cases a4
      · go_wp2_with fail
        have hkey := KEY.out ((w5.setCell ⟨gb, pN * 2, none⟩ (.int .i64 a2)).setCell ⟨gb, pN * 2 + 1, none⟩ (.slice (some ⟨wr.heap.size, 0, none⟩) (510 + pS) (510 + pS))) _ a2 (blk_set (blk_set HBG.out _ _) _ _) (by rw [Array.toList_setIfInBounds, Array.toList_setIfInBounds]; exact take_set2 (by rw [Array.length_toList]; omega)) (by simp [hsz]) (((Upd.refl _ _).set _ (by simp)).set _ (by simp))
        generalize ((w5.setCell ⟨gb, pN * 2, none⟩ (.int .i64 a2)).setCell ⟨gb, pN * 2 + 1, none⟩ (.slice (some ⟨wr.heap.size, 0, none⟩) (510 + pS) (510 + pS))) = W at hkey ⊢
        obtain ⟨hRW, hPW, hUW, hcW⟩ := hkey
        have HRW := Lib.hid hRW
        have HPW := Lib.hid hPW
        have HUW := Lib.hid hUW
        have HHM := fun k => Lib.hid (homes_hi (hRW.of (hRW.at_.drewN k)))
        have HFW := Lib.hid (fits_want (nn := 140) (R := 8 + pR) (n := pN) (AT := a2) (s := List.replicate (510 + pS) 0) (by omega))
        rw [List.length_replicate] at HFW
        obtain ⟨hm, hhm⟩ : ∃ hm, hm = 140 - 2 - (8 + pR) := ⟨_, rfl⟩
        rw [← hhm] at HFW HHM
        clear hhm
        clear hRW hPW hUW hca hcb hfa hfb hxa hxb KEY HBG HTK HGET HB5 HU45 HR5 hmkS
        obtain ⟨AT, hAT⟩ : ∃ AT : Int, AT = a2 := ⟨_, rfl⟩
        rw [← hAT] at HFW HPW hcW
        clear hAT
        by_cases b1 : AT < 0
        · have d1 : decide (AT < 0) = true := by simpa using b1
          have HWT : Hid (wantN hm (8 + pR) pN AT (510 + pS) = 1) := by show _ = _; unfold wantN; rw [if_pos (.inl b1)]
          clear b1
          go_quiet (fail)
          go_wp2_with fail
          refine (comNo_hi (HRW.out.of (HRW.out.at_.drewN nq)) _ _ (HPW.out.below ((Upd.refl _ _).drewN nq)) (by simp [zl_length]; omega) (.inl (by rw [HFW.out, HWT.out]; decide))).mono ?_
          rintro e w8 ⟨he, hr8, hu8⟩
          rw [HFW.out, HWT.out] at he
          subst he
          have HT8 := Lib.hid (turn_hi hr8)
          have HU8 := Lib.hid ((HUW.out.drewN nq).lateJ hu8 HJ.out)
          clear hr8 hu8
          go_wp2_with fail
          refine HT8.out.mono ?_
          rintro e w9 ⟨rfl, rfl⟩
          go_wp2_with fail
          go_ret
          exact ⟨rfl, HU8.out⟩
        · have d1 : decide (AT < 0) = false := by simpa using b1
          by_cases b2 : (hm : Int) ≤ AT
          · have d2 : decide ((hm : Int) ≤ AT) = true := by simpa using b2
            have HWT : Hid (wantN hm (8 + pR) pN AT (510 + pS) = 1) := by show _ = _; unfold wantN; rw [if_pos (.inr (.inl b2))]
            clear b1 b2
            go_quiet ((go_at_call 28; exact Calls.quiet_of (HHM _).out))
            go_wp2_with fail
            refine (comNo_hi (HRW.out.of (HRW.out.at_.drewN nq)) _ _ (HPW.out.below ((Upd.refl _ _).drewN nq)) (by simp [zl_length]; omega) (.inl (by rw [HFW.out, HWT.out]; decide))).mono ?_
            rintro e w8 ⟨he, hr8, hu8⟩
            rw [HFW.out, HWT.out] at he
            subst he
            have HT8 := Lib.hid (turn_hi hr8)
            have HU8 := Lib.hid ((HUW.out.drewN nq).lateJ hu8 HJ.out)
            clear hr8 hu8
            go_wp2_with fail
            refine HT8.out.mono ?_
            rintro e w9 ⟨rfl, rfl⟩
            go_wp2_with fail
            go_ret
            exact ⟨rfl, HU8.out⟩
          · have d2 : decide ((hm : Int) ≤ AT) = false := by simpa using b2
            by_cases b3 : AT < (pN : Int)
            · have d3 : decide (AT < 1 + (pN : Int) - 1) = true := by simp; omega
              have HWT : Hid (wantN hm (8 + pR) pN AT (510 + pS) = 1) := by show _ = _; unfold wantN; rw [if_pos (.inr (.inr b3))]
              clear b1 b2 b3
              go_quiet ((go_at_call 28; exact Calls.quiet_of (HHM _).out))
              go_wp2_with fail
              refine (comNo_hi (HRW.out.of (HRW.out.at_.drewN nq)) _ _ (HPW.out.below ((Upd.refl _ _).drewN nq)) (by simp [zl_length]; omega) (.inl (by rw [HFW.out, HWT.out]; decide))).mono ?_
              rintro e w8 ⟨he, hr8, hu8⟩
              rw [HFW.out, HWT.out] at he
              subst he
              have HT8 := Lib.hid (turn_hi hr8)
              have HU8 := Lib.hid ((HUW.out.drewN nq).lateJ hu8 HJ.out)
              clear hr8 hu8
              go_wp2_with fail
              refine HT8.out.mono ?_
              rintro e w9 ⟨rfl, rfl⟩
              go_wp2_with fail
              go_ret
              exact ⟨rfl, HU8.out⟩
            · have d3 : decide (AT < 1 + (pN : Int) - 1) = false := by simp; omega
              have hb : ¬ (AT < 0 ∨ (hm : Int) ≤ AT ∨ AT < (pN : Int)) := by omega
              by_cases b4 : pS = 2
              · have d4 : ((510 + (pS : Int)) != 512) = false := by rw [b4]; rfl
                by_cases b5 : 40 < pN + 1
                · have d5 : decide (40 < 1 + (pN : Int)) = true := by simp; omega
                  have HWT : Hid (wantN hm (8 + pR) pN AT (510 + pS) = 2) := by show _ = _; unfold wantN; rw [if_neg hb, if_neg (by omega), if_pos (.inl b5)]
                  clear b1 b2 b3 hb b4 b5
                  go_quiet ((go_at_call 28; exact Calls.quiet_of (HHM _).out))
                  go_wp2_with fail
                  refine (comNo_hi (HRW.out.of (HRW.out.at_.drewN nq)) _ _ (HPW.out.below ((Upd.refl _ _).drewN nq)) (by simp [zl_length]; omega) (.inl (by rw [HFW.out, HWT.out]; decide))).mono ?_
                  rintro e w8 ⟨he, hr8, hu8⟩
                  rw [HFW.out, HWT.out] at he
                  subst he
                  have HT8 := Lib.hid (turn_hi hr8)
                  have HU8 := Lib.hid ((HUW.out.drewN nq).lateJ hu8 HJ.out)
                  clear hr8 hu8
                  go_wp2_with fail
                  refine HT8.out.mono ?_
                  rintro e w9 ⟨rfl, rfl⟩
                  go_wp2_with fail
                  go_ret
                  exact ⟨rfl, HU8.out⟩
                · have d5 : decide (40 < 1 + (pN : Int)) = false := by simp; omega
                  by_cases b6 : 8 + pR ≤ pN + 1
                  · have d6 : decide (8 + (pR : Int) ≤ 1 + (pN : Int)) = true := by simp; omega
                    have HWT : Hid (wantN hm (8 + pR) pN AT (510 + pS) = 2) := by show _ = _; unfold wantN; rw [if_neg hb, if_neg (by omega), if_pos (.inr b6)]
                    clear b1 b2 b3 hb b4 b5 b6
                    go_quiet ((go_at_call 28; exact Calls.quiet_of (HHM _).out))
                    go_wp2_with fail
                    refine (comNo_hi (HRW.out.of (HRW.out.at_.drewN nq)) _ _ (HPW.out.below ((Upd.refl _ _).drewN nq)) (by simp [zl_length]; omega) (.inl (by rw [HFW.out, HWT.out]; decide))).mono ?_
                    rintro e w8 ⟨he, hr8, hu8⟩
                    rw [HFW.out, HWT.out] at he
                    subst he
                    have HT8 := Lib.hid (turn_hi hr8)
                    have HU8 := Lib.hid ((HUW.out.drewN nq).lateJ hu8 HJ.out)
                    clear hr8 hu8
                    go_wp2_with fail
                    refine HT8.out.mono ?_
                    rintro e w9 ⟨rfl, rfl⟩
                    go_wp2_with fail
                    go_ret
                    exact ⟨rfl, HU8.out⟩
                  · have d6 : decide (8 + (pR : Int) ≤ 1 + (pN : Int)) = false := by simp; omega
                    have HWT : Hid (wantN hm (8 + pR) pN AT (510 + pS) = 0) := by show _ = _; unfold wantN; rw [if_neg hb, if_neg (by omega), if_neg (by omega)]
                    clear b1 b2 b3 hb b4 b5 b6
                    go_quiet ((go_at_call 28; exact Calls.quiet_of (HHM _).out))
                    go_wp2_with fail
                    refine (com_hi (HRW.out.of (HRW.out.at_.drewN nq)) _ _ (HPW.out.below ((Upd.refl _ _).drewN nq)) (by rw [HFW.out, HWT.out]) (by simp) (by omega) (by omega)).mono ?_
                    rintro e w8 ⟨rfl, ⟨J8, D8, hr8, _⟩, hu8⟩
                    have HT8 := Lib.hid (turn_hi hr8)
                    have HU8 := Lib.hid ((HUW.out.drewN nq).lateJ hu8 HJ.out)
                    clear hr8 hu8
                    go_wp2_with fail
                    refine HT8.out.mono ?_
                    rintro e w9 ⟨rfl, rfl⟩
                    go_wp2_with fail
                    go_ret
                    exact ⟨rfl, HU8.out⟩
              · have d4 : ((510 + (pS : Int)) != 512) = true := by simp; omega
                have HWT : Hid (wantN hm (8 + pR) pN AT (510 + pS) = 9) := by show _ = _; unfold wantN; rw [if_neg hb, if_pos (by omega)]
                clear b1 b2 b3 hb b4
                go_quiet ((go_at_call 28; exact Calls.quiet_of (HHM _).out))
                go_wp2_with fail
                refine (comNo_hi (HRW.out.of (HRW.out.at_.drewN nq)) _ _ (HPW.out.below ((Upd.refl _ _).drewN nq)) (by simp [zl_length]; omega) (.inl (by rw [HFW.out, HWT.out]; decide))).mono ?_
                rintro e w8 ⟨he, hr8, hu8⟩
                rw [HFW.out, HWT.out] at he
                subst he
                have HT8 := Lib.hid (turn_hi hr8)
                have HU8 := Lib.hid ((HUW.out.drewN nq).lateJ hu8 HJ.out)
                clear hr8 hu8
                go_wp2_with fail
                refine HT8.out.mono ?_
                rintro e w9 ⟨rfl, rfl⟩
                go_wp2_with fail
                go_ret
                exact ⟨rfl, HU8.out⟩
      · go_wp2_with fail
        have hkey := KEY.out (((w5.setCell ⟨gb, pN * 2, none⟩ (.int .i64 a2)).setCell ⟨gb, pN * 2 + 1, none⟩ (.slice (some ⟨wr.heap.size, 0, none⟩) (510 + pS) (510 + pS))).setCell ⟨gb, pN * 2, none⟩ (.int .i64 0)) _ 0 (blk_set (blk_set (blk_set HBG.out _ _) _ _) _ _) (by rw [Array.toList_setIfInBounds, Array.toList_setIfInBounds, Array.toList_setIfInBounds, List.set_comm _ _ (by omega : pN * 2 + 1 ≠ pN * 2), List.set_set]; exact take_set2 (by rw [Array.length_toList]; omega)) (by simp [hsz]) ((((Upd.refl _ _).set _ (by simp)).set _ (by simp)).set _ (by simp))
        generalize (((w5.setCell ⟨gb, pN * 2, none⟩ (.int .i64 a2)).setCell ⟨gb, pN * 2 + 1, none⟩ (.slice (some ⟨wr.heap.size, 0, none⟩) (510 + pS) (510 + pS))).setCell ⟨gb, pN * 2, none⟩ (.int .i64 0)) = W at hkey ⊢
        obtain ⟨hRW, hPW, hUW, hcW⟩ := hkey
        have HRW := Lib.hid hRW
        have HPW := Lib.hid hPW
        have HUW := Lib.hid hUW
        have HHM := fun k => Lib.hid (homes_hi (hRW.of (hRW.at_.drewN k)))
        have HFW := Lib.hid (fits_want (nn := 140) (R := 8 + pR) (n := pN) (AT := 0) (s := List.replicate (510 + pS) 0) (by omega))
        rw [List.length_replicate] at HFW
        obtain ⟨hm, hhm⟩ : ∃ hm, hm = 140 - 2 - (8 + pR) := ⟨_, rfl⟩
        rw [← hhm] at HFW HHM
        clear hhm
        clear hRW hPW hUW hca hcb hfa hfb hxa hxb KEY HBG HTK HGET HB5 HU45 HR5 hmkS
        obtain ⟨AT, hAT⟩ : ∃ AT : Int, AT = (0 : Int) := ⟨_, rfl⟩
        rw [← hAT] at HFW HPW hcW
        clear hAT
        by_cases b1 : AT < 0
        · have d1 : decide (AT < 0) = true := by simpa using b1
          have HWT : Hid (wantN hm (8 + pR) pN AT (510 + pS) = 1) := by show _ = _; unfold wantN; rw [if_pos (.inl b1)]
          clear b1
          go_quiet (fail)
          go_wp2_with fail
          refine (comNo_hi (HRW.out.of (HRW.out.at_.drewN nq)) _ _ (HPW.out.below ((Upd.refl _ _).drewN nq)) (by simp [zl_length]; omega) (.inl (by rw [HFW.out, HWT.out]; decide))).mono ?_
          rintro e w8 ⟨he, hr8, hu8⟩
          rw [HFW.out, HWT.out] at he
          subst he
          have HT8 := Lib.hid (turn_hi hr8)
          have HU8 := Lib.hid ((HUW.out.drewN nq).lateJ hu8 HJ.out)
          clear hr8 hu8
          go_wp2_with fail
          refine HT8.out.mono ?_
          rintro e w9 ⟨rfl, rfl⟩
          go_wp2_with fail
          go_ret
          exact ⟨rfl, HU8.out⟩
        · have d1 : decide (AT < 0) = false := by simpa using b1
          by_cases b2 : (hm : Int) ≤ AT
          · have d2 : decide ((hm : Int) ≤ AT) = true := by simpa using b2
            have HWT : Hid (wantN hm (8 + pR) pN AT (510 + pS) = 1) := by show _ = _; unfold wantN; rw [if_pos (.inr (.inl b2))]
            clear b1 b2
            go_quiet ((go_at_call 28; exact Calls.quiet_of (HHM _).out))
            go_wp2_with fail
            refine (comNo_hi (HRW.out.of (HRW.out.at_.drewN nq)) _ _ (HPW.out.below ((Upd.refl _ _).drewN nq)) (by simp [zl_length]; omega) (.inl (by rw [HFW.out, HWT.out]; decide))).mono ?_
            rintro e w8 ⟨he, hr8, hu8⟩
            rw [HFW.out, HWT.out] at he
            subst he
            have HT8 := Lib.hid (turn_hi hr8)
            have HU8 := Lib.hid ((HUW.out.drewN nq).lateJ hu8 HJ.out)
            clear hr8 hu8
            go_wp2_with fail
            refine HT8.out.mono ?_
            rintro e w9 ⟨rfl, rfl⟩
            go_wp2_with fail
            go_ret
            exact ⟨rfl, HU8.out⟩
          · have d2 : decide ((hm : Int) ≤ AT) = false := by simpa using b2
            by_cases b3 : AT < (pN : Int)
            · have d3 : decide (AT < 1 + (pN : Int) - 1) = true := by simp; omega
              have HWT : Hid (wantN hm (8 + pR) pN AT (510 + pS) = 1) := by show _ = _; unfold wantN; rw [if_pos (.inr (.inr b3))]
              clear b1 b2 b3
              go_quiet ((go_at_call 28; exact Calls.quiet_of (HHM _).out))
              go_wp2_with fail
              refine (comNo_hi (HRW.out.of (HRW.out.at_.drewN nq)) _ _ (HPW.out.below ((Upd.refl _ _).drewN nq)) (by simp [zl_length]; omega) (.inl (by rw [HFW.out, HWT.out]; decide))).mono ?_
              rintro e w8 ⟨he, hr8, hu8⟩
              rw [HFW.out, HWT.out] at he
              subst he
              have HT8 := Lib.hid (turn_hi hr8)
              have HU8 := Lib.hid ((HUW.out.drewN nq).lateJ hu8 HJ.out)
              clear hr8 hu8
              go_wp2_with fail
              refine HT8.out.mono ?_
              rintro e w9 ⟨rfl, rfl⟩
              go_wp2_with fail
              go_ret
              exact ⟨rfl, HU8.out⟩
            · have d3 : decide (AT < 1 + (pN : Int) - 1) = false := by simp; omega
              have hb : ¬ (AT < 0 ∨ (hm : Int) ≤ AT ∨ AT < (pN : Int)) := by omega
              by_cases b4 : pS = 2
              · have d4 : ((510 + (pS : Int)) != 512) = false := by rw [b4]; rfl
                by_cases b5 : 40 < pN + 1
                · have d5 : decide (40 < 1 + (pN : Int)) = true := by simp; omega
                  have HWT : Hid (wantN hm (8 + pR) pN AT (510 + pS) = 2) := by show _ = _; unfold wantN; rw [if_neg hb, if_neg (by omega), if_pos (.inl b5)]
                  clear b1 b2 b3 hb b4 b5
                  go_quiet ((go_at_call 28; exact Calls.quiet_of (HHM _).out))
                  go_wp2_with fail
                  refine (comNo_hi (HRW.out.of (HRW.out.at_.drewN nq)) _ _ (HPW.out.below ((Upd.refl _ _).drewN nq)) (by simp [zl_length]; omega) (.inl (by rw [HFW.out, HWT.out]; decide))).mono ?_
                  rintro e w8 ⟨he, hr8, hu8⟩
                  rw [HFW.out, HWT.out] at he
                  subst he
                  have HT8 := Lib.hid (turn_hi hr8)
                  have HU8 := Lib.hid ((HUW.out.drewN nq).lateJ hu8 HJ.out)
                  clear hr8 hu8
                  go_wp2_with fail
                  refine HT8.out.mono ?_
                  rintro e w9 ⟨rfl, rfl⟩
                  go_wp2_with fail
                  go_ret
                  exact ⟨rfl, HU8.out⟩
                · have d5 : decide (40 < 1 + (pN : Int)) = false := by simp; omega
                  by_cases b6 : 8 + pR ≤ pN + 1
                  · have d6 : decide (8 + (pR : Int) ≤ 1 + (pN : Int)) = true := by simp; omega
                    have HWT : Hid (wantN hm (8 + pR) pN AT (510 + pS) = 2) := by show _ = _; unfold wantN; rw [if_neg hb, if_neg (by omega), if_pos (.inr b6)]
                    clear b1 b2 b3 hb b4 b5 b6
                    go_quiet ((go_at_call 28; exact Calls.quiet_of (HHM _).out))
                    go_wp2_with fail
                    refine (comNo_hi (HRW.out.of (HRW.out.at_.drewN nq)) _ _ (HPW.out.below ((Upd.refl _ _).drewN nq)) (by simp [zl_length]; omega) (.inl (by rw [HFW.out, HWT.out]; decide))).mono ?_
                    rintro e w8 ⟨he, hr8, hu8⟩
                    rw [HFW.out, HWT.out] at he
                    subst he
                    have HT8 := Lib.hid (turn_hi hr8)
                    have HU8 := Lib.hid ((HUW.out.drewN nq).lateJ hu8 HJ.out)
                    clear hr8 hu8
                    go_wp2_with fail
                    refine HT8.out.mono ?_
                    rintro e w9 ⟨rfl, rfl⟩
                    go_wp2_with fail
                    go_ret
                    exact ⟨rfl, HU8.out⟩
                  · have d6 : decide (8 + (pR : Int) ≤ 1 + (pN : Int)) = false := by simp; omega
                    have HWT : Hid (wantN hm (8 + pR) pN AT (510 + pS) = 0) := by show _ = _; unfold wantN; rw [if_neg hb, if_neg (by omega), if_neg (by omega)]
                    clear b1 b2 b3 hb b4 b5 b6
                    go_quiet ((go_at_call 28; exact Calls.quiet_of (HHM _).out))
                    go_wp2_with fail
                    refine (com_hi (HRW.out.of (HRW.out.at_.drewN nq)) _ _ (HPW.out.below ((Upd.refl _ _).drewN nq)) (by rw [HFW.out, HWT.out]) (by simp) (by omega) (by omega)).mono ?_
                    rintro e w8 ⟨rfl, ⟨J8, D8, hr8, _⟩, hu8⟩
                    have HT8 := Lib.hid (turn_hi hr8)
                    have HU8 := Lib.hid ((HUW.out.drewN nq).lateJ hu8 HJ.out)
                    clear hr8 hu8
                    go_wp2_with fail
                    refine HT8.out.mono ?_
                    rintro e w9 ⟨rfl, rfl⟩
                    go_wp2_with fail
                    go_ret
                    exact ⟨rfl, HU8.out⟩
              · have d4 : ((510 + (pS : Int)) != 512) = true := by simp; omega
                have HWT : Hid (wantN hm (8 + pR) pN AT (510 + pS) = 9) := by show _ = _; unfold wantN; rw [if_neg hb, if_pos (by omega)]
                clear b1 b2 b3 hb b4
                go_quiet ((go_at_call 28; exact Calls.quiet_of (HHM _).out))
                go_wp2_with fail
                refine (comNo_hi (HRW.out.of (HRW.out.at_.drewN nq)) _ _ (HPW.out.below ((Upd.refl _ _).drewN nq)) (by simp [zl_length]; omega) (.inl (by rw [HFW.out, HWT.out]; decide))).mono ?_
                rintro e w8 ⟨he, hr8, hu8⟩
                rw [HFW.out, HWT.out] at he
                subst he
                have HT8 := Lib.hid (turn_hi hr8)
                have HU8 := Lib.hid ((HUW.out.drewN nq).lateJ hu8 HJ.out)
                clear hr8 hu8
                go_wp2_with fail
                refine HT8.out.mono ?_
                rintro e w9 ⟨rfl, rfl⟩
                go_wp2_with fail
                go_ret
                exact ⟨rfl, HU8.out⟩

end Go.Proofs.Ythbgidiblcokhaa
