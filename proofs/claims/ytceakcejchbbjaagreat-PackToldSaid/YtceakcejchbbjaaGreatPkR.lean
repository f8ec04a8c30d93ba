/-
  A journal at rest, a transaction upon it: Begin and Commit, told of the home sectors alone. pack.Get, walked. cofferlaw11.key, begun.
-/
import Derived.Test.YtceakcejchbbjaaGreatPkI
import Derived.ChangeKeysEq
import Derived.Test.YtceakcejchbbjaaGreatPkP
import Derived.Test.YtceakcejchbbjaaGreatPkK
section
set_option linter.unusedSimpArgs false
set_option linter.unusedVariables false
namespace Go.Proofs.YtceakcejchbbjaaGreat
open Go.RowKit Go.MapKept Go.ChangeMaps

/-- A journal at rest, with these home sectors. -/
def JsAt (w : World) (j : JG) (n ring : Nat) (b : Int) (H : Nat → Sec) : Prop :=
  ∃ (J : Jn) (D : Dk) (t m : Int), JrAt w j J D n ring t m H ∧ (∀ i, (H i).length = 512) ∧ t ≤ b ∧ m ≤ b + 1
theorem JsAt.below {w w' : World} {j : JG} {n ring : Nat} {b : Int} {H : Nat → Sec} (h : JsAt w j n ring b H) (hu : Upd [] w w') : JsAt w' j n ring b H := by
  obtain ⟨J, D, t, m, h1, h2⟩ := h
  exact ⟨J, D, t, m, h1.below hu, h2⟩
/-- A transaction on it. -/
structure TxP (w0 : World) (j : JG) (n ring : Nat) (b : Int) (H : Nat → Sec) (g : Sg) : Prop where
  j : g.j = j
  n : g.n = n
  ring : g.ring = ring
  H : g.H = H
  turn : g.turn = g.t - 1
  t : g.t ≤ b
  m : g.m ≤ b + 1
  tb : w0.heap.size ≤ g.x.tb
  wb : w0.heap.size ≤ g.x.wb
theorem TxP.h {w0 : World} {j : JG} {n ring : Nat} {b : Int} {H : Nat → Sec} {g : Sg} (h : TxP w0 j n ring b H g) : g.h = n - 2 - ring := by unfold Sg.h; rw [h.n, h.ring]
theorem TxP.S {w0 : World} {j : JG} {n ring : Nat} {b : Int} {H : Nat → Sec} {g : Sg} (h : TxP w0 j n ring b H g) : ∀ k, k ∈ g.S → k ∈ j.all ∨ w0.heap.size ≤ k := by
  intro k hk
  rw [Sg.S, h.j] at hk
  rcases List.mem_cons.1 hk with rfl | q
  · exact .inr h.wb
  · exact .inl q
theorem begin_js {w : World} {j : JG} {n ring : Nat} {b : Int} {H : Nat → Sec} (h : JsAt w j n ring b H) :
    Calls Tryz.prog 20 #[.pointer (some ⟨j.jb, 0, none⟩)] w fun e w' => ∃ g : Sg, e = .returned (.tuple #[.pointer (some ⟨g.x.tb, 0, none⟩), .int .i64 0]) ∧ TxP w j n ring b H g ∧ SpAt w' g (fun _ => none) ∧ Upd j.all w w' := by
  obtain ⟨J, D, t, m, h1, h2, h4, h5⟩ := h
  refine (begin_hi h1).mono ?_
  rintro e w' ⟨x, rfl, hx1, hx2, hx, hr, hu⟩
  exact ⟨⟨x, j, J, D, n, ring, t - 1, t, m, H⟩, rfl, ⟨rfl, rfl, rfl, rfl, rfl, h4, h5, hx1, hx2⟩, ⟨hr, hx, h1.at_.late hx2, MOk.none _, h2⟩, hu⟩
theorem commit_js {w0 w : World} {j : JG} {n ring : Nat} {b : Int} {H : Nat → Sec} {g : Sg} {M : Nat → Option Sec} (hg : TxP w0 j n ring b H g) (h : SpAt w g M) (hn : n ≤ 5000) (hb : b < 900000) (h1 : cntM M g.h ≤ 40) (h2 : cntM M g.h < ring) :
    Calls Tryz.prog 19 #[.pointer (some ⟨g.x.tb, 0, none⟩)] w fun e w' => e = .returned (.int .i64 0) ∧ JsAt w' j n ring (b + 1) (g.cur M) ∧ Upd (g.x.tb :: j.all) w w' := by
  have hx := h.tx
  rw [hg.turn] at hx
  refine (commit_hi h.jr hx h.ne h.ok (by rw [hg.n]; exact hn) h1 (by rw [hg.ring]; exact h2 : cntM M g.h < g.ring) (by have := hg.t; omega) (by have := hg.m; omega)).mono ?_
  rintro e w' ⟨rfl, _, ⟨J', D', t', hr, ht'⟩, hu⟩
  have e1 := hg.j
  have e2 := hg.n
  have e3 := hg.ring
  refine ⟨rfl, ⟨J', D', t', g.m + 1, ?_, fun i => h.cur_len i, ?_, ?_⟩, by rw [← e1]; exact hu⟩
  · rw [← e1, ← e2, ← e3]; exact hr
  · have := hg.t; rw [ht']; split <;> omega
  · have := hg.m; omega
theorem BgAt.js {w0 w : World} {g : Sg} {n ring : Nat} (h : BgAt w0 w g n ring) : TxP w0 g.j n ring 2 g.H g :=
  ⟨rfl, h.n, h.ring, rfl, h.turn, h.t, h.m, h.late _ (by simp), h.late _ (by simp [Sg.S])⟩
theorem PksAt.zero {c : Nat → Sec} {h : Nat} {T : Nat → Bool} (hl : ∀ i, (c i).length = 512) (h2 : c 2 = zsec) (h3 : c 3 = zsec) : PksAt c h T (fun _ => Option.none) := by
  refine ⟨hl, fun n hn => ?_, fun _ _ => rfl, fun _ _ e => (by cases e), fun _ _ e => (by cases e), fun _ _ _ _ e => (by cases e), fun _ _ e => (by cases e)⟩
  have e : c (2 + n / 32) = zsec := by
    have : n / 32 = 0 ∨ n / 32 = 1 := by omega
    rcases this with q | q <;> rw [q]
    · exact h2
    · exact h3
  unfold lookP
  rw [e, entW_zero (by omega)]
  dsimp only
  rw [if_neg (by omega)]
  rfl
theorem BgAt.packs {w0 w : World} {g : Sg} {n ring : Nat} (h : BgAt w0 w g n ring) : PksAt g.H g.h (g.T fun _ => none) (fun _ => Option.none) :=
  PksAt.zero h.sp.len (h.zer 2 (by omega)) (h.zer 3 (by omega))
end Go.Proofs.YtceakcejchbbjaaGreat
end

section
set_option linter.unusedSimpArgs false
set_option linter.unusedVariables false
namespace Go.Proofs.YtceakcejchbbjaaGreat
open Go.RowKit Go.MapKept Go.ChangeMaps

theorem cellsOf_u8P : Tryz.prog.cellsOf 5 = 1 := by kernel_rfl
theorem run_eqBytesP (d : Nat) (a b : List UInt8) (w : World) : ∀ is : List Nat, (∀ i, i ∈ is → i < a.length ∧ i < b.length) →
    ∃ r : Bool, (Op.eqItems (d + 1) 5 1 (bts a).toArray (bts b).toArray is).run Tryz.prog w = .ok r w ∧ (r = true ↔ ∀ i, i ∈ is → a[i]? = b[i]?)
  | [], _ => ⟨true, by simp [Op.eqItems], by simp⟩
  | i :: is, h => by
    obtain ⟨hi, hj⟩ := h i (by simp)
    obtain ⟨r, hr, hiff⟩ := run_eqBytesP d a b w is (fun k hk => h k (by simp [hk]))
    have e1 : (bts a).toArray[i]? = some (bv a[i]) := by simp [bts, hi]
    have e2 : (bts b).toArray[i]? = some (bv b[i]) := by simp [bts, hj]
    have p1 := run_part_plain (P := Tryz.prog) (w := w) (e := 5) (by kernel_rfl) e1
    have p2 := run_part_plain (P := Tryz.prog) (w := w) (e := 5) (by kernel_rfl) e2
    have p3 := run_equalIn_int (P := Tryz.prog) w d 5 .u8 .u8 (a[i].toNat : Int) (b[i].toNat : Int) Tryz.underlying5
    unfold Op.eqItems
    simp only [Nat.mul_one, Sem.run_bind, p1, p2, Result.andThen_ok]
    unfold bv
    simp only [p3, Result.andThen_ok]
    by_cases hab : a[i] = b[i]
    · refine ⟨r, by simp [hab, hr], ?_⟩
      rw [hiff]
      simp only [List.mem_cons, forall_eq_or_imp, List.getElem?_eq_getElem hi, List.getElem?_eq_getElem hj, hab, true_and]
    · have : ((a[i].toNat : Int) == (b[i].toNat : Int)) = false := by
        rw [beq_eq_false_iff_ne]
        intro q
        exact hab (UInt8.toNat_inj.1 (by omega))
      refine ⟨false, by simp [this], ?_⟩
      simp only [Bool.false_eq_true, false_iff, List.mem_cons, forall_eq_or_imp, List.getElem?_eq_getElem hi, List.getElem?_eq_getElem hj, Option.some.injEq]
      exact fun q => hab q.1
set_option maxRecDepth 100000 in
/-- Two arrays of bytes are compared. -/
theorem run_eqArrP {a b : List UInt8} (ha : a.length = 32) (hb : b.length = 32) (w : World) : (Op.equalIn 10000 35 (.agg (bts a).toArray) (.agg (bts b).toArray)).run Tryz.prog w = .ok (decide (a = b)) w := by
  obtain ⟨r, hr, hiff⟩ := run_eqBytesP 9998 a b w (List.range 32) (fun i hi => by have := List.mem_range.1 hi; omega)
  have hu := Tryz.underlying35
  obtain ⟨i0, hi0⟩ : ∃ i0, Tryz.prog.info? 5 = some i0 := Option.isSome_iff_exists.1 (by kernel_rfl)
  have h1 := run_equalIn_array (P := Tryz.prog) w 9999 (t := 35) (bts a).toArray (bts b).toArray hu hi0
  rw [cellsOf_u8P] at h1
  rw [h1, hr]
  congr 1
  cases hr' : r
  · symm; rw [decide_eq_false_iff_not]
    rintro rfl
    rw [hr'] at hiff
    simp at hiff
  · symm; rw [decide_eq_true_eq]
    apply List.ext_getElem?
    intro i
    by_cases hi : i < 32
    · exact hiff.1 hr' i (List.mem_range.2 hi)
    · rw [List.getElem?_eq_none (by omega), List.getElem?_eq_none (by omega)]

theorem BRow.turn {w w' : World} {B : Nat} {v : Value} {l : List UInt8} (h : BRow w B v l) {S : List Nat} (hu : Upd S w w') (hS : ∀ k, k ∈ S → ∀ c, w.heap[k]? ≠ some (.cells c 5 (0, 0))) : BRow w' B v l :=
  h.other fun k c e => hu.block _ (blk_lt e) (fun q => hS k q c e)
set_option maxRecDepth 100000 in
set_option maxHeartbeats 4000000 in
theorem get_pk {w : World} {g : Sg} {M : Nat → Option Sec} {K : Nat → Option Pk} (h : SpAt w g M) (hk : PksAt (g.cur M) g.h (g.T M) K) (hh : 20 ≤ g.h) (hh2 : g.h ≤ 4096) {n : Nat} {p : Pk} (hp : K n = some p) (at_ ln : Nat) (key b : List UInt8) (hkl : key.length = 32) (hbl : b.length ≤ 4200) (hln : ln = 46 + b.length)
    (hal : at_ + ln ≤ p.data.length) (hfr : (p.data.drop at_).take ln = frameB key b) :
    Calls Tryz.prog 32 #[.pointer (some ⟨g.x.tb, 0, none⟩), plV (n, at_, ln), .agg (bts key).toArray] w fun e w' => ∃ x, e = .returned (.tuple #[x, .int .i64 0]) ∧ BRow w' w.heap.size x b ∧ SpAt w' g M ∧ Upd [g.j.jb] w w' := by
  have hlt := h.lt
  have hlow := hk.low n p hp
  obtain ⟨st, hst⟩ : ∃ st, st = p.start := ⟨_, rfl⟩
  obtain ⟨us, hus⟩ : ∃ us, us = p.data.length := ⟨_, rfl⟩
  obtain ⟨lv, hlv⟩ : ∃ lv, lv = p.live := ⟨_, rfl⟩
  obtain ⟨pb, hpb⟩ : ∃ pb, pb = w.heap.size := ⟨_, rfl⟩
  obtain ⟨w1, hw1⟩ : ∃ w1, w1 = (w.alloc (.cells #[.int .i64 (n : Int), .int .i64 (at_ : Int), .int .i64 (ln : Int)] 30)).alloc (.cells (bts key).toArray 35) := ⟨_, rfl⟩
  have hu1 : Upd [] w w1 := by rw [hw1]; exact ((Upd.refl _ _).alloc _).alloc _
  have hbp : w1.heap[pb]? = some (.cells #[.int .i64 (n : Int), .int .i64 (at_ : Int), .int .i64 (ln : Int)] 30 (0, 0)) := by
    rw [hw1, hpb]
    exact (((Upd.refl [] _).alloc _).block _ (by simp) (by simp)).trans (blk_alloc _)
  have hbk : w1.heap[pb + 1]? = some (.cells (bts key).toArray 35 (0, 0)) := by
    rw [hw1, hpb]
    have := blk_alloc (w := w.alloc (.cells #[.int .i64 (n : Int), .int .i64 (at_ : Int), .int .i64 (ln : Int)] 30)) (.cells (bts key).toArray 35)
    rwa [World.size_alloc] at this
  have h1 := h.below hu1
  have hwi := within_spec h1 hk hh hh2 hp at_ ln (by omega) hal
  unfold stV plV at hwi
  dsimp only at hwi
  rw [← hst, ← hus, ← hlv] at hwi
  have HRDP : Hid (∀ w', SpAt w' g M → Calls Tryz.prog 82 #[.agg #[.int .i64 (st : Int), .int .i64 (us : Int), .int .i64 (lv : Int)], .pointer (some ⟨g.x.tb, 0, none⟩), .int .i64 (at_ : Int), .int .i64 (ln : Int)] w' fun e w'' => ∃ x, e = .returned (.tuple #[x, .int .i64 0]) ∧ BRow w'' w'.heap.size x (frameB key b) ∧ SpAt w'' g M ∧ Upd [g.j.jb] w' w'') := by
    show ∀ w', _
    intro w' h'
    have := readP_spec h' hh2 st us lv at_ ln p.data (by omega) hal (by omega) (by rw [hst]; exact hk.data n p hp)
    rw [hfr] at this
    exact this
  have hik : (Tryz.prog.info? 35).map (·.size) = some (bts key).toArray.size := by rw [List.size_toArray, bts_length, hkl]; exact infoIDp
  have hone : (bts key).toArray.all (·.oneCell') = true := by
    rw [Array.all_eq_true_iff_forall_mem]
    intro x hx
    exact bts_one _ x (by simpa using hx)
  have heq : ∀ w', (Op.equalIn 10000 35 (.agg (bts key).toArray) (.agg (bts key).toArray)).run Tryz.prog w' = .ok true w' := fun w' => by
    have := run_eqArrP hkl hkl w'
    rwa [decide_eq_true rfl] at this
  have HWI := Lib.hid hwi
  have HLT := Lib.hid hlt
  have HU1 := Lib.hid hu1
  have HBP := Lib.hid hbp
  have HBK := Lib.hid hbk
  have HPB := Lib.hid hpb
  have HW1 := Lib.hid hw1
  have HBL := Lib.hid hbl
  have HLN := Lib.hid hln
  have HKL := Lib.hid hkl
  have hq : ((ln : Int) != (ln : Int)) = false := by simp
  have p0 : w1.cell? ⟨pb, 0, none⟩ = some (.int .i64 (n : Int)) := by rw [blk_cell hbp]; rfl
  have p1 : w1.cell? ⟨pb, 1, none⟩ = some (.int .i64 (at_ : Int)) := by rw [blk_cell hbp]; rfl
  have p2 : w1.cell? ⟨pb, 2, none⟩ = some (.int .i64 (ln : Int)) := by rw [blk_cell hbp]; rfl
  clear h hlt hk hp hst hus hlv hpb hw1 hu1 hbp hbk hwi h1 hfr hlow hal hbl hln
  unfold plV
  go_enter Tryz.func32, Tryz.ntmps32
  go_upto_region 1 with (fail)
  have hw1 := HW1.out
  have hpb := HPB.out
  rw [← hw1, ← hpb]
  clear hw1 hpb
  go_wp2_with fail
  refine HWI.out.mono ?_
  rintro e w4 ⟨rfl, h4, hu4⟩
  have hne : ∀ i, pb ≤ i → i ∉ [g.j.jb] := fun i hi q => by have := HLT.out.1 i (g.mem i q); have := HPB.out; omega
  have hbp4 := (hu4.block _ (blk_lt HBP.out) (hne _ (Nat.le_refl _))).trans HBP.out
  have hbk4 := (hu4.block _ (blk_lt HBK.out) (hne _ (by omega))).trans HBK.out
  obtain ⟨w5, hw5⟩ : ∃ w5, w5 = w4.alloc (.cells #[.int .i64 (st : Int), .int .i64 (us : Int), .int .i64 (lv : Int)] 119) := ⟨_, rfl⟩
  obtain ⟨sb, hsb⟩ : ∃ sb, sb = w4.heap.size := ⟨_, rfl⟩
  have hu5 : Upd [] w4 w5 := by rw [hw5]; exact (Upd.refl _ _).alloc _
  have hb5 : w5.heap[sb]? = some (.cells #[.int .i64 (st : Int), .int .i64 (us : Int), .int .i64 (lv : Int)] 119 (0, 0)) := by rw [hw5, hsb]; exact blk_alloc _
  have hbp5 := (hu5.block _ (blk_lt hbp4) (by simp)).trans hbp4
  have hbk5 := (hu5.block _ (blk_lt hbk4) (by simp)).trans hbk4
  have h5 := h4.below hu5
  have HRD5 := Lib.hid (HRDP.out w5 h5)
  have HU5 := Lib.hid (((HU1.out.mono (by simp)).trans hu4).trans (hu5.mono (by simp)))
  have m0 : w5.cell? ⟨sb, 0, none⟩ = some (.int .i64 (st : Int)) := by rw [blk_cell hb5]; rfl
  have m1 : w5.cell? ⟨sb, 1, none⟩ = some (.int .i64 (us : Int)) := by rw [blk_cell hb5]; rfl
  have m2 : w5.cell? ⟨sb, 2, none⟩ = some (.int .i64 (lv : Int)) := by rw [blk_cell hb5]; rfl
  have n1 : w5.cell? ⟨pb, 1, none⟩ = some (.int .i64 (at_ : Int)) := by rw [blk_cell hbp5]; rfl
  have n2 : w5.cell? ⟨pb, 2, none⟩ = some (.int .i64 (ln : Int)) := by rw [blk_cell hbp5]; rfl
  have HBP5 := Lib.hid hbp5
  have HBK5 := Lib.hid hbk5
  have HW5 := Lib.hid hw5
  have HSB := Lib.hid hsb
  clear p0 p1 p2 h4 hu4 hbp4 hbk4 hw5 hsb hu5 hb5 hbp5 hbk5 h5
  go_upto_region 2 with (fail)
  have hw5 := HW5.out
  have hsb := HSB.out
  rw [← hw5, ← hsb]
  clear hw5 hsb
  go_wp2_with fail
  refine HRD5.out.mono ?_
  rintro e w6 ⟨x0, rfl, hrow, h6, hu6⟩
  have hbp6 := (hu6.block _ (blk_lt HBP5.out) (hne _ (Nat.le_refl _))).trans HBP5.out
  have hbk6 := (hu6.block _ (blk_lt HBK5.out) (hne _ (by omega))).trans HBK5.out
  have htk := take_frame (rest := []) (key := key) (b := b) (by rw [List.append_nil]; exact hrow.rd) hkl HBL.out (by simp)
  rw [← HLN.out] at htk
  have HTK := Lib.hid htk
  have H6 := Lib.hid h6
  have HU6 := Lib.hid (HU5.out.trans hu6)
  have HBP6 := Lib.hid hbp6
  have HBK6 := Lib.hid hbk6
  clear m0 m1 m2 n1 n2 hrow h6 hu6 hbp6 hbk6 htk
  go_wp2_with fail
  refine HTK.out.mono ?_
  rintro e w7 ⟨x, rfl, hrow, hu7⟩
  have hbp7 := (hu7.block _ (blk_lt HBP6.out) (by simp)).trans HBP6.out
  have hbk7 := (hu7.block _ (blk_lt HBK6.out) (by simp)).trans HBK6.out
  have h7 := H6.out.below hu7
  have HROW := Lib.hid hrow
  have H7 := Lib.hid h7
  have HU7 := Lib.hid (HU6.out.trans (hu7.mono (by simp)))
  have HBP7 := Lib.hid hbp7
  have HBK7 := Lib.hid hbk7
  clear hrow h7 hu7 hbp7 hbk7
  go_upto_region 8 with (refine wpList_store_row (by rfl) 35 (.tmp 11) (.tmp 39) (by rfl) w7.heap.size (bts key).toArray (by rfl) (by rfl) _ _ (blk_alloc _) hik (by simp [bts_length, hkl]) hone ?_)
  obtain ⟨w8, hw8⟩ : ∃ w8, w8 = (w7.alloc (.cells (bts zb32).toArray 35)).setRow w7.heap.size (bts key).toArray := ⟨_, rfl⟩
  obtain ⟨ib, hib⟩ : ∃ ib, ib = w7.heap.size := ⟨_, rfl⟩
  rw [zb32_lit, ← hw8, ← hib]
  have hb8 : w8.heap[ib]? = some (.cells (bts key).toArray 35 (0, 0)) := by rw [hw8, hib]; exact setRow_heap _ _ _ _ _ _ (blk_alloc _)
  have hu8 : Upd [] w7 w8 := by rw [hw8]; exact upd_rowW ((Upd.refl _ _).alloc _) _ (.inr (Nat.le_refl _))
  have hbp8 := (hu8.block _ (blk_lt HBP7.out) (by simp)).trans HBP7.out
  have hbk8 := (hu8.block _ (blk_lt HBK7.out) (by simp)).trans HBK7.out
  have q2 : w8.cell? ⟨pb, 2, none⟩ = some (.int .i64 (ln : Int)) := by rw [blk_cell hbp8]; rfl
  have HB8 := Lib.hid hb8
  have HBK8 := Lib.hid hbk8
  have H8 := Lib.hid (H7.out.below hu8)
  have HU8 := Lib.hid (HU7.out.trans (hu8.mono (by simp)))
  have HROW8 := Lib.hid (HROW.out.keep hu8)
  clear hw8 hib hb8 hu8 hbp8 hbk8
  go_wp2_with (first | (refine wpList_load_row (by rfl) 35 (.tmp 11) (by rfl) ib (by rfl) _ _ _ _ HB8.out Tryz.underlying35 rfl hik ?_) | (refine wpList_load_row (by rfl) 35 (.tmp 5) (by rfl) (pb + 1) (by rfl) _ _ _ _ HBK8.out Tryz.underlying35 rfl hik ?_))
  go_ret2
  have hsz := HU6.out.size
  exact ⟨x, rfl, HROW8.out.low (by omega), H8.out, HU8.out⟩
end Go.Proofs.YtceakcejchbbjaaGreat
end

section
set_option linter.unusedSimpArgs false
set_option linter.unusedVariables false
namespace Go.Proofs.YtceakcejchbbjaaGreat
open Go.RowKit Go.MapKept Go.ChangeMaps

/-- A key of the laws. -/
def keyP (y : Nat) : List UInt8 := (zb32.set 0 (UInt8.ofNat y)).set 31 (UInt8.ofNat y)
theorem keyP_length (y : Nat) : (keyP y).length = 32 := by unfold keyP; rw [List.length_set, List.length_set]; rfl
theorem run_build_keyP (y : Nat) (hy : y < 256) (w : World) : (Instr.build 35 #[(0, .int .u8 (y : Int)), (31, .int .u8 (y : Int))]).run Tryz.prog w = .ok (.agg (bts (keyP y)).toArray) w := by
  have e : bts (keyP y) = ((bts zb32).set 0 (.int .u8 (y : Int))).set 31 (.int .u8 (y : Int)) := by
    unfold keyP
    have b : ∀ (l : List UInt8) (i : Nat), (bts l).set i (.int .u8 (y : Int)) = bts (l.set i (UInt8.ofNat y)) := fun l i => by
      unfold bts
      rw [List.map_set]
      congr 1
      unfold bv
      rw [UInt8.toNat_ofNat', Nat.mod_eq_of_lt (by omega)]
    rw [b, b]
  rw [e]
  exact run_build w _ _ _ (by kernel_rfl)
section
attribute [-go_sem] loadCells storeCells Instr.build
set_option maxRecDepth 100000 in
set_option maxHeartbeats 1000000 in
theorem key11_spec (y : Nat) (yi : Int) (hyi : yi = (y : Int)) (hy : y < 256) (w : World) : Calls Tryz.prog 17 #[.int .u8 yi] w fun e w' => e = .returned (.agg (bts (keyP y)).toArray) ∧ Upd [] w w' := by
  subst hyi
  have hbk := run_build_keyP y hy
  have hik : (Tryz.prog.info? 35).map (·.size) = some (bts (keyP y)).toArray.size := by rw [List.size_toArray, bts_length, keyP_length]; exact infoIDp
  have hone : (bts (keyP y)).toArray.all (·.oneCell') = true := by
    rw [Array.all_eq_true_iff_forall_mem]
    intro x hx
    exact bts_one _ x (by simpa using hx)
  have hkl := keyP_length y
  generalize keyP y = ky at *
  go_enter Tryz.func17, Tryz.ntmps17
  go_wp2_with (refine wpList_store_row (by rfl) 35 (.tmp 2) (.tmp 5) (by rfl) w.heap.size (bts ky).toArray (by rfl) (by rfl) _ _ (blk_alloc _) hik (by simp [bts_length, hkl]) hone ?_)
  rw [zb32_lit]
  refine bodyPost_ret (results_cell_row (p := 2) (ty := 35) (by rfl) _ _ w.heap.size _ _ _ _ (by rfl) (setRow_heap _ _ _ _ _ _ (blk_alloc _)) Tryz.underlying35 rfl hik) (by rfl) ?_
  exact ⟨rfl, upd_rowW ((Upd.refl _ _).alloc _) _ (.inr (Nat.le_refl _))⟩
end
theorem run_build_b (x : Int) (w : World) : (Instr.buildSlice 37 1 #[(0, .int .u8 x)]).run Tryz.prog w = .ok (.slice (some ⟨w.heap.size, 0, none⟩) 1 1) (w.alloc (.cells #[.int .u8 x] 5)) := by kernel_rfl
theorem rd_one {w : World} {g : Nat} {y : Nat} (hy : y < 256) (h : w.heap[g]? = some (.cells #[.int .u8 (y : Int)] 5 (0, 0))) : Rd w (.slice (some ⟨g, 0, none⟩) 1 1) [UInt8.ofNat y] := by
  refine ⟨_, _, rfl, Nat.le_refl _, fun _ => ⟨_, _, rfl, fun i hi => ?_⟩⟩
  obtain rfl : i = 0 := by simpa using hi
  rw [blk_cell h]
  show some (Value.int .u8 (y : Int)) = some (.int .u8 ((UInt8.ofNat y).toNat : Int))
  rw [UInt8.toNat_ofNat', Nat.mod_eq_of_lt (by omega)]
/-- Packs upon a transaction. -/
theorem noPk : ∀ n, (fun _ => Option.none : Nat → Option Pk) n = Option.none := fun _ => rfl
theorem BgAt.even {w0 w : World} {g : Sg} {n ring L e : Nat} (h : BgAt w0 w g n ring) (he : 0 < e) : Even L e 0 0 (fun _ => Option.none) (g.T fun _ => none) := Even.zero he noPk h.T
set_option maxRecDepth 100000 in
set_option maxHeartbeats 4000000 in
theorem begun11_spec (w : World) : Calls Tryz.prog 12 #[] w fun e w' => e = .returned (.bool true) ∧ Upd [] w w' := by
  have HB : Hid (Calls Tryz.prog 14 #[.int .i64 200, .int .i64 60] w fun e w' => ∃ g : Sg, e = .returned (.tuple #[.pointer (some ⟨g.j.jb, 0, none⟩), .pointer (some ⟨g.x.tb, 0, none⟩)]) ∧ BgAt w w' g 200 60 ∧ Upd [] w w') := Lib.hid (begunS 200 60 200 rfl (by omega) (by omega) (by omega) (by omega) (by omega) w)
  have hb7 := run_build_b
  go_enter Tryz.func12, Tryz.ntmps12
  go_wp2_with fail
  refine HB.out.mono ?_
  rintro e w1 ⟨g, rfl, hg, hu1⟩
  have hgh : g.h = 138 := by unfold Sg.h; rw [hg.n, hg.ring]
  have HLT : Hid (∀ k, k ∈ g.S → w.heap.size ≤ k) := by show ∀ k, _; exact fun k hk => hg.late k (by simp [hk])
  have HPK := Lib.hid hg.packs
  have HSP := Lib.hid hg.sp
  have HU1 := Lib.hid hu1
  have HGH := Lib.hid hgh
  have HEV := Lib.hid (hg.even (L := 47) (e := 174) (by omega))
  have HK1 : Hid (∀ w', Calls Tryz.prog 17 #[.int .u8 1] w' fun e w'' => e = .returned (.agg (bts (keyP 1)).toArray) ∧ Upd [] w' w'') := by show ∀ w', _; exact fun w' => key11_spec 1 1 rfl (by omega) w'
  have HK2 : Hid (∀ w', Calls Tryz.prog 17 #[.int .u8 2] w' fun e w'' => e = .returned (.agg (bts (keyP 2)).toArray) ∧ Upd [] w' w'') := by show ∀ w', _; exact fun w' => key11_spec 2 2 rfl (by omega) w'
  have hk1l := keyP_length 1
  have hk2l := keyP_length 2
  have HK1L := Lib.hid hk1l
  have HK2L := Lib.hid hk2l
  obtain ⟨ky1, hky1⟩ : ∃ k, k = keyP 1 := ⟨_, rfl⟩
  obtain ⟨ky2, hky2⟩ : ∃ k, k = keyP 2 := ⟨_, rfl⟩
  rw [← hky1] at HK1 HK1L
  rw [← hky2] at HK2 HK2L
  clear hg hu1 hgh hk1l hk2l hky1 hky2
  go_wp2_with fail
  refine (HK1.out _).mono ?_
  rintro e w2 ⟨rfl, hu2⟩
  obtain ⟨w3, hw3⟩ : ∃ w3, w3 = w2.alloc (.cells #[.int .u8 7] 5) := ⟨_, rfl⟩
  have hu3 : Upd [] w2 w3 := by rw [hw3]; exact (Upd.refl _ _).alloc _
  have hr3 : Rd w3 (.slice (some ⟨w2.heap.size, 0, none⟩) 1 1) [7] := rd_one (y := 7) (by omega) (by rw [hw3]; exact blk_alloc _)
  have h3 := HSP.out.below (hu2.trans hu3)
  have had := add_pk h3 HPK.out (by rw [HGH.out]; omega) (by rw [HGH.out]; omega) (by rw [cntM_none]; omega) ky1 [7] _ hr3 HK1L.out (by simp)
  have HAD := Lib.hid had
  have HU3 := Lib.hid ((HU1.out.trans hu2).trans hu3)
  have HW3 := Lib.hid hw3
  clear hw3 hu2 hu3 hr3 h3 had
  go_wp2_with fail
  rw [← HW3.out]
  refine HAD.out.mono ?_
  rintro e w4 ⟨M1, K1, o1, rfl, h4, hk4, ho4, hc4, hu4⟩
  have hf1 : (frameB ky1 [7]).length = 47 := by rw [frameB_length HK1L.out]; rfl
  obtain ⟨rfl, hev1⟩ := HEV.out.add hf1 (by omega) (by omega) (by omega) (by rw [HGH.out]; omega) ho4
  rw [if_neg (by omega)] at hev1
  have hrec1 := ((RecsAt.zero noPk).add HK1L.out (by simp) ho4).1
  rw [cntM_none] at hc4
  have HC4 := Lib.hid hc4
  have H4 := Lib.hid h4
  have HK4 := Lib.hid hk4
  have HE1 := Lib.hid hev1
  have HR1 := Lib.hid hrec1
  have HU4 := Lib.hid (late_all HU3.out hu4 HLT.out)
  clear h4 hk4 ho4 hc4 hu4 hf1 hev1 hrec1
  rw [show addV (some (0, 0 * 47)) (46 + [(7 : UInt8)].length) = .tuple #[.agg #[.int .i64 0, .int .i64 0, .int .i64 47], .int .i64 0] from rfl]
  obtain ⟨w5, hw5⟩ : ∃ w5, w5 = w4.alloc (.cells #[.int .i64 0, .int .i64 0, .int .i64 47] 30) := ⟨_, rfl⟩
  obtain ⟨pb, hpb⟩ : ∃ pb, pb = w4.heap.size := ⟨_, rfl⟩
  have HW5 := Lib.hid hw5
  have HPB := Lib.hid hpb
  have HU5 : Hid (Upd [] w4 w5) := Lib.hid (by rw [hw5]; exact (Upd.refl _ _).alloc _)
  have HB5 : Hid (w5.heap[pb]? = some (.cells #[.int .i64 0, .int .i64 0, .int .i64 47] 30 (0, 0))) := Lib.hid (by rw [hw5, hpb]; exact blk_alloc _)
  clear hw5 hpb
  go_upto_region 5 with (fail)
  have hw5 := HW5.out
  have hpb := HPB.out
  rw [← hw5, ← hpb]
  clear hw5 hpb
  go_wp2_with fail
  refine (HK2.out _).mono ?_
  rintro e w6 ⟨rfl, hu6⟩
  obtain ⟨w7, hw7⟩ : ∃ w7, w7 = w6.alloc (.cells #[.int .u8 8] 5) := ⟨_, rfl⟩
  have hu7 : Upd [] w6 w7 := by rw [hw7]; exact (Upd.refl _ _).alloc _
  have hr7 : Rd w7 (.slice (some ⟨w6.heap.size, 0, none⟩) 1 1) [8] := rd_one (y := 8) (by omega) (by rw [hw7]; exact blk_alloc _)
  have hu57 := HU5.out.trans (hu6.trans hu7)
  have h7 := H4.out.below hu57
  have had := add_pk h7 HK4.out (by rw [HGH.out]; omega) (by rw [HGH.out]; omega) (by have := HC4.out; omega) ky2 [8] _ hr7 HK2L.out (by simp)
  have HAD2 := Lib.hid had
  have HU7 := Lib.hid (HU4.out.trans hu57)
  have HW7 := Lib.hid hw7
  have HB7 := Lib.hid (((hu6.trans hu7).block _ (blk_lt HB5.out) (by simp)).trans HB5.out)
  clear hw7 hu6 hu7 hr7 hu57 h7 had
  go_wp2_with fail
  rw [← HW7.out]
  refine HAD2.out.mono ?_
  rintro e w8 ⟨M2, K2, o2, rfl, h8, hk8, ho8, hc8, hu8⟩
  have hf2 : (frameB ky2 [8]).length = 47 := by rw [frameB_length HK2L.out]; rfl
  obtain ⟨rfl, hev2⟩ := HE1.out.add hf2 (by omega) (by omega) (by omega) (by rw [HGH.out]; omega) ho8
  have hrec2 := (HR1.out.add HK2L.out (by simp) ho8).1
  obtain ⟨_, _, p, hp, hpl, hpd⟩ := hrec2.rec_ ⟨0, 1 * 47, ky2, [8]⟩ (List.mem_cons_self ..)
  have hpl' : 47 + 47 ≤ p.data.length := hpl
  have hpd' : (p.data.drop 47).take 47 = frameB ky2 [8] := hpd
  have hge := fun (w' : World) (h' : SpAt w' g M2) => get_pk h' hk8 (by rw [HGH.out]; omega) (by rw [HGH.out]; omega) hp 47 47 ky2 [8] HK2L.out (by simp) (by simp) hpl' hpd'
  have HGE : Hid (∀ w', SpAt w' g M2 → Calls Tryz.prog 32 #[.pointer (some ⟨g.x.tb, 0, none⟩), .agg #[.int .i64 0, .int .i64 47, .int .i64 47], .agg (bts ky2).toArray] w' fun e w'' => ∃ x, e = .returned (.tuple #[x, .int .i64 0]) ∧ BRow w'' w'.heap.size x [8] ∧ SpAt w'' g M2 ∧ Upd [g.j.jb] w' w'') := Lib.hid hge
  have hlt8 := h8.lt
  have H8 := Lib.hid h8
  have hb8 := (hu8.block _ (blk_lt HB7.out) (fun q => by have h1 := h8.lt.1 _ q; have := HLT.out _ q; have h2 := H4.out.lt.1 pb q; have := HPB.out; omega)).trans HB7.out
  have HB8 := Lib.hid hb8
  have HU8 := Lib.hid (late_all HU7.out hu8 HLT.out)
  clear hk8 ho8 hc8 hu8 hf2 hev2 hrec2 hp hpl hpd hpl' hpd' hge h8 hb8
  rw [show addV (some (0, 1 * 47)) (46 + [(8 : UInt8)].length) = .tuple #[.agg #[.int .i64 0, .int .i64 47, .int .i64 47], .int .i64 0] from rfl]
  obtain ⟨w9, hw9⟩ : ∃ w9, w9 = w8.alloc (.cells #[.int .i64 0, .int .i64 47, .int .i64 47] 30) := ⟨_, rfl⟩
  obtain ⟨qb, hqb⟩ : ∃ qb, qb = w8.heap.size := ⟨_, rfl⟩
  have hu9 : Upd [] w8 w9 := by rw [hw9]; exact (Upd.refl _ _).alloc _
  have hq9 : w9.heap[qb]? = some (.cells #[.int .i64 0, .int .i64 47, .int .i64 47] 30 (0, 0)) := by rw [hw9, hqb]; exact blk_alloc _
  have H9 := Lib.hid (H8.out.below hu9)
  have HQ9 := Lib.hid hq9
  have HB9 := Lib.hid ((hu9.block _ (blk_lt HB8.out) (by simp)).trans HB8.out)
  have HU9 := Lib.hid (HU8.out.trans hu9)
  have HLT9 : Hid (∀ k, k ∈ [g.j.jb] → k < qb ∧ k ≠ pb) := Lib.hid (fun k hk => ⟨by have := hlt8.1 k (g.mem k hk); omega, fun e => by have := H4.out.lt.1 k (g.mem k hk); have := HPB.out; omega⟩)
  have HW9 := Lib.hid hw9
  have HQB := Lib.hid hqb
  clear hw9 hqb hu9 hq9 hlt8
  go_upto_region 6 with (fail)
  have hw9 := HW9.out
  have hqb := HQB.out
  rw [← hw9, ← hqb]
  clear hw9 hqb
  have c0 : w9.cell? ⟨qb, 0, none⟩ = some (.int .i64 0) := by rw [blk_cell HQ9.out]; rfl
  have c1 : w9.cell? ⟨qb, 1, none⟩ = some (.int .i64 47) := by rw [blk_cell HQ9.out]; rfl
  have c2 : w9.cell? ⟨qb, 2, none⟩ = some (.int .i64 47) := by rw [blk_cell HQ9.out]; rfl
  go_region_law (first
    | (go_simp; go_at_call 17; (with_reducible refine (HK2.out _).mono ?_); rintro e wa ⟨rfl, hua⟩; have d0 := cell_updP c0 ((Upd.refl [] w9).drew.trans hua) (by simp); have d1 := cell_updP c1 ((Upd.refl [] w9).drew.trans hua) (by simp); have d2 := cell_updP c2 ((Upd.refl [] w9).drew.trans hua) (by simp); dsimp only)
    | (go_simp; go_at_call 32; (with_reducible refine (HGE.out _ (H9.out.below ((Upd.refl [] w9).drew.trans hua))).mono ?_); rintro e wb ⟨x, rfl, hrow, hb, hub⟩; dsimp only))
  all_goals
    have hux : Upd [g.j.jb] w9 wb := (((Upd.refl [] w9).drew.trans hua).mono (by simp)).trans hub
    have b1 := (hux.block _ (blk_lt HB9.out) (by simp; intro e; exact (HLT9.out g.j.jb (by simp)).2 e.symm)).trans HB9.out
    have b2 := (hux.block _ (blk_lt HQ9.out) (by simp; intro e; have := (HLT9.out g.j.jb (by simp)).1; omega)).trans HQ9.out
    have k0 : wb.cell? ⟨pb, 0, none⟩ = some (.int .i64 0) := by rw [blk_cell b1]; rfl
    have k1 : wb.cell? ⟨pb, 1, none⟩ = some (.int .i64 0) := by rw [blk_cell b1]; rfl
    have k2 : wb.cell? ⟨pb, 2, none⟩ = some (.int .i64 47) := by rw [blk_cell b1]; rfl
    have l0 : wb.cell? ⟨qb, 0, none⟩ = some (.int .i64 0) := by rw [blk_cell b2]; rfl
    have l1 : wb.cell? ⟨qb, 1, none⟩ = some (.int .i64 47) := by rw [blk_cell b2]; rfl
    have l2 : wb.cell? ⟨qb, 2, none⟩ = some (.int .i64 47) := by rw [blk_cell b2]; rfl
    have hcv := run_str hrow.rd (by simp)
    rw [show str [8] = ⟨#[8]⟩ from rfl] at hcv
    obtain ⟨xa, xc, rfl, _⟩ := hrow.shape
    replace hcv : (convert 37 9 (.slice xa 1 xc)).run Tryz.prog wb = .ok (.string ⟨#[8]⟩) wb := hcv
    have q1 : ∀ w' : World, (Op.equalIn 10000 30 (.agg #[.int .i64 0, .int .i64 0, .int .i64 47]) (.agg #[.int .i64 0, .int .i64 0, .int .i64 47])).run Tryz.prog w' = .ok true w' := fun _ => by kernel_rfl
    have q2 : ∀ w' : World, (Op.equalIn 10000 30 (.agg #[.int .i64 0, .int .i64 47, .int .i64 47]) (.agg #[.int .i64 0, .int .i64 47, .int .i64 47])).run Tryz.prog w' = .ok true w' := fun _ => by kernel_rfl
    have HUF := Lib.hid (late_all HU9.out hux (fun k hk => HLT.out k (g.mem k hk)))
    clear hux b1 b2 hrow hub hua c0 c1 c2 d0 d1 d2
    go_wp2_with fail
    go_ret
    exact ⟨rfl, HUF.out⟩
end Go.Proofs.YtceakcejchbbjaaGreat
end
