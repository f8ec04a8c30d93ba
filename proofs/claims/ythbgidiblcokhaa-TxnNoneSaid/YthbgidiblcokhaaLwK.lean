/-
  JournalTwice answers true: the walk.
-/
import Derived.Test.YthbgidiblcokhaaLwJ
namespace Go.Proofs.Ythbgidiblcokhaa
open Go.RowKit

theorem JnAt.other {w w' : World} {j : JG} {J : Jn} {D : Dk} (h : JnAt w AnyF j J D) {b : Nat} {c : Array Value} {fr : Nat × Nat} (hb : w.heap[b]? = some (.cells c 51 fr)) (hne : j.jb ≠ b) (hu : Upd [b] w w') : JnAt w' AnyF j J D := by
  obtain ⟨⟨fv, a1, _⟩, ⟨lv, b1, _⟩, ⟨f, hf, _⟩, _⟩ := h.disk
  obtain ⟨f2, hf2, _⟩ := h.away
  refine h.world (hu.block _ h.lt.1 (by simpa using hne)) (hu.block _ h.lt.2 ?_) (hu.block _ h.disk.lt.1 ?_) (hu.block _ h.disk.lt.2.1 ?_) (hu.block _ h.disk.lt.2.2 ?_) (fun k c' _ e => hu.block _ (blk_lt e) ?_)
  · simp; exact fun q => hf2.not_cells hb q.symm
  · simp; rintro rfl; rw [a1] at hb; simp at hb
  · simp; rintro rfl; rw [b1] at hb; simp at hb
  · simp; exact fun q => hf.not_cells hb q.symm
  · simp; rintro rfl; rw [e] at hb; simp at hb
theorem JrAt.other {w w' : World} {j : JG} {J : Jn} {D : Dk} {n ring : Nat} {t m : Int} {H : Nat → Sec} (h : JrAt w j J D n ring t m H) {b : Nat} {c : Array Value} {fr : Nat × Nat} (hb : w.heap[b]? = some (.cells c 51 fr)) (hne : j.jb ≠ b) (hu : Upd [b] w w') : JrAt w' j J D n ring t m H := h.of (h.at_.other hb hne hu)
/-- A handle of an elder life answers ErrDead. -/
theorem read_dead {w : World} {j : JG} {J : Jn} {D : Dk} (h : JnAt w AnyF j J D) (hl : D.lives ≠ J.lives) (i : Int) :
    Calls Try.prog 26 #[.pointer (some ⟨j.jb, 0, none⟩), .int .i64 i] w fun e w' => ∃ a n c, e = .returned (.tuple #[.slice a n c, .int .i64 8]) ∧ Upd [j.jb] w w' := by
  refine (readJ_spec h i).mono ?_
  rintro e w' ⟨v, e1, e2, e3, e4⟩
  have hm : J.may D = 8 := by unfold Jn.may; rw [if_pos (.inr hl)]
  have hr : J.read D i = ([], 8, J.done) := by unfold Jn.read; rw [if_pos (by rw [hm]; decide)]
  rw [hr] at e1 e2
  obtain ⟨a, n, c, rfl⟩ := e2.shape
  exact ⟨a, n, c, e1, e4⟩
theorem comdead_hi {w : World} {j : JG} {J : Jn} {D : Dk} (h : JnAt w AnyF j J D) (hl : D.lives ≠ J.lives) (v : Value) :
    Calls Try.prog 22 #[.pointer (some ⟨j.jb, 0, none⟩), v] w fun e w' => e = .returned (.int .i64 8) ∧ Upd j.all w w' := by
  have hm : J.may D = 8 := by unfold Jn.may; rw [if_pos (.inr hl)]
  refine (com_dead h v [] (by rw [hm]; decide)).mono ?_
  rintro e w' ⟨e1, e2, e3⟩
  have hr : J.comD D [] = (D, 8) := by unfold Jn.comD; rw [if_pos (by rw [hm]; decide)]
  rw [hr] at e1
  exact ⟨e1, e3⟩
theorem PzzIn.shape {w : World} {v : Value} {l : List (List Pz)} (h : PzzIn w v l) : ∃ a c, v = .slice a l.length c := by
  obtain ⟨ao, cap, e, _⟩ := h
  exact ⟨ao, cap, e⟩
theorem PzzIn.row {w : World} {a : Option Addr} {n c : Nat} {l : List (List Pz)} (h : PzzIn w (.slice a n c) l) (i : Nat) (hi : i < l.length) : ∃ b off vb, a = some ⟨b, off, none⟩ ∧ w.cell? ⟨b, off + i, none⟩ = some vb ∧ PzIn w vb l[i] := by
  obtain ⟨ao, cap, e, _, hh⟩ := h
  obtain ⟨b, off, hab, hc⟩ := hh (by omega)
  obtain ⟨vb, c0, hr⟩ := hc i hi
  cases e
  exact ⟨b, off, vb, hab, c0, hr⟩
theorem RdL.lateS {w w' : World} {v : Value} {cs : List Value} {S : List Nat} (h : RdL w [] v cs) (hu : Upd [] w w') (hS : ∀ k, k ∈ S → w.heap.size ≤ k) : RdL w' S v cs := by
  obtain ⟨ao, cap, e, hc, hh⟩ := h
  refine ⟨ao, cap, e, hc, fun hp => ?_⟩
  obtain ⟨b, off, _, hab, hcell⟩ := hh hp
  have hb : b < w.heap.size := block_lt_of_cell (hcell 0 hp)
  refine ⟨b, off, fun q => by have := hS b q; omega, hab, fun i hi => ?_⟩
  rw [World.cell?_of_block (w := w) (hu.block _ hb (by simp))]; exact hcell i hi
theorem StrsB.jn {w w' : World} {B : Nat} {v : Value} {ss : List (List UInt8)} (h : StrsB w B v ss) {S : List Nat} (hu : Upd S w w') {j : JG} {J : Jn} {D : Dk} (hj : JnAt w AnyF j J D) (hS : ∀ k, k ∈ S → k ∈ j.all) : StrsB w' B v ss :=
  h.upd hu fun k c hk e => hj.kind e (by decide) (by decide) (by decide) (hS k hk)
theorem JG.mem_d (j : JG) : ∀ k, k ∈ [j.d.db, j.d.lb, j.d.mb] → k ∈ j.all := by
  intro k hk; simp [JG.all] at hk ⊢; rcases hk with h | h | h <;> simp [h]
theorem JG.mem_b (j : JG) : ∀ k, k ∈ [j.jb] → k ∈ j.all := by intro k hk; simp [JG.all] at hk ⊢; simp [hk]
theorem StrsB.jnD {w w' : World} {B : Nat} {v : Value} {ss : List (List UInt8)} (h : StrsB w B v ss) {j : JG} {J : Jn} {D : Dk} (hj : JnAt w AnyF j J D) (hu : Upd [j.d.db, j.d.lb, j.d.mb] w w') : StrsB w' B v ss := h.jn hu hj j.mem_d
theorem StrsB.jnB {w w' : World} {B : Nat} {v : Value} {ss : List (List UInt8)} (h : StrsB w B v ss) {j : JG} {J : Jn} {D : Dk} (hj : JnAt w AnyF j J D) (hu : Upd [j.jb] w w') : StrsB w' B v ss := h.jn hu hj j.mem_b
theorem run_build_op (a : Option Addr) (n c : Nat) (w : World) : (Instr.build 60 #[(3, .slice a n c)]).run Try.prog w = .ok (.agg #[.int .i64 0, .int .i64 0, .int .i64 0, .slice a n c, .slice none 0 0, .slice none 0 0]) w := by kernel_rfl

set_option maxRecDepth 100000 in
set_option maxHeartbeats 4000000 in
theorem twice6_spec (a0 : Int) {v u : Value} {ls : List (List Pz)} {keep : List Bool} (w : World) (hv : PzzIn w v ls) (hk : RdL w [] u (keep.map Value.bool)) : Calls Try.prog 5 #[.int .i64 a0, v, u] w fun e w' => e = .returned (.bool true) ∧ Upd [] w w' := by
  obtain ⟨av, cv, rfl⟩ := hv.shape
  obtain ⟨au, cu, rfl, _⟩ := hk.shape
  have HV := Lib.hid hv
  have HK := Lib.hid hk
  clear hv hk
  rw [List.length_map] at HK ⊢
  by_cases h12 : 12 < ls.length
  · have d12 : decide (12 < (ls.length : Int)) = true := by simp; omega
    go_enter Try.func5, Try.ntmps5
    go_wp2_with fail
    refine (begun6_spec w).mono ?_
    rintro e w1 ⟨rfl, hu1⟩
    have HU1 := Lib.hid hu1
    clear hu1
    go_wp2_with fail
    go_ret
    exact ⟨rfl, HU1.out⟩
  have d12 : decide (12 < (ls.length : Int)) = false := by simp; omega
  by_cases h200 : 200 < keep.length
  · have d200 : decide (200 < (keep.length : Int)) = true := by simp; omega
    go_enter Try.func5, Try.ntmps5
    go_wp2_with fail
    refine (begun6_spec w).mono ?_
    rintro e w1 ⟨rfl, hu1⟩
    have HU1 := Lib.hid hu1
    clear hu1
    go_wp2_with fail
    go_ret
    exact ⟨rfl, HU1.out⟩
  have d200 : decide (200 < (keep.length : Int)) = false := by simp; omega
  have hbo := run_build_op
  have hR := placeN_lt (k := a0) (n := 30) (by omega)
  have HPR := fun w => Lib.hid (place_spec a0 30 w (by omega) (by omega))
  generalize placeN a0 30 = pR at *
  go_enter Try.func5, Try.ntmps5
  go_wp2_with fail
  refine (begun6_spec w).mono ?_
  rintro e w1 ⟨rfl, hu1⟩
  have HU1 := Lib.hid hu1
  clear hu1
  go_wp2_with fail
  refine (new_hi 80 (by omega) (by omega) _).mono ?_
  rintro e w2 ⟨g, rfl, hd2, hg1, hg2, hg3, hu2⟩
  have HG : Hid (g.Late w) := ⟨Nat.le_trans HU1.out.size hg1, Nat.le_trans HU1.out.size hg2, Nat.le_trans HU1.out.size hg3⟩
  have HU2 := Lib.hid (HU1.out.trans hu2)
  have HF2 := Lib.hid (new_fmt_hiI hd2 (by omega) (by omega) (8 + (pR : Int)) (8 + pR) (by omega) (by omega) (by omega) (by omega))
  clear hd2 hg1 hg2 hg3 hu2
  go_wp2_with fail
  refine (HPR _).out.mono ?_
  rintro e w' ⟨rfl, rfl⟩
  go_wp2_with fail
  refine HF2.out.mono ?_
  rintro e w3 ⟨rfl, hd3, hu3⟩
  have HU3 := Lib.hid (HU2.out.lateD hu3 HG.out)
  have HO3 := Lib.hid (open_hi hd3 (by omega) (by omega))
  clear hd3 hu3
  go_wp2_with fail
  refine HO3.out.mono ?_
  rintro e w4 ⟨jb, ab, rfl, hj1, hj2, ⟨J0, D0, hr4, _⟩, hu4⟩
  have HJ : Hid (JG.Late ⟨jb, ab, g⟩ w) := ⟨Nat.le_trans HU3.out.size hj1, Nat.le_trans HU3.out.size hj2, HG.out⟩
  have HU4 := Lib.hid (HU3.out.lateD hu4 HG.out)
  have HR4 := Lib.hid hr4
  clear hj1 hj2 hr4 hu4
  go_wp2_with fail
  go_loopw [10] (fun i wr => ∃ (k : Nat) (J : Jn) (D : Dk) (t : Int) (H : Nat → Sec), k ≤ ls.length ∧ i = .int .i64 (k : Int) ∧ JrAt wr ⟨jb, ab, g⟩ J D 80 (8 + pR) t (2 + (k : Int)) H ∧ t ≤ 1 + (k : Int) ∧ (∀ i, (H i).length = 512) ∧ Upd [] w wr) (fun i _ => ls.length - (intOf i).toNat)
  case atStart => exact ⟨0, J0, D0, 1, _, Nat.zero_le _, rfl, HR4.out, by simp, fun _ => zsec_length, HU4.out⟩
  case round =>
    obtain ⟨k, J, D, t, H, hk, rfl, hr, ht, hH, hu⟩ := hrel
    by_cases hlt : k < ls.length
    · have hlt' : decide ((k : Int) < (ls.length : Int)) = true := by simpa using hlt
      obtain ⟨b, off, vb, rfl, c0, hpz⟩ := (HV.out.below hu).row k hlt
      obtain ⟨ab', cb', rfl⟩ := hpz.shape
      have i0 : (0 : Int) ≤ (k : Int) := by omega
      have i1 : (k : Int) < (ls.length : Int) := by omega
      have HLI := Lib.hid (light_spec _ _ wr hpz)
      have HPZ := Lib.hid hpz
      have HU := Lib.hid hu
      have HR := Lib.hid hr
      have HH := Lib.hid hH
      clear hpz hu hr hH
      obtain ⟨lk, hlk⟩ : ∃ lk, lk = ls[k] := ⟨_, rfl⟩
      rw [← hlk] at HLI HPZ c0
      clear hlk
      go_wp2_with fail
      refine HLI.out.mono ?_
      rintro e w5 ⟨rfl, hu5⟩
      have HU5 := Lib.hid hu5
      have c1 : w5.cell? ⟨b, off + k, none⟩ = some (.slice ab' lk.length cb') := by rw [World.cell?_of_block (w := wr) (hu5.block _ (block_lt_of_cell c0) (by simp))]; exact c0
      clear hu5
      by_cases hli : lightB lk = true
      · obtain ⟨l60, l600⟩ := lightB_yes hli
        have HLS := Lib.hid (list_spec _ _ w5 (HPZ.out.below HU5.out) (by omega) (fun p hp => by have := l600 p hp; omega))
        have L60 := Lib.hid l60
        rw [hli]
        clear hli l60 l600
        go_wp2_with fail
        refine HLS.out.mono ?_
        rintro e w6 ⟨a6, n6, c6, rfl, hp6, hu6⟩
        have HC := Lib.hid (com_any ((HR.out.below HU5.out).below hu6) _ _ hp6.own.at (by rw [List.length_map]; have := L60.out; omega) (by omega) (by omega) HH.out)
        have HU6 := Lib.hid ((HU.out.trans HU5.out).trans hu6)
        clear hp6 hu6
        go_wp2_with fail
        refine HC.out.mono ?_
        rintro e w7 ⟨⟨x7, rfl⟩, ⟨J7, D7, t7, H7, hr7, ht7, hH7⟩, hu7⟩
        have HU7 := Lib.hid (HU6.out.lateJ hu7 HJ.out)
        have HR7 : Hid (JrAt w7 ⟨jb, ab, g⟩ J7 D7 80 (8 + pR) t7 (2 + ((k + 1 : Nat) : Int)) H7) := hr7.le (by omega)
        have HT7 : Hid (t7 ≤ 1 + ((k + 1 : Nat) : Int)) := by show t7 ≤ _; omega
        have HH7 := Lib.hid hH7
        clear hr7 hu7 ht7 hH7
        go_wp2_with fail
        exact ⟨⟨k + 1, J7, D7, t7, H7, by omega, by go_num, HR7.out, HT7.out, HH7.out, HU7.out⟩, by simp [intOf]; omega⟩
      · have hli' : lightB lk = false := by simpa using hli
        rw [hli']
        clear hli hli'
        go_wp2_with fail
        go_ret
        exact ⟨rfl, HU.out.trans HU5.out⟩
    · obtain rfl : k = ls.length := by omega
      have hlt' : decide ((ls.length : Int) < (ls.length : Int)) = false := by simp
      have ht2 : t < 1000 := by omega
      have HU := Lib.hid hu
      have HR := Lib.hid hr
      have HH := Lib.hid hH
      clear hu hr hH
      have HHO := Lib.hid (homesL_spec HR.out (by omega) HH.out)
      go_wp2_with fail
      refine HHO.out.mono ?_
      rintro e w5 ⟨a5, c5, rfl, hs5, hr5, hu5⟩
      have HU5 := Lib.hid (HU.out.lateR hu5 HJ.out)
      have HT5 := Lib.hid (turn_hi hr5)
      have HO5 := Lib.hid (open_hi2 hr5.ds (by omega) (by omega))
      have HR5 := Lib.hid hr5
      have HS5 := Lib.hid hs5
      clear hs5 hr5 hu5
      go_wp2_with fail
      refine HT5.out.mono ?_
      rintro e w' ⟨rfl, rfl⟩
      go_wp2_with fail
      refine HO5.out.mono ?_
      rintro e w6 ⟨jbA, abA, rfl, hA1, hA2, ⟨JA, DA, hrA, hlA, hhA⟩, hu6⟩
      have HJA : Hid (JG.Late ⟨jbA, abA, g⟩ w) := ⟨Nat.le_trans HU5.out.size hA1, Nat.le_trans HU5.out.size hA2, HG.out⟩
      have hneA : jb < jbA := Nat.lt_of_lt_of_le HR5.out.at_.lt.1 hA1
      have HNA := Lib.hid hneA
      have HU6 := Lib.hid (HU5.out.lateD hu6 HG.out)
      have HS6 := Lib.hid (HS5.out.jnD HR5.out.at_ hu6)
      have HRA := Lib.hid hrA
      have HJ6 := Lib.hid (HR5.out.rj.step hrA.at_.disk hu6 hrA.n hlA hrA.live.held.calm.off hhA)
      have HO6 := Lib.hid (open_hi2 hrA.ds (by omega) (by omega))
      clear hA1 hA2 hrA hlA hhA hu6 hneA
      go_wp2_with fail
      refine HO6.out.mono ?_
      rintro e w7 ⟨jbB, abB, rfl, hB1, hB2, ⟨JB, DB, hrB, hlB, hhB⟩, hu7⟩
      have HJB : Hid (JG.Late ⟨jbB, abB, g⟩ w) := ⟨Nat.le_trans HU6.out.size hB1, Nat.le_trans HU6.out.size hB2, HG.out⟩
      have HNB : Hid (jbA < jbB) := Nat.lt_of_lt_of_le HRA.out.at_.lt.1 hB1
      have HU7 := Lib.hid (HU6.out.lateD hu7 HG.out)
      have HS7 := Lib.hid (HS6.out.jnD HRA.out.at_ hu7)
      have HRB := Lib.hid hrB
      have HJ7 := Lib.hid (HJ6.out.step hrB.at_.disk hu7 hrB.n hlB hrB.live.held.calm.off hhB)
      have HA7 := Lib.hid (HRA.out.rj.step hrB.at_.disk hu7 hrB.n hlB hrB.live.held.calm.off hhB)
      have HHA := Lib.hid (homesL_rj HA7.out (by omega) HH.out)
      clear hB1 hB2 hrB hlB hhB hu7
      go_wp2_with fail
      refine HHA.out.mono ?_
      rintro e w8 ⟨a8, c8, rfl, hs8, hr8, hu8⟩
      have hst := HA7.out.at_.st
      have HU8 := Lib.hid (HU7.out.lateR hu8 HJA.out)
      have HS8 := Lib.hid (HS7.out.jnB HA7.out.at_ hu8)
      have HJ8 := Lib.hid (HJ7.out.other hst (by show jb ≠ jbA; have := HNA.out; omega) hu8)
      have HB8 := Lib.hid (HRB.out.other hst (by show jbB ≠ jbA; have := HNB.out; omega) hu8)
      have HAL8 := Lib.hid (alike_yes hs8.rd HS8.out.rd (by rw [hl_length]; omega))
      have HA8 := Lib.hid hr8
      clear hs8 hr8 hu8 hst
      go_wp2_with fail
      refine HAL8.out.mono ?_
      rintro e w9 ⟨rfl, q9, hq9⟩
      have HD9 : Hid (Upd [] w8 w9) := by show Upd _ _ _; rw [hq9]; exact (Upd.refl _ _).drewN _
      clear hq9
      have HHB := Lib.hid (homesL_spec (HB8.out.below HD9.out) (by omega) HH.out)
      go_wp2_with fail
      refine HHB.out.mono ?_
      rintro e w10 ⟨a10, c10, rfl, hs10, hr10, hu10⟩
      have hst := (HB8.out.below HD9.out).at_.st
      have HU10 := Lib.hid ((HU8.out.trans HD9.out).lateR hu10 HJB.out)
      have HS10 := Lib.hid ((HS8.out.upd HD9.out (by simp)).jnB (HB8.out.below HD9.out).at_ hu10)
      have HJ10 := Lib.hid ((HJ8.out.below HD9.out).other hst (by show jb ≠ jbB; have := HNA.out; have := HNB.out; omega) hu10)
      have HA10 := Lib.hid ((HA8.out.below HD9.out).other hst (by show jbA ≠ jbB; have := HNB.out; omega) hu10)
      have HB10 := Lib.hid hr10
      have HAL10 := Lib.hid (alike_yes hs10.rd HS10.out.rd (by rw [hl_length]; omega))
      clear hs10 hr10 hu10 hst
      go_wp2_with fail
      refine HAL10.out.mono ?_
      rintro e w11 ⟨rfl, q11, hq11⟩
      have HD11 : Hid (Upd [] w10 w11) := by show Upd _ _ _; rw [hq11]; exact (Upd.refl _ _).drewN _
      clear hq11
      have HTA := Lib.hid (turn_rj (HA10.out.below HD11.out))
      have HTB := Lib.hid (turn_hi (HB10.out.below HD11.out))
      have htt : ((t - 1) != (t - 1)) = false := by simp
      go_wp2_with fail
      refine HTA.out.mono ?_
      rintro e w' ⟨rfl, rfl⟩
      go_wp2_with fail
      refine HTB.out.mono ?_
      rintro e w' ⟨rfl, rfl⟩
      have HHJ := Lib.hid (homesL_rj (HJ10.out.below HD11.out) (by omega) HH.out)
      go_wp2_with fail
      refine HHJ.out.mono ?_
      rintro e w12 ⟨a12, c12, rfl, hs12, hr12, hu12⟩
      have hst := (HJ10.out.below HD11.out).at_.st
      have HU12 := Lib.hid ((HU10.out.trans HD11.out).lateR hu12 HJ.out)
      have HS12 := Lib.hid ((HS10.out.upd HD11.out (by simp)).jnB (HJ10.out.below HD11.out).at_ hu12)
      have HB12 := Lib.hid ((HB10.out.below HD11.out).other hst (by show jbB ≠ jb; have := HNA.out; have := HNB.out; omega) hu12)
      have HJ12 := Lib.hid hr12
      have HAL12 := Lib.hid (alike_yes hs12.rd HS12.out.rd (by rw [hl_length]; omega))
      clear hs12 hr12 hu12 hst
      go_wp2_with fail
      refine HAL12.out.mono ?_
      rintro e w13 ⟨rfl, q13, hq13⟩
      have HD13 : Hid (Upd [] w12 w13) := by show Upd _ _ _; rw [hq13]; exact (Upd.refl _ _).drewN _
      clear hq13
      have HU13 := Lib.hid (HU12.out.trans HD13.out)
      have HB13 := Lib.hid (HB12.out.below HD13.out)
      have HJ13 := Lib.hid (HJ12.out.below HD13.out)
      have HS13 := Lib.hid (HS12.out.upd HD13.out (by simp))
      have HPW := Lib.hid (power_hi HB13.out _ keep (HK.out.lateS HU13.out (fun q hq => by have := HG.out; simp at hq; rcases hq with rfl | rfl | rfl; exact this.1; exact this.2.1; exact this.2.2)))
      go_wp2_with fail
      refine HPW.out.mono ?_
      rintro e w14 ⟨rfl, hd14, hu14⟩
      have HU14 := Lib.hid (HU13.out.lateD hu14 HG.out)
      have HB14 := Lib.hid (HB13.out.at_.step hd14.disk hu14 (fun _ q => q) (by rw [hd14.n, HB13.out.n]))
      have HJ14 := Lib.hid (HJ13.out.at_.step hd14.disk hu14 (fun _ q => q) (by rw [hd14.n, HJ13.out.n]))
      have HS14 := Lib.hid (HS13.out.jnD HB13.out.at_ hu14)
      have HO14 := Lib.hid (open_hi2 hd14 (by omega) (by omega))
      have HN14 := Lib.hid hd14.n
      clear hd14 hu14
      go_wp2_with fail
      refine HO14.out.mono ?_
      rintro e w15 ⟨jbC, abC, rfl, hC1, hC2, ⟨JC, DC, hrC, hlC, _⟩, hu15⟩
      have HJC : Hid (JG.Late ⟨jbC, abC, g⟩ w) := ⟨Nat.le_trans HU14.out.size hC1, Nat.le_trans HU14.out.size hC2, HG.out⟩
      have HNC : Hid (jbB < jbC) := Nat.lt_of_lt_of_le HB14.out.lt.1 hC1
      have HU15 := Lib.hid (HU14.out.lateD hu15 HG.out)
      have HB15 := Lib.hid (HB14.out.step hrC.at_.disk hu15 (fun _ q => q) (by rw [hrC.n, HN14.out]))
      have HJ15 := Lib.hid (HJ14.out.step hrC.at_.disk hu15 (fun _ q => q) (by rw [hrC.n, HN14.out]))
      have HS15 := Lib.hid (HS14.out.jnD HB14.out hu15)
      have hpl : (DB.power keep).lives = wrap64 (DB.lives + 1) := rfl
      have HLB : Hid (DC.lives ≠ JB.lives) := by
        show _ ≠ _
        rw [hlC, hpl, HB13.out.live.held.lives]; exact wrap_ne _
      have HLJ : Hid (DC.lives ≠ J.lives) := by
        show _ ≠ _
        rw [hlC, hpl, HJ13.out.lives]; exact wrap_ne _
      have HRC := Lib.hid hrC
      have HRD := Lib.hid (read_dead HB15.out HLB.out 0)
      clear hC1 hC2 hrC hlC hu15 hpl
      go_wp2_with fail
      refine HRD.out.mono ?_
      rintro e w16 ⟨a16, n16, c16, rfl, hu16⟩
      have hst := HB15.out.st
      have HU16 := Lib.hid (HU15.out.lateR hu16 HJB.out)
      have HS16 := Lib.hid (HS15.out.jnB HB15.out hu16)
      have HRC16 := Lib.hid (HRC.out.other hst (by show jbC ≠ jbB; have := HNC.out; omega) hu16)
      have HJ16 := Lib.hid (HJ15.out.other hst (by show jb ≠ jbB; have := HNA.out; have := HNB.out; omega) hu16)
      have HHC := Lib.hid (homesL_spec HRC16.out (by omega) HH.out)
      clear hu16 hst
      go_wp2_with fail
      refine HHC.out.mono ?_
      rintro e w17 ⟨a17, c17, rfl, hs17, hr17, hu17⟩
      have hst := HRC16.out.at_.st
      have HU17 := Lib.hid (HU16.out.lateR hu17 HJC.out)
      have HS17 := Lib.hid (HS16.out.jnB HRC16.out.at_ hu17)
      have HJ17 := Lib.hid (HJ16.out.other hst (by show jb ≠ jbC; have := HNA.out; have := HNB.out; have := HNC.out; omega) hu17)
      have HC17 := Lib.hid hr17
      have HAL17 := Lib.hid (alike_yes hs17.rd HS17.out.rd (by rw [hl_length]; omega))
      clear hs17 hr17 hu17 hst
      go_wp2_with fail
      refine HAL17.out.mono ?_
      rintro e w18 ⟨rfl, q18, hq18⟩
      have HD18 : Hid (Upd [] w17 w18) := by show Upd _ _ _; rw [hq18]; exact (Upd.refl _ _).drewN _
      clear hq18
      have HTC := Lib.hid (turn_hi (HC17.out.below HD18.out))
      have HCD := Lib.hid (comdead_hi (HJ17.out.below HD18.out) HLJ.out (.slice none 0 0))
      have htt2 : ((t - 1) == (t - 1)) = true := by simp
      go_wp2_with fail
      refine HTC.out.mono ?_
      rintro e w' ⟨rfl, rfl⟩
      go_wp2_with fail
      refine HCD.out.mono ?_
      rintro e w19 ⟨rfl, hu19⟩
      have HU19 := Lib.hid ((HU17.out.trans HD18.out).lateJ hu19 HJ.out)
      clear hu19
      go_wp2_with fail
      go_ret
      exact ⟨rfl, HU19.out⟩

end Go.Proofs.Ythbgidiblcokhaa
