/-
  light; a commit of any list; a handle of a journal that others opened anew.
-/
import Derived.Test.YthbgidiblcokhaaLwI
import Derived.Test.YthbgidiblcokhaaOpn
namespace Go.Proofs.Ythbgidiblcokhaa
open Go.RowKit

theorem JrAt.le {w : World} {j : JG} {J : Jn} {D : Dk} {n ring : Nat} {t m m' : Int} {H : Nat → Sec} (h : JrAt w j J D n ring t m H) (hm : m ≤ m') : JrAt w j J D n ring t m' H :=
  ⟨h.at_, h.live, h.arm, h.n, h.ring, h.turn, Int.le_trans h.num hm, h.home⟩
/-- A commit of any list (the power stays). -/
theorem com_any {w : World} {j : JG} {J : Jn} {D : Dk} {n ring : Nat} {t m : Int} {H : Nat → Sec} (h : JrAt w j J D n ring t m H) (v : Value) (l : List Put) (hp : PutsAt w v l) (hl : l.length ≤ 1000000) (ht : t < 1000000) (hm : m < 1000000) (hH : ∀ i, (H i).length = 512) :
    Calls Try.prog 22 #[.pointer (some ⟨j.jb, 0, none⟩), v] w fun e w' => (∃ x : Int, e = .returned (.int .i64 x)) ∧ (∃ J' D' t' H', JrAt w' j J' D' n ring t' (m + 1) H' ∧ t' ≤ t + 1 ∧ ∀ i, (H' i).length = 512) ∧ Upd j.all w w' := by
  by_cases hf : fitsR n ring l ≠ 0 ∨ l = []
  · refine (comNo_hi h v l hp hl hf).mono ?_
    rintro e w' ⟨e1, e2, e3⟩
    exact ⟨⟨_, e1⟩, ⟨J, D, t, H, e2.le (by omega), by omega, hH⟩, e3⟩
  · have hf0 : fitsR n ring l = 0 := by
      by_cases q : fitsR n ring l = 0
      · exact q
      · exact absurd (.inl q) hf
    have h0 : l ≠ [] := fun q => hf (.inr q)
    refine (com_hi h v l hp hf0 h0 ht hm).mono ?_
    rintro e w' ⟨e1, ⟨J', D', e2, _⟩, e3⟩
    refine ⟨⟨0, e1⟩, ⟨J', D', t + 1, _, e2, by omega, putsH_len hH (fun p hp => ?_)⟩, e3⟩
    have := (fits_parts ((h.fits l).trans hf0)).2.2.1 p hp
    exact this.2.2

/-! ## light -/

def lightB (l : List Pz) : Bool := decide (l.length ≤ 60) && l.all fun p => decide (p.B.length ≤ 600)
theorem lightB_yes {l : List Pz} (h : lightB l = true) : l.length ≤ 60 ∧ ∀ p ∈ l, p.B.length ≤ 600 := by
  unfold lightB at h
  simpa using h
theorem PzIn.shape {w : World} {v : Value} {l : List Pz} (h : PzIn w v l) : ∃ a c, v = .slice a l.length c := by
  obtain ⟨ao, cap, e, _⟩ := h
  exact ⟨ao, cap, e⟩
theorem PzIn.row {w : World} {a : Option Addr} {n c : Nat} {l : List Pz} (h : PzIn w (.slice a n c) l) (i : Nat) (hi : i < l.length) : ∃ b off vb, a = some ⟨b, off, none⟩ ∧ w.cell? ⟨b, off + i * 3, none⟩ = some (.int .i64 l[i].I) ∧ w.cell? ⟨b, off + i * 3 + 1, none⟩ = some vb ∧ w.cell? ⟨b, off + i * 3 + 2, none⟩ = some (.bool l[i].Odd) ∧ Rd w vb l[i].B := by
  obtain ⟨ao, cap, e, _, hh⟩ := h
  obtain ⟨b, off, hab, hc⟩ := hh (by omega)
  obtain ⟨vb, c0, c1, c2, hr⟩ := hc i hi
  cases e
  exact ⟨b, off, vb, hab, c0, c1, c2, hr⟩

set_option maxRecDepth 100000 in
set_option maxHeartbeats 1000000 in
theorem light_spec (v : Value) (l : List Pz) (w : World) (hv : PzIn w v l) :
    Calls Try.prog 30 #[.agg #[.int .i64 0, .int .i64 0, .int .i64 0, v, .slice none 0 0, .slice none 0 0]] w fun e w' => e = .returned (.bool (lightB l)) ∧ Upd [] w w' := by
  obtain ⟨av, cv, rfl⟩ := hv.shape
  have HV := Lib.hid hv
  clear hv
  by_cases h60 : l.length ≤ 60
  · have d60 : decide (60 < (l.length : Int)) = false := by simp; omega
    have H60 := Lib.hid h60
    go_enter Try.func30, Try.ntmps30
    have HA : Hid (Upd [] w (w.alloc (.cells #[.int .i64 0, .int .i64 0, .int .i64 0, .slice av l.length cv, .slice none 0 0, .slice none 0 0] 60))) := (Upd.refl _ _).alloc _
    have hcA := blk_cell (blk_alloc (w := w) (.cells #[.int .i64 0, .int .i64 0, .int .i64 0, .slice av l.length cv, .slice none 0 0, .slice none 0 0] 60))
    obtain ⟨w0, hw0⟩ : ∃ w0, w0 = w.alloc (.cells #[.int .i64 0, .int .i64 0, .int .i64 0, .slice av l.length cv, .slice none 0 0, .slice none 0 0] 60) := ⟨_, rfl⟩
    rw [← hw0] at HA hcA
    have HW0 := Lib.hid hw0
    clear hw0
    have HV0 : Hid (PzIn w0 (.slice av l.length cv) l) := HV.out.below HA.out
    go_wp2_with fail
    go_loopw [3] (fun i wr => ∃ k : Nat, k ≤ l.length ∧ i = .int .i64 (k : Int) ∧ (∀ q (h : q < l.length), q < k → l[q].B.length ≤ 600) ∧ wr = w0) (fun i _ => l.length - (intOf i).toNat)
    case atStart => exact ⟨0, Nat.zero_le _, rfl, fun q _ h => by omega, HW0.out.symm⟩
    case round =>
      obtain ⟨k, hk, rfl, he, rfl⟩ := hrel
      have HE := Lib.hid he
      clear he
      by_cases hlt : k < l.length
      · have hlt' : decide ((k : Int) < (l.length : Int)) = true := by simpa using hlt
        obtain ⟨b, off, vb, rfl, c0, c1, c2, hrd⟩ := HV0.out.row k hlt
        obtain ⟨ab, cb, rfl, _⟩ := id hrd
        have i0 : (0 : Int) ≤ (k : Int) := by omega
        have i1 : (k : Int) < (l.length : Int) := by omega
        by_cases h6 : l[k].B.length ≤ 600
        · have d6 : decide (600 < (l[k].B.length : Int)) = false := by simp; omega
          have H6 := Lib.hid h6
          clear h6 hrd
          obtain ⟨bl, hbl⟩ : ∃ bl, bl = l[k].B.length := ⟨_, rfl⟩
          rw [← hbl] at d6 c1
          have HBL := Lib.hid hbl
          clear hbl
          go_wp2_with fail
          refine ⟨⟨k + 1, by omega, by go_num, fun q hq hqk => ?_, trivial⟩, by simp [intOf]; omega⟩
          by_cases e : q = k
          · subst e; exact H6.out
          · exact HE.out q hq (by omega)
        · have d6 : decide (600 < (l[k].B.length : Int)) = true := by simp; omega
          have HQ : Hid (lightB l = false) := by
            show _ = _
            unfold lightB
            rw [Bool.and_eq_false_iff]; right
            rw [List.all_eq_false]
            exact ⟨l[k], List.getElem_mem hlt, by simp; omega⟩
          clear h6 hrd
          obtain ⟨bl, hbl⟩ : ∃ bl, bl = l[k].B.length := ⟨_, rfl⟩
          rw [← hbl] at d6 c1
          clear hbl
          go_wp2_with fail
          go_ret
          exact ⟨by rw [HQ.out]; rfl, HA.out⟩
      · obtain rfl : k = l.length := by omega
        have hlt' : decide ((l.length : Int) < (l.length : Int)) = false := by simp
        have HQ : Hid (lightB l = true) := by
          show _ = _
          unfold lightB
          rw [Bool.and_eq_true]
          refine ⟨by simpa using H60.out, List.all_eq_true.2 fun p hp => ?_⟩
          obtain ⟨q, hq, rfl⟩ := List.getElem_of_mem hp
          simpa using HE.out q hq hq
        go_wp2_with fail
        go_ret
        exact ⟨by rw [HQ.out]; rfl, HA.out⟩
  · have d60 : decide (60 < (l.length : Int)) = true := by simp; omega
    have HQ : Hid (lightB l = false) := by
      show _ = _
      unfold lightB
      rw [Bool.and_eq_false_iff]; left
      simpa using h60
    clear h60
    go_enter Try.func30, Try.ntmps30
    go_wp2_with fail
    go_ret
    exact ⟨by rw [HQ.out]; rfl, (Upd.refl _ _).alloc _⟩

/-! ## a handle that may be read -/

/-- A journal in memory that may be read: others may have opened its disk since. -/
structure RjAt (w : World) (j : JG) (J : Jn) (D : Dk) (n ring : Nat) (t : Int) (H : Nat → Sec) : Prop where
  at_ : JnAt w AnyF j J D
  lives : J.lives = D.lives
  done : J.done = false
  off : D.off = false
  n : D.n = n
  ring : J.last.ring = ring
  turn : J.turn = t
  home : J.home D = H
theorem JrAt.rj {w : World} {j : JG} {J : Jn} {D : Dk} {n ring : Nat} {t m : Int} {H : Nat → Sec} (h : JrAt w j J D n ring t m H) : RjAt w j J D n ring t H :=
  ⟨h.at_, h.live.held.lives, h.live.held.done, h.live.held.calm.off, h.n, h.ring, h.turn, h.home⟩
theorem RjAt.of {w w' : World} {j : JG} {J : Jn} {D : Dk} {n ring : Nat} {t : Int} {H : Nat → Sec} (h : RjAt w j J D n ring t H) (ha : JnAt w' AnyF j J D) : RjAt w' j J D n ring t H :=
  ⟨ha, h.lives, h.done, h.off, h.n, h.ring, h.turn, h.home⟩
theorem RjAt.below {w w' : World} {j : JG} {J : Jn} {D : Dk} {n ring : Nat} {t : Int} {H : Nat → Sec} (h : RjAt w j J D n ring t H) (hu : Upd [] w w') : RjAt w' j J D n ring t H := h.of (h.at_.below hu)
theorem RjAt.keptT {w w' : World} {j : JG} {J : Jn} {D : Dk} {n ring : Nat} {t : Int} {H : Nat → Sec} (h : RjAt w j J D n ring t H) (T : TypeId) (h1 : T ≠ 51) (h2 : T ≠ 86) (h3 : T ≠ 36) (h4 : T ≠ 5)
    (hk : ∀ k, k < w.heap.size → (∀ c, w.heap[k]? ≠ some (.cells c T (0, 0))) → w'.heap[k]? = w.heap[k]?) : RjAt w' j J D n ring t H := by
  have hb : ∀ k, k ∈ j.all → ∀ c, w.heap[k]? ≠ some (.cells c T (0, 0)) := fun k hk c e => h.at_.kind e h1 h2 h3 hk
  exact h.of (h.at_.world (hk _ h.at_.lt.1 (hb _ (by simp [JG.all]))) (hk _ h.at_.lt.2 (hb _ (by simp [JG.all]))) (hk _ h.at_.disk.lt.1 (hb _ (by simp [JG.all]))) (hk _ h.at_.disk.lt.2.1 (hb _ (by simp [JG.all]))) (hk _ h.at_.disk.lt.2.2 (hb _ (by simp [JG.all])))
    (fun k c _ e => hk _ (blk_lt e) (fun c' e' => by rw [e] at e'; simp at e'; exact h4 e'.2.symm)))
/-- Another handle's own block turned. -/
theorem RjAt.other {w w' : World} {j : JG} {J : Jn} {D : Dk} {n ring : Nat} {t : Int} {H : Nat → Sec} (h : RjAt w j J D n ring t H) {b : Nat} {c : Array Value} {fr : Nat × Nat} (hb : w.heap[b]? = some (.cells c 51 fr)) (hne : j.jb ≠ b) (hu : Upd [b] w w') : RjAt w' j J D n ring t H := by
  obtain ⟨⟨fv, a1, _⟩, ⟨lv, b1, _⟩, ⟨f, hf, _⟩, _⟩ := h.at_.disk
  obtain ⟨f2, hf2, _⟩ := h.at_.away
  refine h.of (h.at_.world (hu.block _ h.at_.lt.1 (by simpa using hne)) (hu.block _ h.at_.lt.2 ?_) (hu.block _ h.at_.disk.lt.1 ?_) (hu.block _ h.at_.disk.lt.2.1 ?_) (hu.block _ h.at_.disk.lt.2.2 ?_) (fun k c' _ e => hu.block _ (blk_lt e) ?_))
  · simp; exact fun q => hf2.not_cells hb q.symm
  · simp; rintro rfl; rw [a1] at hb; simp at hb
  · simp; rintro rfl; rw [b1] at hb; simp at hb
  · simp; exact fun q => hf.not_cells hb q.symm
  · simp; rintro rfl; rw [e] at hb; simp at hb
/-- The disk has moved on; what the handle tells is the same. -/
theorem RjAt.step {w w' : World} {j : JG} {J : Jn} {D D' : Dk} {n ring : Nat} {t : Int} {H : Nat → Sec} (h : RjAt w j J D n ring t H) (hD : DiskAt w' AnyF j.d D') (hu : Upd [j.d.db, j.d.lb, j.d.mb] w w') (hn : D'.n = n) (hl : D'.lives = D.lives) (ho : D'.off = false) (hh : ∀ i, D'.now (2 + ring + i) = H i) : RjAt w' j J D' n ring t H := by
  refine ⟨h.at_.step hD hu (fun _ q => q) (hn.trans h.n.symm), h.lives.trans hl.symm, h.done, ho, hn, h.ring, h.turn, ?_⟩
  funext i
  have h1 := congrFun h.home i
  unfold Jn.home at h1 ⊢
  rw [h.ring] at h1 ⊢
  cases ha : J.away i with
  | some s => rw [ha] at h1; exact h1
  | none => exact hh i
theorem homes_rj {w : World} {j : JG} {J : Jn} {D : Dk} {n ring : Nat} {t : Int} {H : Nat → Sec} (h : RjAt w j J D n ring t H) :
    Calls Try.prog 28 #[.pointer (some ⟨j.jb, 0, none⟩)] w fun e w' => e = .returned (.int .i64 ((n - 2 - ring : Nat) : Int)) ∧ ∃ k, w' = w.drewN k := by
  have := homes_spec h.at_
  unfold Jn.homes at this
  rw [h.n, h.ring] at this
  exact this
theorem turn_rj {w : World} {j : JG} {J : Jn} {D : Dk} {n ring : Nat} {t : Int} {H : Nat → Sec} (h : RjAt w j J D n ring t H) :
    Calls Try.prog 25 #[.pointer (some ⟨j.jb, 0, none⟩)] w fun e w' => e = .returned (.int .u64 (t - 1)) ∧ w = w' := by
  have := turn_spec h.at_
  rw [h.turn] at this
  exact this
theorem read_rj {w : World} {j : JG} {J : Jn} {D : Dk} {n ring : Nat} {t : Int} {H : Nat → Sec} (h : RjAt w j J D n ring t H) (i : Nat) (hi : i + 2 + ring < n) :
    Calls Try.prog 26 #[.pointer (some ⟨j.jb, 0, none⟩), .int .i64 (i : Int)] w fun e w' => ∃ v, e = .returned (.tuple #[v, .int .i64 0]) ∧ OwnN w' 5 (fun k => w.heap.size ≤ k) v (H i) ∧ RjAt w' j J D n ring t H ∧ Upd [j.jb] w w' := by
  refine (readJ_spec h.at_ (i : Int)).mono ?_
  rintro e w' ⟨v, e1, e2, e3, e4⟩
  have hd := h.done
  have hr : J.read D (i : Int) = (H i, 0, false) := by
    unfold Jn.read
    have hm : J.may D = 0 := by unfold Jn.may; rw [if_neg (by simp [hd, h.lives])]
    have h1 := h.n
    have h2 := h.ring
    rw [if_neg (by rw [hm]; decide), if_neg (by unfold Jn.homes; omega)]
    have hh : J.home D (i : Int).toNat = H i := by rw [h.home]; rfl
    split
    · rw [hh, hd]
    · rw [if_neg (by rw [h.off]; decide), hh]
  rw [hr] at e1 e2 e3
  have : ({ J with done := false } : Jn) = J := by rw [← hd]
  exact ⟨v, e1, e2, h.of (by rw [← this]; exact e3), e4⟩

set_option maxRecDepth 100000 in
set_option maxHeartbeats 1000000 in
theorem homesL_rj {w : World} {j : JG} {J : Jn} {D : Dk} {n ring : Nat} {t : Int} {H : Nat → Sec} (h : RjAt w j J D n ring t H) (hn : n ≤ 4096) (hH : ∀ i, (H i).length = 512) :
    Calls Try.prog 19 #[.pointer (some ⟨j.jb, 0, none⟩)] w fun e w' => ∃ a c, e = .returned (.slice a (n - 2 - ring) c) ∧ StrsB w' w.heap.size (.slice a (n - 2 - ring) c) (hl H (n - 2 - ring)) ∧ RjAt w' j J D n ring t H ∧ Upd [j.jb] w w' := by
  have HH := Lib.hid h
  have hbs := run_build_str
  obtain ⟨hm, hhm⟩ : ∃ hm, hm = n - 2 - ring := ⟨_, rfl⟩
  have HHM := Lib.hid hhm
  have hm0 : hm ≤ 4096 := by omega
  rw [← hhm]
  have HHL := Lib.hid hH
  clear h hhm hH
  go_enter Try.func19, Try.ntmps19
  go_wp2_with fail
  go_loopw [4, 3] (fun i v wr => ∃ k : Nat, k ≤ hm ∧ i = .int .i64 (k : Int) ∧ StrsB wr w.heap.size v (hl H k) ∧ RjAt wr j J D n ring t H ∧ Upd [j.jb] w wr) (fun i _ _ => hm - (intOf i).toNat)
  case atStart => exact ⟨0, Nat.zero_le _, rfl, StrsB.nil _ _, HH.out, Upd.refl _ _⟩
  case round =>
    obtain ⟨k, hk, rfl, hs, hr, hu⟩ := hrel
    have HO := Lib.hid (homes_rj hr)
    rw [← HHM.out] at HO
    obtain ⟨a3, c3, rfl⟩ := hs.shape
    have HS := Lib.hid hs
    have HR := Lib.hid hr
    have HU := Lib.hid hu
    have hBr := hu.size
    clear hs hr hu
    go_wp2_with fail
    refine HO.out.mono ?_
    rintro e w1 ⟨rfl, q1, hq1⟩
    have HU1 : Hid (Upd [] wr w1) := by show Upd _ _ _; rw [hq1]; exact (Upd.refl _ _).drewN _
    clear hq1
    by_cases hlt : k < hm
    · have hlt' : decide ((k : Int) < (hm : Int)) = true := by simpa using hlt
      have hbound : k + 2 + ring < n := by have := HHM.out; omega
      go_wp2_with fail
      refine (read_rj (HR.out.below HU1.out) k hbound).mono ?_
      rintro e w2 ⟨v2, rfl, ho2, hr2, hu2⟩
      obtain ⟨k2, c2, rfl, _, _, _⟩ := ho2.sec (HHL.out k)
      have hrd := ho2.rd
      have hcv := run_str hrd (by rw [HHL.out]; omega)
      have hS2 : StrsB w2 w.heap.size (.slice a3 (hl H k).length c3) (hl H k) := ((HS.out.upd HU1.out (by simp)).upd hu2 (fun q c hq e => by simp at hq; subst hq; exact (HR.out.below HU1.out).at_.kind e (by decide) (by decide) (by decide) (by simp [JG.all])))
      have hU2 : Upd [j.jb] w w2 := (HU.out.trans (HU1.out.mono (by simp))).trans hu2
      obtain ⟨a', b', c', w3, hrun, hs3, hk3, hu3, _⟩ := str_push hS2 (by rw [hl_length]; omega) (by have := hU2.size; omega) hU2 (Nat.le_refl _) (H k)
      rw [← hl_succ] at hs3
      have HR3 := Lib.hid (hr2.keptT _ (by decide) (by decide) (by decide) (by decide) hk3)
      have HS3 := Lib.hid hs3
      have HU3 := Lib.hid hu3
      clear ho2 hr2 hu2 hrd hS2 hU2 hs3 hk3 hu3
      go_wp2_with (at_builtin; refine wpList_append_run rfl _ _ _ rfl rfl rfl hrun ?_)
      exact ⟨⟨k + 1, by omega, by go_num, HS3.out, HR3.out, HU3.out⟩, by simp [intOf]; omega⟩
    · obtain rfl : k = hm := by omega
      have hlt' : decide ((k : Int) < (k : Int)) = false := by simp
      go_wp2_with fail
      go_ret
      have hS := HS.out.upd HU1.out (by simp)
      rw [hl_length] at hS ⊢
      exact ⟨a3, c3, rfl, hS, HR.out.below HU1.out, HU.out.trans (HU1.out.mono (by simp))⟩


theorem Scan.lives {D : Dk} {B J : Jn} (h : Scan D B J) : J.lives = B.lives := by
  induction h with
  | stop _ => rfl
  | step _ _ ih => exact ih
/-- As open_hi; and the disk's lives and home sectors are told. -/
theorem open_hi2 {w : World} {g : DG} {J : Jn} {D : Dk} {n ring : Nat} {t m : Int} {H : Nat → Sec} (h : DsAt w g J D n ring t m H) (ht : t < 1000000) (hm : m < 1000000) :
    Calls Try.prog 18 #[.pointer (some ⟨g.db, 0, none⟩)] w fun e w' => ∃ jb ab, e = .returned (.tuple #[.pointer (some ⟨jb, 0, none⟩), .int .i64 0]) ∧ w.heap.size ≤ jb ∧ w.heap.size ≤ ab ∧ (∃ J' D', JrAt w' ⟨jb, ab, g⟩ J' D' n ring t (m + 1) H ∧ D'.lives = D.lives ∧ ∀ i, D'.now (2 + ring + i) = H i) ∧ Upd [g.db, g.lb, g.mb] w w' := by
  refine (open_main h.disk h.held.calm.off).mono ?_
  rintro e w' ⟨D', r, err, ho, hat, hu⟩
  have h1 := h.num
  have h2 := h.turn
  have hlv : ∀ J', r = some J' → J'.lives = D.lives := by
    intro J' hr
    subst hr
    cases ho with
    | keep _ _ _ => rfl
    | ok _ _ _ q _ _ _ => exact q.lives
  rcases h.held.open ⟨by omega, by omega⟩ ho with ⟨rfl, J', rfl, q1, q2, q3, q4, q5, q6, q7, q8⟩ | ⟨_, _, q, _⟩
  · obtain ⟨jb, ab, e1, e2, e3, e4⟩ := hat
    have hJr : JrAt w' ⟨jb, ab, g⟩ J' D' n ring t (m + 1) H := ⟨e4.any, q1, q8 h.arm, q7.trans h.n, q5.trans h.ring, q4.trans h.turn, by omega, q2.trans h.home⟩
    refine ⟨jb, ab, e1, e2, e3, ⟨J', D', hJr, q1.held.lives.symm.trans (hlv J' rfl), fun i => ?_⟩, hu⟩
    have hb := q1.held.facts.2.2 q3
    have := congrFun hJr.home i
    unfold Jn.home at this
    rw [hb] at this
    have hr : J'.base.last.ring = ring := hJr.ring
    rw [hr] at this
    exact this
  · exact absurd h.arm q
theorem wrap_ne (x : Int) : wrap64 (x + 1) ≠ x := by
  unfold wrap64
  omega

end Go.Proofs.Ythbgidiblcokhaa
