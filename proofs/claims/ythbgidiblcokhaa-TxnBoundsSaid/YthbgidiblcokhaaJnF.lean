/-
  Lists of sectors to be committed, and Journal.fits.
-/
import Derived.Test.YthbgidiblcokhaaJnE
namespace Go.Proofs.Ythbgidiblcokhaa
open Go.RowKit

abbrev Put := Int × List UInt8

def putCells (ps : List (Int × Value)) : List Value := ps.flatMap fun p => [.int .i64 p.1, p.2]
@[simp] theorem putCells_nil : putCells [] = [] := rfl
theorem putCells_length (ps : List (Int × Value)) : (putCells ps).length = ps.length * 2 := by
  induction ps with
  | nil => rfl
  | cons p ps ih => simp [putCells] at *; omega
theorem putCells_append (a b : List (Int × Value)) : putCells (a ++ b) = putCells a ++ putCells b := by simp [putCells]
theorem putCells_get : ∀ (ps : List (Int × Value)) (k : Nat) (p : Int × Value), ps[k]? = some p → (putCells ps)[2 * k]? = some (.int .i64 p.1) ∧ (putCells ps)[2 * k + 1]? = some p.2
  | [], _, _, h => by simp at h
  | q :: ps, 0, p, h => by
    simp at h; subst h; simp [putCells]
  | q :: ps, k + 1, p, h => by
    have ih := putCells_get ps k p (by simpa using h)
    have e : putCells (q :: ps) = .int .i64 q.1 :: q.2 :: putCells ps := rfl
    rw [e, show 2 * (k + 1) = 2 * k + 1 + 1 by omega, List.getElem?_cons_succ, List.getElem?_cons_succ, List.getElem?_cons_succ, List.getElem?_cons_succ]
    exact ih

/-- A slice of api.Put that reads as l. -/
def PutsAt (w : World) (v : Value) (l : List Put) : Prop :=
  ∃ ps : List (Int × Value), w.ownsRow 0 40 2 v ps.length (putCells ps) ∧ ps.length = l.length ∧ ∀ (k : Nat) (p : Int × Value), ps[k]? = some p → ∃ q : Put, l[k]? = some q ∧ p.1 = q.1 ∧ Rd w p.2 q.2

theorem PutsAt.world {w w' : World} {v : Value} {l : List Put} (h : PutsAt w v l) {S : List Nat} (hu : Upd S w w') (hS : ∀ (k : Nat) (c : Array Value), k ∈ S → w.heap[k]? ≠ some (.cells c 40 (0, 0))) (hR : ∀ (b o : Nat) (c : UInt8), b ∈ S → w.cell? ⟨b, o, none⟩ ≠ some (bv c)) : PutsAt w' v l := by
  obtain ⟨ps, h1, h2, h3⟩ := h
  refine ⟨ps, ⟨h1.1, ?_⟩, h2, fun k p hp => ?_⟩
  · rcases h1.2 with h | ⟨g, cap, cur, e, hb, hg, r⟩
    · exact .inl h
    · exact .inr ⟨g, cap, cur, e, hb, (hu.block _ (blk_lt hg) (fun q => hS g cur q hg)).trans hg, r⟩
  · obtain ⟨q, a, b, c⟩ := h3 k p hp
    exact ⟨q, a, b, c.of_block fun bb o c hc => hu.block _ (block_lt_of_cell hc) (fun q => hR bb o c q hc)⟩
theorem PutsAt.below {w w' : World} {v : Value} {l : List Put} (h : PutsAt w v l) (hu : Upd [] w w') : PutsAt w' v l := h.world hu (by simp) (by simp)
theorem PutsAt.shape {w : World} {v : Value} {l : List Put} (h : PutsAt w v l) : ∃ ao cap, v = .slice ao l.length cap := by
  obtain ⟨ps, h1, h2, _⟩ := h
  rcases h1.2 with ⟨rfl, h0⟩ | ⟨g, cap, cur, e, _⟩
  · exact ⟨none, 0, by rw [← h2, h0]⟩
  · exact ⟨_, cap, by rw [← h2]; exact e⟩
/-- The k-th of a list in memory. -/
theorem PutsAt.get {w : World} {v : Value} {l : List Put} (h : PutsAt w v l) (k : Nat) (hk : k < l.length) :
    ∃ g cap da dc, v = .slice (some ⟨g, 0, none⟩) l.length cap ∧ w.cell? ⟨g, k * 2, none⟩ = some (.int .i64 l[k].1) ∧ w.cell? ⟨g, k * 2 + 1, none⟩ = some (.slice da l[k].2.length dc) ∧ Rd w (.slice da l[k].2.length dc) l[k].2 := by
  obtain ⟨ps, h1, h2, h3⟩ := h
  obtain ⟨p, hp⟩ : ∃ p, ps[k]? = some p := ⟨_, List.getElem?_eq_getElem (by omega)⟩
  obtain ⟨q, a, b, c⟩ := h3 k p hp
  have hq : q = l[k] := by rw [List.getElem?_eq_getElem hk] at a; exact (Option.some.inj a).symm
  subst hq
  rcases h1.2 with ⟨_, h0⟩ | ⟨g, cap, cur, e, _, hg, _, _, _, ht⟩
  · omega
  · obtain ⟨da, dc, e2, _⟩ := id c
    rw [e2] at c
    have hc := putCells_get ps k p hp
    have hcur : ∀ i, i < ps.length * 2 → (putCells ps)[i]? = cur[i]? := by
      intro i hi
      rw [← ht, List.getElem?_take, if_pos hi]; simp
    refine ⟨g, cap, da, dc, by rw [← h2]; exact e, ?_, ?_, c⟩
    · rw [blk_cell hg, ← hcur _ (by have := (List.getElem?_eq_some_iff.1 hp).1; omega), Nat.mul_comm, hc.1, b]
    · rw [blk_cell hg, ← hcur _ (by have := (List.getElem?_eq_some_iff.1 hp).1; omega), Nat.mul_comm, hc.2, e2]

/-- The error of a list, element by element. -/
def fitsL (homes : Nat) : List Int → List Put → Int
  | _, [] => 0
  | seen, (i, b) :: l => if i < 0 ∨ (homes : Int) ≤ i ∨ i ∈ seen then 1 else if b.length ≠ 512 then 9 else fitsL homes (i :: seen) l
def Jn.fits (J : Jn) (n : Nat) (l : List Put) : Int :=
  if fitsL (J.homes n) [] l ≠ 0 then fitsL (J.homes n) [] l else if 40 < l.length ∨ J.last.ring ≤ l.length then 2 else 0

/-- What a list has seen behind k elements. -/
def seenK (l : List Put) (k : Nat) : List Int := ((l.take k).map (·.1)).reverse
theorem seenK_zero (l : List Put) : seenK l 0 = [] := rfl
theorem seenK_succ {l : List Put} {k : Nat} (hk : k < l.length) : seenK l (k + 1) = l[k].1 :: seenK l k := by
  unfold seenK; rw [List.take_succ_eq_append_getElem hk, List.map_append, List.reverse_append]; rfl
theorem fits_step {homes : Nat} {l : List Put} {k : Nat} (hk : k < l.length) :
    fitsL homes (seenK l k) (l.drop k) = if l[k].1 < 0 ∨ (homes : Int) ≤ l[k].1 ∨ l[k].1 ∈ seenK l k then 1 else if l[k].2.length ≠ 512 then 9 else fitsL homes (seenK l (k + 1)) (l.drop (k + 1)) := by
  rw [List.drop_eq_getElem_cons hk, seenK_succ hk]
  generalize l[k] = q
  obtain ⟨i, b⟩ := q
  rfl

def FitsRel (w : World) (sb : Nat) (l : List Put) (k : Nat) (wr : World) : Prop :=
  ∃ f : Int → Option Value, MapI wr sb f ∧ (∀ i, f i = if i ∈ seenK l k then some (.int .i64 1) else none) ∧ Upd [] w wr ∧ w.heap.size ≤ sb

theorem zeroInt (w : World) : (zeroValue 3).run Try.prog w = .ok (.int .i64 0) w := by kernel_rfl

theorem FitsRel.step {w wr W : World} {sb : Nat} {l : List Put} {k : Nat} (h : FitsRel w sb l k wr) (hk : k < l.length) (hW : Upd [] wr W) :
    ∃ o, (Instr.mapUpdate 104 (.map (some sb)) (.int .i64 l[k].1) (.int .i64 1)).run Try.prog W = .ok () (ChangeMaps.setBlock W sb o) ∧ FitsRel w sb l (k + 1) (ChangeMaps.setBlock W sb o) := by
  obtain ⟨f, hf, hf1, hu, hs⟩ := h
  have hf' : MapI W sb f := hf.world (hW.block _ hf.lt (by simp))
  obtain ⟨o, hrun, hmap⟩ := hf'.update (P := Try.prog) (T := 104) Try.underlying104 Try.underlying3 l[k].1 (.int .i64 1)
  refine ⟨o, hrun, _, hmap, fun i => ?_, (hu.trans hW).setBlock _ (.inr hs), hs⟩
  rw [seenK_succ hk, hf1]
  by_cases e : i = l[k].1
  · simp [e]
  · simp [e]

theorem FitsRel.look {w wr W : World} {sb : Nat} {l : List Put} {k : Nat} (h : FitsRel w sb l k wr) (hW : Upd [] wr W) (i : Int) :
    ∀ n, (Instr.lookup 104 (.map (some sb)) (.int .i64 i) false).run Try.prog (W.drewN n) = .ok (.int .i64 (if i ∈ seenK l k then 1 else 0)) (W.drewN n) := by
  intro n
  obtain ⟨f, hf, hf1, hu, hs⟩ := h
  have hf' : MapI (W.drewN n) sb f := hf.world (hW.block _ hf.lt (by simp))
  have := hf'.lookup (P := Try.prog) (T := 104) Try.underlying104 Try.underlying3 (zeroInt _) i false
  rw [hf1] at this
  rw [this]
  by_cases e : i ∈ seenK l k <;> simp [e]

set_option maxHeartbeats 1600000 in
theorem fits_spec {w : World} {F : Nat → Prop} {j : JG} {J : Jn} {D : Dk} (h : JnAt w F j J D) (v : Value) (l : List Put) (hp : PutsAt w v l) (hl : l.length ≤ 1000000) :
    Calls Try.prog 57 #[.pointer (some ⟨j.jb, 0, none⟩), v] w fun e w' => e = .returned (.int .i64 (J.fits D.n l)) ∧ Upd [] w w' := by
  have H := Lib.hid h
  have HP := Lib.hid hp
  obtain ⟨ao, cap, rfl⟩ := hp.shape
  have hr0 := h.ok.ring0
  have hr1 := h.ok.ring1
  have hmm := @run_makeMap Try.prog
  clear h hp
  go_enter Try.func57, Try.ntmps57
  go_wp2_with fail
  go_loopw [11] (fun i wr => ∃ k : Nat, k ≤ l.length ∧ i = .int .i64 (k : Int) ∧ FitsRel w w.heap.size l k wr ∧ fitsL (J.homes D.n) [] l = fitsL (J.homes D.n) (seenK l k) (l.drop k)) (fun i _ => l.length - (intOf i).toNat)
  case atStart => exact ⟨0, Nat.zero_le _, rfl, ⟨_, MapI.made (c := 0) (blk_alloc _), by simp [seenK_zero], (Upd.refl _ _).alloc _, Nat.le_refl _⟩, rfl⟩
  case round =>
    obtain ⟨k, hk, rfl, hrel, hfit⟩ := hrel
    have hu : Upd [] w wr := by obtain ⟨_, _, _, hu, _⟩ := hrel; exact hu
    by_cases hlt : k < l.length
    · obtain ⟨g, cap', da, dc, e, hc1, hc2, hrd⟩ := (HP.out.below hu).get k hlt
      obtain ⟨rfl, _, rfl⟩ : ao = some ⟨g, 0, none⟩ ∧ l.length = l.length ∧ cap = cap' := by simpa using e
      rw [fits_step hlt] at hfit
      obtain ⟨i, hi⟩ : ∃ i, i = l[k].1 := ⟨_, rfl⟩
      obtain ⟨dn, hdn⟩ : ∃ dn, dn = l[k].2.length := ⟨_, rfl⟩
      rw [← hi] at hc1
      rw [← hdn] at hc2
      rw [← hi, ← hdn] at hfit
      have HI := Lib.hid hi
      have HFIT := Lib.hid hfit
      have HREL := Lib.hid hrel
      have HU := Lib.hid hu
      clear e hi hdn hfit hrel hu hrd
      go_wp2_with fail
      have hWu : Upd [] wr (wr.alloc (.cells #[.int .i64 i, .slice da dn dc] 40)) := (Upd.refl _ _).alloc _
      have hWb : (wr.alloc (.cells #[.int .i64 i, .slice da dn dc] 40)).heap[wr.heap.size]? = some (.cells #[.int .i64 i, .slice da dn dc] 40 (0, 0)) := blk_alloc _
      generalize wr.alloc (.cells #[.int .i64 i, .slice da dn dc] 40) = W at hWu hWb ⊢
      have hcW := blk_cell hWb
      have hlk := HREL.out.look hWu i
      have HJW := Lib.hid (H.out.below (HU.out.trans hWu))
      have HWU := Lib.hid hWu
      clear hWb hWu hc1 hc2
      by_cases c1 : i < 0
      · have d1 : decide (i < 0) = true := by simpa using c1
        have HR : Hid (J.fits D.n l = 1) := by
          show _ = _
          have := HFIT.out
          rw [if_pos (.inl c1)] at this
          unfold Jn.fits; rw [this]; simp
        clear c1 hlk
        go_quiet (fail)
        go_wp2
        go_ret
        exact ⟨ret_int HR.out.symm, (HU.out.trans HWU.out).drewN _⟩
      · have d1 : decide (i < 0) = false := by simpa using c1
        by_cases c2 : (J.homes D.n : Int) ≤ i
        · have d2 : decide ((J.homes D.n : Int) ≤ i) = true := by simpa using c2
          have HR : Hid (J.fits D.n l = 1) := by
            show _ = _
            have := HFIT.out
            rw [if_pos (.inr (.inl c2))] at this
            unfold Jn.fits; rw [this]; simp
          clear hlk
          go_quiet ((go_at_call 28; exact Calls.quiet_of (homes_spec (HJW.out.drewN _))))
          go_wp2
          go_ret
          exact ⟨ret_int HR.out.symm, (HU.out.trans HWU.out).drewN _⟩
        · have d2 : decide ((J.homes D.n : Int) ≤ i) = false := by simpa using c2
          by_cases c3 : i ∈ seenK l k
          · rw [if_pos c3] at hlk
            have HR : Hid (J.fits D.n l = 1) := by
              show _ = _
              have := HFIT.out
              rw [if_pos (.inr (.inr c3))] at this
              unfold Jn.fits; rw [this]; simp
            clear c3
            go_quiet ((go_at_call 28; exact Calls.quiet_of (homes_spec (HJW.out.drewN _))))
            go_wp2
            go_ret
            exact ⟨ret_int HR.out.symm, (HU.out.trans HWU.out).drewN _⟩
          · rw [if_neg c3] at hlk
            have hfit := HFIT.out
            rw [if_neg (by simp [c3]; omega)] at hfit
            have HC3 := Lib.hid c3
            clear c3
            go_quiet ((go_at_call 28; exact Calls.quiet_of (homes_spec (HJW.out.drewN _))))
            by_cases c4 : dn = 512
            · have d4 : ((dn : Int) != 512) = false := by simp [c4]
              rw [if_neg (by simpa using c4)] at hfit
              have HF2 := Lib.hid hfit
              clear c4 hfit
              obtain ⟨o, hup, hrel2⟩ := HREL.out.step hlt ((HWU.out).drewN nq)
              rw [← HI.out] at hup
              have HR2 := Lib.hid hrel2
              clear hrel2
              go_wp2
              go_roundw
              case rel => exact ⟨k + 1, by omega, by go_num, HR2.out, HF2.out⟩
              case measure => simp [intOf]; omega
            · have d4 : ((dn : Int) != 512) = true := by rw [bne_iff_ne]; omega
              rw [if_pos (by simpa using c4)] at hfit
              have HR : Hid (J.fits D.n l = 9) := by
                show _ = _
                unfold Jn.fits; rw [hfit]; simp
              clear c4 hfit
              go_wp2
              go_ret
              exact ⟨ret_int HR.out.symm, (HU.out.trans HWU.out).drewN _⟩
    · obtain rfl : k = l.length := by omega
      have hfit0 : fitsL (J.homes D.n) [] l = 0 := by rw [hfit, List.drop_of_length_le (Nat.le_refl _)]; rfl
      have hcj := blk_cell (H.out.below hu).st
      have HU := Lib.hid hu
      clear hfit hrel hu
      by_cases c1 : 40 < l.length ∨ J.last.ring ≤ l.length
      · have HR : Hid (J.fits D.n l = 2) := by
          show _ = _
          unfold Jn.fits; rw [hfit0]; simp [c1]
        clear hfit0
        by_cases c2 : 40 < l.length
        · clear c1
          go_wp2
          go_ret
          exact ⟨ret_int HR.out.symm, HU.out⟩
        · have c3 : J.last.ring ≤ l.length := by omega
          clear c1
          go_wp2
          go_ret
          exact ⟨ret_int HR.out.symm, HU.out⟩
      · have HR : Hid (J.fits D.n l = 0) := by
          show _ = _
          unfold Jn.fits; rw [hfit0]; simp [c1]
        have c2 : l.length ≤ 40 := by omega
        have c3 : l.length < J.last.ring := by omega
        clear hfit0 c1
        go_wp2
        go_ret
        exact ⟨ret_int HR.out.symm, HU.out⟩

end Go.Proofs.Ythbgidiblcokhaa
