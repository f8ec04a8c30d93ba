/-
  Transactions: Commit.
-/
import Derived.Test.YthbgidiblcokhaaTxB
namespace Go.Proofs.Ythbgidiblcokhaa
open Go.RowKit Go.MapKept Go.ChangeMaps

/-- What a transaction commits. -/
def txL (M : Nat → Option Sec) (hm : Nat) : List Put := (keysM M hm).map fun (i : Nat) => ((i : Int), (M i).getD [])
/-- The disk, the error and the journal behind a Commit. -/
def Jn.txD (J : Jn) (D : Dk) (turn : Int) (l : List Put) : Dk × Int := if J.turn - 1 ≠ turn then (D, 10) else J.comD D l
def Jn.txJ (J : Jn) (D : Dk) (turn : Int) (l : List Put) : Jn := if J.turn - 1 ≠ turn then J else J.com D l

set_option maxHeartbeats 400000 in
theorem commitT_over {w : World} {v : Value} (h : OverV w v) :
    Calls Try.prog 43 #[v] w fun e w' => e = .returned (.int .i64 5) ∧ ∃ n, w' = w.drewN n := by
  have H := Lib.hid h
  clear h
  go_enter Try.func43, Try.ntmps43
  go_wp2_with fail
  refine (over_yes H.out).mono ?_
  rintro e w' ⟨rfl, n, rfl⟩
  go_wp2_with fail
  go_ret
  exact ⟨rfl, _, rfl⟩

theorem txL_length (M : Nat → Option Sec) (hm : Nat) : (txL M hm).length = cntM M hm := by unfold txL cntM; rw [List.length_map]
theorem txL_get (M : Nat → Option Sec) (hm : Nat) {k : Nat} (h : k < (keysM M hm).length) : (txL M hm).take (k + 1) = (txL M hm).take k ++ [((((keysM M hm)[k] : Nat) : Int), (M (keysM M hm)[k]).getD [])] := by
  unfold txL
  rw [List.take_succ_eq_append_getElem (by simpa using h), List.getElem_map]

theorem keysF_M {M : Nat → Option Sec} {hm : Nat} (ho : MOk M hm) {w : World} {F : Nat → Prop} {f : Int → Option Value} (hf1 : ∀ k v, f k = some v → 0 ≤ k ∧ ∃ s, M k.toNat = some s ∧ Own w 5 F v s) (hf2 : ∀ i s, M i = some s → ∃ v, f (i : Int) = some v) :
    keysF f hm = keysM M hm ∧ ∀ k v, f k = some v → 0 ≤ k ∧ k < (hm : Int) := by
  constructor
  · unfold keysF keysM
    refine List.filter_congr fun i _ => ?_
    rw [Bool.eq_iff_iff]
    constructor
    · intro q
      obtain ⟨v, hv⟩ := Option.isSome_iff_exists.1 q
      obtain ⟨_, s, hs, _⟩ := hf1 _ v hv
      rw [Int.toNat_natCast] at hs
      rw [hs]; rfl
    · intro q
      obtain ⟨s, hs⟩ := Option.isSome_iff_exists.1 q
      obtain ⟨v, hv⟩ := hf2 i s hs
      rw [hv]; rfl
  · intro k v hk
    obtain ⟨k0, s, hs, _⟩ := hf1 k v hk
    have := (ho _ s hs).1
    omega
set_option maxRecDepth 100000 in
set_option maxHeartbeats 2000000 in
theorem commitT_spec {w : World} {t : TG} {j : JG} {turn : Int} {M : Nat → Option Sec} (h : TxAt w t j.jb turn M) {J : Jn} {D : Dk} (hj : JnAt w AnyF j J D) (hne : t.wb ∉ j.all) {hm : Nat} (ho : MOk M hm) (hm1 : hm ≤ 5000) (hus : J.used ≤ 5000) :
    Calls Try.prog 43 #[.pointer (some ⟨t.tb, 0, none⟩)] w fun e w' => e = .returned (.int .i64 (J.txD D turn (txL M hm)).2) ∧ OverV w' (.pointer (some ⟨t.tb, 0, none⟩)) ∧ JnAt w' AnyF j (J.txJ D turn (txL M hm)) (J.txD D turn (txL M hm)).1 ∧ Upd (t.tb :: j.all) w w' := by
  have H := Lib.hid h
  have HJ := Lib.hid hj
  have hc := blk_cell h.st
  have hne2 := Lib.hid hne
  have HO := Lib.hid ho
  have HM1 := Lib.hid hm1
  have HUS := Lib.hid hus
  have c0 : w.cell? ⟨t.tb, 0, none⟩ = some (.pointer (some ⟨j.jb, 0, none⟩)) := by rw [hc]; rfl
  have c2 : w.cell? ⟨t.tb, 2, none⟩ = some (.map (some t.wb)) := by rw [hc]; rfl
  have hlt := h.lt.1
  clear h hj hne ho hm1 hus hc
  go_enter Try.func43, Try.ntmps43
  go_wp2_with fail
  refine (over_no H.out).mono ?_
  rintro e w' ⟨rfl, n, rfl⟩
  go_wp2_with fail
  go_quiet (fail)
  go_wp2_with fail
  have hwu : Upd [] w (w.drewN (n + nq)) := (Upd.refl _ _).drewN _
  generalize w.drewN (n + nq) = w1 at hwu ⊢
  have HT1 := Lib.hid (H.out.below hwu)
  have HJ1 := Lib.hid (HJ.out.below hwu)
  have HU1 := Lib.hid hwu
  clear hwu c0 c2
  refine (abort_spec HT1.out).mono ?_
  rintro e w2 ⟨rfl, hst2, hwt2, hu2⟩
  have HJ2 := Lib.hid (HJ1.out.tx HT1.out hne2.out hu2 (by simp))
  have HST2 := Lib.hid hst2
  have HWT2 := Lib.hid hwt2
  have HU2 := Lib.hid ((HU1.out.mono (by simp)).trans hu2)
  have c1 : w2.cell? ⟨t.tb, 1, none⟩ = some (.int .u64 turn) := by rw [blk_cell hst2]; rfl
  have hlt2 : t.tb < w2.heap.size := blk_lt hst2
  clear hst2 hwt2 hu2
  have HTU : ∀ m, Hid (Calls Try.prog 25 #[.pointer (some ⟨j.jb, 0, none⟩)] (w2.drewN m) fun e w' => e = .returned (.int .u64 (J.turn - 1)) ∧ ∃ k, w' = (w2.drewN m).drewN k) := fun m => Lib.hid ((turn_spec (HJ2.out.drewN m)).mono fun e w' ⟨he, hw⟩ => ⟨he, 0, hw.symm⟩)
  go_wp2_with fail
  by_cases htu : J.turn - 1 = turn
  · have hb : (J.turn - 1 != turn) = false := by simp [htu]
    have HRES : Hid (J.txD D turn (txL M hm) = J.comD D (txL M hm) ∧ J.txJ D turn (txL M hm) = J.com D (txL M hm)) := by
      show _ ∧ _
      unfold Jn.txD Jn.txJ
      rw [if_neg (by simpa using htu), if_neg (by simpa using htu)]; exact ⟨rfl, rfl⟩
    clear htu
    go_quiet ((go_at_call 25; exact Calls.quiet_of (HTU _).out))
    go_wp2_with fail
    have hq3 : Upd [] w2 (w2.drewN nq) := (Upd.refl _ _).drewN _
    generalize w2.drewN nq = w3 at hq3 ⊢
    have HJ3 := Lib.hid (HJ2.out.below hq3)
    have HST3 : Hid (w3.heap[t.tb]? = _) := (hq3.block _ (blk_lt HST2.out) (by simp)).trans HST2.out
    have HWT3 : Hid (WaitM w3 AnyF t.wb M) := by
      obtain ⟨f, hf, _⟩ := id HWT2.out
      exact HWT2.out.world (hq3.block _ hf.lt (by simp)) fun k c _ e => hq3.block _ (blk_lt e) (by simp)
    have HU3 := Lib.hid (HU2.out.trans (hq3.mono (by simp)))
    clear hq3 c1
    obtain ⟨f, hf, hf1, hf2⟩ := HWT3.out
    obtain ⟨hk1, hk2⟩ := keysF_M HO.out hf1 hf2
    have cS := sorted_call hf hm (by have := HM1.out; omega) hk2
    rw [hk1] at cS
    have CS := Lib.hid cS
    have hkl : (keysM M hm).length ≤ 5000 := by have := cntM_le M hm; unfold cntM at this; have := HM1.out; omega
    clear hf hf1 hf2 hk1 hk2 cS
    go_wp2_with (first | (go_at_call 67; refine (keys_call _ _).mono ?_; rintro e w' ⟨rfl, rfl⟩) | fail)
    refine CS.out.mono ?_
    rintro e w4 ⟨vw, rfl, hrow, hu4⟩
    have hrl : RdL w4 [] vw ((keysM M hm).map fun i : Nat => .int .i64 (i : Int)) := RdL.of_row (by simpa using hrow) (by simp)
    obtain ⟨aw, capw, rfl, hcapw, _⟩ := id hrl
    simp only [List.length_map] at hrl hrow ⊢
    have HRL := Lib.hid hrl
    have HJ4 := Lib.hid (HJ3.out.below hu4)
    have HST4 : Hid (w4.heap[t.tb]? = _) := (hu4.block _ (blk_lt HST3.out) (by simp)).trans HST3.out
    have HWT4 : Hid (WaitM w4 AnyF t.wb M) := by
      obtain ⟨f, hf, _⟩ := id HWT3.out
      exact HWT3.out.world (hu4.block _ hf.lt (by simp)) fun k c _ e => hu4.block _ (blk_lt e) (by simp)
    have HU4 := Lib.hid (HU3.out.trans (hu4.mono (by simp)))
    clear hrl hu4 hrow hcapw
    go_wp2_with fail
    go_loopw [5, 31] (fun m i wr => ∃ k : Nat, k ≤ (keysM M hm).length ∧ i = .int .i64 (k : Int) ∧ PutsOwnB wr w4.heap.size AnyF m ((txL M hm).take k) ∧ Upd [] w4 wr) (fun _ i _ => (keysM M hm).length - (intOf i).toNat)
    case atStart => exact ⟨0, Nat.zero_le _, rfl, ⟨[], ⟨by simp [putCells], .inl ⟨rfl, rfl⟩⟩, by simp, by simp⟩, Upd.refl _ _⟩
    case round =>
      obtain ⟨k, hk, rfl, hm', hu⟩ := hrel
      obtain ⟨am, nm, cm, rfl⟩ := hm'.shape3
      by_cases hltk : k < (keysM M hm).length
      · have hlt' : decide ((k : Int) < ((keysM M hm).length : Int)) = true := by simpa using hltk
        obtain ⟨aw', capw', e, _, hh⟩ := HRL.out.upd hu (fun _ h => h)
        simp only [List.length_map, Value.slice.injEq] at e hh
        obtain ⟨rfl, _, rfl⟩ := e
        obtain ⟨wb, woff, _, rfl, hcw⟩ := hh (by omega)
        have hcell := hcw k hltk
        rw [List.getElem_map] at hcell
        have HTL := Lib.hid (txL_get M hm hltk)
        have hsm := (mem_keysM HO.out).1 (List.getElem_mem hltk)
        obtain ⟨i, hi⟩ : ∃ i, i = (keysM M hm)[k] := ⟨_, rfl⟩
        rw [← hi] at hcell HTL hsm
        obtain ⟨s, hs⟩ := Option.isSome_iff_exists.1 hsm
        rw [hs] at HTL
        have hwr : WaitM wr AnyF t.wb M := by
          obtain ⟨f, hf, _⟩ := id HWT4.out
          exact HWT4.out.world (hu.block _ hf.lt (by simp)) fun k c _ e => hu.block _ (blk_lt e) (by simp)
        rcases hwr.look (i : Int) with ⟨v, s', _, hs', ho, _, hl2⟩ | ⟨hno, _⟩
        rotate_left
        · rcases hno with q | q
          · omega
          · rw [Int.toNat_natCast, hs] at q; simp at q
        rw [Int.toNat_natCast, hs] at hs'
        obtain rfl : s = s' := by simpa using hs'
        obtain ⟨kx, rest, hFx, rfl, hbx⟩ := ho
        have hl2' : (Instr.lookup 49 (.map (some t.wb)) (.int .i64 (i : Int)) false).run Try.prog wr = .ok (.slice (some ⟨kx, 0, none⟩) s.length (s.length + rest.length)) wr := hl2 0
        have hi0 : (0 : Int) ≤ (k : Int) := by omega
        have hi1 : (k : Int) < ((keysM M hm).length : Int) := by omega
        obtain ⟨a', b', c', w5, hrun, hm5, _, hu5, _⟩ := puts_push hm' (by rw [List.length_take]; omega) hu.size hu (Nat.le_refl _) (i : Int) kx s.length (s.length + rest.length) s ⟨kx, rest, hFx, rfl, hbx⟩
        rw [show (some s).getD [] = s from rfl] at HTL
        rw [← HTL.out] at hm5
        have HM5 := Lib.hid hm5
        have HU5 := Lib.hid hu5
        clear hm' hu hcw hh hsm hi hs hwr hs' hFx hbx hl2 hm5 hu5
        go_wp2_with (at_builtin; refine wpList_append_run rfl _ _ _ rfl rfl rfl hrun ?_)
        exact ⟨⟨k + 1, by omega, by go_num, HM5.out, HU5.out⟩, by simp [intOf]; omega⟩
      · obtain rfl : k = (keysM M hm).length := by omega
        have hlt' : decide (((keysM M hm).length : Int) < ((keysM M hm).length : Int)) = false := by simp
        have htk : (txL M hm).take (keysM M hm).length = txL M hm := List.take_of_length_le (by unfold txL; rw [List.length_map]; exact Nat.le_refl _)
        rw [htk] at hm'
        have HJ5 := Lib.hid (HJ4.out.below hu)
        have HC := Lib.hid (com_spec (HJ4.out.below hu) _ (txL M hm) hm'.own.at (by unfold txL; rw [List.length_map]; omega) HUS.out)
        have HST5 : Hid (wr.heap[t.tb]? = _) := (hu.block _ (blk_lt HST4.out) (by simp)).trans HST4.out
        have HU5 := Lib.hid (HU4.out.trans (hu.mono (by simp)))
        clear hm' hu htk
        go_wp2_with fail
        refine HC.out.mono ?_
        rintro e w6 ⟨rfl, hj6, hu6⟩
        have HJ6 := Lib.hid hj6.any
        have HST6 : Hid (w6.heap[t.tb]? = _) := (hu6.block _ (blk_lt HST5.out) (HJ5.out.kind HST5.out (by decide) (by decide) (by decide))).trans HST5.out
        have HU6 := Lib.hid ((HU5.out.mono (T := t.tb :: j.all) (by simp)).trans (hu6.mono (by intro q hq; simp [hq])))
        clear hj6 hu6
        go_wp2_with fail
        go_ret
        rw [HRES.out.1, HRES.out.2]
        exact ⟨rfl, .inr ⟨_, _, rfl, HST6.out⟩, HJ6.out, HU6.out⟩
  · have hb : (J.turn - 1 != turn) = true := by simpa using htu
    have HRES : Hid (J.txD D turn (txL M hm) = (D, 10) ∧ J.txJ D turn (txL M hm) = J) := by
      show _ ∧ _
      unfold Jn.txD Jn.txJ
      rw [if_pos htu, if_pos htu]; exact ⟨rfl, rfl⟩
    clear htu
    go_quiet ((go_at_call 25; exact Calls.quiet_of (HTU _).out))
    go_wp2_with fail
    go_ret
    rw [HRES.out.1, HRES.out.2]
    exact ⟨rfl, .inr ⟨_, _, rfl, HST2.out⟩, HJ2.out.drewN _, (HU2.out.mono (by simp)).drewN _⟩

end Go.Proofs.Ythbgidiblcokhaa
