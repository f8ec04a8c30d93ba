/-
  Transactions: Begin, Read, Write.
-/
import Derived.Test.YthbgidiblcokhaaTxA
namespace Go.Proofs.Ythbgidiblcokhaa
open Go.RowKit Go.MapKept Go.ChangeMaps

theorem PutsAt.nil (w : World) : PutsAt w (.slice none 0 0) [] := ⟨[], ⟨by simp [putCells], .inl ⟨rfl, rfl⟩⟩, rfl, by simp⟩
theorem com_nothing {J : Jn} {D : Dk} (hr : 8 ≤ J.last.ring) (hm : J.may D = 0) : J.comD D [] = (D, 0) ∧ J.com D [] = J := by
  have hf : J.fits D.n [] = 0 := by
    unfold Jn.fits
    have : fitsL (J.homes D.n) [] [] = 0 := rfl
    rw [this, if_neg (by simp), if_neg (by simp; omega)]
  constructor
  · unfold Jn.comD; rw [if_neg (by simpa using hm), if_neg (by simpa using hf), if_pos rfl]
  · unfold Jn.com; rw [if_neg (by simpa using hm), if_neg (by simpa using hf), if_pos rfl]

set_option maxRecDepth 100000 in
set_option maxHeartbeats 1000000 in
theorem begin_ok {w : World} {j : JG} {J : Jn} {D : Dk} (h : JnAt w AnyF j J D) (hm : J.may D = 0) (hus : J.used ≤ 5000) :
    Calls Try.prog 39 #[.pointer (some ⟨j.jb, 0, none⟩)] w fun e w' => ∃ t : TG, e = .returned (.tuple #[.pointer (some ⟨t.tb, 0, none⟩), .int .i64 0]) ∧ w.heap.size ≤ t.tb ∧ w.heap.size ≤ t.wb ∧ TxAt w' t j.jb (J.turn - 1) (fun _ => none) ∧ JnAt w' AnyF j J D ∧ Upd j.all w w' := by
  obtain ⟨q1, q2⟩ := com_nothing h.ok.ring0 hm
  have HC := Lib.hid (com_spec h _ [] (PutsAt.nil w) (by simp) hus)
  unfold ComPost at HC
  rw [q1, q2] at HC
  have hmm := @run_makeMap Try.prog
  clear h q1 q2 hm
  go_enter Try.func39, Try.ntmps39
  go_wp2_with fail
  refine HC.out.mono ?_
  rintro e w1 ⟨rfl, hj1, hu1⟩
  have HJ1 := Lib.hid hj1.any
  have HU1 := Lib.hid hu1
  have HTU := Lib.hid (turn_spec HJ1.out)
  clear hj1 hu1
  go_wp2_with fail
  refine HTU.out.mono ?_
  rintro e w' ⟨rfl, rfl⟩
  go_wp2_with fail
  go_ret2
  have hb1 := blk_alloc (w := w1.alloc (.map #[] 0)) (.cells #[.pointer (some ⟨j.jb, 0, none⟩), .int .u64 (J.turn - 1), .map (some w1.heap.size)] 83)
  rw [World.size_alloc] at hb1
  have hb0 : ((w1.alloc (.map #[] 0)).alloc (.cells #[.pointer (some ⟨j.jb, 0, none⟩), .int .u64 (J.turn - 1), .map (some w1.heap.size)] 83)).heap[w1.heap.size]? = some (.map #[] 0) := by
    rw [blk_alloc_ne (by simp)]; exact blk_alloc _
  have hu2 : Upd [] w1 ((w1.alloc (.map #[] 0)).alloc (.cells #[.pointer (some ⟨j.jb, 0, none⟩), .int .u64 (J.turn - 1), .map (some w1.heap.size)] 83)) := ((Upd.refl _ _).alloc _).alloc _
  have hs := HU1.out.size
  exact ⟨⟨w1.heap.size + 1, w1.heap.size⟩, rfl, by show w.heap.size ≤ w1.heap.size + 1; omega, hs, ⟨hb1, ⟨fun _ => none, MapI.made hb0, by simp, by simp⟩⟩, HJ1.out.below hu2, HU1.out.trans (hu2.mono (by simp))⟩

set_option maxRecDepth 100000 in
set_option maxHeartbeats 1000000 in
theorem begin_dead {w : World} {j : JG} {J : Jn} {D : Dk} (h : JnAt w AnyF j J D) (hm : J.may D ≠ 0) :
    Calls Try.prog 39 #[.pointer (some ⟨j.jb, 0, none⟩)] w fun e w' => e = .returned (.tuple #[.pointer none, .int .i64 8]) ∧ JnAt w' AnyF j J D ∧ Upd j.all w w' := by
  have HC := Lib.hid (com_dead h (.slice none 0 0) [] hm)
  have e1 : J.comD D [] = (D, 8) := by unfold Jn.comD; rw [if_pos hm]
  have e2 : J.com D [] = J := by unfold Jn.com; rw [if_pos hm]
  unfold ComPost at HC
  rw [e1, e2] at HC
  clear h e1 e2 hm
  go_enter Try.func39, Try.ntmps39
  go_wp2_with fail
  refine HC.out.mono ?_
  rintro e w1 ⟨rfl, hj1, hu1⟩
  have HJ1 := Lib.hid hj1.any
  have HU1 := Lib.hid hu1
  clear hj1 hu1
  go_wp2_with fail
  go_ret2
  exact ⟨rfl, HJ1.out, HU1.out⟩
set_option maxRecDepth 100000 in
set_option maxHeartbeats 1000000 in
theorem begin_nil (w : World) : Calls Try.prog 39 #[.pointer none] w fun e w' => e = .returned (.tuple #[.pointer none, .int .i64 1]) ∧ ∃ n, w' = w.drewN n := by
  have H := Lib.hid (com_nil (.slice none 0 0) w)
  go_enter Try.func39, Try.ntmps39
  go_wp2_with fail
  refine H.out.mono ?_
  rintro e w1 ⟨rfl, n, rfl⟩
  go_wp2_with fail
  go_ret2
  exact ⟨rfl, _, rfl⟩

/-! ## Read -/

set_option maxHeartbeats 400000 in
theorem readT_over {w : World} {v : Value} (h : OverV w v) (i : Int) :
    Calls Try.prog 44 #[v, .int .i64 i] w fun e w' => e = .returned (.tuple #[.slice none 0 0, .int .i64 5]) ∧ ∃ n, w' = w.drewN n := by
  have H := Lib.hid h
  clear h
  go_enter Try.func44, Try.ntmps44
  go_wp2_with fail
  refine (over_yes H.out).mono ?_
  rintro e w' ⟨rfl, n, rfl⟩
  go_wp2_with fail
  go_ret2
  exact ⟨rfl, _, rfl⟩

/-- What Read answers, and whether the journal is done behind it. -/
def readTx (J : Jn) (D : Dk) (M : Nat → Option Sec) (i : Int) : List UInt8 × Int × Bool :=
  if 0 ≤ i ∧ (M i.toNat).isSome then ((M i.toNat).getD [], 0, J.done) else J.read D i
set_option maxRecDepth 100000 in
set_option maxHeartbeats 1000000 in
theorem readT_spec {w : World} {t : TG} {j : JG} {turn : Int} {M : Nat → Option Sec} (h : TxAt w t j.jb turn M) {J : Jn} {D : Dk} (hj : JnAt w AnyF j J D) (hne : t.wb ∉ j.all) {hm : Nat} (ho : MOk M hm) (i : Int) :
    Calls Try.prog 44 #[.pointer (some ⟨t.tb, 0, none⟩), .int .i64 i] w fun e w' => ∃ v, e = .returned (.tuple #[v, .int .i64 (readTx J D M i).2.1]) ∧ OwnN w' 5 (fun k => w.heap.size ≤ k) v (readTx J D M i).1 ∧ JnAt w' AnyF j { J with done := (readTx J D M i).2.2 } D ∧ TxAt w' t j.jb turn M ∧ Upd [j.jb] w w' := by
  have H := Lib.hid h
  have HJ := Lib.hid hj
  have hc := blk_cell h.st
  have hne2 := Lib.hid hne
  rcases h.wrote.look i with ⟨v, s, h0, hs, hown, hl1, _⟩ | ⟨hno, hl1⟩
  · have HL := Lib.hid (ho _ _ hs).2
    have hR : readTx J D M i = (s, 0, J.done) := by unfold readTx; rw [if_pos ⟨h0, by rw [hs]; rfl⟩, hs]; rfl
    have HRD := Lib.hid hown.rd
    have HR := Lib.hid hR
    clear h hj hne hs hown hR
    go_enter Try.func44, Try.ntmps44
    go_wp2_with fail
    refine (over_no H.out).mono ?_
    rintro e w' ⟨rfl, n, rfl⟩
    go_wp2_with fail
    refine (clone_spec v s _ (HRD.out.drewN n) (by rw [HL.out]; omega)).mono ?_
    rintro e w2 ⟨v', rfl, hu2, ho2⟩
    have HU2 := Lib.hid hu2
    have HO2 := Lib.hid ho2
    clear hu2 ho2
    go_wp2_with fail
    go_ret2
    rw [HR.out]
    exact ⟨_, rfl, HO2.out, (HJ.out.drewN _).below HU2.out, (H.out.drewN _).below HU2.out, (((Upd.refl _ _).drewN _).trans HU2.out).mono (by simp)⟩
  · have hR : readTx J D M i = J.read D i := by
      unfold readTx; rw [if_neg]
      rintro ⟨a, b⟩
      rcases hno with q | q
      · omega
      · rw [q] at b; simp at b
    have HR := Lib.hid hR
    have HRJ := fun n => Lib.hid (readJ_spec (hj.drewN n) i)
    clear h hj hne hno hR
    go_enter Try.func44, Try.ntmps44
    go_wp2_with fail
    refine (over_no H.out).mono ?_
    rintro e w' ⟨rfl, n, rfl⟩
    go_wp2_with fail
    refine (HRJ n).out.mono ?_
    rintro e w2 ⟨v, rfl, ho2, hj2, hu2⟩
    have HU2 := Lib.hid hu2
    have HO2 := Lib.hid ho2
    have HJ2 := Lib.hid hj2
    clear hu2 ho2 hj2
    go_wp2_with fail
    go_ret2
    rw [HR.out]
    exact ⟨_, rfl, HO2.out, HJ2.out, (H.out.drewN n).jn (HJ.out.drewN n) hne2.out HU2.out (by intro k hk; simp at hk; simp [JG.all, hk]), ((Upd.refl _ _).drewN n).trans HU2.out⟩

/-! ## Write -/

/-- The error of a Write; 0: it is written. -/
def wrE (M : Nat → Option Sec) (hm : Nat) (i : Int) (len : Nat) : Int :=
  if i < 0 ∨ (hm : Int) ≤ i then 1 else if len ≠ 512 then 9 else if M i.toNat = none ∧ 40 ≤ cntM M hm then 2 else 0
def wrM (M : Nat → Option Sec) (hm : Nat) (i : Int) (b : List UInt8) : Nat → Option Sec :=
  if wrE M hm i b.length = 0 then (fun k => if k = i.toNat then some b else M k) else M
theorem wrE_ok {M : Nat → Option Sec} {hm : Nat} {i : Int} {n : Nat} (h : wrE M hm i n = 0) : 0 ≤ i ∧ i < hm ∧ n = 512 ∧ (M i.toNat = none → cntM M hm < 40) := by
  unfold wrE at h
  split at h
  · omega
  · split at h
    · omega
    · split at h
      · omega
      · rename_i a b c
        refine ⟨by omega, by omega, by omega, fun q => ?_⟩
        exact Nat.lt_of_not_le fun r => c ⟨q, r⟩
theorem MOk.wr {M : Nat → Option Sec} {hm : Nat} (ho : MOk M hm) (i : Int) (b : List UInt8) : MOk (wrM M hm i b) hm := by
  unfold wrM
  split
  · rename_i h
    obtain ⟨a1, a2, a3, _⟩ := wrE_ok h
    exact ho.put (by omega) a3
  · exact ho
set_option maxHeartbeats 400000 in
theorem writeT_over {w : World} {v : Value} (h : OverV w v) (i : Int) (a : Option Addr) (n c : Nat) :
    Calls Try.prog 40 #[v, .int .i64 i, .slice a n c] w fun e w' => e = .returned (.int .i64 5) ∧ ∃ n, w' = w.drewN n := by
  have H := Lib.hid h
  clear h
  go_enter Try.func40, Try.ntmps40
  go_wp2_with fail
  refine (over_yes H.out).mono ?_
  rintro e w' ⟨rfl, n, rfl⟩
  go_wp2_with fail
  go_ret
  exact ⟨rfl, _, rfl⟩
theorem WaitM.look2 {w : World} {F : Nat → Prop} {mb : Nat} {M : Nat → Option Sec} (hw : WaitM w F mb M) (i : Int) :
    ∃ (v0 : Value) (mine : Bool), (∀ n, (Instr.lookup 49 (.map (some mb)) (.int .i64 i) true).run Try.prog (w.drewN n) = .ok (.tuple #[v0, .bool mine]) (w.drewN n)) ∧ (mine = true ↔ 0 ≤ i ∧ (M i.toNat).isSome = true) := by
  rcases hw.look i with ⟨v, s, h0, hs, _, h1, _⟩ | ⟨hno, h1⟩
  · exact ⟨v, true, h1, by simp [h0, hs]⟩
  · refine ⟨.slice none 0 0, false, h1, ?_⟩
    constructor
    · intro q; simp at q
    · rintro ⟨a, b⟩
      rcases hno with q | q
      · omega
      · rw [q] at b; simp at b
/-- The map behind a Write. -/
theorem writeT_map {w w2 : World} {t : TG} {jb : Nat} {turn : Int} {M : Nat → Option Sec} (h : TxAt w t jb turn M) {i : Nat} {b : List UInt8} (hb : 0 < b.length) (hu : Upd [] w w2) {v : Value} {F : Nat → Prop} (ho : OwnN w2 5 F v b) :
    ∃ o, (Instr.mapUpdate 49 (.map (some t.wb)) (.int .i64 (i : Int)) v).run Try.prog w2 = .ok () (setBlock w2 t.wb o) ∧ TxAt (setBlock w2 t.wb o) t jb turn (fun k => if k = i then some b else M k) ∧ (setBlock w2 t.wb o).cell? ⟨t.tb, 2, none⟩ = some (.map (some t.wb)) ∧ Upd [t.wb] w (setBlock w2 t.wb o) := by
  have h2 : TxAt w2 t jb turn M := h.below hu
  obtain ⟨o, hrun, hmap⟩ := h2.wrote.update (i : Int) (by omega) v b ((ho.own hb).mono (fun _ _ => trivial))
  rw [Int.toNat_natCast] at hmap
  have hne : t.tb ≠ t.wb := fun e => h2.map (by rw [← e]; exact h2.st)
  have hst : (setBlock w2 t.wb o).heap[t.tb]? = _ := (setBlock_ne o hne).trans h2.st
  refine ⟨o, hrun, ⟨hst, hmap⟩, ?_, (hu.mono (by simp)).setBlock _ (.inl (by simp))⟩
  rw [blk_cell hst]; rfl
set_option maxRecDepth 100000 in
set_option maxHeartbeats 2000000 in
theorem writeT_spec {w : World} {t : TG} {j : JG} {turn : Int} {M : Nat → Option Sec} (h : TxAt w t j.jb turn M) {J : Jn} {D : Dk} (hj : JnAt w AnyF j J D) (hne : t.wb ∉ j.all) {hm : Nat} (ho : MOk M hm) (hh : J.homes D.n = hm) (i : Int) (v : Value) (b : List UInt8) (hr : Rd w v b) (hb : b.length ≤ 1000000) :
    Calls Try.prog 40 #[.pointer (some ⟨t.tb, 0, none⟩), .int .i64 i, v] w fun e w' => e = .returned (.int .i64 (wrE M hm i b.length)) ∧ TxAt w' t j.jb turn (wrM M hm i b) ∧ JnAt w' AnyF j J D ∧ Upd [t.wb] w w' := by
  obtain ⟨av, cv, rfl, _⟩ := id hr
  have H := Lib.hid h
  have HJ := Lib.hid hj
  have HR := Lib.hid hr
  have hc := blk_cell h.st
  have hne2 := Lib.hid hne
  have HO := Lib.hid ho
  have HLB := Lib.hid hb
  have HHM := fun n => Lib.hid (homes_spec (hj.drewN n))
  rw [hh] at HHM
  have HLEN := Lib.hid (h.wrote.len ho)
  obtain ⟨v0, mine, hl, hmine⟩ := h.wrote.look2 i
  have hh1 : hm ≤ 5000 := by have := hj.disk.ok.n1; unfold Jn.homes at hh; omega
  clear h hj hr hne ho hb hh
  by_cases b1 : i < 0
  · have d1 : decide (i < 0) = true := by simpa using b1
    have HE : Hid (wrE M hm i b.length = 1) := by show _ = _; unfold wrE; rw [if_pos (.inl b1)]
    have HM : Hid (wrM M hm i b = M) := by show _ = _; unfold wrM; rw [if_neg (by rw [HE.out]; decide)]
    clear hmine b1
    go_enter Try.func40, Try.ntmps40
    go_wp2_with fail
    refine (over_no H.out).mono ?_
    rintro e w' ⟨rfl, n, rfl⟩
    go_wp2_with fail
    go_ret
    rw [HE.out, HM.out]
    exact ⟨rfl, H.out.drewN _, HJ.out.drewN _, (Upd.refl _ _).drewN _⟩
  obtain ⟨iN, rfl⟩ := Int.eq_ofNat_of_zero_le (show 0 ≤ i by omega)
  have d1 : decide ((iN : Int) < 0) = false := by simp
  by_cases b2 : hm ≤ iN
  · have d2 : decide (hm ≤ iN) = true := by simpa using b2
    have HE : Hid (wrE M hm (iN : Int) b.length = 1) := by show _ = _; unfold wrE; rw [if_pos (.inr (by omega))]
    have HM : Hid (wrM M hm (iN : Int) b = M) := by show _ = _; unfold wrM; rw [if_neg (by rw [HE.out]; decide)]
    clear hmine b1 b2
    go_enter Try.func40, Try.ntmps40
    go_wp2_with fail
    refine (over_no H.out).mono ?_
    rintro e w' ⟨rfl, n, rfl⟩
    go_wp2_with fail
    refine (HHM n).out.mono ?_
    rintro e w' ⟨rfl, m, rfl⟩
    go_wp2_with fail
    go_ret
    rw [HE.out, HM.out]
    exact ⟨rfl, H.out.drewN _, HJ.out.drewN _, (Upd.refl _ _).drewN _⟩
  have d2 : decide (hm ≤ iN) = false := by simpa using b2
  by_cases b3 : b.length = 512
  · have d3 : ((b.length : Int) != 512) = false := by simp [b3]
    have HLB2 : Hid (0 < b.length) := by show 0 < _; omega
    have hor : (mine = true ∧ M iN ≠ none) ∨ (mine = false ∧ M iN = none ∧ 40 ≤ cntM M hm) ∨ (mine = false ∧ cntM M hm < 40) := by
      cases hmi : mine with
      | true =>
        left; refine ⟨rfl, fun q => ?_⟩
        have := (hmine.1 hmi).2
        rw [Int.toNat_natCast, q] at this; simp at this
      | false =>
        right
        have hn : M iN = none := by
          cases hq : M iN with
          | none => rfl
          | some s => exact absurd (hmine.2 ⟨by omega, by rw [Int.toNat_natCast, hq]; rfl⟩) (by simp [hmi])
        by_cases q : 40 ≤ cntM M hm
        · exact .inl ⟨rfl, hn, q⟩
        · exact .inr ⟨rfl, by omega⟩
    clear hmine
    have hc5 : cntM M hm ≤ 5000 := by have := cntM_le M hm; omega
    rcases hor with ⟨rfl, b4⟩ | ⟨rfl, b4, b5⟩ | ⟨rfl, b4⟩
    · have HE : Hid (wrE M hm (iN : Int) b.length = 0) := by show _ = _; unfold wrE; rw [if_neg (by omega), if_neg (by simpa using b3), if_neg (fun q => b4 q.1)]
      have HM : Hid (wrM M hm (iN : Int) b = fun k => if k = iN then some b else M k) := by show _ = _; unfold wrM; rw [if_pos HE.out, Int.toNat_natCast]
      clear b1 b2 b3 b4
      go_enter Try.func40, Try.ntmps40
      go_wp2_with fail
      refine (over_no H.out).mono ?_
      rintro e w' ⟨rfl, n, rfl⟩
      go_wp2_with fail
      refine HHM n |>.out.mono ?_
      rintro e w' ⟨rfl, m, rfl⟩
      have q : Qt w ((w.drewN n).drewN m) := (Qt.of_drewN (n := n) rfl).trans (Qt.of_drewN rfl)
      have hlen2 : ∀ ty, (Builtin.len_ #[49] ty #[.map (some t.wb)]).run Try.prog ((w.drewN n).drewN m) = .ok (goInt (cntM M hm : Int)) ((w.drewN n).drewN m) := fun ty => by rw [World.drewN_drewN]; exact HLEN.out ty _
      generalize (w.drewN n).drewN m = W at q hlen2 ⊢
      have HTW := Lib.hid (H.out.below q.upd)
      have HJW := Lib.hid (HJ.out.below q.upd)
      have HRW := Lib.hid (HR.out.below q.upd)
      have cW := blk_cell HTW.out.st
      have cW2 : W.cell? ⟨t.tb, 2, none⟩ = some (.map (some t.wb)) := by rw [cW]; rfl
      have HQ := Lib.hid q
      clear q cW hl hc
      go_wp2_with fail
      clear hlen2
      go_region_held3 (fun w' => w'.cell? ⟨t.tb, 2, none⟩ = some (.map (some t.wb))) (go_keep)
        (first | (go_at_call 62; (with_reducible refine (clone_spec _ b _ ?_ ?_).mono ?_); exact HRW.out; exact HLB.out; rintro e w2 ⟨v', rfl, hu2, ho2⟩; obtain ⟨o, hrun, hmap, hcell, hus⟩ := writeT_map (i := iN) (HTW.out.below (Upd.refl _ _).drew) HLB2.out hu2 ho2; have HMAP := Lib.hid hmap; have HUS := Lib.hid hus; have hc2 : w2.cell? ⟨t.tb, 2, none⟩ = some (.map (some t.wb)) := (World.cell?_of_block (hu2.block _ HTW.out.lt.1 (by simp))).trans cW2; clear hu2 ho2 hmap hus))
      go_wp2_with fail
      go_ret
      rw [HE.out, HM.out]
      exact ⟨rfl, HMAP.out, (HJW.out.below (Upd.refl _ _).drew).tx (HTW.out.below (Upd.refl _ _).drew) hne2.out HUS.out (by simp), ((HQ.out.upd.drew).mono (by simp)).trans HUS.out⟩
    · have d5 : decide (40 ≤ (cntM M hm : Int)) = true := by simp; omega
      have HE : Hid (wrE M hm (iN : Int) b.length = 2) := by show _ = _; unfold wrE; rw [if_neg (by omega), if_neg (by simpa using b3), if_pos ⟨by rw [Int.toNat_natCast]; exact b4, b5⟩]
      have HM : Hid (wrM M hm (iN : Int) b = M) := by show _ = _; unfold wrM; rw [if_neg (by rw [HE.out]; decide)]
      have hlen := HLEN.out
      clear b1 b2 b3 b4 b5
      go_enter Try.func40, Try.ntmps40
      go_wp2_with fail
      refine (over_no H.out).mono ?_
      rintro e w' ⟨rfl, n, rfl⟩
      go_wp2_with fail
      refine (HHM n).out.mono ?_
      rintro e w' ⟨rfl, m, rfl⟩
      go_wp2_with fail
      go_ret
      rw [HE.out, HM.out]
      exact ⟨rfl, H.out.drewN _, HJ.out.drewN _, (Upd.refl _ _).drewN _⟩
    · have d5 : decide (40 ≤ (cntM M hm : Int)) = false := by simp; omega
      have HE : Hid (wrE M hm (iN : Int) b.length = 0) := by show _ = _; unfold wrE; rw [if_neg (by omega), if_neg (by simpa using b3), if_neg (fun q => by have := q.2; omega)]
      have HM : Hid (wrM M hm (iN : Int) b = fun k => if k = iN then some b else M k) := by show _ = _; unfold wrM; rw [if_pos HE.out, Int.toNat_natCast]
      clear b1 b2 b3 b4
      go_enter Try.func40, Try.ntmps40
      go_wp2_with fail
      refine (over_no H.out).mono ?_
      rintro e w' ⟨rfl, n, rfl⟩
      go_wp2_with fail
      refine HHM n |>.out.mono ?_
      rintro e w' ⟨rfl, m, rfl⟩
      have q : Qt w ((w.drewN n).drewN m) := (Qt.of_drewN (n := n) rfl).trans (Qt.of_drewN rfl)
      have hlen2 : ∀ ty, (Builtin.len_ #[49] ty #[.map (some t.wb)]).run Try.prog ((w.drewN n).drewN m) = .ok (goInt (cntM M hm : Int)) ((w.drewN n).drewN m) := fun ty => by rw [World.drewN_drewN]; exact HLEN.out ty _
      generalize (w.drewN n).drewN m = W at q hlen2 ⊢
      have HTW := Lib.hid (H.out.below q.upd)
      have HJW := Lib.hid (HJ.out.below q.upd)
      have HRW := Lib.hid (HR.out.below q.upd)
      have cW := blk_cell HTW.out.st
      have cW2 : W.cell? ⟨t.tb, 2, none⟩ = some (.map (some t.wb)) := by rw [cW]; rfl
      have HQ := Lib.hid q
      clear q cW hl hc
      go_wp2_with fail
      clear hlen2
      go_region_held3 (fun w' => w'.cell? ⟨t.tb, 2, none⟩ = some (.map (some t.wb))) (go_keep)
        (first | (go_at_call 62; (with_reducible refine (clone_spec _ b _ ?_ ?_).mono ?_); exact HRW.out; exact HLB.out; rintro e w2 ⟨v', rfl, hu2, ho2⟩; obtain ⟨o, hrun, hmap, hcell, hus⟩ := writeT_map (i := iN) (HTW.out.below (Upd.refl _ _).drew) HLB2.out hu2 ho2; have HMAP := Lib.hid hmap; have HUS := Lib.hid hus; have hc2 : w2.cell? ⟨t.tb, 2, none⟩ = some (.map (some t.wb)) := (World.cell?_of_block (hu2.block _ HTW.out.lt.1 (by simp))).trans cW2; clear hu2 ho2 hmap hus))
      go_wp2_with fail
      go_ret
      rw [HE.out, HM.out]
      exact ⟨rfl, HMAP.out, (HJW.out.below (Upd.refl _ _).drew).tx (HTW.out.below (Upd.refl _ _).drew) hne2.out HUS.out (by simp), ((HQ.out.upd.drew).mono (by simp)).trans HUS.out⟩
  · have d3 : ((b.length : Int) != 512) = true := by simp; omega
    have HE : Hid (wrE M hm (iN : Int) b.length = 9) := by show _ = _; unfold wrE; rw [if_neg (by omega), if_pos b3]
    have HM : Hid (wrM M hm (iN : Int) b = M) := by show _ = _; unfold wrM; rw [if_neg (by rw [HE.out]; decide)]
    clear hmine b1 b2 b3
    go_enter Try.func40, Try.ntmps40
    go_wp2_with fail
    refine (over_no H.out).mono ?_
    rintro e w' ⟨rfl, n, rfl⟩
    go_wp2_with fail
    refine (HHM n).out.mono ?_
    rintro e w' ⟨rfl, m, rfl⟩
    go_wp2_with fail
    go_ret
    rw [HE.out, HM.out]
    exact ⟨rfl, H.out.drewN _, HJ.out.drewN _, (Upd.refl _ _).drewN _⟩

end Go.Proofs.Ythbgidiblcokhaa
