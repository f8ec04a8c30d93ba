/-
  What journal.Open does.
-/
import Derived.Test.YtceakcejchbbjaaGreatGM
namespace Go.Proofs.YtceakcejchbbjaaGreat
open Go.RowKit

set_option maxRecDepth 100000 in
set_option maxHeartbeats 400000 in
theorem open_nil (w : World) : Calls Tryz.prog 100 #[.pointer none] w fun e w' => e = .returned (.tuple #[.pointer none, .int .i64 1]) ∧ w = w' := by
  go_enter Tryz.func100, Tryz.ntmps100
  go_wp2_with (go_at_call 150; refine (len_nil _).mono ?_; rintro e w' ⟨rfl, rfl⟩)
  go_ret2
  exact ⟨rfl, rfl⟩

set_option maxRecDepth 100000 in
set_option maxHeartbeats 400000 in
theorem open_off {w : World} {F : Nat → Prop} {g : DG} {D : Dk} (h : DiskAt w F g D) (hoff : D.off = true) :
    Calls Tryz.prog 100 #[.pointer (some ⟨g.db, 0, none⟩)] w (OpenPost w F g D) := by
  have H := Lib.hid h
  have hn := h.ok.n0
  have hn' : ((D.n : Int) == 0) = false := beq_eq_false_iff_ne.2 (by omega)
  have HDD := Lib.hid (dead_spec h)
  rw [hoff] at HDD
  have HOFF := Lib.hid hoff
  clear h hoff
  go_enter Tryz.func100, Tryz.ntmps100
  go_wp2_with (first | (go_at_call 150; refine (len_spec H.out).mono ?_; rintro e w' ⟨rfl, rfl⟩) | (go_at_call 154; refine HDD.out.mono ?_; rintro e w' ⟨rfl, rfl⟩))
  go_ret2
  exact ⟨D, none, 8, .off HOFF.out, ⟨rfl, H.out.mono Gr.old⟩, Upd.refl _ _⟩

/-- The struct of a journal that is being opened. -/
def BootAt (w0 : World) (g : DG) (D : Dk) (k : Nat) (wr : World) : Prop :=
  wr.heap[w0.heap.size + 1]? = some (.cells #[.pointer (some ⟨g.db, 0, none⟩), .int .i64 D.lives, .bool false, .int .u64 (D.ancK k).number, .int .u64 (D.ancK k).turn, .int .i64 ((D.ancK k).place : Int), .int .i64 ((D.ancK k).ring : Int), .int .u64 0, .int .i64 0, .int .i64 0, .map (some w0.heap.size)] 197 (0, 0)) ∧
  wr.heap[w0.heap.size]? = some (.map #[] 0) ∧ Upd [] w0 wr

/-- The loop of Open over the commits that stand. -/
structure OpRel (w : World) (F : Nat → Prop) (g : DG) (D : Dk) (J : Jn) (b : Bool) (wr : World) : Prop where
  jn : JnAt wr (Gr F w.heap.size) ⟨w.heap.size + 1, w.heap.size, g⟩ J D
  upd : Upd [] w wr
  scan : ∀ J', Scan D J J' → Scan D D.boot J'
  no : b = false → J = D.boot
  yes : b = true → D.boot.stands D ≠ []
  last : J.last = D.anc
  turn : J.turn + (D.late D.anc.ring J.turn : Int) ≤ D.anc.turn + 1024
  used : J.used + 41 * D.late D.anc.ring J.turn ≤ 41984
theorem OpRel.start {w W : World} {F : Nat → Prop} {g : DG} {D : Dk} (h : JnAt W (Gr F w.heap.size) ⟨w.heap.size + 1, w.heap.size, g⟩ D.boot D) (hu : Upd [] w W) : OpRel w F g D D.boot false W := by
  have hr : D.anc.ring ≤ 1024 := h.ok.ring1
  have hl := Dk.late_le D D.anc.ring D.anc.turn
  refine ⟨h, hu, fun _ q => q, fun _ => rfl, fun q => by simp at q, rfl, ?_, ?_⟩
  · show D.anc.turn + (D.late D.anc.ring D.anc.turn : Int) ≤ _; omega
  · show 0 + 41 * D.late D.anc.ring D.anc.turn ≤ _; omega
theorem OpRel.next {w wr W : World} {F : Nat → Prop} {g : DG} {D : Dk} {J : Jn} {b : Bool} (h : OpRel w F g D J b wr) (hs : J.stands D ≠ []) (hj : JnAt W (Gr F w.heap.size) ⟨w.heap.size + 1, w.heap.size, g⟩ (J.note (J.stands D)) D) (hu : Upd [] w W) :
    OpRel w F g D (J.note (J.stands D)) true W := by
  have hlt := Jn.late_lt h.jn.ok.place hs
  have hl := (Jn.stands_in (J := J) h.jn.disk.ok).1
  rw [h.last] at hlt
  have ht := h.turn
  have hus := h.used
  refine ⟨hj, hu, fun _ q => h.scan _ (.step hs q), fun q => by simp at q, fun _ => ?_, h.last, ?_, ?_⟩
  · cases b with
    | false => rw [h.no rfl] at hs; exact hs
    | true => exact h.yes rfl
  · show J.turn + 1 + (D.late D.anc.ring (J.turn + 1) : Int) ≤ _; omega
  · show J.used + (1 + (J.stands D).length) + 41 * D.late D.anc.ring (J.turn + 1) ≤ _; omega

set_option maxRecDepth 100000 in
set_option maxHeartbeats 4000000 in
theorem open_main {w : World} {F : Nat → Prop} {g : DG} {D : Dk} (h : DiskAt w F g D) (hoff : D.off = false) :
    Calls Tryz.prog 100 #[.pointer (some ⟨g.db, 0, none⟩)] w (OpenPost w F g D) := by
  have H := Lib.hid h
  have hn := h.ok.n0
  have hn1 := h.ok.n1
  have hn' : ((D.n : Int) == 0) = false := beq_eq_false_iff_ne.2 (by omega)
  have HDD := Lib.hid (dead_spec h)
  rw [hoff] at HDD
  have HOFF := Lib.hid hoff
  have hmm := @run_makeMap Tryz.prog
  clear h hoff
  go_enter Tryz.func100, Tryz.ntmps100
  go_wp2_with (first | (go_at_call 150; refine (len_spec H.out).mono ?_; rintro e w' ⟨rfl, rfl⟩) | (go_at_call 154; refine HDD.out.mono ?_; rintro e w' ⟨rfl, rfl⟩) | (go_at_call 155; refine (lives_spec H.out).mono ?_; rintro e w' ⟨rfl, rfl⟩))
  go_loopw [27] (fun i wr => ∃ k : Nat, k ≤ 2 ∧ i = .int .i64 (k : Int) ∧ BootAt w g D k wr) (fun i _ => 2 - (intOf i).toNat)
  case atStart =>
    refine ⟨0, by omega, rfl, ?_, ?_, ((Upd.refl _ _).alloc _).alloc _⟩
    · have e1 : w.heap.size + 1 = (w.alloc (.map #[] 0)).heap.size := by simp
      rw [e1, blk_alloc]
      rfl
    · rw [blk_alloc_ne (by simp)]; exact blk_alloc _
  case round =>
    obtain ⟨k, hk, rfl, hbt, hab, hur⟩ := hrel
    by_cases hlt : k < 2
    · have hDr : DiskAt wr F g D := H.out.world (hur.block _ H.out.lt.1 (by simp)) (hur.block _ H.out.lt.2.1 (by simp)) (hur.block _ H.out.lt.2.2 (by simp)) (fun _ _ _ hk => hur.block _ (blk_lt hk) (by simp))
      have HRD := Lib.hid (read_ok hDr k HOFF.out (by omega))
      have hnl : (D.now k).length = 512 := Dk.now_len H.out.ok _
      have HNL := Lib.hid hnl
      have HDR := Lib.hid hDr
      have HBT := Lib.hid hbt
      have HAB := Lib.hid hab
      have HUR := Lib.hid hur
      clear hDr hbt hab hur hnl
      go_wp2_with fail
      refine HRD.out.mono ?_
      rintro e w1 ⟨rfl, hw1⟩
      have hu1 : Upd [] wr w1 := by rw [← hw1]; exact (Upd.refl _ _).alloc _
      have hb1 : w1.heap[wr.heap.size]? = some (.cells (bts (D.now k)).toArray 5 (0, 0)) := by rw [← hw1]; exact blk_alloc _
      have hD1 : DiskAt w1 F g D := HDR.out.world (hu1.block _ HDR.out.lt.1 (by simp)) (hu1.block _ HDR.out.lt.2.1 (by simp)) (hu1.block _ HDR.out.lt.2.2 (by simp)) (fun _ _ _ hk => hu1.block _ (blk_lt hk) (by simp))
      have HRA : Hid (Calls Tryz.prog 157 #[.slice (some ⟨wr.heap.size, 0, none⟩) 512 512, .int .i64 (D.n : Int)] w1 fun e w' => e = .returned (.tuple #[.agg #[.int .u64 (ancOf (D.now k)).number, .int .u64 (ancOf (D.now k)).turn, .int .i64 ((ancOf (D.now k)).place : Int), .int .i64 ((ancOf (D.now k)).ring : Int)], .bool ((ancOf (D.now k)).okB D.n)]) ∧ Upd [] w1 w') := Lib.hid (readA_spec _ (D.now k) D.n w1 (rd_of_block hb1 HNL.out) HNL.out (by omega))
      have HK : Hid (D.ancK (k + 1) = if (ancOf (D.now k)).okB D.n = true ∧ (D.ancK k).number < (ancOf (D.now k)).number then ancOf (D.now k) else D.ancK k) := rfl
      generalize ancOf (D.now k) = a at HRA HK
      have HD1 := Lib.hid hD1
      have HU1 := Lib.hid hu1
      clear hw1 hu1 hb1 hD1
      go_wp2_with (first | (go_at_call 150; refine (len_spec HD1.out).mono ?_; rintro e w' ⟨rfl, rfl⟩))
      refine HRA.out.mono ?_
      rintro e w2 ⟨rfl, hu2⟩
      have HU2 := Lib.hid (HU1.out.trans hu2)
      clear hu2
      generalize D.ancK k = b at HBT HK
      go_wp2_with fail
      have hu3 : Upd [] wr (w2.alloc (.cells #[.int .u64 a.number, .int .u64 a.turn, .int .i64 (a.place : Int), .int .i64 (a.ring : Int)] 195)) := HU2.out.alloc _
      have hb3 : (w2.alloc (.cells #[.int .u64 a.number, .int .u64 a.turn, .int .i64 (a.place : Int), .int .i64 (a.ring : Int)] 195)).heap[w2.heap.size]? = some (.cells #[.int .u64 a.number, .int .u64 a.turn, .int .i64 (a.place : Int), .int .i64 (a.ring : Int)] 195 (0, 0)) := blk_alloc _
      generalize w2.alloc (.cells #[.int .u64 a.number, .int .u64 a.turn, .int .i64 (a.place : Int), .int .i64 (a.ring : Int)] 195) = W3 at hu3 hb3 ⊢
      have ht3 : W3.heap[w.heap.size + 1]? = _ := (hu3.block _ (blk_lt HBT.out) (by simp)).trans HBT.out
      have ha3 : W3.heap[w.heap.size]? = _ := (hu3.block _ (blk_lt HAB.out) (by simp)).trans HAB.out
      have hcA := blk_cell hb3
      have hcT := blk_cell ht3
      have hfT := blk_free ht3
      have hne : w.heap.size + 1 ≠ w2.heap.size := by have := blk_lt HBT.out; have := HU2.out.size; omega
      have hkeep : D.ancK (k + 1) = b → ∀ nq, BootAt w g D (k + 1) (W3.drewN nq) := fun e nq => ⟨by rw [e]; exact ht3, ha3, (HUR.out.trans hu3).drewN nq⟩
      have hstore : D.ancK (k + 1) = a → ∀ nq W, W = ((((W3.drewN nq).setCell ⟨w.heap.size + 1, 3, none⟩ (.int .u64 a.number)).setCell ⟨w.heap.size + 1, 4, none⟩ (.int .u64 a.turn)).setCell ⟨w.heap.size + 1, 5, none⟩ (.int .i64 (a.place : Int))).setCell ⟨w.heap.size + 1, 6, none⟩ (.int .i64 (a.ring : Int)) → BootAt w g D (k + 1) W := by
        rintro e nq W rfl
        refine ⟨?_, ?_, ?_⟩
        · rw [e, blk_set (blk_set (blk_set (blk_set (show (W3.drewN nq).heap[w.heap.size + 1]? = _ from ht3) 3 _) 4 _) 5 _) 6 _]; simp
        · rw [blk_set_ne _ _ (by omega), blk_set_ne _ _ (by omega), blk_set_ne _ _ (by omega), blk_set_ne _ _ (by omega)]; exact ha3
        · exact (((((HUR.out.trans hu3).drewN nq).set _ (.inr (by omega))).set _ (.inr (by omega))).set _ (.inr (by omega))).set _ (.inr (by omega))
      have HKEEP := Lib.hid hkeep
      have HSTORE := Lib.hid hstore
      clear hkeep hstore hu3 hb3 ht3 ha3
      cases hq : a.okB D.n with
      | false =>
        have HE : Hid (D.ancK (k + 1) = b) := by show _ = _; rw [HK.out, if_neg (by simp [hq])]
        clear hq
        go_quiet (fail)
        go_wp2
        go_roundw
        case rel => exact ⟨k + 1, by omega, by go_num, HKEEP.out HE.out _⟩
        case measure => simp [intOf]; omega
      | true =>
        by_cases hl : b.number < a.number
        · have d1 : decide (b.number < a.number) = true := by simpa using hl
          have HE : Hid (D.ancK (k + 1) = a) := by show _ = _; rw [HK.out, if_pos ⟨hq, hl⟩]
          clear hq
          go_quiet (fail)
          go_wp2
          go_roundw
          case rel => exact ⟨k + 1, by omega, by go_num, HSTORE.out HE.out _ _ rfl⟩
          case measure => simp [intOf]; omega
        · have d1 : decide (b.number < a.number) = false := by simpa using hl
          have HE : Hid (D.ancK (k + 1) = b) := by show _ = _; rw [HK.out, if_neg (fun q => hl q.2)]
          clear hq
          go_quiet (fail)
          go_wp2
          go_roundw
          case rel => exact ⟨k + 1, by omega, by go_num, HKEEP.out HE.out _⟩
          case measure => simp [intOf]; omega
    · obtain rfl : k = 2 := by omega
      have hbt' : wr.heap[w.heap.size + 1]? = some (.cells #[.pointer (some ⟨g.db, 0, none⟩), .int .i64 D.lives, .bool false, .int .u64 D.anc.number, .int .u64 D.anc.turn, .int .i64 (D.anc.place : Int), .int .i64 (D.anc.ring : Int), .int .u64 0, .int .i64 0, .int .i64 0, .map (some w.heap.size)] 197 (0, 0)) := hbt
      have hDr : DiskAt wr F g D := H.out.world (hur.block _ H.out.lt.1 (by simp)) (hur.block _ H.out.lt.2.1 (by simp)) (hur.block _ H.out.lt.2.2 (by simp)) (fun _ _ _ hk => hur.block _ (blk_lt hk) (by simp))
      have hcT := blk_cell hbt'
      have hfT := blk_free hbt'
      have HDR := Lib.hid hDr
      have HBT := Lib.hid hbt'
      have HAB := Lib.hid hab
      have HUR := Lib.hid hur
      clear hbt hbt' hDr hab hur
      by_cases hz : D.anc.number = 0
      · have d1 : (D.anc.number == 0) = true := by simpa using hz
        have HZ := Lib.hid hz
        clear hz
        go_wp2
        go_ret2
        exact ⟨D, none, 5, .none HOFF.out HZ.out, ⟨rfl, HDR.out.mono Gr.old⟩, HUR.out.mono (by simp)⟩
      · have d1 : (D.anc.number == 0) = false := by simpa using hz
        have HZ := Lib.hid hz
        clear hz
        go_wp2_with fail
        go_region
        have hJ5 : JnAt ((wr.setCell ⟨w.heap.size + 1, 7, none⟩ (.int .u64 D.anc.turn)).setCell ⟨w.heap.size + 1, 8, none⟩ (.int .i64 (D.anc.place : Int))).drew (Gr F w.heap.size) ⟨w.heap.size + 1, w.heap.size, g⟩ D.boot D := by
          have hlt := H.out.lt
          have hset : ∀ q, q ≠ w.heap.size + 1 → ((wr.setCell ⟨w.heap.size + 1, 7, none⟩ (.int .u64 D.anc.turn)).setCell ⟨w.heap.size + 1, 8, none⟩ (.int .i64 (D.anc.place : Int))).drew.heap[q]? = wr.heap[q]? := fun q hq => by
            show ((wr.setCell ⟨w.heap.size + 1, 7, none⟩ (.int .u64 D.anc.turn)).setCell ⟨w.heap.size + 1, 8, none⟩ (.int .i64 (D.anc.place : Int))).heap[q]? = wr.heap[q]?
            rw [blk_set_ne _ _ hq, blk_set_ne _ _ hq]
          refine ⟨(HDR.out.world (hset _ (by omega)) (hset _ (by omega)) (hset _ (by omega)) (fun q c _ hq => hset q (by rintro rfl; rw [HBT.out] at hq; simp at hq))).mono Gr.old, ?_, ⟨_, MapI.made (c := 0) ((hset w.heap.size (by omega)).trans HAB.out), by simp, by simp [Dk.boot]⟩, by show w.heap.size ≠ g.mb; omega, Dk.boot_ok HZ.out⟩
          show ((wr.setCell ⟨w.heap.size + 1, 7, none⟩ (.int .u64 D.anc.turn)).setCell ⟨w.heap.size + 1, 8, none⟩ (.int .i64 (D.anc.place : Int))).heap[w.heap.size + 1]? = _
          rw [blk_set (blk_set HBT.out 7 _) 8 _]
          simp [Dk.boot]
        have hU5 : Upd [] w ((wr.setCell ⟨w.heap.size + 1, 7, none⟩ (.int .u64 D.anc.turn)).setCell ⟨w.heap.size + 1, 8, none⟩ (.int .i64 (D.anc.place : Int))).drew := ((HUR.out.set _ (.inr (by omega))).set _ (.inr (by omega))).drew
        generalize ((wr.setCell ⟨w.heap.size + 1, 7, none⟩ (.int .u64 D.anc.turn)).setCell ⟨w.heap.size + 1, 8, none⟩ (.int .i64 (D.anc.place : Int))).drew = W5 at hJ5 hU5 ⊢
        have HJ5 := Lib.hid hJ5
        have HU5 := Lib.hid hU5
        clear hJ5 hU5 hcT hfT HAB HBT HDR HUR d1
        go_wp2_with fail
        go_loopw [10] (fun s wr => ∃ (J : Jn) (b : Bool), s = .bool b ∧ OpRel w F g D J b wr) (fun _ wr => lateV D D.anc.ring (wr.cell? ⟨w.heap.size + 1, 7, none⟩))
        case atStart => exact ⟨D.boot, false, rfl, OpRel.start HJ5.out HU5.out⟩
        case round =>
          obtain ⟨J, b, rfl, hrel⟩ := hrel
          have HST := Lib.hid (stands_spec hrel.jn HOFF.out)
          have k7 : Hid (wr.cell? ⟨w.heap.size + 1, 7, none⟩ = some (.int .u64 J.turn)) := Lib.hid hrel.jn.cell7
          have HREL := Lib.hid hrel
          clear hrel
          go_wp2_with fail
          refine HST.out.mono ?_
          rintro e w6 ⟨a6, n6, c6, rfl, hp6, hu6⟩
          have hn6 : n6 = (J.stands D).length := by
            obtain ⟨ao, cap, e⟩ := hp6.at.shape
            simp only [Value.slice.injEq] at e
            exact e.2.1
          subst hn6
          have HP6 := Lib.hid hp6
          have HU6 := Lib.hid hu6
          clear hp6 hu6
          have hjn6 := HREL.out.jn.below HU6.out
          have hup6 : Upd [] w w6 := HREL.out.upd.trans HU6.out
          have hc6 := blk_cell hjn6.st
          have hf6 := blk_free hjn6.st
          have HJ6 := Lib.hid hjn6
          have HUP6 := Lib.hid hup6
          clear hjn6 hup6
          by_cases hs : J.stands D = []
          · have hl0 : (J.stands D).length = 0 := by rw [hs]; rfl
            have HS := Lib.hid hs
            rw [hl0]
            clear hs hl0
            cases b with
            | false =>
              go_wp2_with fail
              go_ret2
              obtain rfl := HREL.out.no rfl
              exact ⟨D, some D.boot, 0, .keep HOFF.out HZ.out HS.out, ⟨_, _, rfl, by omega, by omega, HJ6.out⟩, HUP6.out.mono (by simp)⟩
            | true =>
              have HSC := Lib.hid (HREL.out.scan _ (.stop HS.out))
              have HNE := Lib.hid (HREL.out.yes rfl)
              have hnn := HJ6.out.ok.num0
              have htt := HJ6.out.ok.turn0
              by_cases q1 : 4611686018427387904 ≤ J.last.number
              · have d1 : decide (4611686018427387904 ≤ J.last.number) = true := by simpa using q1
                go_wp2_with fail
                go_ret2
                exact ⟨D, none, 7, .full HOFF.out HZ.out HNE.out HSC.out (.inl q1), ⟨rfl, HJ6.out.disk⟩, HUP6.out.mono (by simp)⟩
              · have d1 : decide (4611686018427387904 ≤ J.last.number) = false := by simpa using q1
                by_cases q2 : 4611686018427387904 ≤ J.turn
                · have d2 : decide (4611686018427387904 ≤ J.turn) = true := by simpa using q2
                  go_wp2_with fail
                  go_ret2
                  exact ⟨D, none, 7, .full HOFF.out HZ.out HNE.out HSC.out (.inr q2), ⟨rfl, HJ6.out.disk⟩, HUP6.out.mono (by simp)⟩
                · have d2 : decide (4611686018427387904 ≤ J.turn) = false := by simpa using q2
                  have HSE := Lib.hid (settle_spec HJ6.out (by omega))
                  go_wp2_with fail
                  refine HSE.out.mono ?_
                  rintro e w7 ⟨rfl, hj7, hu7⟩
                  have HJ7 := Lib.hid hj7
                  have HU7 := Lib.hid hu7
                  have HFAIL : Hid ((J.settleD D).2 ≠ 0 → OpenR D (J.settleD D).1 none (J.settleD D).2) := fun q => .fail HOFF.out HZ.out HNE.out HSC.out (by omega) (by omega) q
                  have HGO : Hid ((J.settleD D).2 = 0 → OpenR D (J.settleD D).1 (some J.settled) 0) := fun q => .ok HOFF.out HZ.out HNE.out HSC.out (by omega) (by omega) q
                  have hupd : Upd [g.db, g.lb, g.mb] w w7 := by
                    refine (HUP6.out.mono (by simp)).late HU7.out (fun i hi => ?_)
                    simp only [JG.all, List.mem_cons, List.not_mem_nil, or_false] at hi ⊢
                    omega
                  have HUPD := Lib.hid hupd
                  clear hj7 hu7 hupd
                  by_cases q3 : (J.settleD D).2 = 0
                  · have d3 : ((J.settleD D).2 != 0) = false := by simpa using q3
                    have HJ8 : Hid (JnAt w7 (Gr F w.heap.size) ⟨w.heap.size + 1, w.heap.size, g⟩ J.settled (J.settleD D).1) := by
                      have := HJ7.out
                      unfold Jn.settle at this
                      rw [if_neg (fun q => q q3)] at this
                      exact this.mono (fun k hk => Gr.gr2 HUP6.out.size k hk)
                    have HOK := Lib.hid (HGO.out q3)
                    go_wp2_with fail
                    go_ret2
                    exact ⟨_, _, _, HOK.out, ⟨_, _, rfl, by omega, by omega, HJ8.out⟩, HUPD.out⟩
                  · have d3 : ((J.settleD D).2 != 0) = true := by simpa using q3
                    have HBAD := Lib.hid (HFAIL.out q3)
                    go_wp2_with fail
                    go_ret2
                    exact ⟨_, _, _, HBAD.out, ⟨rfl, HJ7.out.disk.mono (fun k hk => Gr.gr2 HUP6.out.size k hk)⟩, HUPD.out⟩
          · have hl0 : (((J.stands D).length : Int) == 0) = false := by rw [beq_eq_false_iff_ne]; intro q; exact hs (List.eq_nil_of_length_eq_zero (by omega))
            have hin := Jn.stands_in (J := J) HREL.out.jn.disk.ok
            have hlt6 := Jn.late_lt HREL.out.jn.ok.place hs
            rw [HREL.out.last] at hlt6
            have ht6 := HREL.out.turn
            have hs6 := HREL.out.used
            have htb : D.anc.turn < 4611686018427387904 := by
              rcases D.ancK_cases 2 with q | q
              · exact absurd (by show (D.ancK 2).number = 0; rw [q]) HZ.out
              · exact (Anc.okB_parts q.1).2.2.1
            have HNT := Lib.hid (note_spec HJ6.out _ _ (HP6.out.mono (fun k hk => Gr.new HREL.out.upd.size k hk)) (by omega) hin.2 (by omega) (by omega))
            have HLT := Lib.hid hlt6
            have HS := Lib.hid hs
            clear hs hin hlt6 ht6 hs6 htb
            go_wp2_with fail
            refine HNT.out.mono ?_
            rintro e w7 ⟨rfl, hj7, hu7⟩
            have hup7 : Upd [] w w7 := HUP6.out.late hu7 (fun i hi => by simp only [List.mem_cons, List.not_mem_nil, or_false] at hi; omega)
            have HR7 := Lib.hid (HREL.out.next HS.out hj7 hup7)
            have HC7 : Hid (w7.cell? ⟨w.heap.size + 1, 7, none⟩ = some (.int .u64 (J.turn + 1))) := Lib.hid hj7.cell7
            clear hj7 hu7 hup7
            go_wp2_with fail
            go_roundw
            case rel => exact ⟨_, _, _, _, _, _, _, _, _, _, _, _, _, _, _, _, _, _, _, ⟨J.note (J.stands D), true, rfl, HR7.out⟩, rfl⟩
            case measure =>
              rw [HC7.out, k7.out]
              exact HLT.out

end Go.Proofs.YtceakcejchbbjaaGreat

namespace Go.Proofs.YtceakcejchbbjaaGreat
open Go.RowKit

/-- The disk behind k sectors of zeros. -/
def Dk.zeroK (D : Dk) : Nat → Dk
  | 0 => D
  | k + 1 => ((if k = 2 then (D.zeroK k).flush.1 else D.zeroK k).write (k : Int) zsec).1
/-- The disk behind a Format. -/
def Dk.fmt (D : Dk) (ring : Nat) : Dk := ((D.zeroK D.n).flush.1.write 1 (Anc.sector ⟨1, 1, 0, ring⟩)).1.flush.1

/-- Power that stays. -/
def Dk.On (D : Dk) : Prop := D.off = false ∧ D.armed = -1
theorem Dk.On.flush {D : Dk} (h : D.On) : D.flush = ({ D with last := D.now, wait := fun _ => none }, 0) := by
  unfold Dk.flush Dk.step
  rw [if_neg (by rw [h.1]; decide), if_neg (by rw [h.2]; decide), if_neg (by rw [h.2]; decide)]
theorem Dk.On.write {D : Dk} (h : D.On) {i : Nat} (hi : i < D.n) {b : Sec} (hb : b.length = 512) : D.write (i : Int) b = ({ D with wait := fun j => if j = i then some b else D.wait j, writes := wrap64 (D.writes + 1) }, 0) := by
  have hm : D.may (i : Int) = 0 := Dk.may_of h.1 (by omega) (by omega)
  unfold Dk.write Dk.step
  rw [if_neg (by simpa using hm), if_neg (by simpa using hb), if_neg (by rw [h.2]; decide), if_neg (by rw [h.2]; decide)]
  simp
theorem Dk.On.flushed {D : Dk} (h : D.On) : D.flush.1.On ∧ D.flush.2 = 0 := by rw [h.flush]; exact ⟨h, rfl⟩
theorem Dk.On.written {D : Dk} (h : D.On) {i : Nat} (hi : i < D.n) {b : Sec} (hb : b.length = 512) : (D.write (i : Int) b).1.On ∧ (D.write (i : Int) b).2 = 0 := by rw [h.write hi hb]; exact ⟨h, rfl⟩
theorem Dk.zeroK_n (D : Dk) : ∀ k, (D.zeroK k).n = D.n
  | 0 => rfl
  | k + 1 => by
    show ((if k = 2 then (D.zeroK k).flush.1 else D.zeroK k).write (k : Int) zsec).1.n = D.n
    rw [Dk.write_n]
    split
    · rw [Dk.flush_n]; exact D.zeroK_n k
    · exact D.zeroK_n k
theorem Dk.On.zeroK {D : Dk} (h : D.On) : ∀ k, k ≤ D.n → (D.zeroK k).On
  | 0, _ => h
  | k + 1, hk => by
    have ih := h.zeroK k (by omega)
    show ((if k = 2 then (D.zeroK k).flush.1 else D.zeroK k).write (k : Int) zsec).1.On
    split
    · exact (ih.flushed.1.written (by rw [Dk.flush_n, Dk.zeroK_n]; omega) zsec_length).1
    · exact (ih.written (by rw [Dk.zeroK_n]; omega) zsec_length).1

/-- The loop of Format. -/
structure FmRel (w : World) (F : Nat → Prop) (g : DG) (D : Dk) (k : Nat) (wr : World) : Prop where
  disk : DiskAt wr (Gr F w.heap.size) g (D.zeroK k)
  zero : wr.heap[w.heap.size]? = some (.cells (bts zsec).toArray 5 (0, 0))
  upd : Upd [g.db, g.lb, g.mb] w wr

theorem fmt_nil (ring : Int) (w : World) : Calls Tryz.prog 99 #[.pointer none, .int .i64 ring] w fun e w' => e = .returned (.int .i64 1) ∧ w = w' := by
  go_enter Tryz.func99, Tryz.ntmps99
  go_wp2_with (go_at_call 150; refine (len_nil _).mono ?_; rintro e w' ⟨rfl, rfl⟩)
  go_ret
  exact ⟨rfl, rfl⟩

set_option maxRecDepth 100000 in
set_option maxHeartbeats 1000000 in
theorem fmt_ok {w : World} {F : Nat → Prop} {g : DG} {D : Dk} (h : DiskAt w F g D) (hon : D.On) (ring : Nat) (h0 : 8 ≤ ring) (h1 : ring ≤ 1024) (h2 : ring + 10 ≤ D.n) :
    Calls Tryz.prog 99 #[.pointer (some ⟨g.db, 0, none⟩), .int .i64 (ring : Int)] w fun e w' => e = .returned (.int .i64 0) ∧ DiskAt w' (Gr F w.heap.size) g (D.fmt ring) ∧ Upd [g.db, g.lb, g.mb] w w' := by
  have H := Lib.hid h
  have HON := Lib.hid hon
  have hn := h.ok.n0
  have hn1 := h.ok.n1
  have hn' : ((D.n : Int) == 0) = false := beq_eq_false_iff_ne.2 (by omega)
  have hmk := run_make_512
  clear h hon
  go_enter Tryz.func99, Tryz.ntmps99
  have hA : Upd [] w (w.alloc (.cells (bts zsec).toArray 5)) := (Upd.refl _ _).alloc _
  have HA := Lib.hid hA
  have HZ : Hid ((w.alloc (.cells (bts zsec).toArray 5)).heap[w.heap.size]? = some (.cells (bts zsec).toArray 5 (0, 0))) := blk_alloc _
  have HDA : Hid (DiskAt (w.alloc (.cells (bts zsec).toArray 5)) F g D) := H.out.world (hA.block _ H.out.lt.1 (by simp)) (hA.block _ H.out.lt.2.1 (by simp)) (hA.block _ H.out.lt.2.2 (by simp)) (fun _ _ _ hk => hA.block _ (blk_lt hk) (by simp))
  clear hA
  go_wp2_with (first | (go_at_call 150; (first | refine (len_spec H.out).mono ?_ | refine (len_spec HDA.out).mono ?_); rintro e w' ⟨rfl, rfl⟩))
  go_loopw [33] (fun i wr => ∃ k : Nat, k ≤ D.n ∧ i = .int .i64 (k : Int) ∧ FmRel w F g D k wr) (fun i _ => D.n - (intOf i).toNat)
  case atStart => exact ⟨0, by omega, rfl, HDA.out.mono Gr.old, HZ.out, HA.out.mono (by simp)⟩
  case round =>
    obtain ⟨k, hk, rfl, hrel⟩ := hrel
    have HREL := Lib.hid hrel
    clear hrel
    by_cases hlt : k < D.n
    · have hlt' : decide ((k : Int) < (D.n : Int)) = true := by simpa using hlt
      have HOK := Lib.hid (HON.out.zeroK k hk)
      have hsz : w.heap.size ≤ wr.heap.size := HREL.out.upd.size
      have hz0 : ∀ {wq : World}, Upd [g.db, g.lb, g.mb] wr wq → wq.heap[w.heap.size]? = some (.cells (bts zsec).toArray 5 (0, 0)) := fun hq => (hq.block _ (blk_lt HREL.out.zero) (HREL.out.disk.byte HREL.out.zero)).trans HREL.out.zero
      by_cases h2 : k = 2
      · have d2 : ((k : Int) == 2) = true := by rw [h2]; rfl
        have H2 := Lib.hid h2
        clear h2
        have HFL := Lib.hid (flush_spec HREL.out.disk)
        rw [HOK.out.flushed.2] at HFL
        go_wp2_with fail
        refine HFL.out.mono ?_
        rintro e w1 ⟨rfl, hd1, hu1⟩
        have HWR := Lib.hid (write_spec hd1 (k : Int) _ zsec (rd_of_block (hz0 hu1) zsec_length))
        rw [(HOK.out.flushed.1.written (by rw [Dk.flush_n, Dk.zeroK_n]; exact hlt) zsec_length).2] at HWR
        have HU1 := Lib.hid hu1
        clear hd1 hu1
        go_wp2_with fail
        refine HWR.out.mono ?_
        rintro e w2 ⟨rfl, hd2, hu2⟩
        have hu12 : Upd [g.db, g.lb, g.mb] wr w2 := HU1.out.trans (hu2.mono (by simp))
        have HR : Hid (FmRel w F g D (k + 1) w2) := ⟨by
          have e : D.zeroK (k + 1) = ((D.zeroK k).flush.1.write (k : Int) zsec).1 := by show ((if k = 2 then _ else _ : Dk).write _ _).1 = _; rw [if_pos H2.out]
          rw [e]; exact hd2.mono (Gr.gr2 (Nat.le_trans hsz HU1.out.size)), hz0 hu12, HREL.out.upd.trans hu12⟩
        clear hd2 hu2 hu12
        go_wp2_with fail
        exact ⟨⟨k + 1, by omega, by go_num, HR.out⟩, by simp [intOf]; omega⟩
      · have d2 : ((k : Int) == 2) = false := by rw [beq_eq_false_iff_ne]; omega
        have HWR := Lib.hid (write_spec HREL.out.disk (k : Int) _ zsec (rd_of_block HREL.out.zero zsec_length))
        rw [(HOK.out.written (by rw [Dk.zeroK_n]; exact hlt) zsec_length).2] at HWR
        go_wp2_with fail
        refine HWR.out.mono ?_
        rintro e w1 ⟨rfl, hd1, hu1⟩
        have hu1' : Upd [g.db, g.lb, g.mb] wr w1 := hu1.mono (by simp)
        have HR : Hid (FmRel w F g D (k + 1) w1) := ⟨by
          have e : D.zeroK (k + 1) = ((D.zeroK k).write (k : Int) zsec).1 := by show ((if k = 2 then _ else _ : Dk).write _ _).1 = _; rw [if_neg h2]
          rw [e]; exact hd1.mono (Gr.gr2 hsz), hz0 hu1', HREL.out.upd.trans hu1'⟩
        clear hd1 hu1 hu1'
        go_wp2_with fail
        exact ⟨⟨k + 1, by omega, by go_num, HR.out⟩, by simp [intOf]; omega⟩
    · obtain rfl : k = D.n := by omega
      have hlt' : decide ((D.n : Int) < (D.n : Int)) = false := by simp
      have HOK := Lib.hid (HON.out.zeroK D.n (Nat.le_refl _))
      have HFL := Lib.hid (flush_spec HREL.out.disk)
      rw [HOK.out.flushed.2] at HFL
      go_wp2_with fail
      refine HFL.out.mono ?_
      rintro e w1 ⟨rfl, hd1, hu1⟩
      have HU1 := Lib.hid hu1
      have HD1 := Lib.hid hd1
      have HSE := Lib.hid (sector_spec ⟨1, 1, 0, ring⟩ w1 (by show 0 < _; omega) (by show ring < _; omega) (by show (0 : Int) ≤ 1; omega) (by show (0 : Int) ≤ 1; omega))
      clear hd1 hu1
      go_wp2_with fail
      refine HSE.out.mono ?_
      rintro e w2 ⟨rfl, hs2, hu2⟩
      have hd2 : DiskAt w2 (Gr F w.heap.size) g (D.zeroK D.n).flush.1 := HD1.out.world (hu2.block _ HD1.out.lt.1 (by simp)) (hu2.block _ HD1.out.lt.2.1 (by simp)) (hu2.block _ HD1.out.lt.2.2 (by simp)) (fun _ _ _ hk => hu2.block _ (blk_lt hk) (by simp))
      have HWR := Lib.hid (write_spec hd2 1 _ _ (rd_of_block hs2 (Anc.sector_length _)))
      have hwe : ((D.zeroK D.n).flush.1.write 1 (Anc.sector ⟨1, 1, 0, ring⟩)).1.On ∧ ((D.zeroK D.n).flush.1.write 1 (Anc.sector ⟨1, 1, 0, ring⟩)).2 = 0 := HOK.out.flushed.1.written (i := 1) (by rw [Dk.flush_n, Dk.zeroK_n]; omega) (Anc.sector_length _)
      rw [hwe.2] at HWR
      have HO3 := Lib.hid hwe.1
      have HU2 := Lib.hid (HREL.out.upd.trans (HU1.out.trans (hu2.mono (by simp))))
      clear hd2 hs2 hu2 hwe
      go_wp2_with fail
      refine HWR.out.mono ?_
      rintro e w3 ⟨rfl, hd3, hu3⟩
      have HFL3 := Lib.hid (flush_spec hd3)
      rw [HO3.out.flushed.2] at HFL3
      have HU3 := Lib.hid (HU2.out.trans (hu3.mono (by simp)))
      have hsz2 : w.heap.size ≤ w2.heap.size := HU2.out.size
      have HSZ2 := Lib.hid hsz2
      clear hd3 hu3 hsz2
      go_wp2_with fail
      refine HFL3.out.mono ?_
      rintro e w4 ⟨rfl, hd4, hu4⟩
      have HD4 := Lib.hid (hd4.mono (Gr.gr2 HSZ2.out))
      have HU4 := Lib.hid (HU3.out.trans hu4)
      clear hd4 hu4
      go_wp2_with fail
      go_ret
      exact ⟨rfl, HD4.out, HU4.out⟩

end Go.Proofs.YtceakcejchbbjaaGreat

