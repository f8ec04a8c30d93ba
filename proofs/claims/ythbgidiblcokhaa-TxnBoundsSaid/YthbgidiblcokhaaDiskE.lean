/-
  What Disk.Flush does.
-/
import Derived.Test.YthbgidiblcokhaaDiskD
namespace Go.Proofs.Ythbgidiblcokhaa
open Go.RowKit

theorem Dk.step_writes (D : Dk) : D.step.writes = D.writes := by unfold Dk.step; split <;> rfl
theorem Dk.step_wait (D : Dk) : D.step.wait = D.wait := by unfold Dk.step; split <;> rfl
theorem Dk.step_last (D : Dk) : D.step.last = D.last := by unfold Dk.step; split <;> rfl
theorem Dk.step_n (D : Dk) : D.step.n = D.n := by unfold Dk.step; split <;> rfl
theorem Dk.step_off (D : Dk) : D.step.off = D.off := by unfold Dk.step; split <;> rfl
theorem Dk.step_now (D : Dk) : D.step.now = D.now := by funext i; simp [Dk.now, Dk.step_wait, Dk.step_last]

/-- In the midst of the flush: what of the entries has been brought into the row. -/
def FlRel (w1 : World) (g : DG) (es : Array MapEntry) (clock : Nat) (lv : List Value) (wr : World) : Prop :=
  ∃ (seen : Array Nat) (c : Nat) (lv' : List Value), clock ≤ c ∧ wr.heap[w1.heap.size]? = some (.mapIter (some g.mb) clock seen c) ∧ wr.heap[g.lb]? = some (.cells lv'.toArray 36 (0, 0)) ∧ lv'.length = lv.length ∧
    (∀ (i : Nat) (v : Value), lv'[i]? = some v → (∃ e ∈ es.toList, seen.contains e.born = true ∧ e.key = .int .i64 (i : Int) ∧ e.val = v) ∨ ((∀ e ∈ es.toList, e.key = .int .i64 (i : Int) → seen.contains e.born = false) ∧ lv[i]? = some v)) ∧
    Upd [g.lb] w1 wr

/-- What is still to come. -/
def flLeft (es : Array MapEntry) (r : Nat) (wr : World) : Nat := (leftOf es (wr.iterSeen r)).size

theorem iterSeen_of {w : World} {r : Nat} {m : Option Nat} {s : Nat} {seen : Array Nat} {c : Nat} (h : w.heap[r]? = some (.mapIter m s seen c)) : w.iterSeen r = seen := by
  unfold World.iterSeen; rw [h]

theorem FlRel.step {w1 : World} {g : DG} {es : Array MapEntry} {clock : Nat} {lv : List Value} {W : World} {seen : Array Nat} {lv' : List Value} {c : Nat} {key : Int} {val : Value} {born j : Nat}
    (hcl : clock ≤ c) (hit : W.heap[w1.heap.size]? = some (.mapIter (some g.mb) clock (seen.push born) c)) (hlb : W.heap[g.lb]? = some (.cells lv'.toArray 36 (0, 0))) (hlen : lv'.length = lv.length)
    (hlv : ∀ (i : Nat) (v : Value), lv'[i]? = some v → (∃ e ∈ es.toList, seen.contains e.born = true ∧ e.key = .int .i64 (i : Int) ∧ e.val = v) ∨ ((∀ e ∈ es.toList, e.key = .int .i64 (i : Int) → seen.contains e.born = false) ∧ lv[i]? = some v))
    (hu : Upd [g.lb] w1 W) (hj : key = (j : Int)) (hne : g.lb ≠ w1.heap.size)
    (he : (⟨.int .i64 key, val, born⟩ : MapEntry) ∈ es.toList) (hst : MapKept.Stamped es clock) : FlRel w1 g es clock lv (W.setCell ⟨g.lb, j, none⟩ val) := by
  refine ⟨seen.push born, c, lv'.set j val, hcl, ?_, ?_, by simpa using hlen, ?_, hu.set _ (.inl (by simp))⟩
  · rw [blk_set_ne _ _ (Ne.symm hne)]; exact hit
  · rw [blk_set hlb]; simp
  · intro i v hv
    rw [List.getElem?_set] at hv
    have hkeys : (es.toList.map (·.key)).Nodup := hst.2.2
    have hborn : (es.toList.map (·.born)).Nodup := hst.2.1
    have uniq : ∀ e ∈ es.toList, e.key = .int .i64 key → e = ⟨.int .i64 key, val, born⟩ := by
      intro e hm hk
      obtain ⟨a, ha⟩ := List.getElem?_of_mem hm
      obtain ⟨b, hb⟩ := List.getElem?_of_mem he
      have l1 : a < (es.toList.map (·.key)).length := by rw [List.length_map]; exact (List.getElem?_eq_some_iff.1 ha).1
      have := (List.getElem?_inj l1 hkeys).1 (show (es.toList.map (·.key))[a]? = (es.toList.map (·.key))[b]? by rw [List.getElem?_map, List.getElem?_map, ha, hb]; simp [hk])
      subst this
      rw [ha] at hb; exact Option.some.inj hb
    have uniqb : ∀ e ∈ es.toList, e.born = born → e = ⟨.int .i64 key, val, born⟩ := by
      intro e hm hk
      obtain ⟨a, ha⟩ := List.getElem?_of_mem hm
      obtain ⟨b, hb⟩ := List.getElem?_of_mem he
      have l1 : a < (es.toList.map (·.born)).length := by rw [List.length_map]; exact (List.getElem?_eq_some_iff.1 ha).1
      have := (List.getElem?_inj l1 hborn).1 (show (es.toList.map (·.born))[a]? = (es.toList.map (·.born))[b]? by rw [List.getElem?_map, List.getElem?_map, ha, hb]; simp [hk])
      subst this
      rw [ha] at hb; exact Option.some.inj hb
    by_cases hji : j = i
    · subst hji
      simp only [if_true] at hv
      split at hv
      · cases hv
        exact .inl ⟨_, he, by simp, by rw [hj], rfl⟩
      · simp at hv
    · rw [if_neg hji] at hv
      rcases hlv i v hv with ⟨e, h1, h2, h3, h4⟩ | ⟨h1, h2⟩
      · exact .inl ⟨e, h1, by rw [contains_push, h2]; rfl, h3, h4⟩
      · refine .inr ⟨fun e hm hk => ?_, h2⟩
        rw [contains_push, h1 e hm hk, Bool.false_or]
        refine beq_eq_false_iff_ne.2 fun hb => ?_
        have := uniqb e hm hb
        rw [this] at hk
        simp at hk
        omega

set_option maxHeartbeats 400000 in
theorem flush_err {w : World} {F : Nat → Prop} {g : DG} {D : Dk} (h : DiskAt w F g D) (hoff : D.off = true) :
    Calls Try.prog 47 #[.pointer (some ⟨g.db, 0, none⟩)] w fun e w' => e = .returned (.int .i64 8) ∧ w = w' := by
  have H := Lib.hid h
  have hm : D.may 0 = 8 := by unfold Dk.may; rw [hoff]; simp
  have hm' : (D.may 0 != 0) = true := by simp [hm]
  have HM := Lib.hid hm
  clear h hm
  go_enter Try.func47, Try.ntmps47
  go_wp2_with (go_at_call 69; refine (may_spec H.out _).mono ?_; rintro e w' ⟨rfl, rfl⟩)
  go_ret
  exact ⟨ret_int HM.out, rfl⟩

set_option maxHeartbeats 400000 in
theorem flush_fail {w : World} {F : Nat → Prop} {g : DG} {D : Dk} (h : DiskAt w F g D) (hoff : D.off = false) (harm : D.armed = 0) :
    Calls Try.prog 47 #[.pointer (some ⟨g.db, 0, none⟩)] w fun e w' => e = .returned (.int .i64 8) ∧ DiskAt w' F g { D with off := true } ∧ Upd [g.db] w w' := by
  have H := Lib.hid h
  have hm : D.may 0 = 0 := Dk.may_of hoff (by omega) (by have := h.ok.n0; omega)
  have hm' : (D.may 0 != 0) = false := by simp [hm]
  have ha : (D.armed != 0) = false := by simp [harm]
  have HA := Lib.hid harm
  clear h hm harm
  go_enter Try.func47, Try.ntmps47
  go_wp2_with (first | (go_at_call 69; refine (may_spec H.out _).mono ?_; rintro e w' ⟨rfl, rfl⟩) | fail)
  refine (goes_spec H.out).mono ?_
  rintro e w1 ⟨rfl, hD1, hu1⟩
  have hgone : D.gone = { D with off := true } := by unfold Dk.gone; rw [if_pos HA.out]
  rw [hgone] at hD1
  have HD1 := Lib.hid hD1
  have HU1 := Lib.hid hu1
  clear hgone hD1 hu1
  go_wp2
  go_ret
  exact ⟨rfl, HD1.out, HU1.out⟩

set_option maxHeartbeats 1000000 in
theorem flush_ok {w : World} {F : Nat → Prop} {g : DG} {D : Dk} (h : DiskAt w F g D) (hoff : D.off = false) (harm : D.armed ≠ 0) :
    Calls Try.prog 47 #[.pointer (some ⟨g.db, 0, none⟩)] w fun e w' => e = .returned (.int .i64 0) ∧ DiskAt w' F g { D.step with last := D.now, wait := fun _ => none } ∧ Upd [g.db, g.lb, g.mb] w w' := by
  have H := Lib.hid h
  have hm : D.may 0 = 0 := Dk.may_of hoff (by omega) (by have := h.ok.n0; omega)
  have hm' : (D.may 0 != 0) = false := by simp [hm]
  have ha : (D.armed != 0) = true := by simpa using harm
  have HA := Lib.hid harm
  clear h hm harm
  go_enter Try.func47, Try.ntmps47
  go_wp2_with (first | (go_at_call 69; refine (may_spec H.out _).mono ?_; rintro e w' ⟨rfl, rfl⟩) | fail)
  refine (goes_spec H.out).mono ?_
  rintro e w1 ⟨rfl, hD1, hu1⟩
  have hgone : D.gone = D.step := by unfold Dk.gone; rw [if_neg HA.out]
  rw [hgone] at hD1
  have HD1 := Lib.hid hD1
  have HU1 := Lib.hid hu1
  obtain ⟨fv, a1, a2⟩ := hD1.st
  obtain ⟨lv, b1, b2, b3⟩ := hD1.last
  obtain ⟨f, hf, hf1, hf2⟩ := hD1.wait
  obtain ⟨es, clock, hb, hst, hkey, hfe⟩ := id hf
  have hc := blk_cell a1
  have hrg := run_range_map (P := Try.prog) w1 49 3 36 g.mb es clock Try.underlying49 hb
  have HA1 := Lib.hid a1
  have HB1 := Lib.hid b1
  have HB := Lib.hid hb
  have hlt1 := hD1.lt.1
  have hlt2 := hD1.lt.2.1
  have hlt3 := hD1.lt.2.2
  have HNE1 := Lib.hid hD1.ne1
  have HNE2 := Lib.hid hD1.ne2
  have HNE3 := Lib.hid hD1.ne3
  have HST := Lib.hid hst
  have HKEY := Lib.hid hkey
  have HFE := Lib.hid hfe
  have HF1 := Lib.hid hf1
  have HF2 := Lib.hid hf2
  have HB2 := Lib.hid b2
  have HB3 := Lib.hid b3
  have HF := Lib.hid hf
  clear hgone hD1 hu1 a1 a2 b1 b2 b3 hf hf1 hf2 hb hst hkey hfe
  go_wp2
  go_loopw [19] (fun _ wr => FlRel w1 g es clock lv wr) (fun _ wr => flLeft es w1.heap.size wr)
  case atStart =>
    refine ⟨#[], clock, lv, Nat.le_refl _, blk_alloc _, (blk_alloc_ne hlt2).trans HB1.out, rfl, ?_, (Upd.refl _ _).alloc _⟩
    intro i v hv
    exact .inr ⟨by simp, hv⟩
  case round =>
    obtain ⟨seen, c, lv', hcl, hit, hlb, hlen, hlv, hu⟩ := hrel
    have hmb : wr.heap[g.mb]? = some (.map es clock) := (hu.block _ hlt3 (by simpa using HNE3.out)).trans HB.out
    have hdb : wr.heap[g.db]? = _ := (hu.block _ hlt1 (by simpa using Ne.symm HNE1.out)).trans HA1.out
    have hsz := hu.size
    rcases run_next_at (P := Try.prog) wr 0 w1.heap.size g.mb clock c seen es clock hit hmb HST.out.1 hcl with ⟨hz, hnx⟩ | ⟨e, hel, wq, hwq, hnx⟩
    · have hnx' : ∀ ty, (Instr.next (.pointer (some ⟨w1.heap.size, 0, none⟩)) false ty).run Try.prog wr = .ok (.tuple #[.bool false]) wr := fun _ => hnx
      have hcd := blk_cell hdb
      obtain ⟨o, hclr, hmap⟩ := (HF.out.world (hmb.trans HB.out.symm)).clear (P := Try.prog) (T := 49) Try.underlying49 0
      have hclr' : ∀ ty, (Builtin.clear_ #[49] ty #[.map (some g.mb)]).run Try.prog wr = .ok (.tuple #[]) (ChangeMaps.setBlock wr g.mb o) := fun _ => hclr
      have HMAP := Lib.hid hmap
      have HLB := Lib.hid hlb
      have HDB := Lib.hid hdb
      have HLV := Lib.hid hlv
      have HLEN := Lib.hid hlen
      have HU := Lib.hid hu
      have HZ := Lib.hid hz
      clear hclr hmap hlb hdb hlv hlen hu hz hnx hmb hit hc hrg
      go_wp2
      go_ret
      have hs1 := HU1.out.size
      have hall : ∀ e ∈ es.toList, seen.contains e.born = true := by
        intro e he
        cases hq : seen.contains e.born with
        | true => rfl
        | false =>
          exfalso
          have hm : e ∈ (leftOf es seen).toList := by
            unfold leftOf
            simp only [Array.mem_toList_iff, Array.mem_filter] at he ⊢
            exact ⟨he, by rw [hq]; rfl⟩
          have := List.length_pos_of_mem hm
          rw [Array.length_toList, HZ.out] at this
          omega
      have hnowF : ∀ i v, lv'[i]? = some v → LastV w1 F v (D.now i) := by
        intro i v hv
        rcases HLV.out i v hv with ⟨e, h1, _, h3, h4⟩ | ⟨h1, h2⟩
        · have hfi : f (i : Int) = some v := (HFE.out _ _).2 ⟨e, h1, h3, h4⟩
          obtain ⟨_, s, e1, o1⟩ := HF1.out _ _ hfi
          have e2 : D.wait i = some s := by rw [← Dk.step_wait]; simpa using e1
          have : D.now i = s := by simp [Dk.now, e2]
          rw [this]; exact .inr o1
        · have hno : D.wait i = none := by
            cases hq : D.wait i with
            | none => rfl
            | some s =>
              obtain ⟨v2, hv2⟩ := HF2.out i s (by rw [Dk.step_wait]; exact hq)
              obtain ⟨e, he, hk, _⟩ := (HFE.out _ _).1 hv2
              have a := hall e he
              have b := h1 e he hk
              rw [a] at b; simp at b
          have : D.now i = D.step.last i := by simp [Dk.now, hno, Dk.step_last]
          rw [this]; exact HB3.out i v h2
      have ha : ∀ k c, F k → w1.heap[k]? = some (.cells c 5 (0, 0)) → (ChangeMaps.setBlock wr g.mb o).heap[k]? = w1.heap[k]? := by
        intro k c _ hk
        have hq := HD1.out.byte hk
        simp only [List.mem_cons, List.not_mem_nil, or_false, not_or] at hq
        rw [setBlock_ne _ hq.2.2]
        exact HU.out.block _ (blk_lt hk) (by simpa using hq.2.1)
      refine ⟨rfl, ⟨?_, ?_, ?_, ?_⟩, ?_⟩
      · obtain ⟨fv', q1, q2⟩ := HD1.out.st
        refine ⟨fv', ?_, q2.world ha⟩
        rw [setBlock_ne _ (Ne.symm HNE2.out)]
        exact (HU.out.block _ hlt1 (by simpa using Ne.symm HNE1.out)).trans q1
      · refine ⟨lv', ?_, by rw [HLEN.out]; exact HB2.out, fun i v hv => (hnowF i v hv).world ha⟩
        rw [setBlock_ne _ (Ne.symm HNE3.out)]; exact HLB.out
      · exact ⟨_, HMAP.out, by simp, by simp⟩
      · have ok := Dk.step_ok H.out.ok
        refine ⟨ok.n0, ok.n1, ?_, by simp, ok.armed0, ok.armed1, ok.part, ok.way, ok.front⟩
        intro i
        show (D.now i).length = 512
        unfold Dk.now
        cases hq : D.wait i with
        | none => exact H.out.ok.last i
        | some s => exact (H.out.ok.wait i s hq).2
      · exact ((HU1.out.mono (by simp)).trans (HU.out.mono (by simp))).setBlock _ (.inl (by simp))
    · obtain ⟨key, val, born⟩ := e
      have hel2 := (mem_left hel).1
      obtain ⟨kk, ek⟩ := HKEY.out _ hel2
      simp only at ek hnx
      subst ek
      obtain ⟨h0, s, e1, o1⟩ := HF1.out kk val ((HFE.out _ _).2 ⟨_, hel2, rfl, rfl⟩)
      obtain ⟨j, rfl⟩ := Int.eq_ofNat_of_zero_le h0
      have hjn : j < D.n := (H.out.ok.wait j s (by rw [← Dk.step_wait]; simpa using e1)).1
      obtain ⟨kb, rest, _, rfl, _⟩ := o1
      have hjl : j < lv'.length := by rw [hlen, HB2.out, Dk.step_n]; exact hjn
      obtain ⟨W, hW⟩ : ∃ W, W = ChangeMaps.setBlock wq w1.heap.size (.mapIter (some g.mb) clock (seen.push born) clock) := ⟨_, rfl⟩
      rw [← hW] at hnx
      have hWo : ∀ k, k ≠ w1.heap.size → W.heap[k]? = wr.heap[k]? := by
        intro k hk
        rw [hW, setBlock_ne _ hk]
        rcases hwq with rfl | rfl <;> rfl
      have hWi : W.heap[w1.heap.size]? = some (.mapIter (some g.mb) clock (seen.push born) clock) := by
        rw [hW]
        refine setBlock_same (o := .mapIter (some g.mb) clock seen c) ?_
        rcases hwq with rfl | rfl <;> exact hit
      have hWu : Upd [g.lb] w1 W := by
        rw [hW]
        refine Upd.setBlock ?_ _ (.inr (Nat.le_refl _))
        rcases hwq with rfl | rfl
        · exact hu
        · exact hu.drew
      have hnx' : ∀ ty, (Instr.next (.pointer (some ⟨w1.heap.size, 0, none⟩)) false ty).run Try.prog wr = _ := fun _ => hnx
      have hen := run_entry_at (P := Try.prog) W w1.heap.size g.mb clock seen es clock _ hWi ((hWo _ (by omega)).trans hmb) hel2 HST.out.2.1
      simp only at hen
      have hdW : W.heap[g.db]? = _ := (hWo _ (by omega)).trans hdb
      have hlW : W.heap[g.lb]? = _ := (hWo _ (by omega)).trans hlb
      have hcd := blk_cell hdW
      have hcl2 : W.cell? ⟨g.lb, j, none⟩ = some lv'[j] := by rw [blk_cell hlW]; simp [hjl]
      have hfl : W.frozen? ⟨g.lb, j, none⟩ = false := blk_free hlW j
      have hstep := FlRel.step (es := es) (lv := lv) (val := .slice (some ⟨kb, 0, none⟩) s.length (s.length + rest.length)) (Nat.le_refl clock) hWi hlW hlen hlv hWu rfl (by omega) hel2 HST.out
      have hmeas : flLeft es w1.heap.size (W.setCell ⟨g.lb, j, none⟩ (.slice (some ⟨kb, 0, none⟩) s.length (s.length + rest.length))) < flLeft es w1.heap.size wr := by
        unfold flLeft
        rw [iterSeen_of hit, iterSeen_of (by rw [blk_set_ne _ _ (by omega)]; exact hWi)]
        exact left_shrinks es seen _ hel
      have hjn1 : (j : Int) < (D.step.n : Int) := by rw [Dk.step_n]; omega
      have HSTEP := Lib.hid hstep
      have HMEAS := Lib.hid hmeas
      clear hstep hmeas hW hWo hWi hWu hdW hlW hlen hlv hu hit hmb hdb hlb hnx hel hel2 hc hrg e1 hwq
      go_wp2
      go_roundw
      case rel => exact HSTEP.out
      case measure => exact HMEAS.out

end Go.Proofs.Ythbgidiblcokhaa
