/-
  Transactions as the laws use them; Made; begun.
-/
import Derived.Test.YthbgidiblcokhaaTxC
import Derived.Test.YthbgidiblcokhaaLwL
namespace Go.Proofs.Ythbgidiblcokhaa
open Go.RowKit Go.MapKept Go.ChangeMaps

theorem putsH_keys (g : Nat → Sec) : ∀ (ks : List Nat) (H : Nat → Sec) (i : Nat), putsH H (ks.map fun (k : Nat) => ((k : Int), g k)) i = if i ∈ ks then g i else H i
  | [], H, i => by simp [putsH]
  | k :: ks, H, i => by
    show putsH (fun x => if x = ((k : Int), g k).1.toNat then ((k : Int), g k).2 else H x) (ks.map fun (k : Nat) => ((k : Int), g k)) i = _
    rw [putsH_keys g ks]
    simp only [Int.toNat_natCast, List.mem_cons]
    by_cases h1 : i ∈ ks
    · rw [if_pos h1, if_pos (.inr h1)]
    · rw [if_neg h1]
      by_cases h2 : i = k
      · rw [if_pos h2, if_pos (.inl h2), h2]
      · rw [if_neg h2, if_neg (by rintro (q | q); exact h2 q; exact h1 q)]
theorem putsH_tx {M : Nat → Option Sec} {hm : Nat} (ho : MOk M hm) (H : Nat → Sec) : putsH H (txL M hm) = fun i => (M i).getD (H i) := by
  funext i
  unfold txL
  rw [putsH_keys fun k => (M k).getD []]
  by_cases h : (M i).isSome = true
  · rw [if_pos ((mem_keysM ho).2 h)]
    obtain ⟨s, hs⟩ := Option.isSome_iff_exists.1 h
    rw [hs]; rfl
  · rw [if_neg fun q => h ((mem_keysM ho).1 q)]
    have : M i = none := by simpa using h
    rw [this]; rfl
theorem fits_tx {M : Nat → Option Sec} {n ring : Nat} (ho : MOk M (n - 2 - ring)) (h1 : cntM M (n - 2 - ring) ≤ 40) (h2 : cntM M (n - 2 - ring) < ring) : fitsR n ring (txL M (n - 2 - ring)) = 0 := by
  have e : fitsL (n - 2 - ring) [] (txL M (n - 2 - ring)) = 0 := fitsL_ok (fun p hp => by
    unfold txL at hp
    obtain ⟨i, hi, rfl⟩ := List.mem_map.1 hp
    obtain ⟨s, hs⟩ := Option.isSome_iff_exists.1 ((mem_keysM ho).1 hi)
    obtain ⟨q1, q2⟩ := ho i s hs
    refine ⟨by show (0 : Int) ≤ (i : Int); omega, by show (i : Int) < _; omega, ?_, by simp⟩
    show ((M i).getD []).length = 512
    rw [hs]; exact q2) (by
      unfold txL
      rw [List.map_map]
      rw [List.Nodup, List.pairwise_map]
      refine (keysM_nodup M (n - 2 - ring)).imp fun hab q => hab ?_
      have : ((_ : Nat) : Int) = ((_ : Nat) : Int) := q
      omega)
  unfold fitsR
  rw [e, if_neg (by simp), txL_length, if_neg (by omega)]
theorem txL_nil {M : Nat → Option Sec} {hm : Nat} (h : cntM M hm = 0) : txL M hm = [] := List.eq_nil_of_length_eq_zero (by rw [txL_length]; exact h)
theorem txL_ne {M : Nat → Option Sec} {hm : Nat} (h : 0 < cntM M hm) : txL M hm ≠ [] := by
  intro q
  have := congrArg List.length q
  rw [txL_length] at this
  simp at this; omega

theorem JnAt.late {w : World} {F : Nat → Prop} {j : JG} {J : Jn} {D : Dk} (h : JnAt w F j J D) {k : Nat} (hk : w.heap.size ≤ k) : k ∉ j.all := by
  have h1 := h.lt
  have h2 := h.disk.lt
  simp only [JG.all, List.mem_cons, List.not_mem_nil, or_false, not_or]
  omega
/-- Another transaction writes. -/
theorem TxAt.other {w w' : World} {t u : TG} {jb jb2 : Nat} {turn turn2 : Int} {M M2 : Nat → Option Sec} (h : TxAt w u jb turn M) (h2 : TxAt w t jb2 turn2 M2) (hne : u.wb ≠ t.wb) (hu : Upd [t.wb] w w') : TxAt w' u jb turn M :=
  h.upd hu (by simp; intro e; exact h2.map (e ▸ h.st)) (by simpa using hne) (fun k c q e => by simp at q; subst q; exact h2.map e)
/-- Another transaction ends. -/
theorem TxAt.over {w w' : World} {t u : TG} {jb : Nat} {turn : Int} {M : Nat → Option Sec} (h : TxAt w u jb turn M) {c : Array Value} (h2 : w.heap[t.tb]? = some (.cells c 83 (0, 0))) (hne : u.tb ≠ t.tb) {F : Nat → Prop} {j : JG} {J : Jn} {D : Dk} (hj : JnAt w F j J D) (h1 : u.wb ∉ j.all) {S : List Nat} (hu : Upd S w w') (hS : ∀ k, k ∈ S → k = t.tb ∨ k ∈ j.all) : TxAt w' u jb turn M :=
  h.upd hu (fun q => by rcases hS _ q with e | e; exact hne e; exact hj.kind h.st (by decide) (by decide) (by decide) e)
    (fun q => by rcases hS _ q with e | e; exact h.map (e ▸ h2); exact h1 e)
    (fun k c' q e => by
      rcases hS k q with e' | e'
      · subst e'; rw [h2] at e; simp at e
      · exact hj.kind e (by decide) (by decide) (by decide) e')
theorem OverV.upd {w w' : World} {v : Value} (h : OverV w v) {S : List Nat} (hu : Upd S w w') (hS : ∀ (k : Nat) (c : Array Value), k ∈ S → w.heap[k]? ≠ some (.cells c 83 (0, 0))) : OverV w' v := by
  rcases h with h | ⟨tb, turn, e, hb⟩
  · exact .inl h
  · exact .inr ⟨tb, turn, e, (hu.block _ (blk_lt hb) (fun q => hS tb _ q hb)).trans hb⟩
theorem OverV.jn {w w' : World} {v : Value} (h : OverV w v) {F : Nat → Prop} {j : JG} {J : Jn} {D : Dk} (hj : JnAt w F j J D) {S : List Nat} (hu : Upd S w w') (hS : ∀ k, k ∈ S → k ∈ j.all) : OverV w' v :=
  h.upd hu fun k c q e => hj.kind e (by decide) (by decide) (by decide) (hS k q)

/-! ## with the power on -/

theorem begin_hi {w : World} {j : JG} {J : Jn} {D : Dk} {n ring : Nat} {t m : Int} {H : Nat → Sec} (h : JrAt w j J D n ring t m H) :
    Calls Try.prog 39 #[.pointer (some ⟨j.jb, 0, none⟩)] w fun e w' => ∃ x : TG, e = .returned (.tuple #[.pointer (some ⟨x.tb, 0, none⟩), .int .i64 0]) ∧ w.heap.size ≤ x.tb ∧ w.heap.size ≤ x.wb ∧ TxAt w' x j.jb (t - 1) (fun _ => none) ∧ JrAt w' j J D n ring t m H ∧ Upd j.all w w' := by
  refine (begin_ok h.at_ h.live.held.may (by have := h.used; omega)).mono ?_
  rintro e w' ⟨x, e1, e2, e3, e4, e5, e6⟩
  exact ⟨x, e1, e2, e3, by rw [← h.turn]; exact e4, h.of e5, e6⟩
theorem JrAt.homes {w : World} {j : JG} {J : Jn} {D : Dk} {n ring : Nat} {t m : Int} {H : Nat → Sec} (h : JrAt w j J D n ring t m H) : J.homes D.n = n - 2 - ring := by unfold Jn.homes; rw [h.n, h.ring]
theorem write_hi {w : World} {x : TG} {turn : Int} {M : Nat → Option Sec} {j : JG} {J : Jn} {D : Dk} {n ring : Nat} {t m : Int} {H : Nat → Sec} (h : JrAt w j J D n ring t m H) (hx : TxAt w x j.jb turn M) (hne : x.wb ∉ j.all) (ho : MOk M (n - 2 - ring)) (i : Int) (v : Value) (b : List UInt8) (hr : Rd w v b) (hb : b.length ≤ 1000000) :
    Calls Try.prog 40 #[.pointer (some ⟨x.tb, 0, none⟩), .int .i64 i, v] w fun e w' => e = .returned (.int .i64 (wrE M (n - 2 - ring) i b.length)) ∧ TxAt w' x j.jb turn (wrM M (n - 2 - ring) i b) ∧ JrAt w' j J D n ring t m H ∧ Upd [x.wb] w w' := by
  refine (writeT_spec hx h.at_ hne ho h.homes i v b hr hb).mono ?_
  rintro e w' ⟨e1, e2, e3, e4⟩
  exact ⟨e1, e2, h.of e3, e4⟩
theorem readT_hi {w : World} {x : TG} {turn : Int} {M : Nat → Option Sec} {j : JG} {J : Jn} {D : Dk} {n ring : Nat} {t m : Int} {H : Nat → Sec} (h : JrAt w j J D n ring t m H) (hx : TxAt w x j.jb turn M) (hne : x.wb ∉ j.all) (ho : MOk M (n - 2 - ring)) (i : Nat) (hi : i + 2 + ring < n) :
    Calls Try.prog 44 #[.pointer (some ⟨x.tb, 0, none⟩), .int .i64 (i : Int)] w fun e w' => ∃ v, e = .returned (.tuple #[v, .int .i64 0]) ∧ OwnN w' 5 (fun k => w.heap.size ≤ k) v ((M i).getD (H i)) ∧ JrAt w' j J D n ring t m H ∧ TxAt w' x j.jb turn M ∧ Upd [j.jb] w w' := by
  refine (readT_spec hx h.at_ hne ho (i : Int)).mono ?_
  rintro e w' ⟨v, e1, e2, e3, e4, e5⟩
  have hd := h.live.held.done
  have hr : readTx J D M (i : Int) = ((M i).getD (H i), 0, false) := by
    unfold readTx
    rw [Int.toNat_natCast]
    by_cases q : (M i).isSome = true
    · rw [if_pos ⟨by omega, q⟩]
      obtain ⟨s, hs⟩ := Option.isSome_iff_exists.1 q
      rw [hs, hd]; rfl
    · rw [if_neg fun r => q r.2]
      have hn : M i = none := by simpa using q
      rw [hn]
      unfold Jn.read
      have hm := h.live.held.may
      have h1 := h.n
      have h2 := h.ring
      rw [if_neg (by rw [hm]; decide), if_neg (by unfold Jn.homes; omega)]
      have hh : J.home D (i : Int).toNat = H i := by rw [h.home]; rfl
      split
      · rw [hh, hd]; rfl
      · rw [if_neg (by rw [h.live.held.calm.off]; decide), hh]; rfl
  rw [hr] at e1 e2 e3
  have : ({ J with done := false } : Jn) = J := by rw [← hd]
  exact ⟨v, e1, e2, h.of (by rw [← this]; exact e3), e4, e5⟩
theorem JrAt.comm {w w' : World} {j : JG} {J : Jn} {D : Dk} {n ring : Nat} {t m : Int} {H : Nat → Sec} (h : JrAt w j J D n ring t m H) {l : List Put} (hf : fitsR n ring l = 0) (ht : t < 1000000) (hm : m < 1000000) (hj : JnAt w' AnyF j (J.com D l) (J.comD D l).1) :
    (J.comD D l).2 = 0 ∧ ∃ J' D' t', JrAt w' j J' D' n ring t' (m + 1) (putsH H l) ∧ (t' = if l = [] then t else t + 1) := by
  have hu := h.used
  have h1 := h.num
  have h2 := h.turn
  by_cases h0 : l = []
  · obtain ⟨q1, q2⟩ := h.live.comNo (l := l) (.inr h0)
    rw [q1] at hj ⊢
    rw [q2] at hj
    refine ⟨by rw [h.fits]; exact hf, J, D, t, ?_, by rw [if_pos h0]⟩
    have := (h.of hj).le (m' := m + 1) (by omega)
    rw [h0]; exact this
  · rcases h.live.com ⟨by omega, by omega⟩ (by omega) ((h.fits l).trans hf) h0 with ⟨q1, q2, q3, q4, q5, q6, q7, q8, q9⟩ | ⟨_, q, _⟩
    · exact ⟨q1, _, _, t + 1, ⟨hj, q2, q8 h.arm, q7.trans h.n, q5.trans h.ring, by omega, by omega, by rw [q3, h.home]⟩, by rw [if_neg h0]⟩
    · exact absurd h.arm q
/-- A Commit of the turn that it was begun at. -/
theorem commit_hi {w : World} {x : TG} {M : Nat → Option Sec} {j : JG} {J : Jn} {D : Dk} {n ring : Nat} {t m : Int} {H : Nat → Sec} (h : JrAt w j J D n ring t m H) (hx : TxAt w x j.jb (t - 1) M) (hne : x.wb ∉ j.all) (ho : MOk M (n - 2 - ring)) (hn : n ≤ 5000) (h1 : cntM M (n - 2 - ring) ≤ 40) (h2 : cntM M (n - 2 - ring) < ring) (ht : t < 1000000) (hm : m < 1000000) :
    Calls Try.prog 43 #[.pointer (some ⟨x.tb, 0, none⟩)] w fun e w' => e = .returned (.int .i64 0) ∧ OverV w' (.pointer (some ⟨x.tb, 0, none⟩)) ∧ (∃ J' D' t', JrAt w' j J' D' n ring t' (m + 1) (fun i => (M i).getD (H i)) ∧ (t' = if cntM M (n - 2 - ring) = 0 then t else t + 1)) ∧ Upd (x.tb :: j.all) w w' := by
  refine (commitT_spec hx h.at_ hne ho (by omega) (by have := h.used; omega)).mono ?_
  rintro e w' ⟨e1, e2, e3, e4⟩
  have r1 : J.txD D (t - 1) (txL M (n - 2 - ring)) = J.comD D (txL M (n - 2 - ring)) := by unfold Jn.txD; rw [if_neg (by rw [h.turn]; simp)]
  have r2 : J.txJ D (t - 1) (txL M (n - 2 - ring)) = J.com D (txL M (n - 2 - ring)) := by unfold Jn.txJ; rw [if_neg (by rw [h.turn]; simp)]
  rw [r1] at e1 e3
  rw [r2] at e3
  obtain ⟨q1, J', D', t', q2, q3⟩ := h.comm (fits_tx ho h1 h2) ht hm e3
  rw [q1] at e1
  rw [putsH_tx ho] at q2
  refine ⟨e1, e2, ⟨J', D', t', q2, ?_⟩, e4⟩
  rw [q3]
  by_cases h0 : cntM M (n - 2 - ring) = 0
  · rw [if_pos h0, if_pos (txL_nil h0)]
  · rw [if_neg h0, if_neg (txL_ne (by omega))]
/-- A Commit behind another's. -/
theorem commit_late {w : World} {x : TG} {turn : Int} {M : Nat → Option Sec} {j : JG} {J : Jn} {D : Dk} {n ring : Nat} {t m : Int} {H : Nat → Sec} (h : JrAt w j J D n ring t m H) (hx : TxAt w x j.jb turn M) (hne : x.wb ∉ j.all) (ho : MOk M (n - 2 - ring)) (hn : n ≤ 5000) (ht : t - 1 ≠ turn) :
    Calls Try.prog 43 #[.pointer (some ⟨x.tb, 0, none⟩)] w fun e w' => e = .returned (.int .i64 10) ∧ OverV w' (.pointer (some ⟨x.tb, 0, none⟩)) ∧ JrAt w' j J D n ring t m H ∧ Upd (x.tb :: j.all) w w' := by
  refine (commitT_spec hx h.at_ hne ho (by omega) (by have := h.used; omega)).mono ?_
  rintro e w' ⟨e1, e2, e3, e4⟩
  have r1 : J.txD D turn (txL M (n - 2 - ring)) = (D, 10) := by unfold Jn.txD; rw [if_pos (by rw [h.turn]; exact ht)]
  have r2 : J.txJ D turn (txL M (n - 2 - ring)) = J := by unfold Jn.txJ; rw [if_pos (by rw [h.turn]; exact ht)]
  rw [r1] at e1 e3
  rw [r2] at e3
  exact ⟨e1, e2, h.of e3, e4⟩

/-! ## Made -/

set_option maxHeartbeats 1000000 in
theorem made_hi (n ring : Nat) (h0 : 32 ≤ n) (h1 : n ≤ 4096) (r0 : 8 ≤ ring) (r1 : ring ≤ 1024) (r2 : ring + 10 ≤ n) (w : World) :
    Calls Try.prog 38 #[.int .i64 (n : Int), .int .i64 (ring : Int)] w fun e w' => ∃ j : JG, e = .returned (.tuple #[.pointer (some ⟨j.d.db, 0, none⟩), .pointer (some ⟨j.jb, 0, none⟩)]) ∧ JG.Late j w ∧ (∃ J D, JrAt w' j J D n ring 1 2 (fun _ => zsec) ∧ J.used = 0) ∧ Upd [] w w' := by
  have HN := Lib.hid (new_hi n h0 h1 w)
  have hn := h0
  have hn1 := h1
  have hr0 := r0
  have hr1 := r1
  have hr2 := r2
  go_enter Try.func38, Try.ntmps38
  go_wp2_with fail
  refine HN.out.mono ?_
  rintro e w1 ⟨g, rfl, hd1, hg1, hg2, hg3, hu1⟩
  have HG : Hid (g.Late w) := ⟨hg1, hg2, hg3⟩
  have HF := Lib.hid (new_fmt_hi hd1 (by omega) (by omega) ring (by omega) (by omega) (by omega))
  have HU1 := Lib.hid hu1
  clear hd1 hg1 hg2 hg3 hu1
  go_wp2_with fail
  refine HF.out.mono ?_
  rintro e w2 ⟨rfl, hd2, hu2⟩
  have HO := Lib.hid (open_hi hd2 (by omega) (by omega))
  have HU2 := Lib.hid (HU1.out.lateD hu2 HG.out)
  clear hd2 hu2
  go_wp2_with fail
  refine HO.out.mono ?_
  rintro e w3 ⟨jb, ab, rfl, hj1, hj2, ⟨J3, D3, hr3, hus3⟩, hu3⟩
  have HJ : Hid (JG.Late ⟨jb, ab, g⟩ w) := ⟨Nat.le_trans HU2.out.size hj1, Nat.le_trans HU2.out.size hj2, HG.out⟩
  have HU3 := Lib.hid (HU2.out.lateD hu3 HG.out)
  have HR3 := Lib.hid hr3
  have HUS := Lib.hid hus3
  clear hj1 hj2 hr3 hu3 hus3
  go_wp2_with fail
  go_ret2
  exact ⟨⟨jb, ab, g⟩, rfl, HJ.out, ⟨J3, D3, HR3.out, HUS.out⟩, HU3.out⟩

end Go.Proofs.Ythbgidiblcokhaa
