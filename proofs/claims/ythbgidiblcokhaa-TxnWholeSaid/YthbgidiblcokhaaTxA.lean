/-
  A transaction in memory; what over, Touched, Homes, Abort do.
-/
import Derived.Test.YthbgidiblcokhaaLwE
namespace Go.Proofs.Ythbgidiblcokhaa
open Go.RowKit Go.MapKept Go.ChangeMaps

/-- The blocks of a transaction: its struct, its map. -/
structure TG where
  tb : Nat
  wb : Nat

/-- A transaction in memory: of the journal at jb, begun at a turn; what it wrote. -/
structure TxAt (w : World) (t : TG) (jb : Nat) (turn : Int) (M : Nat → Option Sec) : Prop where
  st : w.heap[t.tb]? = some (.cells #[.pointer (some ⟨jb, 0, none⟩), .int .u64 turn, .map (some t.wb)] 83 (0, 0))
  wrote : WaitM w AnyF t.wb M
/-- A transaction that is over: none, or one without a journal. -/
def OverV (w : World) (v : Value) : Prop := v = .pointer none ∨ ∃ (tb : Nat) (turn : Int), v = .pointer (some ⟨tb, 0, none⟩) ∧ w.heap[tb]? = some (.cells #[.pointer none, .int .u64 turn, .map none] 83 (0, 0))

theorem TxAt.world {w w' : World} {t : TG} {jb : Nat} {turn : Int} {M : Nat → Option Sec} (h : TxAt w t jb turn M) (h0 : w'.heap[t.tb]? = w.heap[t.tb]?) (h1 : w'.heap[t.wb]? = w.heap[t.wb]?) (ha : ∀ (k : Nat) (c : Array Value), w.heap[k]? = some (.cells c 5 (0, 0)) → w'.heap[k]? = w.heap[k]?) : TxAt w' t jb turn M :=
  ⟨h0.trans h.st, h.wrote.world h1 fun k c _ => ha k c⟩
theorem TxAt.lt {w : World} {t : TG} {jb : Nat} {turn : Int} {M : Nat → Option Sec} (h : TxAt w t jb turn M) : t.tb < w.heap.size ∧ t.wb < w.heap.size := by
  obtain ⟨f, hf, _⟩ := h.wrote
  exact ⟨blk_lt h.st, hf.lt⟩
theorem TxAt.below {w w' : World} {t : TG} {jb : Nat} {turn : Int} {M : Nat → Option Sec} (h : TxAt w t jb turn M) (hu : Upd [] w w') : TxAt w' t jb turn M :=
  h.world (hu.block _ h.lt.1 (by simp)) (hu.block _ h.lt.2 (by simp)) (fun k c e => hu.block _ (blk_lt e) (by simp))
theorem TxAt.drewN {w : World} {t : TG} {jb : Nat} {turn : Int} {M : Nat → Option Sec} (h : TxAt w t jb turn M) (n : Nat) : TxAt (w.drewN n) t jb turn M := h.below ((Upd.refl _ _).drewN n)
theorem TxAt.map {w : World} {t : TG} {jb : Nat} {turn : Int} {M : Nat → Option Sec} (h : TxAt w t jb turn M) {c : Array Value} {e : TypeId} {fr : Nat × Nat} : w.heap[t.wb]? ≠ some (.cells c e fr) := by
  obtain ⟨f, hf, _⟩ := h.wrote
  exact fun q => hf.not_cells q rfl
/-- Blocks that are none of its own may turn. -/
theorem TxAt.upd {w w' : World} {t : TG} {jb : Nat} {turn : Int} {M : Nat → Option Sec} (h : TxAt w t jb turn M) {S : List Nat} (hu : Upd S w w') (h0 : t.tb ∉ S) (h1 : t.wb ∉ S) (ha : ∀ (k : Nat) (c : Array Value), k ∈ S → w.heap[k]? ≠ some (.cells c 5 (0, 0))) : TxAt w' t jb turn M :=
  h.world (hu.block _ h.lt.1 h0) (hu.block _ h.lt.2 h1) (fun k c e => hu.block _ (blk_lt e) (fun q => ha k c q e))
/-- The journal's blocks may turn. -/
theorem TxAt.jn {w w' : World} {t : TG} {jb : Nat} {turn : Int} {M : Nat → Option Sec} (h : TxAt w t jb turn M) {F : Nat → Prop} {j : JG} {J : Jn} {D : Dk} (hj : JnAt w F j J D) (h1 : t.wb ∉ j.all) {S : List Nat} (hu : Upd S w w') (hS : ∀ k, k ∈ S → k ∈ j.all) : TxAt w' t jb turn M :=
  h.upd hu (fun q => hj.kind h.st (by decide) (by decide) (by decide) (hS _ q)) (fun q => h1 (hS _ q)) (fun k c q e => hj.kind e (by decide) (by decide) (by decide) (hS _ q))
/-- What a transaction writes turns nothing of a journal. -/
theorem JnAt.tx {w w' : World} {j : JG} {J : Jn} {D : Dk} (hj : JnAt w AnyF j J D) {t : TG} {jb : Nat} {turn : Int} {M : Nat → Option Sec} (h : TxAt w t jb turn M) (h1 : t.wb ∉ j.all) {S : List Nat} (hu : Upd S w w') (hS : ∀ k, k ∈ S → k = t.tb ∨ k = t.wb) : JnAt w' AnyF j J D := by
  have hb : ∀ k, k ∈ j.all → k ∉ S := fun k hk hs => by
    rcases hS k hs with rfl | rfl
    · exact hj.kind h.st (by decide) (by decide) (by decide) hk
    · exact h1 hk
  exact hj.world (hu.block _ hj.lt.1 (hb _ (by simp [JG.all]))) (hu.block _ hj.lt.2 (hb _ (by simp [JG.all]))) (hu.block _ hj.disk.lt.1 (hb _ (by simp [JG.all]))) (hu.block _ hj.disk.lt.2.1 (hb _ (by simp [JG.all]))) (hu.block _ hj.disk.lt.2.2 (hb _ (by simp [JG.all])))
    (fun k c _ e => hu.block _ (blk_lt e) (fun q => by
      rcases hS k q with rfl | rfl
      · rw [h.st] at e; simp at e
      · exact h.map e))
theorem OverV.below {w w' : World} {v : Value} (h : OverV w v) (hu : Upd [] w w') : OverV w' v := by
  rcases h with h | ⟨tb, turn, e, hb⟩
  · exact .inl h
  · exact .inr ⟨tb, turn, e, (hu.block _ (blk_lt hb) (by simp)).trans hb⟩

/-! ## what it wrote -/

def keysM (M : Nat → Option Sec) (h : Nat) : List Nat := (List.range h).filter fun i => (M i).isSome
def cntM (M : Nat → Option Sec) (h : Nat) : Nat := (keysM M h).length
def MOk (M : Nat → Option Sec) (h : Nat) : Prop := ∀ i s, M i = some s → i < h ∧ s.length = 512
theorem mem_keysM {M : Nat → Option Sec} {h : Nat} (ho : MOk M h) {i : Nat} : i ∈ keysM M h ↔ (M i).isSome = true := by
  unfold keysM
  rw [List.mem_filter, List.mem_range]
  refine ⟨fun q => q.2, fun q => ⟨?_, q⟩⟩
  obtain ⟨s, hs⟩ := Option.isSome_iff_exists.1 q
  exact (ho i s hs).1
theorem keysM_nodup (M : Nat → Option Sec) (h : Nat) : (keysM M h).Nodup := List.Pairwise.filter _ List.nodup_range
theorem MOk.put {M : Nat → Option Sec} {h i : Nat} {s : Sec} (ho : MOk M h) (hi : i < h) (hs : s.length = 512) : MOk (fun k => if k = i then some s else M k) h := by
  intro k x hk
  simp only at hk
  split at hk
  · rename_i e; subst e; cases hk; exact ⟨hi, hs⟩
  · exact ho k x hk
theorem MOk.none (h : Nat) : MOk (fun _ => none) h := by intro i s q; simp at q
theorem cntM_none (h : Nat) : cntM (fun _ => none) h = 0 := by unfold cntM keysM; simp
/-- One more, or as many. -/
theorem cntM_put {M : Nat → Option Sec} {h i : Nat} {s : Sec} (ho : MOk M h) (hi : i < h) : cntM (fun k => if k = i then some s else M k) h = if (M i).isSome then cntM M h else cntM M h + 1 := by
  have hmem : ∀ k, k ∈ keysM (fun k => if k = i then some s else M k) h ↔ k = i ∨ k ∈ keysM M h := by
    intro k
    unfold keysM
    simp only [List.mem_filter, List.mem_range]
    constructor
    · rintro ⟨a, b⟩
      by_cases q : k = i
      · exact .inl q
      · rw [if_neg q] at b; exact .inr ⟨a, b⟩
    · rintro (rfl | ⟨a, b⟩)
      · exact ⟨hi, by simp⟩
      · refine ⟨a, ?_⟩
        by_cases q : k = i
        · simp [q]
        · rw [if_neg q]; exact b
  by_cases q : (M i).isSome = true
  · rw [if_pos q]
    refine ((List.perm_ext_iff_of_nodup (keysM_nodup _ _) (keysM_nodup _ _)).2 fun k => ?_).length_eq
    rw [hmem]
    refine ⟨fun r => ?_, .inr⟩
    rcases r with rfl | r
    · exact (mem_keysM ho).2 q
    · exact r
  · rw [if_neg q]
    have hn : i ∉ keysM M h := fun r => q ((mem_keysM ho).1 r)
    have : (keysM (fun k => if k = i then some s else M k) h).Perm (i :: keysM M h) := (List.perm_ext_iff_of_nodup (keysM_nodup _ _) (List.nodup_cons.2 ⟨hn, keysM_nodup _ _⟩)).2 fun k => by rw [hmem, List.mem_cons]
    unfold cntM
    rw [this.length_eq]; rfl
theorem cntM_le (M : Nat → Option Sec) (h : Nat) : cntM M h ≤ h := by
  unfold cntM keysM
  refine Nat.le_trans (List.length_filter_le _ _) ?_
  rw [List.length_range]; exact Nat.le_refl _

theorem WaitM.len {w : World} {F : Nat → Prop} {mb : Nat} {M : Nat → Option Sec} {h : Nat} (hw : WaitM w F mb M) (ho : MOk M h) :
    ∀ ty n, (Builtin.len_ #[49] ty #[.map (some mb)]).run Try.prog (w.drewN n) = .ok (goInt (cntM M h : Int)) (w.drewN n) := by
  obtain ⟨f, hf, hf1, hf2⟩ := hw
  intro ty n
  have hfn : MapI (w.drewN n) mb f := hf.world rfl
  obtain ⟨ks, hnd, hmem, hrun⟩ := hfn.keys (P := Try.prog) (T := 49) Try.underlying49 ty
  have hp : ks.Perm ((keysM M h).map fun i : Nat => (i : Int)) := by
    refine (List.perm_ext_iff_of_nodup hnd ?_).2 fun k => ?_
    · rw [List.Nodup, List.pairwise_map]
      exact (keysM_nodup M h).imp fun hab e => hab (by omega)
    · rw [hmem, List.mem_map]
      constructor
      · intro q
        obtain ⟨v, hv⟩ := Option.isSome_iff_exists.1 q
        obtain ⟨k0, s, hs, _⟩ := hf1 k v hv
        exact ⟨k.toNat, (mem_keysM ho).2 (by rw [hs]; rfl), by omega⟩
      · rintro ⟨i, hi, rfl⟩
        obtain ⟨s, hs⟩ := Option.isSome_iff_exists.1 ((mem_keysM ho).1 hi)
        obtain ⟨v, hv⟩ := hf2 i s hs
        rw [hv]; rfl
  have hl := hp.length_eq
  rw [List.length_map] at hl
  rw [hrun, hl]; rfl
/-- A key is there, or not. -/
theorem WaitM.look {w : World} {F : Nat → Prop} {mb : Nat} {M : Nat → Option Sec} (hw : WaitM w F mb M) (i : Int) :
    (∃ v s, 0 ≤ i ∧ M i.toNat = some s ∧ Own w 5 F v s ∧ (∀ n, (Instr.lookup 49 (.map (some mb)) (.int .i64 i) true).run Try.prog (w.drewN n) = .ok (.tuple #[v, .bool true]) (w.drewN n)) ∧ (∀ n, (Instr.lookup 49 (.map (some mb)) (.int .i64 i) false).run Try.prog (w.drewN n) = .ok v (w.drewN n))) ∨
    ((i < 0 ∨ M i.toNat = none) ∧ (∀ n, (Instr.lookup 49 (.map (some mb)) (.int .i64 i) true).run Try.prog (w.drewN n) = .ok (.tuple #[.slice none 0 0, .bool false]) (w.drewN n))) := by
  obtain ⟨f, hf, hf1, hf2⟩ := hw
  cases hv : f i with
  | some v =>
    obtain ⟨k0, s, hs, ho⟩ := hf1 i v hv
    refine .inl ⟨v, s, k0, hs, ho, fun n => ?_, fun n => ?_⟩
    · have hfn : MapI (w.drewN n) mb f := hf.world rfl
      have := hfn.lookup (P := Try.prog) (T := 49) Try.underlying49 Try.underlying3 (zeroBytes _) i true
      rw [hv] at this; exact this
    · have hfn : MapI (w.drewN n) mb f := hf.world rfl
      have := hfn.lookup (P := Try.prog) (T := 49) Try.underlying49 Try.underlying3 (zeroBytes _) i false
      rw [hv] at this; exact this
  | none =>
    refine .inr ⟨?_, fun n => ?_⟩
    · by_cases q : i < 0
      · exact .inl q
      · refine .inr ?_
        cases hs : M i.toNat with
        | none => rfl
        | some s =>
          obtain ⟨v, hv'⟩ := hf2 _ _ hs
          rw [Int.toNat_of_nonneg (by omega), hv] at hv'; simp at hv'
    · have hfn : MapI (w.drewN n) mb f := hf.world rfl
      have := hfn.lookup (P := Try.prog) (T := 49) Try.underlying49 Try.underlying3 (zeroBytes _) i true
      rw [hv] at this; exact this

/-! ## over -/

set_option maxHeartbeats 400000 in
theorem over_no {w : World} {t : TG} {jb : Nat} {turn : Int} {M : Nat → Option Sec} (h : TxAt w t jb turn M) :
    Calls Try.prog 68 #[.pointer (some ⟨t.tb, 0, none⟩)] w fun e w' => e = .returned (.bool false) ∧ ∃ n, w' = w.drewN n := by
  have hc := blk_cell h.st
  clear h
  go_enter Try.func68, Try.ntmps68
  go_wp2
  go_ret
  exact ⟨rfl, 0, rfl⟩
set_option maxHeartbeats 400000 in
theorem over_yes {w : World} {v : Value} (h : OverV w v) :
    Calls Try.prog 68 #[v] w fun e w' => e = .returned (.bool true) ∧ ∃ n, w' = w.drewN n := by
  rcases h with rfl | ⟨tb, turn, rfl, hb⟩
  · go_enter Try.func68, Try.ntmps68
    go_wp2
    go_ret
    exact ⟨rfl, 0, rfl⟩
  · have hc := blk_cell hb
    clear hb
    go_enter Try.func68, Try.ntmps68
    go_wp2
    go_ret
    exact ⟨rfl, 0, rfl⟩

/-! ## Touched, Homes -/

set_option maxHeartbeats 400000 in
theorem touched_spec {w : World} {t : TG} {jb : Nat} {turn : Int} {M : Nat → Option Sec} (h : TxAt w t jb turn M) {hm : Nat} (ho : MOk M hm) :
    Calls Try.prog 41 #[.pointer (some ⟨t.tb, 0, none⟩)] w fun e w' => e = .returned (.int .i64 (cntM M hm : Int)) ∧ ∃ n, w' = w.drewN n := by
  have H := Lib.hid h
  have hc := blk_cell h.st
  have hlen := h.wrote.len ho
  clear h
  go_enter Try.func41, Try.ntmps41
  go_wp2_with fail
  refine (over_no H.out).mono ?_
  rintro e w' ⟨rfl, n, rfl⟩
  go_wp2_with fail
  go_ret
  exact ⟨rfl, _, rfl⟩
set_option maxHeartbeats 400000 in
theorem touched_over {w : World} {v : Value} (h : OverV w v) :
    Calls Try.prog 41 #[v] w fun e w' => e = .returned (.int .i64 0) ∧ ∃ n, w' = w.drewN n := by
  have H := Lib.hid h
  clear h
  go_enter Try.func41, Try.ntmps41
  go_wp2_with fail
  refine (over_yes H.out).mono ?_
  rintro e w' ⟨rfl, n, rfl⟩
  go_wp2_with fail
  go_ret
  exact ⟨rfl, _, rfl⟩
set_option maxHeartbeats 400000 in
theorem homesT_spec {w : World} {t : TG} {j : JG} {turn : Int} {M : Nat → Option Sec} (h : TxAt w t j.jb turn M) {F : Nat → Prop} {J : Jn} {D : Dk} (hj : JnAt w F j J D) :
    Calls Try.prog 42 #[.pointer (some ⟨t.tb, 0, none⟩)] w fun e w' => e = .returned (.int .i64 (J.homes D.n : Int)) ∧ ∃ n, w' = w.drewN n := by
  have H := Lib.hid h
  have HJ := Lib.hid hj
  have hc := blk_cell h.st
  clear h hj
  go_enter Try.func42, Try.ntmps42
  go_wp2_with fail
  refine (over_no H.out).mono ?_
  rintro e w' ⟨rfl, n, rfl⟩
  go_wp2_with fail
  refine (homes_spec (HJ.out.drewN n)).mono ?_
  rintro e w' ⟨rfl, m, rfl⟩
  go_wp2_with fail
  go_ret
  exact ⟨rfl, _, rfl⟩
set_option maxHeartbeats 400000 in
theorem homesT_over {w : World} {v : Value} (h : OverV w v) :
    Calls Try.prog 42 #[v] w fun e w' => e = .returned (.int .i64 0) ∧ ∃ n, w' = w.drewN n := by
  have H := Lib.hid h
  clear h
  go_enter Try.func42, Try.ntmps42
  go_wp2_with fail
  refine (over_yes H.out).mono ?_
  rintro e w' ⟨rfl, n, rfl⟩
  go_wp2_with fail
  go_ret
  exact ⟨rfl, _, rfl⟩

/-! ## Abort -/

set_option maxHeartbeats 400000 in
theorem abort_spec {w : World} {t : TG} {jb : Nat} {turn : Int} {M : Nat → Option Sec} (h : TxAt w t jb turn M) :
    Calls Try.prog 45 #[.pointer (some ⟨t.tb, 0, none⟩)] w fun e w' => e = .returned (.tuple #[]) ∧ w'.heap[t.tb]? = some (.cells #[.pointer none, .int .u64 turn, .map none] 83 (0, 0)) ∧ WaitM w' AnyF t.wb M ∧ Upd [t.tb] w w' := by
  have H := Lib.hid h
  have hc := blk_cell h.st
  have hf := blk_free h.st
  have hR : ∀ W, W = (w.setCell ⟨t.tb, 0, none⟩ (.pointer none)).setCell ⟨t.tb, 2, none⟩ (.map none) → W.heap[t.tb]? = some (.cells #[.pointer none, .int .u64 turn, .map none] 83 (0, 0)) ∧ WaitM W AnyF t.wb M ∧ Upd [t.tb] w W := by
    rintro W rfl
    have hu : Upd [t.tb] w ((w.setCell ⟨t.tb, 0, none⟩ (.pointer none)).setCell ⟨t.tb, 2, none⟩ (.map none)) := ((Upd.refl _ _).set _ (by simp)).set _ (by simp)
    refine ⟨?_, H.out.wrote.world (hu.block _ H.out.lt.2 ?_) (fun k c _ e => hu.block _ (blk_lt e) ?_), hu⟩
    · rw [blk_set (blk_set H.out.st 0 _) 2 _]; simp
    · simp; intro e; exact H.out.map (by rw [e]; exact H.out.st)
    · simp; rintro rfl; rw [H.out.st] at e; simp at e
  have HR := Lib.hid hR
  clear h hR
  go_enter Try.func45, Try.ntmps45
  go_wp2_with fail
  go_end0
  exact ⟨rfl, HR.out _ rfl⟩
set_option maxHeartbeats 400000 in
theorem abort_over {w : World} {v : Value} (h : OverV w v) :
    Calls Try.prog 45 #[v] w fun e w' => e = .returned (.tuple #[]) ∧ OverV w' v ∧ ∃ S, (∀ k, k ∈ S → v = .pointer (some ⟨k, 0, none⟩)) ∧ Upd S w w' := by
  rcases h with rfl | ⟨tb, turn, rfl, hb⟩
  · go_enter Try.func45, Try.ntmps45
    go_wp2
    go_end0
    exact ⟨rfl, .inl rfl, [], by simp, Upd.refl _ _⟩
  · have hc := blk_cell hb
    have hf := blk_free hb
    have hR : ∀ W, W = (w.setCell ⟨tb, 0, none⟩ (.pointer none)).setCell ⟨tb, 2, none⟩ (.map none) → OverV W (.pointer (some ⟨tb, 0, none⟩)) ∧ Upd [tb] w W := by
      rintro W rfl
      refine ⟨.inr ⟨tb, turn, rfl, ?_⟩, ((Upd.refl _ _).set _ (by simp)).set _ (by simp)⟩
      rw [blk_set (blk_set hb 0 _) 2 _]; simp
    have HR := Lib.hid hR
    clear hb hR
    go_enter Try.func45, Try.ntmps45
    go_wp2_with fail
    go_end0
    exact ⟨rfl, (HR.out _ rfl).1, [tb], by simp, (HR.out _ rfl).2⟩

end Go.Proofs.Ythbgidiblcokhaa
