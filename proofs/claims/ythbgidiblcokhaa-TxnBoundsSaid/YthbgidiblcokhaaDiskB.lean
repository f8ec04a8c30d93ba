/-
  The disk in memory ('DiskAt'), and what Len, may, Dead, Lives, Writes, goes, Arm do.
-/
import Derived.Test.YthbgidiblcokhaaDiskA
namespace Go.Proofs.Ythbgidiblcokhaa
open Go.RowKit

/-- The blocks of a disk: its struct, the row of what lasts, the map of what waits. -/
structure DG where
  db : Nat
  lb : Nat
  mb : Nat

def wayv : Option Nat → Int
  | none => -1
  | some i => (i : Int)

/-- A sector that lasts: none: zeros. -/
def LastV (w : World) (F : Nat → Prop) (v : Value) (s : Sec) : Prop := (v = .slice none 0 0 ∧ s = zsec) ∨ Own w 5 F v s

/-- The map of sectors that wait. -/
def WaitM (w : World) (F : Nat → Prop) (mb : Nat) (wt : Nat → Option Sec) : Prop :=
  ∃ f, MapI w mb f ∧ (∀ k v, f k = some v → 0 ≤ k ∧ ∃ s, wt k.toNat = some s ∧ Own w 5 F v s) ∧ ∀ i s, wt i = some s → ∃ v, f (i : Int) = some v

structure DiskAt (w : World) (F : Nat → Prop) (g : DG) (D : Dk) : Prop where
  st : ∃ fv, w.heap[g.db]? = some (.cells #[.slice (some ⟨g.lb, 0, none⟩) D.n D.n, .map (some g.mb), .bool D.off, .int .i64 D.armed, .int .i64 (D.part : Int), .int .i64 (wayv D.way), fv, .int .i64 D.writes, .int .i64 D.lives] 86 (0, 0)) ∧ OwnN w 5 F fv D.front
  last : ∃ lv : List Value, w.heap[g.lb]? = some (.cells lv.toArray 36 (0, 0)) ∧ lv.length = D.n ∧ ∀ i v, lv[i]? = some v → LastV w F v (D.last i)
  wait : WaitM w F g.mb D.wait
  ok : D.Ok

theorem LastV.mono {w : World} {F G : Nat → Prop} {v : Value} {s : Sec} (h : LastV w F v s) (hFG : ∀ k, F k → G k) : LastV w G v s := by
  rcases h with h | h
  · exact .inl h
  · exact .inr (h.mono hFG)
theorem LastV.world {w w' : World} {F : Nat → Prop} {v : Value} {s : Sec} (h : LastV w F v s) (ha : ∀ k c, F k → w.heap[k]? = some (.cells c 5 (0, 0)) → w'.heap[k]? = w.heap[k]?) : LastV w' F v s := by
  rcases h with h | h
  · exact .inl h
  · exact .inr (h.world ha)
theorem WaitM.mono {w : World} {F G : Nat → Prop} {mb : Nat} {wt : Nat → Option Sec} (h : WaitM w F mb wt) (hFG : ∀ k, F k → G k) : WaitM w G mb wt := by
  obtain ⟨f, h1, h2, h3⟩ := h
  refine ⟨f, h1, fun k v hk => ?_, h3⟩
  obtain ⟨a, s, e, o⟩ := h2 k v hk
  exact ⟨a, s, e, o.mono hFG⟩
theorem WaitM.world {w w' : World} {F : Nat → Prop} {mb : Nat} {wt : Nat → Option Sec} (h : WaitM w F mb wt) (hm : w'.heap[mb]? = w.heap[mb]?) (ha : ∀ k c, F k → w.heap[k]? = some (.cells c 5 (0, 0)) → w'.heap[k]? = w.heap[k]?) : WaitM w' F mb wt := by
  obtain ⟨f, h1, h2, h3⟩ := h
  refine ⟨f, h1.world hm, fun k v hk => ?_, h3⟩
  obtain ⟨a, s, e, o⟩ := h2 k v hk
  exact ⟨a, s, e, o.world ha⟩
theorem DiskAt.mono {w : World} {F G : Nat → Prop} {g : DG} {D : Dk} (h : DiskAt w F g D) (hFG : ∀ k, F k → G k) : DiskAt w G g D := by
  obtain ⟨⟨fv, a1, a2⟩, ⟨lv, b1, b2, b3⟩, c, d⟩ := h
  exact ⟨⟨fv, a1, a2.mono hFG⟩, ⟨lv, b1, b2, fun i v hv => (b3 i v hv).mono hFG⟩, c.mono hFG, d⟩
theorem DiskAt.world {w w' : World} {F : Nat → Prop} {g : DG} {D : Dk} (h : DiskAt w F g D) (h1 : w'.heap[g.db]? = w.heap[g.db]?) (h2 : w'.heap[g.lb]? = w.heap[g.lb]?) (h3 : w'.heap[g.mb]? = w.heap[g.mb]?)
    (ha : ∀ k c, F k → w.heap[k]? = some (.cells c 5 (0, 0)) → w'.heap[k]? = w.heap[k]?) : DiskAt w' F g D := by
  obtain ⟨⟨fv, a1, a2⟩, ⟨lv, b1, b2, b3⟩, c, d⟩ := h
  exact ⟨⟨fv, by rw [h1]; exact a1, a2.world ha⟩, ⟨lv, by rw [h2]; exact b1, b2, fun i v hv => (b3 i v hv).world ha⟩, c.world h3 ha, d⟩
/-- The struct is laid anew; all else is as it was. -/
theorem DiskAt.re {w w' : World} {F : Nat → Prop} {g : DG} {D D' : Dk} (h : DiskAt w F g D)
    (hst : ∃ fv, w'.heap[g.db]? = some (.cells #[.slice (some ⟨g.lb, 0, none⟩) D.n D.n, .map (some g.mb), .bool D'.off, .int .i64 D'.armed, .int .i64 (D'.part : Int), .int .i64 (wayv D'.way), fv, .int .i64 D'.writes, .int .i64 D'.lives] 86 (0, 0)) ∧ OwnN w' 5 F fv D'.front)
    (ho : ∀ k, k < w.heap.size → k ≠ g.db → w'.heap[k]? = w.heap[k]?) (hn : D'.n = D.n) (hl : D'.last = D.last) (hw : D'.wait = D.wait) (hok : D'.Ok) : DiskAt w' F g D' := by
  obtain ⟨⟨fv, a1, a2⟩, ⟨lv, b1, b2, b3⟩, c, d⟩ := h
  have ha : ∀ k c, F k → w.heap[k]? = some (.cells c 5 (0, 0)) → w'.heap[k]? = w.heap[k]? := by
    intro k c _ hk
    refine ho k (blk_lt hk) ?_
    rintro rfl
    rw [a1] at hk; simp at hk
  refine ⟨by rw [hn]; exact hst, ⟨lv, ?_, by rw [hn]; exact b2, fun i v hv => by rw [hl]; exact (b3 i v hv).world ha⟩, ?_, hok⟩
  · rw [ho _ (blk_lt b1)]
    · exact b1
    · intro e; rw [e, a1] at b1; simp at b1
  · rw [hw]
    obtain ⟨f, hf, _⟩ := id c
    exact c.world (ho _ hf.lt (Ne.symm (hf.not_cells a1))) ha

/-- The three blocks are three. -/
theorem DiskAt.ne1 {w : World} {F : Nat → Prop} {g : DG} {D : Dk} (h : DiskAt w F g D) : g.lb ≠ g.db := by
  obtain ⟨⟨fv, a1, _⟩, ⟨lv, b1, _⟩, _, _⟩ := h
  intro e; rw [e, a1] at b1; simp at b1
theorem DiskAt.ne2 {w : World} {F : Nat → Prop} {g : DG} {D : Dk} (h : DiskAt w F g D) : g.mb ≠ g.db := by
  obtain ⟨⟨fv, a1, _⟩, _, ⟨f, hf, _⟩, _⟩ := h
  exact Ne.symm (hf.not_cells a1)
theorem DiskAt.ne3 {w : World} {F : Nat → Prop} {g : DG} {D : Dk} (h : DiskAt w F g D) : g.mb ≠ g.lb := by
  obtain ⟨_, ⟨lv, b1, _⟩, ⟨f, hf, _⟩, _⟩ := h
  exact Ne.symm (hf.not_cells b1)
theorem DiskAt.lt {w : World} {F : Nat → Prop} {g : DG} {D : Dk} (h : DiskAt w F g D) : g.db < w.heap.size ∧ g.lb < w.heap.size ∧ g.mb < w.heap.size := by
  obtain ⟨⟨fv, a1, _⟩, ⟨lv, b1, _⟩, ⟨f, hf, _⟩, _⟩ := h
  exact ⟨blk_lt a1, blk_lt b1, hf.lt⟩
/-- A byte row is none of the three. -/
theorem DiskAt.byte {w : World} {F : Nat → Prop} {g : DG} {D : Dk} (h : DiskAt w F g D) {k : Nat} {c : Array Value} {f : Nat × Nat} (hk : w.heap[k]? = some (.cells c 5 f)) : k ∉ [g.db, g.lb, g.mb] := by
  obtain ⟨⟨fv, a1, _⟩, ⟨lv, b1, _⟩, ⟨f, hf, _⟩, _⟩ := h
  simp only [List.mem_cons, List.not_mem_nil, or_false, not_or]
  refine ⟨?_, ?_, hf.not_cells hk⟩
  · rintro rfl; rw [a1] at hk; simp at hk
  · rintro rfl; rw [b1] at hk; simp at hk

theorem ret_int {k : IntKind} {a b : Int} (h : a = b) : Ending.returned (.int k a) = .returned (.int k b) := by rw [h]
theorem ret_bool {a b : Bool} (h : a = b) : Ending.returned (.bool a) = .returned (.bool b) := by rw [h]

set_option maxHeartbeats 400000 in
theorem len_nil (w : World) : Calls Try.prog 46 #[.pointer none] w fun e w' => e = .returned (.int .i64 0) ∧ w = w' := by
  go_enter Try.func46, Try.ntmps46
  go_wp2
  go_ret
  exact ⟨rfl, rfl⟩

set_option maxHeartbeats 400000 in
theorem len_spec {w : World} {F : Nat → Prop} {g : DG} {D : Dk} (h : DiskAt w F g D) :
    Calls Try.prog 46 #[.pointer (some ⟨g.db, 0, none⟩)] w fun e w' => e = .returned (.int .i64 (D.n : Int)) ∧ w = w' := by
  obtain ⟨fv, a1, _⟩ := h.st
  have hc := blk_cell a1
  clear h a1
  go_enter Try.func46, Try.ntmps46
  go_wp2
  go_ret
  exact ⟨rfl, rfl⟩

set_option maxHeartbeats 400000 in
theorem lives_spec {w : World} {F : Nat → Prop} {g : DG} {D : Dk} (h : DiskAt w F g D) :
    Calls Try.prog 50 #[.pointer (some ⟨g.db, 0, none⟩)] w fun e w' => e = .returned (.int .i64 D.lives) ∧ w = w' := by
  obtain ⟨fv, a1, _⟩ := h.st
  have hc := blk_cell a1
  clear h a1
  go_enter Try.func50, Try.ntmps50
  go_wp2
  go_ret
  exact ⟨rfl, rfl⟩

set_option maxHeartbeats 400000 in
theorem writes_spec {w : World} {F : Nat → Prop} {g : DG} {D : Dk} (h : DiskAt w F g D) :
    Calls Try.prog 35 #[.pointer (some ⟨g.db, 0, none⟩)] w fun e w' => e = .returned (.int .i64 D.writes) ∧ w = w' := by
  obtain ⟨fv, a1, _⟩ := h.st
  have hc := blk_cell a1
  clear h a1
  go_enter Try.func35, Try.ntmps35
  go_wp2
  go_ret
  exact ⟨rfl, rfl⟩

set_option maxHeartbeats 400000 in
theorem dead_spec {w : World} {F : Nat → Prop} {g : DG} {D : Dk} (h : DiskAt w F g D) :
    Calls Try.prog 33 #[.pointer (some ⟨g.db, 0, none⟩)] w fun e w' => e = .returned (.bool D.off) ∧ w = w' := by
  have H := Lib.hid h
  obtain ⟨fv, a1, _⟩ := h.st
  have hc := blk_cell a1
  have hn := h.ok.n0
  have hn' : ((D.n : Int) == 0) = false := beq_eq_false_iff_ne.2 (by omega)
  clear h a1
  go_enter Try.func33, Try.ntmps33
  go_wp2_with (go_at_call 46; refine (len_spec H.out).mono ?_; rintro e w' ⟨rfl, rfl⟩)
  go_ret
  exact ⟨rfl, rfl⟩

set_option maxHeartbeats 400000 in
theorem may_spec {w : World} {F : Nat → Prop} {g : DG} {D : Dk} (h : DiskAt w F g D) (i : Int) :
    Calls Try.prog 69 #[.pointer (some ⟨g.db, 0, none⟩), .int .i64 i] w fun e w' => e = .returned (.int .i64 (D.may i)) ∧ w = w' := by
  have H := Lib.hid h
  obtain ⟨fv, a1, _⟩ := h.st
  have hc := blk_cell a1
  have hn := h.ok.n0
  have hn1 := h.ok.n1
  clear h a1
  go_enter Try.func69, Try.ntmps69
  go_wp2_with (go_at_call 46; refine (len_spec H.out).mono ?_; rintro e w' ⟨rfl, rfl⟩)
  all_goals
    go_ret
    refine ⟨ret_int ?_, rfl⟩
    simp only [Dk.may]
    simp_all
    try omega

/-- What an operation does to the power: it goes, or the power is off from now on. -/
def Dk.gone (D : Dk) : Dk := if D.armed = 0 then { D with off := true } else D.step

theorem Dk.step_ok {D : Dk} (h : D.Ok) : D.step.Ok := by
  unfold Dk.step
  split
  · exact ⟨h.n0, h.n1, h.last, h.wait, by have := h.armed0; simp; omega, by have := h.armed1; simp; omega, h.part, h.way, h.front⟩
  · exact h
theorem Dk.gone_ok {D : Dk} (h : D.Ok) : D.gone.Ok := by
  unfold Dk.gone
  split
  · exact ⟨h.n0, h.n1, h.last, h.wait, h.armed0, h.armed1, h.part, h.way, h.front⟩
  · exact Dk.step_ok h

set_option maxHeartbeats 400000 in
theorem goes_spec {w : World} {F : Nat → Prop} {g : DG} {D : Dk} (h : DiskAt w F g D) :
    Calls Try.prog 70 #[.pointer (some ⟨g.db, 0, none⟩)] w fun e w' => e = .returned (.bool (D.armed != 0)) ∧ DiskAt w' F g D.gone ∧ Upd [g.db] w w' := by
  have H := Lib.hid h
  obtain ⟨fv, a1, a2⟩ := h.st
  have hc := blk_cell a1
  have hf := blk_free a1
  have hA0 := h.ok.armed0
  have hA1 := h.ok.armed1
  have HA := Lib.hid a1
  have HB := Lib.hid a2
  clear h a1 a2
  have key : ∀ (D' : Dk) (o : Nat) (v : Value), D' = D.gone → D'.front = D.front → D'.n = D.n → D'.last = D.last → D'.wait = D.wait → (#[.slice (some ⟨g.lb, 0, none⟩) D.n D.n, .map (some g.mb), .bool D.off, .int .i64 D.armed, .int .i64 (D.part : Int), .int .i64 (wayv D.way), fv, .int .i64 D.writes, .int .i64 D.lives] : Array Value).setIfInBounds o v = #[.slice (some ⟨g.lb, 0, none⟩) D.n D.n, .map (some g.mb), .bool D'.off, .int .i64 D'.armed, .int .i64 (D'.part : Int), .int .i64 (wayv D'.way), fv, .int .i64 D'.writes, .int .i64 D'.lives] →
      DiskAt (w.setCell ⟨g.db, o, none⟩ v) F g D.gone ∧ Upd [g.db] w (w.setCell ⟨g.db, o, none⟩ v) := by
    intro D' o v e e1 e2 e3 e4 hs
    refine ⟨?_, (Upd.refl _ _).set v (.inl (by simp))⟩
    rw [← e]
    refine H.out.re ⟨fv, by rw [← hs]; exact blk_set HA.out o v, ?_⟩ (fun k _ hk => blk_set_ne _ _ hk) e2 e3 e4 (by rw [e]; exact Dk.gone_ok H.out.ok)
    rw [e1]
    exact HB.out.world (fun k c _ hk => blk_set_ne _ _ (by rintro rfl; rw [HA.out] at hk; simp at hk))
  have K := Lib.hid key
  clear key
  rcases Int.lt_trichotomy D.armed 0 with h0 | h0 | h0
  · have hb1 : (D.armed == 0) = false := beq_eq_false_iff_ne.2 (by omega)
    go_enter Try.func70, Try.ntmps70
    go_wp2
    go_ret
    refine ⟨ret_bool ?_, ?_, Upd.refl _ _⟩
    · simp [bne, hb1]
    · have e : D.gone = D := by unfold Dk.gone Dk.step; rw [if_neg (by omega), if_neg (by omega)]
      rw [e]; exact H.out
  · have hb1 : (D.armed == 0) = true := beq_iff_eq.2 h0
    have H0 := Lib.hid h0
    clear h0
    go_enter Try.func70, Try.ntmps70
    go_wp2
    go_ret
    refine ⟨ret_bool ?_, K.out { D with off := true } _ _ ?_ rfl rfl rfl rfl rfl⟩
    · simp [bne, hb1]
    · unfold Dk.gone; rw [if_pos H0.out]
  · have hb1 : (D.armed == 0) = false := beq_eq_false_iff_ne.2 (by omega)
    go_enter Try.func70, Try.ntmps70
    go_wp2
    go_ret
    refine ⟨ret_bool ?_, K.out { D with armed := D.armed - 1 } _ _ ?_ rfl rfl rfl rfl rfl⟩
    · simp [bne, hb1]
    · unfold Dk.gone Dk.step; rw [if_neg (by omega), if_pos h0]

set_option maxHeartbeats 400000 in
theorem arm_spec {w : World} {F : Nat → Prop} {g : DG} {D : Dk} (h : DiskAt w F g D) (n part : Int) (hn2 : n ≤ 9223372036854775807) :
    Calls Try.prog 32 #[.pointer (some ⟨g.db, 0, none⟩), .int .i64 n, .int .i64 part] w fun e w' => e = .returned (.tuple #[]) ∧ DiskAt w' F g (D.arm n part) ∧ Upd [g.db] w w' := by
  have H := Lib.hid h
  obtain ⟨fv, a1, a2⟩ := h.st
  have hc := blk_cell a1
  have hf := blk_free a1
  have hn := h.ok.n0
  have hn' : ((D.n : Int) == 0) = false := beq_eq_false_iff_ne.2 (by omega)
  have HA := Lib.hid a1
  have HB := Lib.hid a2
  have fin : ∀ a p : Int, a = max n (-1) → p = min (max part 0) 512 → DiskAt ((w.setCell ⟨g.db, 3, none⟩ (.int .i64 a)).setCell ⟨g.db, 4, none⟩ (.int .i64 p)) F g (D.arm n part) ∧ Upd [g.db] w ((w.setCell ⟨g.db, 3, none⟩ (.int .i64 a)).setCell ⟨g.db, 4, none⟩ (.int .i64 p)) := by
    intro a p ea ep
    refine ⟨?_, ((Upd.refl _ _).set _ (.inl (by simp))).set _ (.inl (by simp))⟩
    have ep' : ((D.arm n part).part : Int) = p := by simp only [Dk.arm]; omega
    refine H.out.re ⟨fv, ?_, ?_⟩ (fun k _ hk => by rw [blk_set_ne _ _ hk, blk_set_ne _ _ hk]) rfl rfl rfl ?_
    · rw [blk_set (blk_set HA.out 3 _) 4 _, ep']
      simp [Dk.arm, ea]
    · exact HB.out.world (fun k c _ hk => by
        have : k ≠ g.db := by rintro rfl; rw [HA.out] at hk; simp at hk
        rw [blk_set_ne _ _ this, blk_set_ne _ _ this])
    · have ok := H.out.ok
      exact ⟨ok.n0, ok.n1, ok.last, ok.wait, by simp only [Dk.arm]; omega, by simp only [Dk.arm]; omega, by omega, ok.way, ok.front⟩
  have FIN := Lib.hid fin
  clear h a1 a2 fin
  go_enter Try.func32, Try.ntmps32
  go_wp2_with (go_at_call 46; refine (len_spec H.out).mono ?_; rintro e w' ⟨rfl, rfl⟩)
  all_goals (go_end0; exact ⟨rfl, FIN.out _ _ (by omega) (by omega)⟩)

end Go.Proofs.Ythbgidiblcokhaa
