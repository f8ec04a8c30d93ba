/-
  tree.part: a new sector is taken, both halves are written.
-/
import Derived.Test.YtceakcejchbbjaaGreatTrO
namespace Go.Proofs.YtceakcejchbbjaaGreat
open Go.RowKit Go.MapKept Go.ChangeMaps

/-- A node in memory, that is written as enc. -/
def NodeRd (S : List Nat) (w : World) (kd : Int) (vk vv vd : Value) (enc : Sec) : Prop :=
  (∀ a l c, vk = .slice (some a) l c → a.block ∉ S) ∧ (∀ a l c, vv = .slice (some a) l c → a.block ∉ S) ∧ (∀ a l c, vd = .slice (some a) l c → a.block ∉ S) ∧
  ((∃ ks vs, kd = 1 ∧ RRd w vk 32 (ks.map bts) ∧ RRd w vv 16 (vs.map bts) ∧ LeafOk ks vs ∧ enc = encLeaf ks vs) ∨ (∃ ks ds, kd = 2 ∧ RRd w vk 32 (ks.map bts) ∧ KRd w vd ds ∧ InnerOk ks ds ∧ enc = encInner ks ds))
theorem NodeRd.keep {S : List Nat} {w w' : World} {kd : Int} {vk vv vd : Value} {enc : Sec} (h : NodeRd S w kd vk vv vd enc) (hu : Upd S w w') : NodeRd S w' kd vk vv vd enc := by
  obtain ⟨a1, a2, a3, ⟨ks, vs, e1, h1, h2, h3, h4⟩ | ⟨ks, ds, e1, h1, h2, h3, h4⟩⟩ := h
  · exact ⟨a1, a2, a3, .inl ⟨ks, vs, e1, h1.keep hu a1, h2.keep hu a2, h3, h4⟩⟩
  · exact ⟨a1, a2, a3, .inr ⟨ks, ds, e1, h1.keep hu a1, h2.keep hu a3, h3, h4⟩⟩
theorem NodeRd.below {S : List Nat} {w w' : World} {kd : Int} {vk vv vd : Value} {enc : Sec} (h : NodeRd S w kd vk vv vd enc) (hu : Upd [] w w') : NodeRd S w' kd vk vv vd enc := by
  exact h.keep (hu.mono (by simp))
theorem write_node {w : World} {g : Sg} {M : Nat → Option Sec} (h : SpAt w g M) {S : List Nat} {kd : Int} {vk vv vd : Value} {enc : Sec} (hn : NodeRd S w kd vk vv vd enc) (at_ : Nat) (hat : at_ < g.h) (hat2 : at_ < 4294967296) (hc : (M at_).isSome = true ∨ cntM M g.h < 40) :
    Calls Tryz.prog 72 #[.agg #[.int .i64 kd, vk, vv, vd], .pointer (some ⟨g.x.tb, 0, none⟩), .int .u32 (at_ : Int)] w fun e w' => e = .returned (.int .i64 0) ∧ SpAt w' g (putS M at_ enc) ∧ Upd [g.x.wb] w w' := by
  obtain ⟨_, _, _, ⟨ks, vs, rfl, h1, h2, h3, rfl⟩ | ⟨ks, ds, rfl, h1, h2, h3, rfl⟩⟩ := hn
  · exact write_leaf h h1 h2 h3 at_ hat hat2 hc
  · exact write_inner h h1 h2 h3 at_ hat hat2 hc
/-- What a call tells of a parted node. -/
def splC : Option (Bs × Nat) → List Value
  | none => bts (List.replicate 32 0) ++ [.int .u32 0, .bool false]
  | some (k, b) => bts k ++ [.int .u32 (b : Int), .bool true]
def splV (o : Option (Bs × Nat)) : Value := .agg (splC o).toArray
/-- One more sector is taken. -/
def takM (g : Sg) (M : Nat → Option Sec) (s : Nat) : Nat → Option Sec := put1 M (setR (fixB (g.cur M 1)) s true 1)
theorem exists_free {T : Nat → Bool} : ∀ {h : Nat}, 0 < leftN T h → ∃ s, s < h ∧ T s = false ∧ ∀ q, q < s → T q = true
  | 0, h => by simp [leftN] at h
  | h + 1, hp => by
    by_cases hq : 0 < leftN T h
    · obtain ⟨s, h1, h2, h3⟩ := exists_free hq
      exact ⟨s, by omega, h2, h3⟩
    · unfold leftN at hp
      cases hT : T h
      · refine ⟨h, by omega, hT, fun q hq2 => ?_⟩
        have h0 : leftN T h = 0 := by omega
        exact leftN_zero h0 q hq2
      · rw [hT] at hp; simp at hp; omega
where leftN_zero {T : Nat → Bool} : ∀ {h : Nat}, leftN T h = 0 → ∀ q, q < h → T q = true
  | 0, _, q, hq => by omega
  | h + 1, h0, q, hq => by
    unfold leftN at h0
    cases hT : T h
    · rw [hT] at h0; simp at h0
    · rw [hT] at h0; simp at h0
      by_cases e : q = h
      · rw [e]; exact hT
      · exact leftN_zero h0 q (by omega)
/-- A sector is taken, where there is one. -/
theorem take_one {w : World} {g : Sg} {M : Nat → Option Sec} (h : SpAt w g M) (hh : 1 < g.h) (hh2 : g.h ≤ 4096) (hc : (M 1).isSome = true ∨ cntM M g.h < 40) (hl : 0 < leftN (g.T M) g.h) :
    Calls Tryz.prog 47 #[.pointer (some ⟨g.x.tb, 0, none⟩), .int .i64 1] w fun e w' => ∃ s, 4 ≤ s ∧ s < g.h ∧ g.T M s = false ∧ e = .returned (.tuple #[.int .i64 (s : Int), .int .i64 0]) ∧ SpAt w' g (takM g M s) ∧ Upd g.S w w' := by
  obtain ⟨s, h1, h2, h3⟩ := exists_free hl
  refine (take_spec h hh hh2 hc 1 (by omega) (by omega)).mono fun e w' hp => ?_
  have hp := hp.at (s := s) (by omega) (fun q hq => by rw [show s + q = s from by omega]; exact h2) (fun s' hs => ⟨0, by omega, h3 _ (by omega)⟩)
  refine ⟨s, ?_, h1, h2, hp.1, hp.2.1, hp.2.2⟩
  cases Nat.lt_or_ge s 4 with
  | inr q => exact q
  | inl q => rw [Sg.T_low (h.cur_len 1) q] at h2; simp at h2

def Ty9 (T : TypeId) : Prop := T = 149 ∨ T = 145 ∨ T = 35 ∨ T = 45 ∨ T = 47
/-- A block of cells of another type than the transaction's and the journal's may be turned. -/
theorem SpAt.other9 {w : World} {g : Sg} {M : Nat → Option Sec} (h : SpAt w g M) {b : Nat} {c : Array Value} {T : TypeId} {fr : Nat × Nat} (hb : w.heap[b]? = some (.cells c T fr)) (t1 : Ty9 T) : b ∉ g.S := by
  simp only [Sg.S, List.mem_cons, not_or]
  rcases t1 with rfl | rfl | rfl | rfl | rfl
  all_goals exact ⟨by rintro rfl; exact h.tx.map hb, h.jr.at_.kind hb (by decide) (by decide) (by decide)⟩
theorem SpAt.turned9 {w w' : World} {g : Sg} {M : Nat → Option Sec} (h : SpAt w g M) {S : List Nat} (hb : ∀ b, b ∈ S → ∃ c T fr, w.heap[b]? = some (.cells c T fr) ∧ Ty9 T) (hu : Upd S w w') : SpAt w' g M := by
  refine ⟨h.jr.own hu (fun k hk => ?_), h.tx.upd hu (fun hk => ?_) (fun hk => ?_) (fun k c hk e => ?_), h.ne, h.ok, h.len⟩
  · obtain ⟨c, T, fr, hb, t⟩ := hb k hk
    rcases t with rfl | rfl | rfl | rfl | rfl
    all_goals exact ⟨_, _, _, hb, by decide, by decide, by decide, by decide⟩
  · obtain ⟨c, T, fr, hb, t⟩ := hb _ hk
    have := h.tx.st; rw [hb] at this
    rcases t with rfl | rfl | rfl | rfl | rfl
    all_goals simp at this
  · obtain ⟨c, T, fr, hb, t⟩ := hb _ hk
    exact h.tx.map hb
  · obtain ⟨c2, T, fr, hb, t⟩ := hb _ hk
    rcases t with rfl | rfl | rfl | rfl | rfl
    all_goals rw [hb] at e; simp at e
attribute [-go_sem] loadCells storeCells Instr.build
theorem build_spl0 (w : World) : (Instr.build 149 #[]).run Tryz.prog w = .ok (splV none) w := run_build w _ _ _ (by kernel_rfl)
theorem build_spl1 {key : Bs} (hk : key.length = 32) (s : Int) (w : World) : (Instr.build 149 #[(0, .agg (bts key).toArray), (1, .int .u32 s), (2, .bool true)]).run Tryz.prog w = .ok (.agg (bts key ++ [Value.int .u32 s, Value.bool true]).toArray) w := by
  match key, hk with
  | [x0, x1, x2, x3, x4, x5, x6, x7, x8, x9, x10, x11, x12, x13, x14, x15, x16, x17, x18, x19, x20, x21, x22, x23, x24, x25, x26, x27, x28, x29, x30, x31], _ => exact run_build w _ _ _ (by kernel_rfl)
theorem run_cells_blkN {w : World} {b n : Nat} {cs : List Value} {T : TypeId} {fr : Nat × Nat} (h : w.heap[b]? = some (.cells cs.toArray T fr)) (hn : cs.length = n) : (loadCells ⟨b, 0, none⟩ n).run Tryz.prog w = .ok cs.toArray w := run_cells_blk h hn
theorem store_blk {w : World} {b : Nat} {C : Array Value} {T : TypeId} (h : w.heap[b]? = some (.cells C T (0, 0))) {l : List Value} (hl : l.length = C.size) (h1 : ∀ u ∈ l, u.oneCell' = true) : (storeCells ⟨b, 0, none⟩ l 0).run Tryz.prog w = .ok () (w.setRow b l.toArray) := by
  have := run_storeCells_from (P := Tryz.prog) b T l 0 C w h (by omega) h1
  rw [this, List.take_zero, List.nil_append]
theorem splC_len (o : Option (Bs × Nat)) (h : ∀ k b, o = some (k, b) → k.length = 32) : (splC o).length = 34 := by
  cases o with
  | none => rfl
  | some p => obtain ⟨k, b⟩ := p; unfold splC; rw [List.length_append, bts_length, h k b rfl]; rfl
theorem splC_one (o : Option (Bs × Nat)) : ∀ u ∈ splC o, u.oneCell' = true := by
  intro u hu
  cases o with
  | none => exact (List.mem_append.1 hu).elim (bts_one _ u) (by simp; rintro (rfl | rfl) <;> rfl)
  | some p => exact (List.mem_append.1 hu).elim (bts_one _ u) (by simp; rintro (rfl | rfl) <;> rfl)

theorem infoSpl : (Tryz.prog.info? 149).map (·.size) = some 34 := by kernel_rfl
theorem spl_size {o : Option (Bs × Nat)} (h : ∀ k b, o = some (k, b) → k.length = 32) : (Tryz.prog.info? 149).map (·.size) = some (splC o).toArray.size := by
  rw [infoSpl, List.size_toArray, splC_len o h]
set_option maxRecDepth 100000 in
set_option maxHeartbeats 4000000 in
theorem part_spec {w : World} {g : Sg} {M : Nat → Option Sec} (h : SpAt w g M) (hh : 1 < g.h) (hh2 : g.h ≤ 4096) {kx ky : Int} {a1 a2 a3 a4 a5 a6 : Option Addr} {n1 n2 n3 n4 n5 n6 c1 c2 c3 c4 c5 c6 : Nat} {ex ey : Sec}
    (hx : NodeRd g.S w kx (.slice a1 n1 c1) (.slice a2 n2 c2) (.slice a3 n3 c3) ex) (hy : NodeRd g.S w ky (.slice a4 n4 c4) (.slice a5 n5 c5) (.slice a6 n6 c6) ey) (at_ : Nat) (hat : at_ < g.h) (key : Bs) (hkey : key.length = 32)
    (hl : 0 < leftN (g.T M) g.h) (hc : (M 1).isSome = true ∨ cntM M g.h < 40) (hc2 : ∀ s, 4 ≤ s → s < g.h → g.T M s = false → ((takM g M s) at_).isSome = true ∨ cntM (takM g M s) g.h < 40) (hc3 : ∀ s, 4 ≤ s → s < g.h → g.T M s = false → cntM (putS (takM g M s) at_ ex) g.h < 40) :
    Calls Tryz.prog 127 #[.pointer (some ⟨g.x.tb, 0, none⟩), .int .u32 (at_ : Int), .agg #[.int .i64 kx, .slice a1 n1 c1, .slice a2 n2 c2, .slice a3 n3 c3], .agg #[.int .i64 ky, .slice a4 n4 c4, .slice a5 n5 c5, .slice a6 n6 c6], arr key] w fun e w' =>
      ∃ s, 4 ≤ s ∧ s < g.h ∧ g.T M s = false ∧ e = .returned (.tuple #[splV (some (key, s)), .int .i64 0]) ∧ SpAt w' g (putS (putS (takM g M s) at_ ex) s ey) ∧ Upd g.S w w' := by
  obtain ⟨wA, hwA⟩ : ∃ wA, wA = (((w.alloc (.cells #[.int .i64 kx, .slice a1 n1 c1, .slice a2 n2 c2, .slice a3 n3 c3] 145)).alloc (.cells #[.int .i64 ky, .slice a4 n4 c4, .slice a5 n5 c5, .slice a6 n6 c6] 145)).alloc (.cells (bts key).toArray 35)).alloc (.cells (splC none).toArray 149) := ⟨_, rfl⟩
  have huA : Upd [] w wA := by rw [hwA]; exact ((((Upd.refl _ _).alloc _).alloc _).alloc _).alloc _
  obtain ⟨b7, hb7⟩ : ∃ b, b = w.heap.size := ⟨_, rfl⟩
  obtain ⟨b8, hb8⟩ : ∃ b, b = w.heap.size + 1 := ⟨_, rfl⟩
  obtain ⟨b9, hb9⟩ : ∃ b, b = w.heap.size + 1 + 1 := ⟨_, rfl⟩
  obtain ⟨b10, hb10⟩ : ∃ b, b = w.heap.size + 1 + 1 + 1 := ⟨_, rfl⟩
  have H10 : Hid (wA.heap[b10]? = some (.cells (splC none).toArray 149 (0, 0))) := by
    show wA.heap[b10]? = _
    rw [hwA]; have := blk_alloc (w := ((w.alloc (.cells #[.int .i64 kx, .slice a1 n1 c1, .slice a2 n2 c2, .slice a3 n3 c3] 145)).alloc (.cells #[.int .i64 ky, .slice a4 n4 c4, .slice a5 n5 c5, .slice a6 n6 c6] 145)).alloc (.cells (bts key).toArray 35)) (.cells (splC none).toArray 149)
    simpa [hb10] using this
  have H9 : Hid (wA.heap[b9]? = some (.cells (bts key).toArray 35 (0, 0))) := by
    show wA.heap[b9]? = _
    rw [hwA, blk_alloc_ne (by simp [hb9]; try omega)]
    have := blk_alloc (w := (w.alloc (.cells #[.int .i64 kx, .slice a1 n1 c1, .slice a2 n2 c2, .slice a3 n3 c3] 145)).alloc (.cells #[.int .i64 ky, .slice a4 n4 c4, .slice a5 n5 c5, .slice a6 n6 c6] 145)) (.cells (bts key).toArray 35)
    simpa [hb9] using this
  have H8 : Hid (wA.heap[b8]? = some (.cells #[.int .i64 ky, .slice a4 n4 c4, .slice a5 n5 c5, .slice a6 n6 c6] 145 (0, 0))) := by
    show wA.heap[b8]? = _
    rw [hwA, blk_alloc_ne (by simp [hb8]; try omega), blk_alloc_ne (by simp [hb8]; try omega)]
    have := blk_alloc (w := w.alloc (.cells #[.int .i64 kx, .slice a1 n1 c1, .slice a2 n2 c2, .slice a3 n3 c3] 145)) (.cells #[.int .i64 ky, .slice a4 n4 c4, .slice a5 n5 c5, .slice a6 n6 c6] 145)
    simpa [hb8] using this
  have H7 : Hid (wA.heap[b7]? = some (.cells #[.int .i64 kx, .slice a1 n1 c1, .slice a2 n2 c2, .slice a3 n3 c3] 145 (0, 0))) := by
    show wA.heap[b7]? = _
    rw [hwA, hb7, blk_alloc_ne (by simp; try omega), blk_alloc_ne (by simp; try omega), blk_alloc_ne (by simp)]
    exact blk_alloc _
  have HTK := Lib.hid (take_one (h.below huA) hh hh2 hc hl)
  have HX := Lib.hid (hx.below huA)
  have HY := Lib.hid (hy.below huA)
  have HA := Lib.hid (h.below huA)
  have HW := Lib.hid hwA
  have HUA := Lib.hid huA
  have HB := Lib.hid (And.intro hb7 (And.intro hb8 (And.intro hb9 hb10)))
  have HC2 := Lib.hid hc2
  have HC3 := Lib.hid hc3
  clear h hx hy hwA huA hb7 hb8 hb9 hb10 hl hc hc2 hc3
  unfold arr
  go_enter Tryz.func127, Tryz.ntmps127
  go_wp2_with fail
  have hwA := HW.out
  obtain ⟨hb7, hb8, hb9, hb10⟩ := HB.out
  rw [show (#[.int .u8 0, .int .u8 0, .int .u8 0, .int .u8 0, .int .u8 0, .int .u8 0, .int .u8 0, .int .u8 0, .int .u8 0, .int .u8 0, .int .u8 0, .int .u8 0, .int .u8 0, .int .u8 0, .int .u8 0, .int .u8 0, .int .u8 0, .int .u8 0, .int .u8 0, .int .u8 0, .int .u8 0, .int .u8 0, .int .u8 0, .int .u8 0, .int .u8 0, .int .u8 0, .int .u8 0, .int .u8 0, .int .u8 0, .int .u8 0, .int .u8 0, .int .u8 0, .int .u32 0, .bool false] : Array Value) = (splC none).toArray from rfl, ← hwA, ← hb10, ← hb9, ← hb8, ← hb7]
  clear hwA hb7 hb8 hb9 hb10
  refine HTK.out.mono ?_
  rintro e w1 ⟨s, hs4, hsh, hsT, rfl, h1, hu1⟩
  have h7 := (hu1.block _ (blk_lt H7.out) (HA.out.other9 H7.out (.inr (.inl rfl)))).trans H7.out
  have h8 := (hu1.block _ (blk_lt H8.out) (HA.out.other9 H8.out (.inr (.inl rfl)))).trans H8.out
  have h9 := (hu1.block _ (blk_lt H9.out) (HA.out.other9 H9.out (.inr (.inr (.inl rfl))))).trans H9.out
  have h10 := (hu1.block _ (blk_lt H10.out) (HA.out.other9 H10.out (.inl rfl))).trans H10.out
  have l7 := run_cells_blk (n := 4) (cs := [.int .i64 kx, .slice a1 n1 c1, .slice a2 n2 c2, .slice a3 n3 c3]) h7 rfl
  have hx1 := HX.out.keep hu1
  have hy1 := HY.out.keep hu1
  have HWX := Lib.hid (write_node h1 hx1 at_ hat (by omega) (HC2.out s hs4 hsh hsT))
  have HC3s := Lib.hid (HC3.out s hs4 hsh hsT)
  have ws : IntKind.u32.wrap (s : Int) = (s : Int) := by rw [IntKind.wrap_u32]; omega
  have HU1 := Lib.hid hu1
  have H71 := Lib.hid h7
  have H81 := Lib.hid h8
  have H91 := Lib.hid h9
  have H101 := Lib.hid h10
  have HY1 := Lib.hid hy1
  have H1 := Lib.hid h1
  have HT := Lib.hid hsT
  clear hu1 h7 h8 h9 h10 hx1 hy1 h1 hsT
  go_wp2_with fail
  refine HWX.out.mono ?_
  rintro e w2 ⟨rfl, h2, hu2⟩
  have nS : ∀ b, b ∉ g.S → b ∉ [g.x.wb] := fun b hb => by simp [Sg.S] at hb; simpa using hb.1
  have h8 := (hu2.block _ (blk_lt H81.out) (nS _ (H1.out.other9 H81.out (.inr (.inl rfl))))).trans H81.out
  have h9 := (hu2.block _ (blk_lt H91.out) (nS _ (H1.out.other9 H91.out (.inr (.inr (.inl rfl)))))).trans H91.out
  have h10 := (hu2.block _ (blk_lt H101.out) (nS _ (H1.out.other9 H101.out (.inl rfl)))).trans H101.out
  have l8 := run_cells_blk (n := 4) (cs := [.int .i64 ky, .slice a4 n4 c4, .slice a5 n5 c5, .slice a6 n6 c6]) h8 rfl
  have hy2 := HY1.out.keep (hu2.mono g.memw)
  have HWY := Lib.hid (write_node h2 hy2 s hsh (by omega) (.inr HC3s.out))
  have HU2 := Lib.hid (HU1.out.trans (hu2.mono g.memw))
  have H92 := Lib.hid h9
  have H102 := Lib.hid h10
  have H2 := Lib.hid h2
  clear hu2 h8 h9 h10 hy2 h2 nS
  go_wp2_with fail
  refine HWY.out.mono ?_
  rintro e w3 ⟨rfl, h3, hu3⟩
  have nS : ∀ b, b ∉ g.S → b ∉ [g.x.wb] := fun b hb => by simp [Sg.S] at hb; simpa using hb.1
  have h9 := (hu3.block _ (blk_lt H92.out) (nS _ (H2.out.other9 H92.out (.inr (.inr (.inl rfl)))))).trans H92.out
  have h10 := (hu3.block _ (blk_lt H102.out) (nS _ (H2.out.other9 H102.out (.inl rfl)))).trans H102.out
  have l9 := run_cells_blk (n := 32) h9 (by rw [bts_length, hkey])
  have s10 := store_blk h10 (l := splC (some (key, s))) (by rw [List.size_toArray, splC_len _ (by intro k b e; cases e; exact hkey), splC_len _ (by simp)]) (splC_one _)
  have HU3 := Lib.hid (HU2.out.trans (hu3.mono g.memw))
  have H3 := Lib.hid h3
  clear hu3 nS h9 h3
  have b10s := build_spl1 hkey (s : Int)
  unfold splC at s10
  go_wp2_with fail
  refine bodyPost_ret (results_row_tmp (p := 10) (u := 11) (ty := 149) (by rfl) _ _ b10 _ (by rfl) (run_loadVar_row _ b10 _ _ _ _ _ (setRow_heap _ _ _ _ _ _ h10) Tryz.underlying149 rfl (spl_size (o := some (key, s)) (by intro k b e; cases e; exact hkey)))) (by rfl) ?_
  have hr : Upd [b10] w3 (w3.setRow b10 (splC (some (key, s))).toArray) := upd_row (Upd.refl _ _) _ (.inl (by simp))
  refine ⟨s, hs4, hsh, HT.out, rfl, H3.out.turned9 (fun b hb => ?_) hr, ((HUA.out.mono (by simp)).trans HU3.out).late hr (fun k hk => .inr ?_)⟩
  · simp at hb; subst hb; exact ⟨_, _, _, h10, .inl rfl⟩
  · simp at hk; subst hk; have := HB.out.2.2.2; omega

end Go.Proofs.YtceakcejchbbjaaGreat
