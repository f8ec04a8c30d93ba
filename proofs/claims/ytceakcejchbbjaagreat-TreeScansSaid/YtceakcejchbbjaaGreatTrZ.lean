/-
  tree.Put.
-/
import Derived.Test.YtceakcejchbbjaaGreatTrW
import Derived.Test.YtceakcejchbbjaaGreatTrY
set_option linter.unusedSimpArgs false
set_option linter.unusedVariables false
namespace Go.Proofs.YtceakcejchbbjaaGreat
open Go.RowKit Go.MapKept Go.ChangeMaps

/-- tree.put. -/
theorem put_spec : ∀ (d : Nat) {w : World} {g : Sg} {M : Nat → Option Sec} (_ : SpAt w g M) {root : Bool} {a : Nat} {l : List Pair9} {S : List Nat} (_ : Shape (g.cur M) root d a l S) (_ : Held9 g M S) (key v : Bs) (_ : key.length = 32) (_ : v.length = 16) (deep : Int) (_ : (d : Int) + 1 ≤ deep) (_ : deep ≤ 16) (_ : 1 < g.h) (_ : g.h ≤ 4096) (_ : cntM M g.h + c1M M + (2 * d + 2) ≤ 40) (_ : d + 1 ≤ leftN (g.T M) g.h),
    Calls Tryz.prog 73 #[.pointer (some ⟨g.x.tb, 0, none⟩), .int .u32 (a : Int), arr key, arr v, .int .i64 deep] w (PutPost g M root d a l S key v w)
  | 0, w, g, M, h, root, a, l, S, hs, hh, key, v, hkey, hv, deep, hd0, hd1, hh1, hh2, hres, hleft => by
    have hlow := hh.low a hs.mem.1
    have hlt := hs.mem.2
    have hd : (deep == 0) = false := by rw [beq_eq_false_iff_ne]; omega
    cases ht : hasK (l.map (·.1)) key
    · exact put_new' h a hlow.2 hlt hs.2.2.1 hs.2.2.2.1 key v hkey hv deep hd ht rfl hh1 hh2 (by omega) (by omega) rfl rfl
        (fun hr => putAt_room hs hh h.ok hkey hv ht hr)
        (fun hr k' s hk' h4 hsh hT ho1 ho2 => putAt_part hs hh h.ok (h.cur_len 1) hh1 hh2 hkey hv ht hr rfl rfl hk' h4 hsh hT ho1 ho2)
    · refine (put_there h a hlow.2 hlt hs.2.2.1 hs.2.2.2.1 key v hkey hv deep hd (.inr (by omega)) ht rfl).mono fun e w' ⟨e1, e2, e3⟩ => ?_
      exact ⟨_, none, e1, putAt_there hs hh h.ok hkey hv ht, e2, e3⟩
  | d + 1, w, g, M, h, root, a, l, S, hs, hh, key, v, hkey, hv, deep, hd0, hd1, hh1, hh2, hres, hleft => by
    have hlow := hh.low a hs.mem.1
    have hlt := hs.mem.2
    obtain ⟨ks, ds, kid, lc, Sc, hA⟩ := hs.at (key := key) (v := v) hh
    refine put_in' h a hlow.2 hlt hA.ok hA.enc key v hkey hv deep (by omega) hd1 hA hh1 hh2 (by omega) (by omega) (fun w' h' => ?_)
    exact put_spec d h' hA.shape hA.held key v hkey hv (deep - 1) (by omega) (by omega) hh1 hh2 (by omega) (by omega)
attribute [-go_sem] loadCells storeCells Instr.build Instr.buildSlice
theorem build_nodeL (a a' : Option Addr) (n c n' c' : Nat) (w : World) : (Instr.build 145 #[(0, .int .i64 1), (1, .slice a n c), (2, .slice a' n' c')]).run Tryz.prog w = .ok (.agg #[.int .i64 1, .slice a n c, .slice a' n' c', .slice none 0 0]) w := run_build w _ _ _ (by kernel_rfl)
theorem run_build_two (a b : Int) (w : World) : (Instr.buildSlice 143 2 #[(0, .int .u32 a), (1, .int .u32 b)]).run Tryz.prog w = .ok (.slice (some ⟨w.heap.size, 0, none⟩) 2 2) (w.alloc (.cells #[.int .u32 a, .int .u32 b] 47)) := by kernel_rfl
theorem kown_one {w : World} {b : Nat} {key : Bs} (hk : key.length = 32) (h : w.heap[b]? = some (.cells (bts key).toArray 35 (0, 0))) : KOwn w b (.slice (some ⟨b, 0, none⟩) 1 1) [key] := by
  refine ⟨by simp [hk], .inr ⟨b, 1, _, rfl, Nat.le_refl _, h, Nat.le_refl _, by decide, by simp [hk], ?_⟩⟩
  simp only [List.length_cons, List.length_nil, List.map_cons, List.map_nil, List.flatten_cons, List.flatten_nil, List.append_nil]
  exact List.take_of_length_le (by rw [bts_length, hk]; omega)
theorem vown_one {w : World} {b : Nat} {key : Bs} (hk : key.length = 16) (h : w.heap[b]? = some (.cells (bts key).toArray 45 (0, 0))) : VOwn w b (.slice (some ⟨b, 0, none⟩) 1 1) [key] := by
  refine ⟨by simp [hk], .inr ⟨b, 1, _, rfl, Nat.le_refl _, h, Nat.le_refl _, by decide, by simp [hk], ?_⟩⟩
  simp only [List.length_cons, List.length_nil, List.map_cons, List.map_nil, List.flatten_cons, List.flatten_nil, List.append_nil]
  exact List.take_of_length_le (by rw [bts_length, hk]; omega)
theorem down_two {w : World} {k a b : Nat} (h : w.heap[k]? = some (.cells #[.int .u32 (a : Int), .int .u32 (b : Int)] 47 (0, 0))) : DOwn w k (.slice (some ⟨k, 0, none⟩) 2 2) [a, b] :=
  ⟨rfl, .inr ⟨k, 2, _, rfl, Nat.le_refl _, h, Nat.le_refl _, by decide, rfl, rfl⟩⟩
set_option maxRecDepth 100000 in
set_option maxHeartbeats 4000000 in
theorem put_first {w : World} {g : Sg} {M : Nat → Option Sec} (h : SpAt w g M) (hh1 : 1 < g.h) (hh2 : g.h ≤ 4096) (key v : Bs) (hkey : key.length = 32) (hv : v.length = 16) (hres : cntM M g.h + c1M M + 1 ≤ 40) (hleft : 1 ≤ leftN (g.T M) g.h) :
    Calls Tryz.prog 24 #[.pointer (some ⟨g.x.tb, 0, none⟩), .int .u32 0, arr key, arr v] w fun e w' => ∃ s : Nat, 4 ≤ s ∧ s < g.h ∧ g.T M s = false ∧ e = .returned (.tuple #[.int .u32 (s : Int), .int .i64 0]) ∧ SpAt w' g (putS (takM g M s) s (encLeaf [key] [v])) ∧ Upd g.S w w' := by
  have hb : ((g.h : Int) == 0) = false := by rw [beq_eq_false_iff_ne]; omega
  have hhb := hh2
  obtain ⟨wA, hwA⟩ : ∃ wA, wA = (w.alloc (.cells (bts key).toArray 35)).alloc (.cells (bts v).toArray 45) := ⟨_, rfl⟩
  have huA : Upd [] w wA := by rw [hwA]; exact ((Upd.refl _ _).alloc _).alloc _
  have hA := h.below huA
  have H6 : Hid (wA.heap[w.heap.size]? = some (.cells (bts key).toArray 35 (0, 0))) := by
    show wA.heap[_]? = _
    rw [hwA, blk_alloc_ne (by simp)]; exact blk_alloc _
  have H7 : Hid (wA.heap[w.heap.size + 1]? = some (.cells (bts v).toArray 45 (0, 0))) := by
    show wA.heap[_]? = _
    rw [hwA]; have := blk_alloc (w := w.alloc (.cells (bts key).toArray 35)) (.cells (bts v).toArray 45); simpa using this
  have HO := Lib.hid (homesS hA)
  have HA := Lib.hid hA
  have HUA := Lib.hid huA
  have HW := Lib.hid hwA
  clear h hA huA hwA
  unfold arr
  go_enter Tryz.func24, Tryz.ntmps24
  go_wp2_with fail
  have hwA := HW.out
  rw [← hwA]
  clear hwA
  refine HO.out.mono ?_
  rintro e w1 ⟨rfl, n1, hn1⟩
  have hu1 : Upd [] wA w1 := by rw [hn1]; exact (Upd.refl _ _).drewN _
  have h1 := HA.out.below hu1
  have HTK := Lib.hid (take_one h1 hh1 hh2 (.inr (by omega)) hleft)
  have HU1 := Lib.hid (HUA.out.trans hu1)
  have H61 := Lib.hid ((hu1.block _ (blk_lt H6.out) (by simp)).trans H6.out)
  have H71 := Lib.hid ((hu1.block _ (blk_lt H7.out) (by simp)).trans H7.out)
  have H1 := Lib.hid h1
  clear hn1 hu1 h1
  go_wp2_with fail
  refine HTK.out.mono ?_
  rintro e w2 ⟨s, hs4, hsh, hsT, rfl, h2, hu2⟩
  have h6 := (hu2.block _ (blk_lt H61.out) (H1.out.other9 H61.out (.inr (.inr (.inl rfl))))).trans H61.out
  have h7 := (hu2.block _ (blk_lt H71.out) (H1.out.other9 H71.out (.inr (.inr (.inr (.inl rfl)))))).trans H71.out
  have l6 := run_cells_blk (n := 32) h6 (by rw [bts_length, hkey])
  have l7 := run_cells_blk (w := w2.alloc (.cells (bts key).toArray 35)) (n := 16) ((blk_alloc_ne (blk_lt h7)).trans h7) (by rw [bts_length, hv])
  have bk := build_K hkey w2
  have bw := build_V hv (w2.alloc (.cells (bts key).toArray 35))
  rw [show (w2.alloc (.cells (bts key).toArray 35)).heap.size = w2.heap.size + 1 by simp] at bw
  have bn := build_nodeL
  obtain ⟨w5, hw5⟩ : ∃ w5, w5 = ((w2.alloc (.cells (bts key).toArray 35)).alloc (.cells (bts v).toArray 45)).alloc (.cells #[.int .i64 1, .slice (some ⟨w2.heap.size, 0, none⟩) 1 1, .slice (some ⟨w2.heap.size + 1, 0, none⟩) 1 1, .slice none 0 0] 145) := ⟨_, rfl⟩
  have st := store4_run ((w2.alloc (.cells (bts key).toArray 35)).alloc (.cells (bts v).toArray 45)) (some ⟨w2.heap.size, 0, none⟩) (some ⟨w2.heap.size + 1, 0, none⟩) none 1 1 1 1 1 0 0
  rw [← hw5, show ((w2.alloc (.cells (bts key).toArray 35)).alloc (.cells (bts v).toArray 45)).heap.size = w2.heap.size + 1 + 1 by simp] at st
  have hu5 : Upd [] w2 w5 := by rw [hw5]; exact (((Upd.refl _ _).alloc _).alloc _).alloc _
  have k5 : w5.heap[w2.heap.size]? = some (.cells (bts key).toArray 35 (0, 0)) := by rw [hw5, blk_alloc_ne (by simp; omega), blk_alloc_ne (by simp)]; exact blk_alloc _
  have v5 : w5.heap[w2.heap.size + 1]? = some (.cells (bts v).toArray 45 (0, 0)) := by
    rw [hw5, blk_alloc_ne (by simp)]
    have := blk_alloc (w := w2.alloc (.cells (bts key).toArray 35)) (.cells (bts v).toArray 45); simpa using this
  have n5 : w5.heap[w2.heap.size + 1 + 1]? = some (.cells #[.int .i64 1, .slice (some ⟨w2.heap.size, 0, none⟩) 1 1, .slice (some ⟨w2.heap.size + 1, 0, none⟩) 1 1, .slice none 0 0] 145 (0, 0)) := by
    rw [hw5]
    have := blk_alloc (w := (w2.alloc (.cells (bts key).toArray 35)).alloc (.cells (bts v).toArray 45)) (.cells #[.int .i64 1, .slice (some ⟨w2.heap.size, 0, none⟩) 1 1, .slice (some ⟨w2.heap.size + 1, 0, none⟩) 1 1, .slice none 0 0] 145); simpa using this
  have l5 := run_cells_blk (n := 4) (cs := [.int .i64 1, .slice (some ⟨w2.heap.size, 0, none⟩) 1 1, .slice (some ⟨w2.heap.size + 1, 0, none⟩) 1 1, .slice none 0 0]) n5 rfl
  have ws : IntKind.u32.wrap (s : Int) = (s : Int) := by rw [IntKind.wrap_u32]; omega
  have hok : LeafOk [key] [v] := ⟨by simpa using hkey, by simpa using hv, rfl, by simp⟩
  have hcn := cnt_tak (g := g) (M := M) s H1.out.ok hh1
  have HWR := Lib.hid (write_leaf (h2.below hu5) (vd := .slice none 0 0) (KOwn.rd (kown_one hkey k5) hok.k) (VOwn.rd (vown_one hv v5) hok.v) hok s hsh (by omega) (.inr (by rw [hcn]; omega)))
  have HU5 := Lib.hid (((HU1.out.mono (by simp)).trans hu2).trans (hu5.mono (by simp)))
  have HT := Lib.hid hsT
  clear h2 hu2 h6 h7 hw5 hu5 k5 v5 n5 hok hcn hsT
  go_wp2_with fail
  refine HWR.out.mono ?_
  rintro e w6 ⟨rfl, h6, hu6⟩
  have H6' := Lib.hid h6
  have HU6 := Lib.hid (HU5.out.trans (hu6.mono g.memw))
  clear h6 hu6
  go_wp2_with fail
  refine (onlyOK_spec _ w6).mono ?_
  rintro e w7 ⟨rfl, hu7⟩
  have H7' := Lib.hid (H6'.out.below hu7)
  have HU7 := Lib.hid (HU6.out.trans (hu7.mono (by simp)))
  clear hu7
  go_wp2_with fail
  go_ret2
  exact ⟨s, hs4, hsh, HT.out, rfl, H7'.out, HU7.out⟩

theorem spl_z : (#[.int .u8 0, .int .u8 0, .int .u8 0, .int .u8 0, .int .u8 0, .int .u8 0, .int .u8 0, .int .u8 0, .int .u8 0, .int .u8 0, .int .u8 0, .int .u8 0, .int .u8 0, .int .u8 0, .int .u8 0, .int .u8 0, .int .u8 0, .int .u8 0, .int .u8 0, .int .u8 0, .int .u8 0, .int .u8 0, .int .u8 0, .int .u8 0, .int .u8 0, .int .u8 0, .int .u8 0, .int .u8 0, .int .u8 0, .int .u8 0, .int .u8 0, .int .u8 0, .int .u32 0, .bool false] : Array Value) = (splC none).toArray := rfl
set_option maxRecDepth 100000 in
set_option maxHeartbeats 4000000 in
theorem put_more {w : World} {g : Sg} {M : Nat → Option Sec} (h : SpAt w g M) (hh1 : 1 < g.h) (hh2 : g.h ≤ 4096) {r : Nat} (hr : r ≠ 0) (hr4 : r < 4294967296) {d : Nat} {l : List Pair9} {S : List Nat} (hs : Shape (g.cur M) true d r l S) (hh : Held9 g M S) (hd2 : d ≤ 2) (key v : Bs) (hkey : key.length = 32) (hv : v.length = 16) (hres : cntM M g.h + c1M M + 7 ≤ 40) (hleft : 4 ≤ leftN (g.T M) g.h) :
    Calls Tryz.prog 24 #[.pointer (some ⟨g.x.tb, 0, none⟩), .int .u32 (r : Int), arr key, arr v] w fun e w' => ∃ M' r', e = .returned (.tuple #[.int .u32 ((r' : Nat) : Int), .int .i64 0]) ∧ PutTop g M M' r r' l S key v 7 ∧ SpAt w' g M' ∧ Upd g.S w w' := by
  have hb : ((g.h : Int) == 0) = false := by rw [beq_eq_false_iff_ne]; omega
  have hrb : ((r : Int) == 0) = false := by rw [beq_eq_false_iff_ne]; omega
  have hhb := hh2
  obtain ⟨wA, hwA⟩ : ∃ wA, wA = (w.alloc (.cells (bts key).toArray 35)).alloc (.cells (bts v).toArray 45) := ⟨_, rfl⟩
  have huA : Upd [] w wA := by rw [hwA]; exact ((Upd.refl _ _).alloc _).alloc _
  have hA := h.below huA
  have H6 : Hid (wA.heap[w.heap.size]? = some (.cells (bts key).toArray 35 (0, 0))) := by
    show wA.heap[_]? = _
    rw [hwA, blk_alloc_ne (by simp)]; exact blk_alloc _
  have H7 : Hid (wA.heap[w.heap.size + 1]? = some (.cells (bts v).toArray 45 (0, 0))) := by
    show wA.heap[_]? = _
    rw [hwA]; have := blk_alloc (w := w.alloc (.cells (bts key).toArray 35)) (.cells (bts v).toArray 45); simpa using this
  have HO := Lib.hid (homesS hA)
  have HA := Lib.hid hA
  have HUA := Lib.hid huA
  have HW := Lib.hid hwA
  have HSH := Lib.hid hs
  have HH := Lib.hid hh
  clear h hA huA hwA hs hh
  unfold arr
  go_enter Tryz.func24, Tryz.ntmps24
  go_wp2_with fail
  have hwA := HW.out
  rw [← hwA]
  clear hwA
  refine HO.out.mono ?_
  rintro e w1 ⟨rfl, n1, hn1⟩
  have hu1 : Upd [] wA w1 := by rw [hn1]; exact (Upd.refl _ _).drewN _
  have h1 := HA.out.below hu1
  have h6 := (hu1.block _ (blk_lt H6.out) (by simp)).trans H6.out
  have h7 := (hu1.block _ (blk_lt H7.out) (by simp)).trans H7.out
  have l6 := run_cells_blk (n := 32) h6 (by rw [bts_length, hkey])
  have l7 := run_cells_blk (n := 16) h7 (by rw [bts_length, hv])
  have HPC := Lib.hid (put_spec d h1 HSH.out HH.out key v hkey hv 16 (by omega) (by omega) hh1 hh2 (by omega) (by omega))
  have HU1 := Lib.hid (HUA.out.trans hu1)
  clear hn1 hu1 h1 h6 h7
  unfold arr at HPC
  go_wp2_with fail
  refine HPC.out.mono ?_
  rintro e w2 ⟨M1, o, rfl, hPA, h2, hu2⟩
  have hol : ∀ k b, o = some (k, b) → k.length = 32 := by
    intro k b e; subst e
    obtain ⟨_, _, _, _, _, _, q, _⟩ := hPA
    exact q
  obtain ⟨w3, hw3⟩ : ∃ w3, w3 = (w2.alloc (.cells (splC none).toArray 149)).setRow w2.heap.size (splC o).toArray := ⟨_, rfl⟩
  have s13 := store_blk (blk_alloc (w := w2) (.cells (splC none).toArray 149)) (l := splC o) (by rw [List.size_toArray, splC_len _ hol, splC_len _ (by simp)]) (splC_one _)
  rw [← hw3, ← spl_z] at s13
  have c13 : w3.heap[w2.heap.size]? = some (.cells (splC o).toArray 149 (0, 0)) := by rw [hw3]; exact setRow_heap _ _ _ _ _ _ (blk_alloc _)
  have hu3 : Upd [] w2 w3 := by
    rw [hw3, setRow_alloc]
    exact (Upd.refl _ _).alloc _
  have HU3 := Lib.hid (((HU1.out.mono (by simp)).trans hu2).trans (hu3.mono (by simp)))
  have H3 := Lib.hid (h2.below hu3)
  clear h2 hu2 hu3 hw3 hol
  unfold splV
  cases o with
  | none =>
    have m13 : w3.cell? ⟨w2.heap.size, 33, none⟩ = some (.bool false) := blk_cell c13 33
    have HPA := Lib.hid hPA
    clear c13 hPA
    go_wp2_with fail
    refine (onlyOK_spec _ _).mono ?_
    rintro e w7 ⟨rfl, hu7⟩
    have H7' := Lib.hid (H3.out.below hu7)
    have HU7 := Lib.hid (HU3.out.trans (hu7.mono (by simp)))
    clear hu7
    go_wp2_with fail
    go_ret2
    exact ⟨M1, r, rfl, putTop_whole hr hd2 HPA.out (by omega), H7'.out, HU7.out⟩
  | some p =>
    obtain ⟨k', b⟩ := p
    have hk' : k'.length = 32 := by
      obtain ⟨_, _, _, _, _, _, q, _⟩ := hPA
      exact q
    have hz : (splC (some (k', b))).length = 34 := splC_len _ (by intro x y e; cases e; exact hk')
    obtain ⟨S1, hG⟩ := hPA.grown
    have hcn := hG.cnt
    have hlf := hG.left
    have hln := hG.len
    obtain ⟨m13, m14, r13⟩ := spl_cells hk' c13
    have HTK := Lib.hid (take_one H3.out hh1 hh2 (.inr (by omega)) (by omega))
    have HPA := Lib.hid hPA
    have H13 := Lib.hid c13
    have HCN : Hid (cntM M1 g.h + c1M M1 + 1 ≤ 40) := by show _ ≤ _; omega
    clear c13 hPA hG hcn hlf hln m14 r13
    go_wp2_with fail
    refine HTK.out.mono ?_
    rintro e w4 ⟨s, hs4, hsh, hsT, rfl, h4, hu4⟩
    have c13 := (hu4.block _ (blk_lt H13.out) (H3.out.other9 H13.out (.inl rfl))).trans H13.out
    obtain ⟨m13', m14, r13⟩ := spl_cells hk' c13
    have l13 := run_cells32 r13 hk'
    have bk := build_K hk' w4
    have m14' := cell_upd (w' := w4.alloc (.cells (bts k').toArray 35)) m14 ((Upd.refl [] _).alloc _) (by simp)
    have bw := run_build_two (r : Int) (b : Int) (w4.alloc (.cells (bts k').toArray 35))
    rw [show (w4.alloc (.cells (bts k').toArray 35)).heap.size = w4.heap.size + 1 by simp] at bw
    have bn := build_nodeI
    obtain ⟨w5, hw5⟩ : ∃ w5, w5 = ((w4.alloc (.cells (bts k').toArray 35)).alloc (.cells #[.int .u32 (r : Int), .int .u32 (b : Int)] 47)).alloc (.cells #[.int .i64 2, .slice (some ⟨w4.heap.size, 0, none⟩) 1 1, .slice none 0 0, .slice (some ⟨w4.heap.size + 1, 0, none⟩) 2 2] 145) := ⟨_, rfl⟩
    have st := store4_run ((w4.alloc (.cells (bts k').toArray 35)).alloc (.cells #[.int .u32 (r : Int), .int .u32 (b : Int)] 47)) (some ⟨w4.heap.size, 0, none⟩) none (some ⟨w4.heap.size + 1, 0, none⟩) 2 1 1 0 0 2 2
    rw [← hw5, show ((w4.alloc (.cells (bts k').toArray 35)).alloc (.cells #[.int .u32 (r : Int), .int .u32 (b : Int)] 47)).heap.size = w4.heap.size + 1 + 1 by simp] at st
    have hu5 : Upd [] w4 w5 := by rw [hw5]; exact (((Upd.refl _ _).alloc _).alloc _).alloc _
    have k5 : w5.heap[w4.heap.size]? = some (.cells (bts k').toArray 35 (0, 0)) := by rw [hw5, blk_alloc_ne (by simp; omega), blk_alloc_ne (by simp)]; exact blk_alloc _
    have v5 : w5.heap[w4.heap.size + 1]? = some (.cells #[.int .u32 (r : Int), .int .u32 (b : Int)] 47 (0, 0)) := by
      rw [hw5, blk_alloc_ne (by simp)]
      have := blk_alloc (w := w4.alloc (.cells (bts k').toArray 35)) (.cells #[.int .u32 (r : Int), .int .u32 (b : Int)] 47); simpa using this
    have n5 : w5.heap[w4.heap.size + 1 + 1]? = some (.cells #[.int .i64 2, .slice (some ⟨w4.heap.size, 0, none⟩) 1 1, .slice none 0 0, .slice (some ⟨w4.heap.size + 1, 0, none⟩) 2 2] 145 (0, 0)) := by
      rw [hw5]
      have := blk_alloc (w := (w4.alloc (.cells (bts k').toArray 35)).alloc (.cells #[.int .u32 (r : Int), .int .u32 (b : Int)] 47)) (.cells #[.int .i64 2, .slice (some ⟨w4.heap.size, 0, none⟩) 1 1, .slice none 0 0, .slice (some ⟨w4.heap.size + 1, 0, none⟩) 2 2] 145); simpa using this
    have l5 := run_cells_blk (n := 4) (cs := [.int .i64 2, .slice (some ⟨w4.heap.size, 0, none⟩) 1 1, .slice none 0 0, .slice (some ⟨w4.heap.size + 1, 0, none⟩) 2 2]) n5 rfl
    have ws : IntKind.u32.wrap (s : Int) = (s : Int) := by rw [IntKind.wrap_u32]; omega
    have hcn2 := cnt_tak (g := g) (M := M1) s H3.out.ok hh1
    have hpt := putTop_part (m := 7) hr4 hd2 HH.out HPA.out (by omega) H3.out.ok (H3.out.cur_len 1) hh1 hh2 hs4 hsh hsT (mok_tak H3.out s hh1)
    have HWR := Lib.hid (write_inner (h4.below hu5) (vv := .slice none 0 0) (KOwn.rd (kown_one hk' k5) hpt.1.k) (DOwn.rd (down_two v5)) hpt.1 s hsh (by omega) (.inr (by rw [hcn2]; have := HCN.out; omega)))
    have HU5 := Lib.hid ((HU3.out.trans hu4).trans (hu5.mono (by simp)))
    have HT := Lib.hid hpt.2
    clear h4 hu4 c13 m14 r13 hw5 hu5 k5 v5 n5 hpt hcn2 hsT
    go_wp2_with fail
    refine HWR.out.mono ?_
    rintro e w6 ⟨rfl, h6, hu6⟩
    have H6' := Lib.hid h6
    have HU6 := Lib.hid (HU5.out.trans (hu6.mono g.memw))
    clear h6 hu6
    go_wp2_with fail
    refine (onlyOK_spec _ w6).mono ?_
    rintro e w7 ⟨rfl, hu7⟩
    have H7' := Lib.hid (H6'.out.below hu7)
    have HU7 := Lib.hid (HU6.out.trans (hu7.mono (by simp)))
    clear hu7
    go_wp2_with fail
    go_ret2
    exact ⟨_, s, rfl, HT.out, H7'.out, HU7.out⟩
/-- tree.Put. -/
theorem top_put {w : World} {g : Sg} {M : Nat → Option Sec} (h : SpAt w g M) (hh1 : 1 < g.h) (hh2 : g.h ≤ 4096) {r : Nat} {l : List Pair9} {S : List Nat} (ht : TreeOn (g.cur M) g.h r l S) (hl : l.length < 490) (key v : Bs) (hkey : key.length = 32) (hv : v.length = 16) (hres : cntM M g.h + c1M M + 7 ≤ 40) (hleft : 4 ≤ leftN (g.T M) g.h) :
    Calls Tryz.prog 24 #[.pointer (some ⟨g.x.tb, 0, none⟩), .int .u32 (r : Int), arr key, arr v] w fun e w' => ∃ M' r', e = .returned (.tuple #[.int .u32 ((r' : Nat) : Int), .int .i64 0]) ∧ PutTop g M M' r r' l S key v 7 ∧ SpAt w' g M' ∧ Upd g.S w w' := by
  rcases ht.at_ with ⟨rfl, rfl, rfl⟩ | ⟨hr, d, hs⟩
  · refine (put_first h hh1 hh2 key v hkey hv (by omega) (by omega)).mono ?_
    rintro e w' ⟨s, hs4, hsh, hsT, rfl, h1, hu1⟩
    obtain ⟨S', q1, q2, q3, q4⟩ := (putTop_first hkey hv h.ok (h.cur_len 1) hh1 hh2 hs4 hsh hsT (mok_tak h s hh1)).2
    exact ⟨_, s, rfl, ⟨S', q1, q2, q3.mono (Nat.le_refl _) (by omega), q4⟩, h1, hu1⟩
  · exact put_more h hh1 hh2 hr hs.mem.2 hs ht.held (hs.flat hl) key v hkey hv hres hleft

end Go.Proofs.YtceakcejchbbjaaGreat
