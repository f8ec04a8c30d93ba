/-
  tree.put at a leaf.
-/
import Derived.Test.YtceakcejchbbjaaGreatTrP
namespace Go.Proofs.YtceakcejchbbjaaGreat
open Go.RowKit Go.MapKept Go.ChangeMaps

theorem flat_len {sz : Nat} : ∀ {es : List (List Value)}, (∀ e, e ∈ es → e.length = sz) → es.flatten.length = es.length * sz
  | [], _ => by simp
  | e :: es, h => by
    have := flat_len (es := es) (fun x hx => h x (by simp [hx]))
    rw [List.flatten_cons, List.length_append, this, h e (by simp), List.length_cons, Nat.add_mul]
    omega
theorem flat_take {sz : Nat} : ∀ {es : List (List Value)} (i : Nat), (∀ e, e ∈ es → e.length = sz) → (es.take i).flatten = es.flatten.take (i * sz)
  | [], i, _ => by simp
  | e :: es, 0, _ => by simp
  | e :: es, i + 1, h => by
    have := flat_take (es := es) i (fun x hx => h x (by simp [hx]))
    have he := h e (by simp)
    rw [List.take_succ_cons, List.flatten_cons, List.flatten_cons, this, List.take_append, List.take_of_length_le (l := e) (by rw [he, Nat.add_mul]; omega), he, Nat.add_mul, Nat.one_mul, Nat.add_sub_cancel]
theorem flat_drop {sz : Nat} : ∀ {es : List (List Value)} (i : Nat), (∀ e, e ∈ es → e.length = sz) → (es.drop i).flatten = es.flatten.drop (i * sz)
  | [], i, _ => by simp
  | e :: es, 0, _ => by simp
  | e :: es, i + 1, h => by
    have := flat_drop (es := es) i (fun x hx => h x (by simp [hx]))
    have he := h e (by simp)
    rw [List.drop_succ_cons, List.flatten_cons, this, List.drop_append, List.drop_eq_nil_of_le (show e.length ≤ (i + 1) * sz by rw [he, Nat.add_mul]; omega), he, Nat.add_mul, Nat.one_mul, Nat.add_sub_cancel, List.nil_append]
theorem map_len {ls : List Bs} {n : Nat} (h : ∀ x, x ∈ ls → x.length = n) : ∀ e, e ∈ ls.map bts → e.length = n := fun e he => by
  obtain ⟨k, hk, rfl⟩ := List.mem_map.1 he; rw [bts_length]; exact h k hk
theorem flat_ins {ls : List Bs} {n i : Nat} {x : Bs} (h : ∀ x, x ∈ ls → x.length = n) : ((insAt ls i x).map bts).flatten = ((ls.map bts).flatten.take (i * n) ++ bts x) ++ (ls.map bts).flatten.drop (i * n) := by
  rw [← flat_take i (map_len h), ← flat_drop i (map_len h)]
  simp [insAt, List.map_take, List.map_drop]
theorem flat_set {ls : List Bs} {n i : Nat} {x : Bs} (h : ∀ x, x ∈ ls → x.length = n) (hi : i < ls.length) : ((ls.set i x).map bts).flatten = ((ls.map bts).flatten.take (i * n) ++ bts x) ++ (ls.map bts).flatten.drop ((i + 1) * n) := by
  rw [← flat_take i (map_len h), ← flat_drop (i + 1) (map_len h), List.set_eq_take_append_cons_drop, if_pos hi]
  simp [List.map_take, List.map_drop]
theorem flat_one (ls : List Bs) : ∀ u ∈ (ls.map bts).flatten, u.oneCell' = true := by
  intro u hu
  obtain ⟨e, he, hu⟩ := List.mem_flatten.1 hu
  obtain ⟨k, _, rfl⟩ := List.mem_map.1 he
  exact bts_one k u hu
/-- A value is turned in its row. -/
theorem VOwn.turn {w : World} {B : Nat} {v : Value} {vs : List Bs} (h : VOwn w B v vs) (hl : ∀ x, x ∈ vs → x.length = 16) {P : Nat} (hP : P < vs.length) {x : Bs} (hx : x.length = 16) :
    ∃ gv cap cur r, v = .slice (some ⟨gv, 0, none⟩) vs.length cap ∧ B ≤ gv ∧ w.heap[gv]? = some (.cells cur 45 (0, 0)) ∧ (storeCells ⟨gv, P * 16, none⟩ (bts x) 0).run Tryz.prog w = .ok () (w.setRow gv r) ∧ VOwn (w.setRow gv r) B v (vs.set P x) := by
  rcases h.2 with ⟨_, h0⟩ | ⟨gv, cap, cur, rfl, hb, hg, hc, hm, hs, ht⟩
  · omega
  · have hcl : cur.toList.length = cap * 16 := by rw [Array.length_toList, hs]
    have hbl := bts_length x
    have hrun := run_storeCells_at (P := Tryz.prog) gv (P * 16) _ (bts x) 0 cur w hg (by rw [hbl, hx, hs]; omega) (bts_one x)
    refine ⟨gv, cap, cur, _, rfl, hb, hg, hrun, ?_⟩
    have hfl := flat_len (map_len hl)
    rw [List.length_map] at hfl
    unfold VOwn
    refine ⟨?_, .inr ⟨gv, cap, _, by rw [List.length_set], hb, setRow_heap _ _ _ _ _ _ hg, by rw [List.length_set]; exact hc, hm, ?_, ?_⟩⟩
    · rw [flat_len (map_len (n := 16) (by intro y hy; rcases List.mem_or_eq_of_mem_set hy with q | q; exact hl y q; rw [q]; exact hx)), List.length_map]
    · rw [List.size_toArray]; simp only [List.length_append, List.length_take, List.length_drop, hcl, hbl, hx]; omega
    · rw [flat_set hl hP, List.length_set, ← ht, Nat.add_zero, hbl, hx]
      have e1 : (List.take (vs.length * 16) cur.toList).take (P * 16) = cur.toList.take (P * 16) := by rw [List.take_take]; congr 1; omega
      rw [e1, List.append_assoc, List.append_assoc, List.take_append, List.take_append, List.take_of_length_le (i := vs.length * 16) (l := cur.toList.take (P * 16)) (by rw [List.length_take]; omega), List.take_of_length_le (i := _) (l := bts x) (by rw [List.length_take, hcl, hbl, hx]; omega)]
      congr 2
      rw [List.drop_take, show P * 16 + 16 = (P + 1) * 16 from by omega]
      congr 1
      rw [List.length_take, hcl, hbl, hx]; omega

/-- What a call leaves at last: its result stands in the cell. -/
theorem put_end {w w5 : World} {g : Sg} {M : Nat → Option Sec} {b10 : Nat} {C : Array Value} (h5 : SpAt w5 g M) (h10 : w5.heap[b10]? = some (.cells C 149 (0, 0))) (hb : w.heap.size ≤ b10) (hu : Upd g.S w w5) (cs : Array Value) : SpAt (w5.setRow b10 cs) g M ∧ Upd g.S w (w5.setRow b10 cs) := by
  have hr : Upd [b10] w5 (w5.setRow b10 cs) := upd_row (Upd.refl _ _) _ (.inl (by simp))
  refine ⟨h5.turned9 (fun b hb => ?_) hr, hu.late hr (fun k hk => .inr ?_)⟩
  · simp at hb; subst hb; exact ⟨_, _, _, h10, .inl rfl⟩
  · simp at hk; subst hk; exact hb
theorem Sg.notw {g : Sg} {b : Nat} (hb : b ∉ g.S) : b ∉ [g.x.wb] := fun q => hb (g.memw b q)
attribute [-go_sem] loadCells storeCells Instr.build
attribute [local go_sem] build_spl0 store4_run
set_option maxRecDepth 100000 in
set_option maxHeartbeats 4000000 in
theorem put_there {w : World} {g : Sg} {M : Nat → Option Sec} (h : SpAt w g M) (at_ : Nat) (hat : at_ < g.h) (hat2 : at_ < 4294967296) {ks vs : List Bs} (hok : LeafOk ks vs) (hcur : g.cur M at_ = encLeaf ks vs) (key v : Bs) (hkey : key.length = 32) (hv : v.length = 16) (deep : Int) (hd : (deep == 0) = false) (hc : (M at_).isSome = true ∨ cntM M g.h < 40) (hh : hasK ks key = true) {P : Nat} (hPk : posK ks key = P) :
    Calls Tryz.prog 73 #[.pointer (some ⟨g.x.tb, 0, none⟩), .int .u32 (at_ : Int), arr key, arr v, .int .i64 deep] w fun e w' => e = .returned (.tuple #[splV none, .int .i64 0]) ∧ SpAt w' g (putS M at_ (encLeaf ks (vs.set P v))) ∧ Upd g.S w w' := by
  obtain ⟨wA, hwA⟩ : ∃ wA, wA = ((w.alloc (.cells (bts key).toArray 35)).alloc (.cells (bts v).toArray 45)).alloc (.cells (splC none).toArray 149) := ⟨_, rfl⟩
  have huA : Upd [] w wA := by rw [hwA]; exact (((Upd.refl _ _).alloc _).alloc _).alloc _
  obtain ⟨b7, hb7⟩ : ∃ b, b = w.heap.size := ⟨_, rfl⟩
  obtain ⟨b8, hb8⟩ : ∃ b, b = w.heap.size + 1 := ⟨_, rfl⟩
  obtain ⟨b10, hb10⟩ : ∃ b, b = w.heap.size + 1 + 1 := ⟨_, rfl⟩
  have H10 : Hid (wA.heap[b10]? = some (.cells (splC none).toArray 149 (0, 0))) := by
    show wA.heap[b10]? = _
    rw [hwA]; have := blk_alloc (w := (w.alloc (.cells (bts key).toArray 35)).alloc (.cells (bts v).toArray 45)) (.cells (splC none).toArray 149)
    simpa [hb10] using this
  have H8 : Hid (wA.heap[b8]? = some (.cells (bts v).toArray 45 (0, 0))) := by
    show wA.heap[b8]? = _
    rw [hwA, blk_alloc_ne (by simp [hb8]; try omega)]
    have := blk_alloc (w := w.alloc (.cells (bts key).toArray 35)) (.cells (bts v).toArray 45)
    simpa [hb8] using this
  have H7 : Hid (wA.heap[b7]? = some (.cells (bts key).toArray 35 (0, 0))) := by
    show wA.heap[b7]? = _
    rw [hwA, hb7, blk_alloc_ne (by simp; try omega), blk_alloc_ne (by simp; try omega)]
    exact blk_alloc _
  have hA := h.below huA
  have HO7 := Lib.hid (hA.other9 H7.out (.inr (.inr (.inl rfl))))
  have HO8 := Lib.hid (hA.other9 H8.out (.inr (.inr (.inr (.inl rfl)))))
  have HO10 := Lib.hid (hA.other9 H10.out (.inl rfl))
  have HBB : Hid (b7 < wA.heap.size ∧ b8 < wA.heap.size ∧ b10 < wA.heap.size) := Lib.hid ⟨blk_lt H7.out, blk_lt H8.out, blk_lt H10.out⟩
  have HR := Lib.hid (read_leaf hA at_ hat hat2 hok hcur)
  have HW := Lib.hid hwA
  have HUA := Lib.hid huA
  have HB := Lib.hid (And.intro hb7 (And.intro hb8 hb10))
  have HOK := Lib.hid hok
  have HA := Lib.hid hA
  clear h hA hok hcur hwA huA hb7 hb8 hb10
  unfold arr
  go_enter Tryz.func73, Tryz.ntmps73
  go_wp2_with fail
  have hwA := HW.out
  obtain ⟨hb7, hb8, hb10⟩ := HB.out
  rw [show (#[.int .u8 0, .int .u8 0, .int .u8 0, .int .u8 0, .int .u8 0, .int .u8 0, .int .u8 0, .int .u8 0, .int .u8 0, .int .u8 0, .int .u8 0, .int .u8 0, .int .u8 0, .int .u8 0, .int .u8 0, .int .u8 0, .int .u8 0, .int .u8 0, .int .u8 0, .int .u8 0, .int .u8 0, .int .u8 0, .int .u8 0, .int .u8 0, .int .u8 0, .int .u8 0, .int .u8 0, .int .u8 0, .int .u8 0, .int .u8 0, .int .u8 0, .int .u8 0, .int .u32 0, .bool false] : Array Value) = (splC none).toArray from rfl, ← hwA, ← hb10, ← hb8, ← hb7]
  clear hwA hb7 hb8 hb10
  refine HR.out.mono ?_
  rintro e w1 ⟨vk, vv, rfl, hK, hV, h1, hu1⟩
  obtain ⟨ak, ck, rfl⟩ := own_shape hK
  obtain ⟨av, cv, rfl⟩ := own_shape hV
  have nj : ∀ b, b ∉ g.S → b ∉ [g.j.jb] := fun b hb q => hb (g.mem b q)
  obtain ⟨w2, hw2⟩ : ∃ w2, w2 = w1.alloc (.cells #[.int .i64 1, .slice ak ks.length ck, .slice av vs.length cv, .slice none 0 0] 145) := ⟨_, rfl⟩
  have hu2 : Upd [] w1 w2 := by rw [hw2]; exact (Upd.refl _ _).alloc _
  obtain ⟨b12, hb12⟩ : ∃ b, b = w1.heap.size := ⟨_, rfl⟩
  have h7 := (hu2.block _ (Nat.lt_of_lt_of_le HBB.out.1 hu1.size) (by simp)).trans ((hu1.block _ HBB.out.1 (nj _ HO7.out)).trans H7.out)
  have h8 := (hu2.block _ (Nat.lt_of_lt_of_le HBB.out.2.1 hu1.size) (by simp)).trans ((hu1.block _ HBB.out.2.1 (nj _ HO8.out)).trans H8.out)
  have h10 := (hu2.block _ (Nat.lt_of_lt_of_le HBB.out.2.2 hu1.size) (by simp)).trans ((hu1.block _ HBB.out.2.2 (nj _ HO10.out)).trans H10.out)
  have h12 : w2.heap[b12]? = some (.cells #[.int .i64 1, .slice ak ks.length ck, .slice av vs.length cv, .slice none 0 0] 145 (0, 0)) := by rw [hw2, hb12]; exact blk_alloc _
  have H712 := Lib.hid h7
  have H812 := Lib.hid h8
  have H1012 := Lib.hid h10
  have H12 := Lib.hid h12
  have H2 := Lib.hid (h1.below hu2)
  have HK2 := Lib.hid (own_upd (S := []) hK hu2 (by simp))
  have HV2 := Lib.hid (own_upd (S := []) hV hu2 (by simp))
  have HU2 := Lib.hid ((hu1.mono (by simp)).trans (hu2.mono (by simp)) : Upd [g.j.jb] wA w2)
  have HW2 := Lib.hid hw2
  have HB12 := Lib.hid hb12
  have HBG := Lib.hid (Nat.le_trans (Nat.le_of_eq rfl) hu1.size : wA.heap.size ≤ w1.heap.size)
  have l1 := run_cells_blk (n := 4) (cs := [.int .i64 1, .slice ak ks.length ck, .slice av vs.length cv, .slice none 0 0]) h12 rfl
  have l7 := run_cells_blk (n := 32) h7 (by rw [bts_length, hkey])
  have m0 := blk_cell h12 0
  rw [hw2] at l1 l7
  rw [hw2, hb12] at m0
  rw [hb12] at l1
  clear hK hV h1 hu1 hu2 h7 h8 h10 h12 nj hw2 hb12
  have hF := find_spec (w := w2) (vv := .slice av vs.length cv) (vd := .slice none 0 0) 1 (KOwn.rd HK2.out HOK.out.k) HOK.out.k (by have := HOK.out.most; omega) key hkey
  rw [hh, hPk] at hF
  have HF := Lib.hid hF
  clear hF
  unfold arr at *
  have hP : P < vs.length := by
    have := HOK.out.n
    rw [← hPk]
    unfold hasK at hh
    have := of_decide_eq_true hh
    have := (List.getElem?_eq_some_iff.1 this).1
    omega
  clear hh hPk
  have hP0 : (P : Int) < (vs.length : Int) := by omega
  go_wp2_with fail
  have hw2 := HW2.out
  have hb12 := HB12.out
  rw [← hw2, ← hb12]
  clear hw2 hb12
  refine HF.out.mono ?_
  rintro e w3 ⟨rfl, hu3⟩
  have hV3 := own_upd (S := []) HV2.out hu3 (by simp)
  have hK3 := own_upd (S := []) HK2.out hu3 (by simp)
  obtain ⟨gv, cap, cur, r, ev, hBg, hgv, hst, hV4⟩ := VOwn.turn hV3 HOK.out.v hP hv
  injection ev with e1 _ e3
  subst e1 e3
  have h7 := (hu3.block _ (blk_lt H712.out) (by simp)).trans H712.out
  have h8 := (hu3.block _ (blk_lt H812.out) (by simp)).trans H812.out
  have h10 := (hu3.block _ (blk_lt H1012.out) (by simp)).trans H1012.out
  have h12 := (hu3.block _ (blk_lt H12.out) (by simp)).trans H12.out
  have h3 := H2.out.below hu3
  have m2 := blk_cell h12 2
  have l8 := run_cells_blk (n := 16) h8 (by rw [bts_length, hv])
  obtain ⟨w4, hw4⟩ : ∃ w4, w4 = w3.setRow gv r := ⟨_, rfl⟩
  have hu4 : Upd [gv] w3 w4 := by rw [hw4]; exact upd_row (Upd.refl _ _) _ (.inl (by simp))
  have n12 : b12 ≠ gv := by rintro rfl; rw [hgv] at h12; simp at h12
  have n10 : b10 ≠ gv := by rintro rfl; rw [hgv] at h10; simp at h10
  have h12' := (hu4.block _ (blk_lt h12) (by simpa using n12)).trans h12
  have h10' := (hu4.block _ (blk_lt h10) (by simpa using n10)).trans h10
  have h4 := h3.turned9 (S := [gv]) (fun b hb => by simp at hb; subst hb; exact ⟨_, _, _, hgv, .inr (.inr (.inr (.inl rfl)))⟩) hu4
  have hK4 := own_upd hK3 hu4 (fun k c hk _ e => by simp at hk; subst hk; rw [hgv] at e; simp at e)
  rw [← hw4] at hst hV4
  have hok2 : LeafOk ks (vs.set P v) := ⟨HOK.out.k, fun x hx => by rcases List.mem_or_eq_of_mem_set hx with q | q; exact HOK.out.v x q; rw [q]; exact hv, by rw [List.length_set]; exact HOK.out.n, HOK.out.most⟩
  have hWR := write_leaf h4 (vd := .slice none 0 0) (KOwn.rd hK4 HOK.out.k) (VOwn.rd hV4 hok2.v) hok2 at_ hat hat2 hc
  have l12 := run_cells_blk (n := 4) (cs := [.int .i64 1, .slice ak ks.length ck, .slice (some ⟨gv, 0, none⟩) vs.length cv, .slice none 0 0]) h12' rfl
  have HWR := Lib.hid hWR
  have H10' := Lib.hid h10'
  have H4 := Lib.hid h4
  have HU4 : Hid (Upd [g.j.jb] wA w4) := by
    show Upd _ _ _
    exact (HU2.out.trans (hu3.mono (by simp))).late hu4 (fun k hk => .inr (by simp at hk; subst hk; exact hBg))
  clear hV3 hK3 hgv hV4 h7 h8 h10 h12 h3 hu4 hw4 n12 n10 h12' h10' h4 hK4 hok2 hWR
  go_wp2_with fail
  refine HWR.out.mono ?_
  rintro e w5 ⟨rfl, h5, hu5⟩
  have h10 := (hu5.block _ (blk_lt H10'.out) (Sg.notw HO10.out)).trans H10'.out
  have s10 := store_blk h10 (l := splC none) (by rw [List.size_toArray]) (splC_one _)
  have HU5 := Lib.hid ((HU4.out.mono g.mem).trans (hu5.mono g.memw))
  have H5 := Lib.hid h5
  clear hu5 h5
  unfold splV
  go_wp2_with fail
  refine bodyPost_ret (results_row_tmp (p := 10) (u := 11) (ty := 149) (by rfl) _ _ b10 _ (by rfl) (run_loadVar_row _ b10 _ _ _ _ _ (setRow_heap _ _ _ _ _ _ h10) Tryz.underlying149 rfl (spl_size (o := none) (by simp)))) (by rfl) ?_
  exact ⟨rfl, put_end H5.out h10 (by have := HB.out.2.2; omega) ((HUA.out.mono (by simp)).trans HU5.out) _⟩

end Go.Proofs.YtceakcejchbbjaaGreat
