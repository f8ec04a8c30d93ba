/-
  tree.Get.
-/
import Derived.Test.YtceakcejchbbjaaGreatTrN
namespace Go.Proofs.YtceakcejchbbjaaGreat
open Go.RowKit Go.MapKept Go.ChangeMaps

/-- The value under a key. -/
def lookL : List Pair9 → Bs → Option Bs
  | [], _ => none
  | p :: l, key => if ltB p.1 key then lookL l key else if p.1 = key then some p.2 else none
theorem lookL_high {key : Bs} {lb : List Pair9} (h : ∀ p, p ∈ lb → ltB key p.1 = true) : lookL lb key = none := by
  cases lb with
  | nil => rfl
  | cons q lb =>
    have hq := h q (by simp)
    unfold lookL
    rw [ltB_asymm hq]
    simp only [Bool.false_eq_true, if_false]
    rw [if_neg (by intro e; rw [e, ltB_irrefl] at hq; simp at hq)]
theorem lookL_right {key : Bs} : ∀ {lc lb : List Pair9}, (∀ p, p ∈ lb → ltB key p.1 = true) → lookL (lc ++ lb) key = lookL lc key
  | [], lb, h => by rw [List.nil_append, lookL_high h]; rfl
  | p :: lc, lb, h => by
    have ih := lookL_right (lc := lc) h
    show (if ltB p.1 key then lookL (lc ++ lb) key else if p.1 = key then some p.2 else none) = (if ltB p.1 key then lookL lc key else if p.1 = key then some p.2 else none)
    rw [ih]
theorem lookL_left {key : Bs} : ∀ {la l : List Pair9}, (∀ p, p ∈ la → ltB p.1 key = true) → lookL (la ++ l) key = lookL l key
  | [], l, _ => rfl
  | p :: la, l, h => by
    have ih := lookL_left (la := la) (l := l) (key := key) (fun q hq => h q (by simp [hq]))
    show (if ltB p.1 key then lookL (la ++ l) key else if p.1 = key then some p.2 else none) = _
    rw [h p (by simp), ih]
    simp
theorem lookL_mid {key : Bs} {la lc lb : List Pair9} (ha : ∀ p, p ∈ la → ltB p.1 key = true) (hb : ∀ p, p ∈ lb → ltB key p.1 = true) : lookL (la ++ (lc ++ lb)) key = lookL lc key := by rw [lookL_left ha, lookL_right hb]
theorem lookL_leaf : ∀ (l : List Pair9) (key : Bs), lookL l key = if hasK (l.map (·.1)) key then (l.map (·.2))[posK (l.map (·.1)) key]? else none
  | [], key => by simp [lookL, hasK, posK]
  | p :: l, key => by
    have ih := lookL_leaf l key
    unfold lookL
    cases h : ltB p.1 key
    · have hp : posK ((p :: l).map (·.1)) key = 0 := by rw [List.map_cons, posK, h]; rfl
      have hh : hasK ((p :: l).map (·.1)) key = decide (p.1 = key) := by unfold hasK; rw [hp]; simp
      rw [hp, hh]
      by_cases e : p.1 = key
      · simp [e]
      · simp [e]
    · have hp : posK ((p :: l).map (·.1)) key = posK (l.map (·.1)) key + 1 := by rw [List.map_cons, posK, h]; rfl
      have hh : hasK ((p :: l).map (·.1)) key = hasK (l.map (·.1)) key := by unfold hasK; rw [hp]; simp
      rw [hp, hh]
      simp only [if_true, ih, List.map_cons, List.getElem?_cons_succ]
theorem lookL_ins : ∀ (l : List Pair9) (key v : Bs), lookL (insL l key v) key = some v
  | [], key, v => by simp [insL, lookL, ltB_irrefl]
  | p :: l, key, v => by
    have ih := lookL_ins l key v
    unfold insL
    cases h : ltB p.1 key
    · simp only [Bool.false_eq_true, if_false]
      split
      · simp [lookL, ltB_irrefl]
      · simp [lookL, ltB_irrefl]
    · simp only [if_true]
      unfold lookL
      rw [h]
      simpa using ih

attribute [-go_sem] loadCells storeCells
/-- A fresh node is written whole. -/
theorem store4_run (w : World) (a b c : Option Addr) (k : Int) (n1 c1 n2 c2 n3 c3 : Nat) : (storeCells ⟨w.heap.size, 0, none⟩ [.int .i64 k, .slice a n1 c1, .slice b n2 c2, .slice c n3 c3] 0).run Tryz.prog (w.alloc (.cells #[.int .i64 0, .slice none 0 0, .slice none 0 0, .slice none 0 0] 145)) = .ok () (w.alloc (.cells #[.int .i64 k, .slice a n1 c1, .slice b n2 c2, .slice c n3 c3] 145)) := by
  have := run_storeCells_from (P := Tryz.prog) w.heap.size 145 [.int .i64 k, .slice a n1 c1, .slice b n2 c2, .slice c n3 c3] 0 #[.int .i64 0, .slice none 0 0, .slice none 0 0, .slice none 0 0] _ (blk_alloc _) rfl (by intro v hv; simp at hv; rcases hv with rfl | rfl | rfl | rfl <;> rfl)
  rw [this, setRow_alloc]
  rfl
attribute [local go_sem] store4_run
theorem store16_run {w : World} {b : Nat} {C : Array Value} {T : TypeId} (h : w.heap[b]? = some (.cells C T (0, 0))) (hC : C.size = 16) {l : List UInt8} (hl : l.length = 16) : (storeCells ⟨b, 0, none⟩ (bts l) 0).run Tryz.prog w = .ok () (w.setRow b (bts l).toArray) := by
  have := run_storeCells_from (P := Tryz.prog) b T (bts l) 0 C w h (by rw [bts_length, hl, hC]) (bts_one l)
  rw [this]
  rfl
def z16 : List UInt8 := List.replicate 16 0
theorem z16_bts : [.int .u8 0, .int .u8 0, .int .u8 0, .int .u8 0, .int .u8 0, .int .u8 0, .int .u8 0, .int .u8 0, .int .u8 0, .int .u8 0, .int .u8 0, .int .u8 0, .int .u8 0, .int .u8 0, .int .u8 0, .int .u8 0] = bts z16 := rfl
theorem get_end {w w4 : World} {g : Sg} {M : Nat → Option Sec} (h0 : SpAt w g M) (h4 : SpAt w4 g M) (hu : Upd [g.j.jb] w w4) {b6 : Nat} (hb : w.heap.size ≤ b6) (cs : Array Value) : SpAt (w4.setRow b6 cs) g M ∧ Upd [g.j.jb] w (w4.setRow b6 cs) := by
  have hr : Upd [b6] w4 (w4.setRow b6 cs) := upd_row (Upd.refl _ _) _ (.inl (by simp))
  exact ⟨SpAt.late h0 h4 hu hr (fun k hk => by simp at hk; omega), hu.late hr (fun k hk => .inr (by simp at hk; omega))⟩
theorem val_size {l : List UInt8} (hl : l.length = 16) : (Tryz.prog.info? 45).map (·.size) = some (bts l).toArray.size := by
  rw [infoVl, List.size_toArray, bts_length, hl]
theorem RRd.at {w : World} {a : Option Addr} {n c sz : Nat} {es : List (List Value)} (h : RRd w (.slice a n c) sz es) {i : Nat} {e : List Value} (he : es[i]? = some e) : ∃ b off, a = some ⟨b, off, none⟩ ∧ w.rangeAt b (off + i * sz) e := by
  obtain ⟨ao, cap, ev, hc, hh⟩ := h
  injection ev with e1 e2 e3
  obtain ⟨b, off, rfl, hr⟩ := hh (by have := (List.getElem?_eq_some_iff.1 he).1; omega)
  exact ⟨b, off, e1, hr i e he⟩
/-- What Get tells. -/
def getV : Option Bs → Value
  | some v => .tuple #[.agg (bts v).toArray, .int .i64 0]
  | none => .tuple #[.agg (bts z16).toArray, .int .i64 5]

set_option maxRecDepth 100000 in
set_option maxHeartbeats 4000000 in
theorem get_spec {w : World} {g : Sg} {M : Nat → Option Sec} (h : SpAt w g M) {d a : Nat} {l : List Pair9} {S : List Nat} (hs : Shape (g.cur M) true d a l S) (hS : ∀ s, s ∈ S → 4 ≤ s ∧ s < g.h) (hd : d < 16) (key : Bs) (hkey : key.length = 32) :
    Calls Tryz.prog 26 #[.pointer (some ⟨g.x.tb, 0, none⟩), .int .u32 (a : Int), arr key] w fun e w' => e = .returned (getV (lookL l key)) ∧ SpAt w' g M ∧ Upd [g.j.jb] w w' := by
  have hm := hS a hs.mem.1
  have hb : ((g.h : Int) == 0) = false := by rw [beq_eq_false_iff_ne]; omega
  have ha : ((a : Int) == 0) = false := by rw [beq_eq_false_iff_ne]; omega
  obtain ⟨wA, hwA⟩ : ∃ wA, wA = (w.alloc (.cells (bts key).toArray 35)).alloc (.cells #[.int .u8 0, .int .u8 0, .int .u8 0, .int .u8 0, .int .u8 0, .int .u8 0, .int .u8 0, .int .u8 0, .int .u8 0, .int .u8 0, .int .u8 0, .int .u8 0, .int .u8 0, .int .u8 0, .int .u8 0, .int .u8 0] 45) := ⟨_, rfl⟩
  have huA : Upd [] w wA := by rw [hwA]; exact ((Upd.refl _ _).alloc _).alloc _
  obtain ⟨b5, hb5⟩ : ∃ b, b = w.heap.size := ⟨_, rfl⟩
  obtain ⟨b6, hb6⟩ : ∃ b, b = w.heap.size + 1 := ⟨_, rfl⟩
  have h5 : wA.heap[b5]? = some (.cells (bts key).toArray 35 (0, 0)) := by
    rw [hwA, hb5, blk_alloc_ne (by simp)]; exact blk_alloc _
  have h6 : wA.heap[b6]? = some (.cells #[.int .u8 0, .int .u8 0, .int .u8 0, .int .u8 0, .int .u8 0, .int .u8 0, .int .u8 0, .int .u8 0, .int .u8 0, .int .u8 0, .int .u8 0, .int .u8 0, .int .u8 0, .int .u8 0, .int .u8 0, .int .u8 0] 45 (0, 0)) := by
    rw [hwA, hb6]; have := blk_alloc (w := w.alloc (.cells (bts key).toArray 35)) (.cells #[.int .u8 0, .int .u8 0, .int .u8 0, .int .u8 0, .int .u8 0, .int .u8 0, .int .u8 0, .int .u8 0, .int .u8 0, .int .u8 0, .int .u8 0, .int .u8 0, .int .u8 0, .int .u8 0, .int .u8 0, .int .u8 0] 45); simpa using this
  have HO := Lib.hid (homesS (h.below huA))
  have HH := Lib.hid (h.below huA)
  have HH0 := Lib.hid h
  have HSH := Lib.hid hs
  have HSS := Lib.hid hS
  have HUA := Lib.hid huA
  have HW := Lib.hid hwA
  have HB5 := Lib.hid hb5
  have HB6 := Lib.hid hb6
  have H5 := Lib.hid h5
  have H6 := Lib.hid h6
  clear h hs hS hm huA hwA hb5 hb6 h5 h6
  unfold arr
  go_enter Tryz.func26, Tryz.ntmps26
  go_wp2_with fail
  have hwA := HW.out
  have hb5 := HB5.out
  have hb6 := HB6.out
  rw [← hwA, ← hb6, ← hb5]
  clear hwA hb5 hb6
  refine HO.out.mono ?_
  rintro e w1 ⟨rfl, n1, hn1⟩
  have HU1 : Hid (Upd [] wA w1) := by show Upd _ _ _; rw [hn1]; exact (Upd.refl _ _).drewN _
  clear hn1
  go_wp2_with fail
  go_loopw [20, 1] (fun i r wr => ∃ (q : Nat) (b : Bool) (d' a' : Nat) (l' : List Pair9) (S' : List Nat), q + d' = d ∧ i = .int .i64 (q : Int) ∧ r = .int .u32 (a' : Int) ∧ Shape (g.cur M) b d' a' l' S' ∧ lookL l key = lookL l' key ∧ (∀ s, s ∈ S' → s ∈ S) ∧ wr.heap[b5]? = some (.cells (bts key).toArray 35 (0, 0)) ∧ wr.heap[b6]? = some (.cells #[.int .u8 0, .int .u8 0, .int .u8 0, .int .u8 0, .int .u8 0, .int .u8 0, .int .u8 0, .int .u8 0, .int .u8 0, .int .u8 0, .int .u8 0, .int .u8 0, .int .u8 0, .int .u8 0, .int .u8 0, .int .u8 0] 45 (0, 0)) ∧ SpAt wr g M ∧ Upd [g.j.jb] w wr) (fun i _ _ => 16 - (intOf i).toNat)
  case atStart => exact ⟨0, true, d, a, l, S, by omega, rfl, rfl, HSH.out, rfl, fun _ q => q, (HU1.out.block _ (blk_lt H5.out) (by simp)).trans H5.out, (HU1.out.block _ (blk_lt H6.out) (by simp)).trans H6.out, HH.out.below HU1.out, (HUA.out.trans HU1.out).mono (by simp)⟩
  case round =>
    obtain ⟨q, b, d', a', l', S', hq, rfl, rfl, hsh, hlo, hsub, h5, h6, hsp, hu⟩ := hrel
    have hlt : decide ((q : Int) < 16) = true := decide_eq_true (by omega)
    have hlt2 : decide (q < 16) = true := decide_eq_true (by omega)
    have ham := HSS.out a' (hsub a' hsh.mem.1)
    have ha4 := hsh.mem.2
    have hj5 : b5 ∉ [g.j.jb] := by simp; rintro rfl; have := hsp.jr.at_.st; rw [h5] at this; simp at this
    have hj6 : b6 ∉ [g.j.jb] := by simp; rintro rfl; have := hsp.jr.at_.st; rw [h6] at this; simp at this
    cases d' with
    | zero =>
      have hr := read_leaf hsp a' ham.2 ha4 hsh.2.2.1 hsh.2.2.2.1
      have hlo2 := hlo.trans (lookL_leaf l' key)
      have hok0 := hsh.2.2.1
      generalize l'.map (·.1) = K at *
      generalize l'.map (·.2) = V at *
      have HR := Lib.hid hr
      have HUr := Lib.hid hu
      have HOK := Lib.hid hok0
      have HLO := Lib.hid hlo2
      have H5r := Lib.hid h5
      have H6r := Lib.hid h6
      clear hr hsh hsub hsp hu hlo h5 h6 hlo2 hok0
      go_wp2_with fail
      refine HR.out.mono ?_
      rintro e w2 ⟨vk, vv, rfl, hK, hV, h2, hu2⟩
      obtain ⟨ak, ck, rfl⟩ := own_shape hK
      obtain ⟨av, cv, rfl⟩ := own_shape hV
      have hj5w : wr.heap[b5]? = w2.heap[b5]? := (hu2.block _ (blk_lt H5r.out) hj5).symm
      have hj6w : wr.heap[b6]? = w2.heap[b6]? := (hu2.block _ (blk_lt H6r.out) hj6).symm
      have h5 := hj5w.symm.trans H5r.out
      have h6 := hj6w.symm.trans H6r.out
      obtain ⟨w3, hw3⟩ : ∃ w3, w3 = w2.alloc (.cells #[.int .i64 1, .slice ak K.length ck, .slice av V.length cv, .slice none 0 0] 145) := ⟨_, rfl⟩
      have hu3 : Upd [] w2 w3 := by rw [hw3]; exact (Upd.refl _ _).alloc _
      have h5' := (hu3.block _ (blk_lt h5) (by simp)).trans h5
      have h6' := (hu3.block _ (blk_lt h6) (by simp)).trans h6
      have h8 : w3.heap[w2.heap.size]? = some (.cells #[.int .i64 1, .slice ak K.length ck, .slice av V.length cv, .slice none 0 0] 145 (0, 0)) := by rw [hw3]; exact blk_alloc _
      have hok := HOK.out
      have hKd := (KOwn.rd hK hok.k).keep hu3 (fun _ _ _ _ => by simp)
      have hVd := (VOwn.rd hV hok.v).keep hu3 (fun _ _ _ _ => by simp)
      have hF := find_spec (vv := .slice av V.length cv) (vd := .slice none 0 0) 1 hKd hok.k (by have := hok.most; omega) key hkey
      have l1 := run_cells_blk (n := 4) (cs := [.int .i64 1, .slice ak K.length ck, .slice av V.length cv, .slice none 0 0]) h8 rfl
      have l2 := run_cells_blk (n := 32) h5' (by rw [bts_length, hkey])
      have kc := blk_cell h8 2
      have HF := Lib.hid hF
      have HU3 := Lib.hid hu3
      have HW3 := Lib.hid hw3
      have H63 := Lib.hid h6'
      have HVd := Lib.hid hVd
      have HU2 := Lib.hid (HUr.out.trans hu2)
      have H2 := Lib.hid h2
      have HC2 := Lib.hid h8
      rw [hw3] at l1 l2
      clear hK hV hj5w hj6w h5 h6 hu3 h5' h6' h8 hok hKd hVd hF kc hw3 h2 hu2
      have hP := posK_le K key
      unfold arr at *
      cases hh : hasK K key
      · have hf := HF.out
        rw [hh] at hf
        have HFb := Lib.hid hf
        have hlo := HLO.out
        rw [hh, if_neg (by simp)] at hlo
        have HLb := Lib.hid hlo
        clear hf
        clear hh hlo HF HLO
        generalize posK K key = P at *
        go_wp2_with fail
        have hw3 := HW3.out
        rw [← hw3]
        refine HFb.out.mono ?_
        rintro e w4 ⟨rfl, hu4⟩
        have h6 := (hu4.block _ (blk_lt H63.out) (by simp)).trans H63.out
        have s6 := store16_run h6 rfl (l := z16) rfl
        rw [← z16_bts] at s6
        go_wp2_with fail
        rw [z16_bts]
        refine bodyPost_ret (results_row_tmp (p := 6) (u := 7) (ty := 45) (by rfl) _ _ b6 _ (by rfl) (run_loadVar_row _ b6 _ _ _ _ _ (setRow_heap _ _ _ _ _ _ h6) Tryz.underlying45 rfl (val_size (l := z16) rfl))) (by rfl) ?_
        exact ⟨by rw [HLb.out]; rfl, get_end HH0.out (H2.out.below (HU3.out.trans hu4)) (HU2.out.trans ((HU3.out.trans hu4).mono (by simp))) (by have := HB6.out; omega) _⟩
      · obtain ⟨x, hx⟩ : ∃ x, V[posK K key]? = some x := by
          have hlt : posK K key < V.length := by
            have := HOK.out.n
            unfold hasK at hh
            have := of_decide_eq_true hh
            have := (List.getElem?_eq_some_iff.1 this).1
            omega
          exact ⟨_, List.getElem?_eq_getElem hlt⟩
        have hf := HF.out
        rw [hh] at hf
        have HFb := Lib.hid hf
        have hxl := HOK.out.v x (List.mem_of_getElem? hx)
        have hlo := HLO.out
        rw [hh, if_pos rfl, hx] at hlo
        have HLb := Lib.hid hlo
        have hPV : posK K key < V.length := (List.getElem?_eq_some_iff.1 hx).1
        obtain ⟨bv, off, rfl, hrv⟩ := HVd.out.at (i := posK K key) (e := bts x) (by rw [List.getElem?_map, hx]; rfl)
        clear hf hlo hh hx HF HLO
        generalize posK K key = P at *
        have hP0 : (P : Int) < (V.length : Int) := by omega
        go_wp2_with fail
        have hw3 := HW3.out
        rw [← hw3]
        refine HFb.out.mono ?_
        rintro e w4 ⟨rfl, hu4⟩
        have h6 := (hu4.block _ (blk_lt H63.out) (by simp)).trans H63.out
        have s6 := store16_run h6 rfl (l := x) hxl
        have h8 := (hu4.block _ (blk_lt HC2.out) (by simp)).trans HC2.out
        have k8 := blk_cell h8 2
        have hrv4 := range_upd hrv hu4 (by simp)
        have l16 := run_cells16 hrv4 hxl
        go_wp2_with fail
        refine bodyPost_ret (results_row_tmp (p := 6) (u := 7) (ty := 45) (by rfl) _ _ b6 _ (by rfl) (run_loadVar_row _ b6 _ _ _ _ _ (setRow_heap _ _ _ _ _ _ h6) Tryz.underlying45 rfl (val_size hxl))) (by rfl) ?_
        exact ⟨by rw [HLb.out]; rfl, get_end HH0.out (H2.out.below (HU3.out.trans hu4)) (HU2.out.trans ((HU3.out.trans hu4).mono (by simp))) (by have := HB6.out; omega) _⟩
    | succ d' =>
      obtain ⟨_, ks, ds, S2, e1, hok, hc, _, hpw, hk⟩ := hsh
      obtain ⟨kid, la, lc, lb, Sa, Sc, Sb, hkid, el, eS, hsc, hla, hlb, _⟩ := hk.turn (key := key) hpw
      have hr := read_inner hsp a' ham.2 ha4 hok hc
      have HSB : Hid (∀ s, s ∈ Sc → s ∈ S) := by show ∀ s, _; exact fun s hs => hsub s (by rw [e1, eS]; simp [hs])
      have HLO : Hid (lookL l key = lookL lc key) := by show _ = _; rw [hlo, el, lookL_mid hla hlb]
      have HR := Lib.hid hr
      have HUr := Lib.hid hu
      have HOK := Lib.hid hok
      have HKID := Lib.hid hkid
      have HSC := Lib.hid hsc
      have H5r := Lib.hid h5
      have H6r := Lib.hid h6
      clear hr hsub hsp hu hok hc hk hkid hsc el eS e1 hla hlb hlo h5 h6 hpw
      go_wp2_with fail
      refine HR.out.mono ?_
      rintro e w2 ⟨vk, vd, rfl, hK, hD, h2, hu2⟩
      obtain ⟨ak, ck, rfl⟩ := own_shape hK
      have hI : chK ks key < ds.length := (List.getElem?_eq_some_iff.1 HKID.out).1
      obtain ⟨gd, cap, rfl, _, hcell⟩ := hD.cell (by omega)
      have h5 := (hu2.block _ (blk_lt H5r.out) hj5).trans H5r.out
      have h6 := (hu2.block _ (blk_lt H6r.out) hj6).trans H6r.out
      obtain ⟨w3, hw3⟩ : ∃ w3, w3 = w2.alloc (.cells #[.int .i64 2, .slice ak ks.length ck, .slice none 0 0, .slice (some ⟨gd, 0, none⟩) ds.length cap] 145) := ⟨_, rfl⟩
      have hu3 : Upd [] w2 w3 := by rw [hw3]; exact (Upd.refl _ _).alloc _
      have h5' := (hu3.block _ (blk_lt h5) (by simp)).trans h5
      have h6' := (hu3.block _ (blk_lt h6) (by simp)).trans h6
      obtain ⟨b8, hb8⟩ : ∃ b, b = w2.heap.size := ⟨_, rfl⟩
      have h8 : w3.heap[b8]? = some (.cells #[.int .i64 2, .slice ak ks.length ck, .slice none 0 0, .slice (some ⟨gd, 0, none⟩) ds.length cap] 145 (0, 0)) := by rw [hw3, hb8]; exact blk_alloc _
      have hKd := (KOwn.rd hK HOK.out.k).keep hu3 (fun _ _ _ _ => by simp)
      have hC := child_spec (w := w3.drew) (vv := .slice none 0 0) (vd := .slice (some ⟨gd, 0, none⟩) ds.length cap) 2 (hKd.keep (Upd.refl [] _).drew (fun _ _ _ _ => by simp)) HOK.out.k (by have := HOK.out.most; omega) key hkey
      have l1 := run_cells_blk (w := w3.drew) (n := 4) (cs := [.int .i64 2, .slice ak ks.length ck, .slice none 0 0, .slice (some ⟨gd, 0, none⟩) ds.length cap]) h8 rfl
      have l2 := run_cells_blk (w := w3.drew) (n := 32) h5' (by rw [bts_length, hkey])
      have kc := blk_cell h8 3
      have kd := cell_upd (hcell _ _ HKID.out) hu3 (by simp)
      have HC := Lib.hid hC
      have HU3 := Lib.hid hu3
      have HW3 := Lib.hid hw3
      have HB8 := Lib.hid hb8
      have H53 := Lib.hid h5'
      have H63 := Lib.hid h6'
      have HU2 := Lib.hid (HUr.out.trans hu2)
      have H2 := Lib.hid h2
      have k0 := blk_cell h8 0
      have hIi : ((chK ks key : Nat) : Int) < (ds.length : Int) := by omega
      clear hK hD h5 h6 hu3 h5' h6' h8 hKd hC hb8 hw3 h2 hu2 hcell hI
      unfold arr at *
      generalize chK ks key = I at *
      go_wp2_with fail
      have hw3 := HW3.out
      have hb8 := HB8.out
      rw [← hw3, ← hb8]
      clear hw3 hb8
      go_region_law (first | (go_simp; go_at_call 76; (with_reducible refine HC.out.mono ?_); rintro e w4 ⟨rfl, hu4⟩; have kc4 := cell_upd kc ((Upd.refl [] _).drew.trans hu4) (by simp); have kd4 := cell_upd kd ((Upd.refl [] _).drew.trans hu4) (by simp); have HU4 := Lib.hid hu4; clear hu4; dsimp only))
      all_goals
        go_wp2_with fail
        have hu34 := (HU3.out.trans (Upd.refl [] _).drew).trans HU4.out
        have hu43 := (Upd.refl [] w3).drew.trans HU4.out
        exact ⟨⟨q + 1, false, d', kid, lc, Sc, by omega, by go_num, rfl, HSC.out, HLO.out, HSB.out, (hu43.block _ (blk_lt H53.out) (by simp)).trans H53.out, (hu43.block _ (blk_lt H63.out) (by simp)).trans H63.out, H2.out.below hu34, HU2.out.trans (hu34.mono (by simp))⟩, by simp [intOf]; omega⟩

end Go.Proofs.YtceakcejchbbjaaGreat
