/-
  tree.Scan.
-/
import Derived.Test.YtceakcejchbbjaaGreatTsI
set_option linter.unusedSimpArgs false
set_option linter.unusedVariables false
namespace Go.Proofs.YtceakcejchbbjaaGreat
open Go.RowKit Go.MapKept Go.ChangeMaps

/-- What a scan tells. -/
def scanL (from_ : Bs) (k : Nat) (l : List Pair9) : List Pair9 := (l.filter fun p => !ltB p.1 from_).take k
theorem ent84 (args : Array Value) (w : World) : (callFunc 84 args).run Tryz.prog w = .ok (.enter 84 args) w := by
  have := Tryz.func84
  simp [callFunc, this, Tryz.f84]
theorem scanF_split {from_ : Bs} {k : Nat} {la lv : List Pair9} (h : ∀ p, p ∈ la → ltB p.1 from_ = true) : scanF from_ (k : Int) [] lv = scanL from_ k (la ++ lv) := by
  rw [scanF_eq from_ k lv [] (by simp)]
  unfold scanL
  have : la.filter (fun p => !ltB p.1 from_) = [] := by
    rw [List.filter_eq_nil_iff]
    intro p hp
    rw [h p hp]; simp
  rw [List.filter_append, this]
  simp
attribute [-go_sem] loadCells storeCells Instr.build Instr.buildSlice
set_option maxRecDepth 100000 in
set_option maxHeartbeats 4000000 in
theorem scan0_spec {w : World} {g : Sg} {M : Nat → Option Sec} (h : SpAt w g M) (hh1 : 1 < g.h) {from_ : Bs} (most : Int) :
    Calls Tryz.prog 33 #[.pointer (some ⟨g.x.tb, 0, none⟩), .int .u32 0, arr from_, .int .i64 most] w fun e w' => e = .returned (.tuple #[.slice none 0 0, .int .i64 0]) ∧ SpAt w' g M ∧ Upd [] w w' := by
  have hb : ((g.h : Int) == 0) = false := by rw [beq_eq_false_iff_ne]; omega
  obtain ⟨wA, hwA⟩ : ∃ wA, wA = (w.alloc (.cells (bts from_).toArray 35)).alloc (.cells #[.int .i64 most] 3) := ⟨_, rfl⟩
  have huA : Upd [] w wA := by rw [hwA]; exact ((Upd.refl _ _).alloc _).alloc _
  have HO := Lib.hid (homesS (h.below huA))
  have HH := Lib.hid (h.below huA)
  have HUA := Lib.hid huA
  have HW := Lib.hid hwA
  clear h huA hwA
  unfold arr
  go_enter Tryz.func33, Tryz.ntmps33
  go_wp2_with fail
  have hwA := HW.out
  rw [← hwA]
  clear hwA
  refine HO.out.mono ?_
  rintro e w1 ⟨rfl, n1, hn1⟩
  have HU1 : Hid (Upd [] wA w1) := by show Upd _ _ _; rw [hn1]; exact (Upd.refl _ _).drewN _
  clear hn1
  go_wp2_with fail
  go_ret2
  exact ⟨rfl, HH.out.below HU1.out, HUA.out.trans HU1.out⟩
set_option maxRecDepth 100000 in
set_option maxHeartbeats 4000000 in
theorem scan_spec {w : World} {g : Sg} {M : Nat → Option Sec} (h : SpAt w g M) (hh1 : 1 < g.h) (hh2 : g.h ≤ 4096) {r : Nat} {l : List Pair9} {S : List Nat} (ht : TreeOn (g.cur M) g.h r l S) (hl : l.length < 490) {from_ : Bs} (hfrom : from_.length = 32) (k : Nat) (hk : 1 ≤ k) :
    Calls Tryz.prog 33 #[.pointer (some ⟨g.x.tb, 0, none⟩), .int .u32 (r : Int), arr from_, .int .i64 (k : Int)] w fun e w' => ∃ v, e = .returned (.tuple #[v, .int .i64 0]) ∧ PairsB w' w.heap.size v (scanL from_ k l) ∧ SpAt w' g M ∧ Upd [g.j.jb] w w' := by
  rcases ht.at_ with ⟨rfl, rfl, rfl⟩ | ⟨hr, d, hs⟩
  · refine (scan0_spec h hh1 (k : Int)).mono ?_
    rintro e w' ⟨e1, e2, e3⟩
    exact ⟨_, e1, by rw [show scanL from_ k [] = [] by simp [scanL]]; exact own_nil _ _ _ _, e2, e3.mono (by simp)⟩
  have hb : ((g.h : Int) == 0) = false := by rw [beq_eq_false_iff_ne]; omega
  have hrb : ((r : Int) == 0) = false := by rw [beq_eq_false_iff_ne]; omega
  have hkb : decide ((k : Int) < 1) = false := decide_eq_false (by omega)
  have hkb2 : decide (k < 1) = false := decide_eq_false (by omega)
  have hd := hs.flat hl
  have hlf := ht.left
  have hjlt0 := h.jr.at_.lt
  obtain ⟨wA, hwA⟩ : ∃ wA, wA = (w.alloc (.cells (bts from_).toArray 35)).alloc (.cells #[.int .i64 (k : Int)] 3) := ⟨_, rfl⟩
  have huA : Upd [] w wA := by rw [hwA]; exact ((Upd.refl _ _).alloc _).alloc _
  have szA : wA.heap.size = w.heap.size + 2 := by rw [hwA]; simp
  have fA : wA.heap[w.heap.size]? = some (.cells (bts from_).toArray 35 (0, 0)) := by rw [hwA, blk_alloc_ne (by simp)]; exact blk_alloc _
  have mA : wA.heap[w.heap.size + 1]? = some (.cells #[.int .i64 (k : Int)] 3 (0, 0)) := by rw [hwA]; have := blk_alloc (w := w.alloc (.cells (bts from_).toArray 35)) (.cells #[.int .i64 (k : Int)] 3); simpa using this
  have hA := h.below huA
  have HO := Lib.hid (homesS hA)
  have HA := Lib.hid hA
  have HUA := Lib.hid huA
  have HFA := Lib.hid fA
  have HMA := Lib.hid mA
  have HSA := Lib.hid szA
  have HJ0 := Lib.hid hjlt0
  have HS := Lib.hid hs
  have HL := Lib.hid ht.low
  have HSL : Hid ((S.length : Int) ≤ (g.h : Int)) := by show _ ≤ _; omega
  have HW := Lib.hid hwA
  clear h ht hs hlf hjlt0 hwA huA szA fA mA hA
  unfold arr
  go_enter Tryz.func33, Tryz.ntmps33
  go_wp2_with fail
  have hwA := HW.out
  rw [← hwA]
  clear hwA
  refine HO.out.mono ?_
  rintro e w1 ⟨rfl, n1, hn1⟩
  have HU1 : Hid (Upd [] wA w1) := by show Upd _ _ _; rw [hn1]; exact (Upd.refl _ _).drewN _
  have c1 := (HU1.out.block _ (blk_lt HMA.out) (by simp)).trans HMA.out
  have m1 := blk_cell c1 0
  clear hn1 c1
  obtain ⟨w2, hw2⟩ : ∃ w2, w2 = w1.alloc (.cells #[.slice none 0 0] 67) := ⟨_, rfl⟩
  have hu2 : Upd [] w1 w2 := by rw [hw2]; exact (Upd.refl _ _).alloc _
  have l2 : w2.heap[w1.heap.size]? = some (.cells #[.slice none 0 0] 67 (0, 0)) := by rw [hw2]; exact blk_alloc _
  have HU2 : Hid (Upd [] wA w2) := Lib.hid (HU1.out.trans hu2)
  have HO2 := Lib.hid (homesS (HA.out.below HU2.out))
  have HL2 := Lib.hid l2
  have HSZ1 := Lib.hid HU1.out.size
  have HW2 := Lib.hid hw2
  clear hw2 hu2 l2
  go_wp2_with fail
  have hw2 := HW2.out
  rw [← hw2]
  clear hw2
  refine HO2.out.mono ?_
  rintro e w3 ⟨rfl, n3, hn3⟩
  have hu3 : Upd [] w2 w3 := by rw [hn3]; exact (Upd.refl _ _).drewN _
  have hsz3 := hu3.size
  have bl3 := (hu3.block _ (blk_lt HL2.out) (by simp)).trans HL2.out
  have hblt := blk_lt bl3
  obtain ⟨bl, hbl⟩ : ∃ b, b = w1.heap.size := ⟨_, rfl⟩
  rw [← hbl] at bl3 hblt
  obtain ⟨w4, hw4⟩ : ∃ w4, w4 = w3.alloc (.cells #[.int .i64 0] 3) := ⟨_, rfl⟩
  have hu4 : Upd [] w3 w4 := by rw [hw4]; exact (Upd.refl _ _).alloc _
  have l4 : w4.heap[w3.heap.size]? = some (.cells #[.int .i64 0] 3 (0, 0)) := by rw [hw4]; exact blk_alloc _
  have b4 := (hu4.block _ (blk_lt bl3) (by simp)).trans bl3
  obtain ⟨w5, hw5⟩ : ∃ w5, w5 = w4.setCell ⟨w3.heap.size, 0, none⟩ (.int .i64 (g.h : Int)) := ⟨_, rfl⟩
  have st5 := store_c l4 0 (v := .int .i64 (g.h : Int)) (by simp) rfl
  rw [← hw5] at st5
  have hu5 : Upd [w3.heap.size] w4 w5 := by rw [hw5]; exact (Upd.refl _ _).set _ (.inl (by simp))
  have l5 : w5.heap[w3.heap.size]? = some (.cells #[.int .i64 (g.h : Int)] 3 (0, 0)) := by rw [hw5]; exact blk_set l4 0 _
  have b5 := (hu5.block _ (blk_lt b4) (by simp; omega)).trans b4
  have huA4 : Upd [] wA w4 := (HU2.out.trans hu3).trans hu4
  have hszA3 : wA.heap.size + 1 ≤ w3.heap.size := by
    have h1 := HSZ1.out
    have h2 := blk_lt HL2.out
    omega
  have f5 := (hu5.block _ (blk_lt ((huA4.block _ (blk_lt HFA.out) (by simp)).trans HFA.out)) (by have := blk_lt HFA.out; simp; omega)).trans ((huA4.block _ (blk_lt HFA.out) (by simp)).trans HFA.out)
  have m5 := (hu5.block _ (blk_lt ((huA4.block _ (blk_lt HMA.out) (by simp)).trans HMA.out)) (by have := blk_lt HMA.out; simp; omega)).trans ((huA4.block _ (blk_lt HMA.out) (by simp)).trans HMA.out)
  have h5 : SpAt w5 g M := (HA.out.below huA4).turnedI (fun b hb => by simp at hb; subst hb; exact ⟨_, _, l4⟩) hu5
  have hbA : wA.heap.size ≤ bl := by rw [hbl]; exact HSZ1.out
  have hsA := HSA.out
  have hJ0 := HJ0.out
  have hInv : ScanInv w.heap.size bl (w.heap.size + 1) (w3.heap.size + 1) from_ (k : Int) [] w5 := ⟨blk_lt l5, f5, m5, _, b5, own_nil _ _ _ _⟩
  have hk1 : ∀ a v v', ScanInv w.heap.size bl (w.heap.size + 1) (w3.heap.size + 1) from_ (k : Int) a v → Upd [g.j.jb] v v' → ScanInv w.heap.size bl (w.heap.size + 1) (w3.heap.size + 1) from_ (k : Int) a v' := by
    rintro a v v' ⟨i0, i1, i2, vv, i3, i4⟩ hu
    exact ⟨Nat.le_trans i0 hu.size, (hu.block _ (blk_lt i1) (by simp; omega)).trans i1, (hu.block _ (blk_lt i2) (by simp; omega)).trans i2, vv, (hu.block _ (blk_lt i3) (by simp; omega)).trans i3, own_upd i4 hu (fun k c hk hB => by simp at hk; omega)⟩
  have hk2 : ∀ a v v', ScanInv w.heap.size bl (w.heap.size + 1) (w3.heap.size + 1) from_ (k : Int) a v → Upd [w3.heap.size] v v' → ScanInv w.heap.size bl (w.heap.size + 1) (w3.heap.size + 1) from_ (k : Int) a v' := by
    rintro a v v' ⟨i0, i1, i2, vv, i3, i4⟩ hu
    exact ⟨Nat.le_trans i0 hu.size, (hu.block _ (blk_lt i1) (by simp; omega)).trans i1, (hu.block _ (blk_lt i2) (by simp; omega)).trans i2, vv, (hu.block _ (blk_lt i3) (by simp; omega)).trans i3, own_upd i4 hu (fun k c hk hB => by simp at hk; omega)⟩
  have hWk := walk_spec (t := scanTells from_ (k : Int)) (U := [bl]) (B := w3.heap.size + 1) (Inv := ScanInv w.heap.size bl (w.heap.size + 1) (w3.heap.size + 1) from_ (k : Int)) (lb := w3.heap.size) (from_ := from_) (g := g) (M := M) (scan_told hfrom) hk1 hk2 ent84 (by simp; omega) hfrom d h5 HS.out HL.out (deep := 16) (by omega) (by omega) HSL.out (by omega) l5 [] hInv (fun k hk => by simp at hk; subst hk; exact blk_lt b5) (by show 0 + l.length ≤ 1000; omega)
  unfold arr at hWk
  rw [hbl] at hWk
  have HWK := Lib.hid hWk
  have HU5 : Hid (Upd [] w w5) := by
    show Upd _ _ _
    exact (HUA.out.trans huA4).late hu5 (fun k hk => by simp at hk; subst hk; exact .inr (by omega))
  have HB3 : Hid (w.heap.size ≤ w3.heap.size) := by show _ ≤ _; omega
  have HBA : Hid (w.heap.size ≤ bl) := by show _ ≤ _; omega
  have HBL := Lib.hid hbl
  have lf5 := run_cells_blk (n := 32) ((huA4.block _ (blk_lt HFA.out) (by simp)).trans HFA.out) (by rw [bts_length, hfrom])
  have lf6 := run_cells_blk (n := 32) f5 (by rw [bts_length, hfrom])
  rw [hw4] at st5
  clear hn3 hu3 hsz3 bl3 hblt hbl hw4 hu4 l4 b4 hw5 hu5 l5 b5 huA4 hszA3 f5 m5 h5 hbA hsA hJ0 hInv hk1 hk2 hWk
  go_wp2_with fail
  refine HWK.out.mono ?_
  rintro e w6 ⟨la, lv, y, el, hla, rfl, hi, h6, _, _, _, hf⟩
  have hF : ((scanTells from_ (k : Int)).F [] lv).1 = scanL from_ k l := by
    rw [el]; exact scanF_split hla
  rw [hF] at hi
  obtain ⟨_, _, _, vv, j3, j4⟩ := hi
  obtain ⟨ap, cp, rfl⟩ := j4.shape
  have m6 := blk_cell j3 0
  have H6 := Lib.hid h6
  have HP6 : Hid (PairsB w6 w.heap.size (.slice ap (scanL from_ k l).length cp) (scanL from_ k l)) := Lib.hid (own_low j4 (by have := HB3.out; omega))
  have HU6 : Hid (Upd [g.j.jb] w w6) := by
    show Upd _ _ _
    obtain ⟨S', hu, hS'⟩ := hf
    refine (HU5.out.mono (T := [g.j.jb]) (by simp)).late hu (fun k hk => ?_)
    rcases hS' k hk with q | ⟨q, _⟩
    · simp only [List.mem_cons, List.not_mem_nil, or_false] at q
      rcases q with rfl | rfl | rfl
      · exact .inr HB3.out
      · exact .inl (by simp)
      · exact .inr (by have := HBA.out; have := HBL.out; omega)
    · exact .inr (by have := HB3.out; omega)
  clear j3 j4 hF h6 hf hla el
  go_wp2_with fail
  go_ret2
  exact ⟨_, rfl, HP6.out, H6.out, HU6.out⟩

end Go.Proofs.YtceakcejchbbjaaGreat
