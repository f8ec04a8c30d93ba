/-
  Rows of arrays; where a key stands in a node.
-/
import Derived.Test.YtceakcejchbbjaaGreatTrA
import Derived.ChangeKeysEq
import Derived.Deep.RegionHeld3
namespace Go.Proofs.YtceakcejchbbjaaGreat
open Go.RowKit Go.MapKept Go.ChangeMaps

theorem cellsOf_u8 : Tryz.prog.cellsOf 5 = 1 := by kernel_rfl
theorem run_eqBytes (d : Nat) (a b : List UInt8) (w : World) : ∀ is : List Nat, (∀ i, i ∈ is → i < a.length ∧ i < b.length) →
    ∃ r : Bool, (Op.eqItems (d + 1) 5 1 (bts a).toArray (bts b).toArray is).run Tryz.prog w = .ok r w ∧ (r = true ↔ ∀ i, i ∈ is → a[i]? = b[i]?)
  | [], _ => ⟨true, by simp [Op.eqItems], by simp⟩
  | i :: is, h => by
    obtain ⟨hi, hj⟩ := h i (by simp)
    obtain ⟨r, hr, hiff⟩ := run_eqBytes d a b w is (fun k hk => h k (by simp [hk]))
    have e1 : (bts a).toArray[i]? = some (bv a[i]) := by simp [bts, hi]
    have e2 : (bts b).toArray[i]? = some (bv b[i]) := by simp [bts, hj]
    have p1 := run_part_plain (P := Tryz.prog) (w := w) (e := 5) (by kernel_rfl) e1
    have p2 := run_part_plain (P := Tryz.prog) (w := w) (e := 5) (by kernel_rfl) e2
    have p3 := run_equalIn_int (P := Tryz.prog) w d 5 .u8 .u8 (a[i].toNat : Int) (b[i].toNat : Int) Tryz.underlying5
    unfold Op.eqItems
    simp only [Nat.mul_one, Sem.run_bind, p1, p2, Result.andThen_ok]
    unfold bv
    simp only [p3, Result.andThen_ok]
    by_cases hab : a[i] = b[i]
    · refine ⟨r, by simp [hab, hr], ?_⟩
      rw [hiff]
      simp only [List.mem_cons, forall_eq_or_imp, List.getElem?_eq_getElem hi, List.getElem?_eq_getElem hj, hab, true_and]
    · have : ((a[i].toNat : Int) == (b[i].toNat : Int)) = false := by
        rw [beq_eq_false_iff_ne]
        intro q
        exact hab (UInt8.toNat_inj.1 (by omega))
      refine ⟨false, by simp [this], ?_⟩
      simp only [Bool.false_eq_true, false_iff, List.mem_cons, forall_eq_or_imp, List.getElem?_eq_getElem hi, List.getElem?_eq_getElem hj, Option.some.injEq]
      exact fun q => hab q.1
set_option maxRecDepth 100000 in
/-- Two arrays of bytes are compared. -/
theorem run_eqArr {a b : List UInt8} (ha : a.length = 32) (hb : b.length = 32) (w : World) : (Op.equalIn 10000 35 (.agg (bts a).toArray) (.agg (bts b).toArray)).run Tryz.prog w = .ok (decide (a = b)) w := by
  obtain ⟨r, hr, hiff⟩ := run_eqBytes 9998 a b w (List.range 32) (fun i hi => by have := List.mem_range.1 hi; omega)
  have hu := Tryz.underlying35
  obtain ⟨i0, hi0⟩ : ∃ i0, Tryz.prog.info? 5 = some i0 := Option.isSome_iff_exists.1 (by kernel_rfl)
  have h1 := run_equalIn_array (P := Tryz.prog) w 9999 (t := 35) (bts a).toArray (bts b).toArray hu hi0
  rw [cellsOf_u8] at h1
  rw [h1, hr]
  congr 1
  cases hr' : r
  · symm; rw [decide_eq_false_iff_not]
    rintro rfl
    rw [hr'] at hiff
    simp at hiff
  · symm; rw [decide_eq_true_eq]
    apply List.ext_getElem?
    intro i
    by_cases hi : i < 32
    · exact hiff.1 hr' i (List.mem_range.2 hi)
    · rw [List.getElem?_eq_none (by omega), List.getElem?_eq_none (by omega)]

theorem cell_upd {w w' : World} {S : List Nat} {a : Addr} {v : Value} (h : w.cell? a = some v) (hu : Upd S w w') (hS : a.block ∉ S) : w'.cell? a = some v := by
  rw [World.cell?_of_block (w := w) (hu.block _ (block_lt_of_cell h) hS)]; exact h
theorem range_upd {w w' : World} {S : List Nat} {b o : Nat} {cs : List Value} (h : w.rangeAt b o cs) (hu : Upd S w w') (hS : b ∉ S) : w'.rangeAt b o cs := fun j v hv => cell_upd (h j v hv) hu hS
/-- A slice of elements of sz cells each reads as es. -/
def RRd (w : World) (v : Value) (sz : Nat) (es : List (List Value)) : Prop :=
  ∃ ao cap, v = .slice ao es.length cap ∧ es.length ≤ cap ∧ (0 < es.length → ∃ b off, ao = some ⟨b, off, none⟩ ∧ ∀ i e, es[i]? = some e → w.rangeAt b (off + i * sz) e)
theorem RRd.keep {w w' : World} {v : Value} {sz : Nat} {es : List (List Value)} (h : RRd w v sz es) {S : List Nat} (hu : Upd S w w') (hS : ∀ a l c, v = .slice (some a) l c → a.block ∉ S) : RRd w' v sz es := by
  obtain ⟨ao, cap, rfl, hc, hh⟩ := h
  refine ⟨ao, cap, rfl, hc, fun hp => ?_⟩
  obtain ⟨b, off, rfl, hr⟩ := hh hp
  exact ⟨b, off, rfl, fun i e he => range_upd (hr i e he) hu (hS _ _ _ rfl)⟩
theorem RRd.shape {w : World} {v : Value} {sz : Nat} {es : List (List Value)} (h : RRd w v sz es) : ∃ a c, v = .slice a es.length c := by
  obtain ⟨ao, cap, rfl, _⟩ := h; exact ⟨_, _, rfl⟩

/-- How many keys stand ahead. -/
def posK : List (List UInt8) → List UInt8 → Nat
  | [], _ => 0
  | k :: ks, key => if ltB k key then posK ks key + 1 else 0
theorem posK_le : ∀ (ks : List (List UInt8)) (key : List UInt8), posK ks key ≤ ks.length
  | [], _ => Nat.le_refl _
  | k :: ks, key => by
    have := posK_le ks key
    unfold posK
    split
    · simp; omega
    · simp
theorem posK_lt {key : List UInt8} : ∀ {ks : List (List UInt8)} {q : Nat} {k : List UInt8}, q < posK ks key → ks[q]? = some k → ltB k key = true
  | [], q, k, h, _ => by simp [posK] at h
  | x :: ks, q, k, h, e => by
    unfold posK at h
    split at h
    · next hx =>
      cases q with
      | zero => simp at e; rw [← e]; exact hx
      | succ q => exact posK_lt (ks := ks) (q := q) (by omega) (by simpa using e)
    · omega
theorem posK_at {key : List UInt8} : ∀ {ks : List (List UInt8)} {k : List UInt8}, ks[posK ks key]? = some k → ltB k key = false
  | [], k, e => by simp at e
  | x :: ks, k, e => by
    unfold posK at e
    cases hx : ltB x key
    · rw [hx] at e; simp at e; rw [← e]; exact hx
    · rw [hx] at e; simp at e; exact posK_at e
theorem posK_uniq {key : List UInt8} : ∀ {ks : List (List UInt8)} {q : Nat}, q ≤ ks.length → (∀ p k, p < q → ks[p]? = some k → ltB k key = true) → (∀ k, ks[q]? = some k → ltB k key = false) → posK ks key = q
  | [], q, hq, _, _ => by simp at hq; rw [hq]; rfl
  | x :: ks, q, hq, h1, h2 => by
    unfold posK
    cases q with
    | zero => rw [h2 x (by simp)]; rfl
    | succ q =>
      rw [h1 0 x (by omega) (by simp), posK_uniq (ks := ks) (q := q) (by simpa using hq) (fun p k hp e => h1 (p + 1) k (by omega) (by simpa using e)) (fun k e => h2 k (by simpa using e))]
      rfl
def hasK (ks : List (List UInt8)) (key : List UInt8) : Bool := decide (ks[posK ks key]? = some key)

def ld3 : Op := .load 35 (.tmp 3)
theorem ld3_eq : Op.load 35 (.tmp 3) = ld3 := rfl
attribute [local go_sem] ld3
attribute [-go_sem] loadCells
theorem run_cells32 {w : World} {b o : Nat} {l : List UInt8} (h : w.rangeAt b o (bts l)) (hl : l.length = 32) : (loadCells ⟨b, o, none⟩ 32).run Tryz.prog w = .ok (bts l).toArray w := by
  have := run_loadCells_list (P := Tryz.prog) w ⟨b, o, none⟩ (bts l) (fun j v hv => by rw [Addr.add_mid]; exact h j v hv)
  rw [bts_length, hl] at this
  exact this
theorem run_cells_blk {w : World} {b n : Nat} {cs : List Value} {T : TypeId} {fr : Nat × Nat} (h : w.heap[b]? = some (.cells cs.toArray T fr)) (hn : cs.length = n) : (loadCells ⟨b, 0, none⟩ n).run Tryz.prog w = .ok cs.toArray w := by
  have := run_loadCells_list (P := Tryz.prog) w ⟨b, 0, none⟩ cs (fun j v hv => by rw [Addr.add_mid, blk_cell h, List.getElem?_toArray, Nat.zero_add]; exact hv)
  rw [hn] at this
  exact this
theorem infoID : (Tryz.prog.info? 35).map (·.size) = some 32 := by kernel_rfl
set_option maxRecDepth 100000 in
set_option maxHeartbeats 1000000 in
theorem find_spec {w : World} {vk vv vd : Value} (kd : Int) {ks : List (List UInt8)} (hk : RRd w vk 32 (ks.map bts)) (hl : ∀ k, k ∈ ks → k.length = 32) (hn : ks.length ≤ 100) (key : List UInt8) (hkey : key.length = 32) :
    Calls Tryz.prog 75 #[.agg #[.int .i64 kd, vk, vv, vd], arr key] w fun e w' => e = .returned (.tuple #[.int .i64 (posK ks key : Int), .bool (hasK ks key)]) ∧ Upd [] w w' := by
  obtain ⟨ak, ck, rfl⟩ := hk.shape
  rw [List.length_map] at hk ⊢
  obtain ⟨wA, hwA⟩ : ∃ wA, wA = (w.alloc (.cells #[.int .i64 kd, .slice ak ks.length ck, vv, vd] 145)).alloc (.cells (bts key).toArray 35) := ⟨_, rfl⟩
  have hu : Upd [] w wA := by rw [hwA]; exact ((Upd.refl _ _).alloc _).alloc _
  obtain ⟨b2, hb2⟩ : ∃ b, b = w.heap.size := ⟨_, rfl⟩
  obtain ⟨b3, hb3⟩ : ∃ b, b = w.heap.size + 1 := ⟨_, rfl⟩
  have h1 : wA.heap[b2]? = some (.cells #[.int .i64 kd, .slice ak ks.length ck, vv, vd] 145 (0, 0)) := by
    rw [hwA, hb2, blk_alloc_ne (by simp)]; exact blk_alloc _
  have h2 : wA.heap[b3]? = some (.cells (bts key).toArray 35 (0, 0)) := by
    rw [hwA, hb3]; have := blk_alloc (w := w.alloc (.cells #[.int .i64 kd, .slice ak ks.length ck, vv, vd] 145)) (.cells (bts key).toArray 35); simpa using this
  have HK := Lib.hid (hk.keep hu (fun _ _ _ _ => by simp))
  have HU := Lib.hid hu
  have HW := Lib.hid hwA
  have H1 := Lib.hid h1
  have H2 := Lib.hid h2
  have HL := Lib.hid hl
  have HB2 := Lib.hid hb2
  have HB3 := Lib.hid hb3
  have hu35 := Tryz.underlying35
  have hi35 : ∀ k : List UInt8, k.length = 32 → (Tryz.prog.info? 35).map (·.size) = some (bts k).length := fun k hk => by
    rw [bts_length, hk]; exact infoID
  have hikey := hi35 key hkey
  have HI := Lib.hid hi35
  clear hk hl hu h1 h2 hwA hb2 hb3 hi35
  unfold arr
  go_enter Tryz.func75, Tryz.ntmps75
  go_wp2
  have hwA := HW.out
  have hb2 := HB2.out
  have hb3 := HB3.out
  rw [← hwA, ← hb3, ← hb2]
  clear hwA hb2 hb3
  go_loopw [6] (fun i wr => ∃ q : Nat, q ≤ ks.length ∧ i = .int .i64 (q : Int) ∧ (∀ p k, p < q → ks[p]? = some k → ltB k key = true) ∧ Upd [] wA wr) (fun i _ => ks.length - (intOf i).toNat)
  case atStart => exact ⟨0, Nat.zero_le _, rfl, fun p k hp => by omega, Upd.refl _ _⟩
  case round =>
    obtain ⟨q, hq, rfl, hall, hu⟩ := hrel
    have HAll := Lib.hid hall
    have HUr := Lib.hid hu
    have c1 : wr.cell? ⟨b2, 1, none⟩ = some (.slice ak ks.length ck) := by rw [blk_cell ((hu.block _ (blk_lt H1.out) (by simp)).trans H1.out)]; rfl
    have rkey : wr.rangeAt b3 0 (bts key) := fun j v hv => by rw [blk_cell ((hu.block _ (blk_lt H2.out) (by simp)).trans H2.out), ← hv]; simp
    have HKr := Lib.hid (HK.out.keep hu (fun _ _ _ _ => by simp))
    clear hall hu
    by_cases hlt : q < ks.length
    · have hlt' : decide ((q : Int) < (ks.length : Int)) = true := decide_eq_true (by omega)
      have hlt2 : decide (q < ks.length) = true := decide_eq_true hlt
      obtain ⟨ao, cap, hv, _, hh⟩ := HKr.out
      rw [List.length_map] at hv hh
      cases hv
      obtain ⟨bk, off, rfl, hr⟩ := hh (by omega)
      have hkq : ks[q]? = some ks[q] := List.getElem?_eq_getElem hlt
      have rk := hr q (bts ks[q]) (by rw [List.getElem?_map, hkq]; rfl)
      have hlk := HL.out _ (List.getElem_mem hlt)
      clear hh hr
      generalize ks[q] = kq at *
      have hik := HI.out kq hlk
      have HKQ := Lib.hid hkq
      have hls : ∀ w, Calls Tryz.prog 85 #[.agg (bts kq).toArray, .agg (bts key).toArray] w fun e w' => e = .returned (.bool (ltB kq key)) ∧ Upd [] w w' := fun w => less_spec kq key hlk hkey w
      have HLS := Lib.hid hls
      have i0 : (0 : Int) ≤ (q : Int) := by omega
      have i1 : (q : Int) < (ks.length : Int) := by omega
      have hld := run_cells32 (range_upd rkey (Upd.refl [] _).drew (by simp)) hkey
      clear hls hkq
      rw [ld3_eq]
      cases hlb : ltB kq key
      · rw [hlb] at HLS
        have HLB := Lib.hid hlb
        clear hlb
        go_wp2_with fail
        go_region_held3 (fun w' => w'.cell? ⟨b2, 1, none⟩ = some (.slice (some ⟨bk, off, none⟩) ks.length ck) ∧ w'.rangeAt bk (off + q * 32) (bts kq) ∧ w'.rangeAt b3 0 (bts key)) (refine ⟨?_, ?_, ?_⟩ <;> first | assumption | (exact cell_upd (by assumption) ((Upd.refl [] _).drew) (by simp)) | (exact range_upd (by assumption) ((Upd.refl [] _).drew) (by simp)))
          (first | (go_at_call 85; (with_reducible refine (HLS.out _).mono ?_); rintro e w5 ⟨rfl, hu5⟩; have c15 := cell_upd (cell_upd c1 (Upd.refl [] _).drew (by simp)) hu5 (by simp); have rk5 := range_upd (range_upd rk (Upd.refl [] _).drew (by simp)) hu5 (by simp); have rkey5 := range_upd (range_upd rkey (Upd.refl [] _).drew (by simp)) hu5 (by simp); have hld5 := run_cells32 rkey5 hkey; have HU5 := Lib.hid hu5; clear hu5))
        all_goals
          have hp : posK ks key = q := posK_uniq (by omega) HAll.out (fun k e => by rw [HKQ.out] at e; cases e; exact HLB.out)
          have hh : hasK ks key = decide (kq = key) := by
            unfold hasK
            rw [hp, HKQ.out]
            exact decide_eq_decide.2 ⟨fun q => Option.some.inj q, fun q => by rw [q]⟩
          have HP := Lib.hid hp
          have HHH := Lib.hid hh
          have hldk : ∀ n, (loadCells ⟨bk, off + q * 32, none⟩ 32).run Tryz.prog (w5.drewN n) = .ok (bts kq).toArray (w5.drewN n) := fun n => run_cells32 rk5 hlk
          have hldy : ∀ n, (loadCells ⟨b3, 0, none⟩ 32).run Tryz.prog (w5.drewN n) = .ok (bts key).toArray (w5.drewN n) := fun n => run_cells32 rkey5 hkey
          have heq := fun w => run_eqArr hlk hkey w
          clear hp hh
          go_wp2_with fail
          go_quiet (fail)
          all_goals
            go_wp2_with fail
            go_ret2
            exact ⟨by rw [HP.out, HHH.out]; rfl, ((HU.out.trans HUr.out).drew.trans HU5.out).drewN _⟩
      · rw [hlb] at HLS
        have HLB := Lib.hid hlb
        clear hlb
        go_wp2_with fail
        go_region_held3 (fun w' => w'.cell? ⟨b2, 1, none⟩ = some (.slice (some ⟨bk, off, none⟩) ks.length ck) ∧ w'.rangeAt bk (off + q * 32) (bts kq) ∧ w'.rangeAt b3 0 (bts key)) (refine ⟨?_, ?_, ?_⟩ <;> first | assumption | (exact cell_upd (by assumption) ((Upd.refl [] _).drew) (by simp)) | (exact range_upd (by assumption) ((Upd.refl [] _).drew) (by simp)))
          (first | (go_at_call 85; (with_reducible refine (HLS.out _).mono ?_); rintro e w5 ⟨rfl, hu5⟩; have c15 := cell_upd (cell_upd c1 (Upd.refl [] _).drew (by simp)) hu5 (by simp); have rk5 := range_upd (range_upd rk (Upd.refl [] _).drew (by simp)) hu5 (by simp); have rkey5 := range_upd (range_upd rkey (Upd.refl [] _).drew (by simp)) hu5 (by simp); have hld5 := run_cells32 rkey5 hkey; have HU5 := Lib.hid hu5; clear hu5))
        all_goals
          go_wp2_with fail
          exact ⟨⟨q + 1, by omega, by go_num, fun p k hp e => (by
            by_cases e2 : p = q
            · subst e2; rw [HKQ.out] at e; cases e; exact HLB.out
            · exact HAll.out p k (by omega) e), (HUr.out.trans (Upd.refl [] _).drew).trans HU5.out⟩, by simp [intOf]; omega⟩
    · obtain rfl : q = ks.length := by omega
      have hlt' : decide ((ks.length : Int) < (ks.length : Int)) = false := by simp
      have hp : posK ks key = ks.length := posK_uniq (by omega) HAll.out (fun k e => by rw [List.getElem?_eq_none (by omega)] at e; cases e)
      have hh : hasK ks key = false := by
        unfold hasK
        rw [hp, List.getElem?_eq_none (by omega)]; rfl
      have HP := Lib.hid hp
      have HHH := Lib.hid hh
      clear hp hh
      go_wp2_with fail
      go_quiet (fail)
      all_goals
        go_wp2_with fail
        go_quiet (fail)
        all_goals
          go_wp2_with fail
          go_ret2
          exact ⟨by rw [HP.out, HHH.out]; rfl, ((HU.out.trans HUr.out).drewN _).drewN _⟩

/-- The number of the child below which a key is. -/
def chK (ks : List (List UInt8)) (key : List UInt8) : Nat := if hasK ks key then posK ks key + 1 else posK ks key
set_option maxRecDepth 100000 in
theorem child_spec {w : World} {vk vv vd : Value} (kd : Int) {ks : List (List UInt8)} (hk : RRd w vk 32 (ks.map bts)) (hl : ∀ k, k ∈ ks → k.length = 32) (hn : ks.length ≤ 100) (key : List UInt8) (hkey : key.length = 32) :
    Calls Tryz.prog 76 #[.agg #[.int .i64 kd, vk, vv, vd], arr key] w fun e w' => e = .returned (.int .i64 (chK ks key : Int)) ∧ Upd [] w w' := by
  obtain ⟨wA, hwA⟩ : ∃ wA, wA = (w.alloc (.cells #[.int .i64 kd, vk, vv, vd] 145)).alloc (.cells (bts key).toArray 35) := ⟨_, rfl⟩
  have hu : Upd [] w wA := by rw [hwA]; exact ((Upd.refl _ _).alloc _).alloc _
  have h1 : wA.heap[w.heap.size]? = some (.cells #[.int .i64 kd, vk, vv, vd] 145 (0, 0)) := by
    rw [hwA, blk_alloc_ne (by simp)]; exact blk_alloc _
  have h2 : wA.heap[w.heap.size + 1]? = some (.cells (bts key).toArray 35 (0, 0)) := by
    rw [hwA]; have := blk_alloc (w := w.alloc (.cells #[.int .i64 kd, vk, vv, vd] 145)) (.cells (bts key).toArray 35); simpa using this
  have l1 := run_cells_blk (n := 4) (cs := [.int .i64 kd, vk, vv, vd]) h1 rfl
  have l2 := run_cells_blk (n := 32) h2 (by rw [bts_length, hkey])
  have HF := Lib.hid (find_spec (vv := vv) (vd := vd) kd (hk.keep hu (fun _ _ _ _ => by simp)) hl hn key hkey)
  have HU := Lib.hid hu
  have HW := Lib.hid hwA
  have hp := posK_le ks key
  unfold chK
  rw [hwA] at l1 l2
  clear hk hu h1 h2 hwA
  unfold arr at *
  generalize posK ks key = P at *
  cases hh : hasK ks key
  all_goals
    rw [hh] at HF
    clear hh
    go_enter Tryz.func76, Tryz.ntmps76
    go_wp2_with fail
    have hwA := HW.out
    rw [← hwA]
    clear hwA
    refine HF.out.mono ?_
    rintro e w1 ⟨rfl, hu⟩
    go_wp2_with fail
    go_ret
    exact ⟨by go_num, HU.out.trans hu⟩

end Go.Proofs.YtceakcejchbbjaaGreat
