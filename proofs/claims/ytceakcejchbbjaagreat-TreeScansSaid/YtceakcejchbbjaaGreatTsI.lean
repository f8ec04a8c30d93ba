/-
  tree.Scan: what is told of a leaf.
-/
import Derived.Test.YtceakcejchbbjaaGreatTsG
set_option linter.unusedSimpArgs false
set_option linter.unusedVariables false
namespace Go.Proofs.YtceakcejchbbjaaGreat
open Go.RowKit Go.MapKept Go.ChangeMaps

/-- One pair more, if there is room, and it does not lie ahead. -/
def scan1 (from_ : Bs) (most : Int) (acc : List Pair9) (p : Pair9) : List Pair9 := if ltB p.1 from_ = false ∧ (acc.length : Int) < most then acc ++ [p] else acc
def scanF (from_ : Bs) (most : Int) (acc : List Pair9) (l : List Pair9) : List Pair9 := l.foldl (scan1 from_ most) acc
theorem scan1_le (from_ : Bs) (most : Int) (acc : List Pair9) (p : Pair9) : (scan1 from_ most acc p).length ≤ acc.length + 1 := by unfold scan1; split <;> simp
theorem scanF_le (from_ : Bs) (most : Int) : ∀ (l acc : List Pair9), (scanF from_ most acc l).length ≤ acc.length + l.length
  | [], acc => by simp [scanF]
  | p :: l, acc => by
    have h1 := scan1_le from_ most acc p
    have h2 := scanF_le from_ most l (scan1 from_ most acc p)
    show (scanF from_ most (scan1 from_ most acc p) l).length ≤ _
    simp only [List.length_cons]; omega
theorem scanF_full (from_ : Bs) (most : Int) : ∀ (l acc : List Pair9), ¬ (acc.length : Int) < most → scanF from_ most acc l = acc
  | [], _, _ => rfl
  | p :: l, acc, h => by
    show scanF from_ most (scan1 from_ most acc p) l = acc
    have : scan1 from_ most acc p = acc := by unfold scan1; rw [if_neg (by intro q; exact h q.2)]
    rw [this]
    exact scanF_full from_ most l acc h
theorem scanF_app (from_ : Bs) (most : Int) (acc l1 l2 : List Pair9) : scanF from_ most acc (l1 ++ l2) = scanF from_ most (scanF from_ most acc l1) l2 := by unfold scanF; rw [List.foldl_append]
/-- Pairs are taken till there are enough. -/
def scanTells (from_ : Bs) (most : Int) : Tells (List Pair9) where
  F acc c := (scanF from_ most acc c, if c = [] then true else decide (((scanF from_ most acc c).length : Int) < most))
  go := fun a l1 l2 h => by
    by_cases h1 : l1 = []
    · subst h1; rfl
    · by_cases h2 : l2 = []
      · subst h2
        rw [List.append_nil]
        show _ = (scanF from_ most (scanF from_ most a l1) [], _)
        simp only [if_true]
        exact Prod.ext rfl h
      · have h3 : ¬ (l1 ++ l2 = []) := by simp [h1]
        simp only [h2, h3, if_false, scanF_app]
  stop := fun a l1 l2 h => by
    by_cases h1 : l1 = []
    · subst h1; simp at h
    · have h3 : ¬ (l1 ++ l2 = []) := by simp [h1]
      simp only [h1, if_false] at h
      have hf := scanF_full from_ most l2 _ (of_decide_eq_false h)
      simp only [h3, if_false, scanF_app, hf]
      rw [h]
  nil := fun a => by simp [scanF]
  wt := fun acc => acc.length
  grow := fun a l => scanF_le from_ most l a
/-- What is scanned is what of the pairs does not lie ahead, so many of them. -/
theorem scanF_eq (from_ : Bs) (most : Nat) : ∀ (l acc : List Pair9), acc.length ≤ most → scanF from_ (most : Int) acc l = acc ++ (l.filter fun p => !ltB p.1 from_).take (most - acc.length)
  | [], acc, _ => by simp [scanF]
  | p :: l, acc, h => by
    show scanF from_ (most : Int) (scan1 from_ (most : Int) acc p) l = _
    cases hp : ltB p.1 from_
    · by_cases hl : acc.length < most
      · have e : scan1 from_ (most : Int) acc p = acc ++ [p] := by unfold scan1; rw [if_pos ⟨hp, by omega⟩]
        rw [e, scanF_eq from_ most l _ (by simp; omega), List.filter_cons_of_pos (by rw [hp]; rfl)]
        obtain ⟨m, hm⟩ : ∃ m, most - acc.length = m + 1 := ⟨most - acc.length - 1, by omega⟩
        rw [hm, List.take_succ_cons, List.length_append, List.length_singleton, show most - (acc.length + 1) = m by omega]
        simp
      · have e : scan1 from_ (most : Int) acc p = acc := by unfold scan1; rw [if_neg (by intro q; omega)]
        rw [e, scanF_eq from_ most l acc h, show most - acc.length = 0 by omega]
        simp
    · have e : scan1 from_ (most : Int) acc p = acc := by unfold scan1; rw [if_neg (by intro q; rw [hp] at q; simp at q)]
      rw [e, scanF_eq from_ most l acc h, List.filter_cons_of_neg (by rw [hp]; simp)]
def pc (p : Pair9) : List Value := bts p.1 ++ bts p.2
/-- A row of pairs of one's own. -/
def PairsB (w : World) (B : Nat) (v : Value) (l : List Pair9) : Prop := w.ownsRow B TP 48 v l.length (l.map pc).flatten
theorem infoPr : (Tryz.prog.info? 72).map (fun i => (i.zero, i.size, i.bytes)) = some (some (.agg ((List.replicate 48 (Value.int .u8 0)).toArray)), 48, 48) := by kernel_rfl
def ScanInv (bf bl bm B : Nat) (from_ : Bs) (most : Int) (acc : List Pair9) (w : World) : Prop :=
  B ≤ w.heap.size ∧ w.heap[bf]? = some (.cells (bts from_).toArray 35 (0, 0)) ∧ w.heap[bm]? = some (.cells #[.int .i64 most] 3 (0, 0)) ∧ ∃ v, w.heap[bl]? = some (.cells #[v] 67 (0, 0)) ∧ PairsB w B v acc

theorem pc_length {p : Pair9} (h1 : p.1.length = 32) (h2 : p.2.length = 16) : (pc p).length = 48 := by unfold pc; rw [List.length_append, bts_length, bts_length, h1, h2]
theorem pc_one (p : Pair9) : ∀ u ∈ pc p, u.oneCell' = true := fun u hu => (List.mem_append.1 hu).elim (bts_one _ u) (bts_one _ u)
theorem build_pair {k v : Bs} (hk : k.length = 32) (hv : v.length = 16) (w : World) : (Instr.build 72 #[(0, .agg (bts k).toArray), (1, .agg (bts v).toArray)]).run Tryz.prog w = .ok (.agg (pc (k, v)).toArray) w := by
  match k, hk, v, hv with
  | [x0, x1, x2, x3, x4, x5, x6, x7, x8, x9, x10, x11, x12, x13, x14, x15, x16, x17, x18, x19, x20, x21, x22, x23, x24, x25, x26, x27, x28, x29, x30, x31], _, [y0, y1, y2, y3, y4, y5, y6, y7, y8, y9, y10, y11, y12, y13, y14, y15], _ => exact run_build w _ _ _ (by kernel_rfl)
theorem build_P {p : Pair9} (h1 : p.1.length = 32) (h2 : p.2.length = 16) (w : World) : (Instr.buildSlice 67 1 #[(0, .agg (pc p).toArray)]).run Tryz.prog w = .ok (.slice (some ⟨w.heap.size, 0, none⟩) 1 1) (w.alloc (.cells (pc p).toArray 72)) :=
  run_build1 (e := 72) (sz := 48) Tryz.underlying67 (by kernel_rfl) (by decide) (by decide) (pc p) (pc_length h1 h2) w
theorem PairsB.shape {w : World} {B : Nat} {v : Value} {l : List Pair9} (h : PairsB w B v l) : ∃ a c, v = .slice a l.length c := by
  rcases h.2 with ⟨e, h0⟩ | ⟨g, cap, cur, e, _⟩
  · exact ⟨none, 0, by rw [e, h0]⟩
  · exact ⟨_, _, e⟩
def TyS (T : TypeId) : Prop := T = TP ∨ T = 67
theorem SpAt.turnedS {w w' : World} {g : Sg} {M : Nat → Option Sec} (h : SpAt w g M) {S : List Nat} (hb : ∀ b, b ∈ S → ∃ c T fr, w.heap[b]? = some (.cells c T fr) ∧ TyS T) (hu : Upd S w w') : SpAt w' g M := by
  refine ⟨h.jr.own hu (fun k hk => ?_), h.tx.upd hu (fun hk => ?_) (fun hk => ?_) (fun k c hk e => ?_), h.ne, h.ok, h.len⟩
  · obtain ⟨c, T, fr, hb, t⟩ := hb k hk
    rcases t with rfl | rfl
    all_goals exact ⟨_, _, _, hb, by decide, by decide, by decide, by decide⟩
  · obtain ⟨c, T, fr, hb, t⟩ := hb _ hk
    have := h.tx.st; rw [hb] at this
    rcases t with rfl | rfl
    all_goals simp [TP] at this
  · obtain ⟨c, T, fr, hb, t⟩ := hb _ hk
    exact h.tx.map hb
  · obtain ⟨c2, T, fr, hb, t⟩ := hb _ hk
    rcases t with rfl | rfl
    all_goals rw [hb] at e; simp [TP] at e
attribute [-go_sem] loadCells storeCells Instr.build Instr.buildSlice
set_option maxRecDepth 100000 in
set_option maxHeartbeats 8000000 in
theorem scan_told {g : Sg} {M : Nat → Option Sec} {bf bl bm B : Nat} {from_ : Bs} (hfrom : from_.length = 32) {most : Int} : Told (scanTells from_ most) g M 84 #[.pointer (some ⟨bf, 0, none⟩), .pointer (some ⟨bl, 0, none⟩), .pointer (some ⟨bm, 0, none⟩)] [bl] B (ScanInv bf bl bm B from_ most) := by
  intro acc w l vk vv Bk hI h hne hwt hok hK hV hU
  have hpr := hok.pairs
  obtain ⟨ak, ck, rfl⟩ := own_shape hK
  obtain ⟨av, cv, rfl⟩ := own_shape hV
  have hlk : (l.map (·.1)).length = l.length := List.length_map _
  have hlv : (l.map (·.2)).length = l.length := List.length_map _
  rw [hlk, hlv]
  unfold KOwn at hK
  unfold VOwn at hV
  rw [hlk] at hK
  rw [hlv] at hV
  clear hlk hlv
  have hBk : bl < Bk := hU bl (by simp)
  obtain ⟨w1, hw1⟩ : ∃ w1, w1 = w.alloc (.cells #[.int .i64 1, .slice ak l.length ck, .slice av l.length cv, .slice none 0 0] 145) := ⟨_, rfl⟩
  have hu1 : Upd [] w w1 := by rw [hw1]; exact (Upd.refl _ _).alloc _
  obtain ⟨b4, hb4⟩ : ∃ b, b = w.heap.size := ⟨_, rfl⟩
  have c4 : w1.heap[b4]? = some (.cells #[.int .i64 1, .slice ak l.length ck, .slice av l.length cv, .slice none 0 0] 145 (0, 0)) := by rw [hw1, hb4]; exact blk_alloc _
  have m4 := blk_cell c4 1
  have hI1 : ScanInv bf bl bm B from_ most acc w1 := by
    obtain ⟨i0, i1, i2, v, i3, i4⟩ := hI
    exact ⟨Nat.le_trans i0 hu1.size, (hu1.block _ (blk_lt i1) (by simp)).trans i1, (hu1.block _ (blk_lt i2) (by simp)).trans i2, v, (hu1.block _ (blk_lt i3) (by simp)).trans i3, own_upd (S := []) i4 hu1 (by simp)⟩
  have HI1 := Lib.hid hI1
  have HS1 := Lib.hid (h.below hu1)
  have HC4 := Lib.hid c4
  have HK1 := Lib.hid (own_upd (S := []) hK hu1 (by simp))
  have HV1 := Lib.hid (own_upd (S := []) hV hu1 (by simp))
  have HF1 : Hid (WFr [bl] B TP w w1) := Lib.hid (WFr.of hu1 (by simp))
  have HOK := Lib.hid hok
  have HPR := Lib.hid hpr
  have HNE := Lib.hid hne
  have HWT : Hid (acc.length + l.length ≤ 1000) := Lib.hid hwt
  have HW1 := Lib.hid hw1
  have HB4 := Lib.hid hb4
  rw [hw1, hb4] at m4
  clear hI h hne hwt hok hK hV hU hw1 hu1 hb4 c4 hI1 hpr
  go_enter Tryz.func84, Tryz.ntmps84
  go_wp2_with fail
  have hw1 := HW1.out
  have hb4 := HB4.out
  rw [← hw1, ← hb4]
  clear hw1 hb4 m4
  go_loopw [11] (fun i wr => ∃ (q : Nat), q ≤ l.length ∧ i = .int .i64 (q : Int) ∧ ScanInv bf bl bm B from_ most (scanF from_ most acc (l.take q)) wr ∧ SpAt wr g M ∧ wr.heap[b4]? = some (.cells #[.int .i64 1, .slice ak l.length ck, .slice av l.length cv, .slice none 0 0] 145 (0, 0)) ∧
      wr.ownsRow Bk 35 32 (.slice ak l.length ck) l.length ((l.map (·.1)).map bts).flatten ∧ wr.ownsRow Bk 45 16 (.slice av l.length cv) l.length ((l.map (·.2)).map bts).flatten ∧ WFr [bl] B TP w wr) (fun i _ => l.length - (intOf i).toNat)
  case atStart => exact ⟨0, by omega, rfl, HI1.out, HS1.out, HC4.out, HK1.out, HV1.out, HF1.out⟩
  case round =>
    obtain ⟨q, hq, rfl, hI, hsp, c4, hK, hV, hf⟩ := hrel
    have hlen10 : l.length ≤ 10 := by have := HOK.out.most; rw [List.length_map] at this; exact this
    rcases Nat.lt_or_ge q l.length with hlt | hge
    · have hqb : decide ((q : Int) < (l.length : Int)) = true := decide_eq_true (by omega)
      have hqi : (q : Int) < (l.length : Int) := by omega
      obtain ⟨p, hp⟩ : ∃ p, l[q]? = some p := ⟨_, List.getElem?_eq_getElem hlt⟩
      obtain ⟨hp1, hp2⟩ := HPR.out p (List.mem_of_getElem? hp)
      have hKr : KOwn wr Bk (.slice ak l.length ck) (l.map (·.1)) := by unfold KOwn; rw [List.length_map]; exact hK
      have hVr : VOwn wr Bk (.slice av l.length cv) (l.map (·.2)) := by unfold VOwn; rw [List.length_map]; exact hV
      obtain ⟨bk, ok, rfl, hrk⟩ := (KOwn.rd hKr HOK.out.k).at (i := q) (e := bts p.1) (by rw [List.getElem?_map, List.getElem?_map, hp]; rfl)
      obtain ⟨bv, ov, rfl, hrv⟩ := (VOwn.rd hVr HOK.out.v).at (i := q) (e := bts p.2) (by rw [List.getElem?_map, List.getElem?_map, hp]; rfl)
      have lk := run_cells32 hrk hp1
      have s7 := store32_run wr hp1
      obtain ⟨w2, hw2⟩ : ∃ w2, w2 = wr.alloc (.cells (bts p.1).toArray 35) := ⟨_, rfl⟩
      rw [← hw2] at s7
      have hu2 : Upd [] wr w2 := by rw [hw2]; exact (Upd.refl _ _).alloc _
      have c7 : w2.heap[wr.heap.size]? = some (.cells (bts p.1).toArray 35 (0, 0)) := by rw [hw2]; exact blk_alloc _
      obtain ⟨i0, i1, i2, v, i3, i4⟩ := hI
      obtain ⟨ap, cp, rfl⟩ := i4.shape
      have l7 := run_cells_blk (n := 32) c7 (by rw [bts_length, hp1])
      have lf := run_cells_blk (n := 32) ((hu2.block _ (blk_lt i1) (by simp)).trans i1) (by rw [bts_length, hfrom])
      have HLS : Hid (Calls Tryz.prog 85 #[.agg (bts p.1).toArray, .agg (bts from_).toArray] w2 fun e w' => e = .returned (.bool (ltB p.1 from_)) ∧ Upd [] w2 w') := Lib.hid (less_spec p.1 from_ hp1 hfrom w2)
      have HP := Lib.hid hp
      have HI : Hid (B ≤ wr.heap.size ∧ wr.heap[bf]? = some (.cells (bts from_).toArray 35 (0, 0)) ∧ wr.heap[bm]? = some (.cells #[.int .i64 most] 3 (0, 0)) ∧ wr.heap[bl]? = some (.cells #[.slice ap (scanF from_ most acc (l.take q)).length cp] 67 (0, 0)) ∧ PairsB wr B (.slice ap (scanF from_ most acc (l.take q)).length cp) (scanF from_ most acc (l.take q))) := Lib.hid ⟨i0, i1, i2, i3, i4⟩
      have HSr := Lib.hid hsp
      have HC4r := Lib.hid c4
      have HKr := Lib.hid hK
      have HVr := Lib.hid hV
      have HFr := Lib.hid hf
      have HU2 := Lib.hid hu2
      have HC7 := Lib.hid c7
      have HRV := Lib.hid hrv
      clear i0 i1 i2 i3 i4 hsp c4 hK hV hf hu2 c7 hrv hrk hKr hVr hw2
      go_wp2_with fail
      refine HLS.out.mono ?_
      rintro e w3 ⟨rfl, hu3⟩
      obtain ⟨i0, i1, i2, i3, i4⟩ := HI.out
      have hu23 : Upd [] wr w3 := HU2.out.trans hu3
      have j0 : B ≤ w3.heap.size := Nat.le_trans i0 hu23.size
      have j1 := (hu23.block _ (blk_lt i1) (by simp)).trans i1
      have j2 := (hu23.block _ (blk_lt i2) (by simp)).trans i2
      have j3 := (hu23.block _ (blk_lt i3) (by simp)).trans i3
      have j4 : PairsB w3 B _ _ := own_upd (S := []) i4 hu23 (by simp)
      have j5 := HSr.out.below hu23
      have j6 := (hu23.block _ (blk_lt HC4r.out) (by simp)).trans HC4r.out
      have j7 := own_upd (S := []) HKr.out hu23 (by simp)
      have j8 := own_upd (S := []) HVr.out hu23 (by simp)
      have j9 : WFr [bl] B TP w w3 := HFr.out.trans (WFr.of hu23 (by simp))
      have j10 := (hu3.block _ (blk_lt HC7.out) (by simp)).trans HC7.out
      have hle : (scanF from_ most acc (l.take q)).length ≤ 1000 := by
        have h1 := scanF_le from_ most (l.take q) acc
        have h2 := HWT.out
        rw [List.length_take] at h1
        omega
      have hst : scanF from_ most acc (l.take (q + 1)) = scan1 from_ most (scanF from_ most acc (l.take q)) p := by
        rw [List.take_add_one, HP.out, scanF_app]; rfl
      have HST := Lib.hid hst
      clear hst hu3
      generalize scanF from_ most acc (l.take q) = A at *
      have ml := blk_cell j3 0
      have mm := blk_cell j2 0
      have HNX : Hid (scan1 from_ most A p = A → ScanInv bf bl bm B from_ most (scanF from_ most acc (l.take (q + 1))) w3 ∧ SpAt w3 g M ∧ w3.heap[b4]? = some (.cells #[.int .i64 1, .slice (some ⟨bk, ok, none⟩) l.length ck, .slice (some ⟨bv, ov, none⟩) l.length cv, .slice none 0 0] 145 (0, 0)) ∧
      w3.ownsRow Bk 35 32 (.slice (some ⟨bk, ok, none⟩) l.length ck) l.length ((l.map (·.1)).map bts).flatten ∧ w3.ownsRow Bk 45 16 (.slice (some ⟨bv, ov, none⟩) l.length cv) l.length ((l.map (·.2)).map bts).flatten ∧ WFr [bl] B TP w w3) := by
        show _ → _
        intro e
        exact ⟨by rw [HST.out, e]; exact ⟨j0, j1, j2, _, j3, j4⟩, j5, j6, j7, j8, j9⟩
      cases hlt2 : ltB p.1 from_
      · by_cases hm : (A.length : Int) < most
        · have hmb : decide ((A.length : Int) < most) = true := decide_eq_true hm
          have hsc : scan1 from_ most A p = A ++ [p] := by unfold scan1; rw [if_pos ⟨hlt2, hm⟩]
          obtain ⟨a', b', c', w5, S5, hrun0, hown5, hu5, hS5⟩ := row_push (T := 67) (e := 72) Tryz.underlying67 infoPr rfl (by decide) (by decide) (w := w3.drew) (own_upd (S := []) j4 (Upd.refl [] _).drew (by simp)) hle j0 (pc p) (pc_length hp1 hp2) (pc_one p)
          have hrun : ∀ ty, (Builtin.append_ #[67, 67] ty #[.slice ap A.length cp, .slice (some ⟨w3.heap.size, 0, none⟩) 1 1]).run Tryz.prog (w3.alloc (.cells (pc p).toArray 72)).drew = .ok (.slice a' b' c') w5 := hrun0
          have hkeep : ∀ {k : Nat} {c : Array Value} {T2 : TypeId} {fr : Nat × Nat}, w3.heap[k]? = some (.cells c T2 fr) → T2 ≠ TP → w5.heap[k]? = some (.cells c T2 fr) := by
            intro k c T2 fr hk hT
            refine (hu5.block k (blk_lt hk) (fun x => ?_)).trans hk
            obtain ⟨_, c2, e⟩ := hS5 k x
            have e' : w3.heap[k]? = some (.cells c2 TP (0, 0)) := e
            rw [hk] at e'; simp at e'; exact hT e'.2.1
          have k1 := hkeep j1 (by decide)
          have k2 := hkeep j2 (by decide)
          have k3 := hkeep j3 (by decide)
          have k6 := hkeep j6 (by decide)
          have k10 := hkeep j10 (by decide)
          have k7 := own_upd (S := S5) (w := w3.drew) (own_upd (S := []) j7 (Upd.refl [] _).drew (by simp)) hu5 (fun k c hk _ e => by obtain ⟨_, c2, e2⟩ := hS5 k hk; rw [e] at e2; simp at e2)
          have k8 := own_upd (S := S5) (w := w3.drew) (own_upd (S := []) j8 (Upd.refl [] _).drew (by simp)) hu5 (fun k c hk _ e => by obtain ⟨_, c2, e2⟩ := hS5 k hk; rw [e] at e2; simp at e2)
          have rvs : ∀ {w' : World}, w'.ownsRow Bk 45 16 (.slice (some ⟨bv, ov, none⟩) l.length cv) l.length ((l.map (·.2)).map bts).flatten → w'.rangeAt bv (ov + q * 16) (bts p.2) := by
            intro w' ho
            obtain ⟨b, off, e, hr⟩ := (VOwn.rd (show VOwn w' Bk (.slice (some ⟨bv, ov, none⟩) l.length cv) (l.map (·.2)) by unfold VOwn; rw [List.length_map]; exact ho) HOK.out.v).at (i := q) (e := bts p.2) (by rw [List.getElem?_map, List.getElem?_map, HP.out]; rfl)
            cases e
            exact hr
          have hua : Upd [] w3 (w3.alloc (.cells (pc p).toArray 72)).drew := ((Upd.refl [] w3).alloc _).drew
          have HSA : Hid ((w3.alloc (.cells (pc p).toArray 72)).drew.heap[bl]? = some (.cells #[.slice ap A.length cp] 67 (0, 0)) ∧ (w3.alloc (.cells (pc p).toArray 72)).drew.heap[wr.heap.size]? = some (.cells (bts p.1).toArray 35 (0, 0)) ∧ (w3.alloc (.cells (pc p).toArray 72)).drew.heap[b4]? = some (.cells #[.int .i64 1, .slice (some ⟨bk, ok, none⟩) l.length ck, .slice (some ⟨bv, ov, none⟩) l.length cv, .slice none 0 0] 145 (0, 0)) ∧ (w3.alloc (.cells (pc p).toArray 72)).drew.rangeAt bv (ov + q * 16) (bts p.2)) :=
            Lib.hid ⟨(hua.block _ (blk_lt j3) (by simp)).trans j3, (hua.block _ (blk_lt j10) (by simp)).trans j10, (hua.block _ (blk_lt j6) (by simp)).trans j6, rvs (own_upd (S := []) j8 hua (by simp))⟩
          have HSB : Hid (w5.heap[bl]? = some (.cells #[.slice ap A.length cp] 67 (0, 0)) ∧ w5.heap[wr.heap.size]? = some (.cells (bts p.1).toArray 35 (0, 0)) ∧ w5.heap[b4]? = some (.cells #[.int .i64 1, .slice (some ⟨bk, ok, none⟩) l.length ck, .slice (some ⟨bv, ov, none⟩) l.length cv, .slice none 0 0] 145 (0, 0)) ∧ w5.rangeAt bv (ov + q * 16) (bts p.2)) := Lib.hid ⟨k3, k10, k6, rvs k8⟩
          have HS0 : Hid (w3.drew.heap[bl]? = some (.cells #[.slice ap A.length cp] 67 (0, 0)) ∧ w3.drew.heap[wr.heap.size]? = some (.cells (bts p.1).toArray 35 (0, 0)) ∧ w3.drew.heap[b4]? = some (.cells #[.int .i64 1, .slice (some ⟨bk, ok, none⟩) l.length ck, .slice (some ⟨bv, ov, none⟩) l.length cv, .slice none 0 0] 145 (0, 0)) ∧ w3.drew.rangeAt bv (ov + q * 16) (bts p.2)) := Lib.hid ⟨j3, j10, j6, rvs (own_upd (S := []) j8 (Upd.refl [] _).drew (by simp))⟩
          obtain ⟨w6, hw6⟩ : ∃ w6, w6 = w5.setCell ⟨bl, 0, none⟩ (.slice a' b' c') := ⟨_, rfl⟩
          have st6 := store_c k3 0 (v := .slice a' b' c') (by simp) rfl
          rw [← hw6] at st6
          have hu6 : Upd [bl] w5 w6 := by rw [hw6]; exact (Upd.refl _ _).set _ (.inl (by simp))
          have c6 : w6.heap[bl]? = some (.cells #[.slice a' b' c'] 67 (0, 0)) := by rw [hw6]; exact blk_set k3 0 _
          have hnb : ∀ {k : Nat} {c : Array Value} {T2 : TypeId} {fr : Nat × Nat}, w5.heap[k]? = some (.cells c T2 fr) → T2 ≠ 67 → w6.heap[k]? = some (.cells c T2 fr) := by
            intro k c T2 fr hk hT
            refine (hu6.block k (blk_lt hk) (fun x => ?_)).trans hk
            simp at x; subst x
            rw [k3] at hk; simp at hk; exact hT hk.2.1.symm
          have HRES : Hid (ScanInv bf bl bm B from_ most (scanF from_ most acc (l.take (q + 1))) w6 ∧ SpAt w6 g M ∧ w6.heap[b4]? = some (.cells #[.int .i64 1, .slice (some ⟨bk, ok, none⟩) l.length ck, .slice (some ⟨bv, ov, none⟩) l.length cv, .slice none 0 0] 145 (0, 0)) ∧
      w6.ownsRow Bk 35 32 (.slice (some ⟨bk, ok, none⟩) l.length ck) l.length ((l.map (·.1)).map bts).flatten ∧ w6.ownsRow Bk 45 16 (.slice (some ⟨bv, ov, none⟩) l.length cv) l.length ((l.map (·.2)).map bts).flatten ∧ WFr [bl] B TP w w6) := by
            show _ ∧ _
            refine ⟨?_, ?_, hnb k6 (by decide), own_cell k7 k3 hu6 (by decide), own_cell k8 k3 hu6 (by decide), ?_⟩
            · rw [HST.out, hsc]
              refine ⟨Nat.le_trans j0 (Nat.le_trans hu5.size hu6.size), hnb k1 (by decide), hnb k2 (by decide), _, c6, ?_⟩
              unfold PairsB
              rw [List.length_append, List.map_append, List.flatten_append]
              have := own_cell hown5 k3 hu6 (by decide)
              simpa using this
            · refine SpAt.turnedS (S := [bl]) (SpAt.turnedS (S := S5) (w := w3.drew) (j5.below (Upd.refl [] _).drew) (fun b hb => ?_) hu5) (fun b hb => ?_) hu6
              · obtain ⟨_, c2, e2⟩ := hS5 b hb; exact ⟨c2, _, _, e2, .inl rfl⟩
              · simp at hb; subst hb; exact ⟨_, _, _, k3, .inr rfl⟩
            · exact ((j9.trans (WFr.of (Upd.refl [] w3).drew (by simp))).trans ⟨S5, hu5, fun k hk => .inr (hS5 k hk)⟩).trans (WFr.of hu6 (by simp))
          have bP := build_P hp1 hp2
          have bp := build_pair hp1 hp2
          rw [show ((p.1, p.2) : Pair9) = p from rfl] at bp
          clear j0 j1 j2 j3 j4 j5 j6 j7 j8 j9 j10 i0 i1 i2 i3 i4 HNX k1 k2 k3 k6 k7 k8 k10 hrun0 hown5 hu5 hS5 hkeep rvs hua hw6 hu6 c6 hnb hu23
          go_wp2_with fail
          refine wp_region_x (fun w' => w'.heap[bl]? = some (.cells #[.slice ap A.length cp] 67 (0, 0)) ∧ w'.heap[wr.heap.size]? = some (.cells (bts p.1).toArray 35 (0, 0)) ∧ w'.heap[b4]? = some (.cells #[.int .i64 1, .slice (some ⟨bk, ok, none⟩) l.length ck, .slice (some ⟨bv, ov, none⟩) l.length cv, .slice none 0 0] 145 (0, 0)) ∧ w'.rangeAt bv (ov + q * 16) (bts p.2)) [10] (by kernel_rfl) HS0.out (fun hHeld => ?_)
          refine wpAnyX_take (i := 0) (v := ?_) rfl (by kernel_rfl) (fun _ _ _ h => h) hHeld (Or.inl ⟨by rfl, ?_⟩) ?_
          rotate_left
          · (intro w hSw; have q1 := blk_cell hSw.1 0; go_simp <;> with_reducible rfl)
          try simp only [Act.put, List.getElem_toArray, List.getElem_cons_zero, List.getElem_cons_succ, List.setIfInBounds_toArray, List.set_cons_zero, List.set_cons_succ]
          refine wpAnyX_take (i := 1) (v := ?_) rfl (by kernel_rfl) (fun _ _ _ h => h) hHeld (Or.inl ⟨by rfl, ?_⟩) ?_
          rotate_left
          · (intro w hSw; have q1 := run_cells_blk (n := 32) hSw.2.1 (by rw [bts_length, hp1]); go_simp <;> with_reducible rfl)
          try simp only [Act.put, List.getElem_toArray, List.getElem_cons_zero, List.getElem_cons_succ, List.setIfInBounds_toArray, List.set_cons_zero, List.set_cons_succ]
          refine wpAnyX_take (i := 2) (v := ?_) rfl (by kernel_rfl) (fun _ _ _ h => h) hHeld (Or.inl ⟨by rfl, ?_⟩) ?_
          rotate_left
          · (intro w hSw; go_simp <;> with_reducible rfl)
          try simp only [Act.put, List.getElem_toArray, List.getElem_cons_zero, List.getElem_cons_succ, List.setIfInBounds_toArray, List.set_cons_zero, List.set_cons_succ]
          refine wpAnyX_take (i := 3) (v := ?_) rfl (by kernel_rfl) (fun _ _ _ h => h) hHeld (Or.inl ⟨by rfl, ?_⟩) ?_
          rotate_left
          · (intro w hSw; have q1 := blk_cell hSw.2.2.1 2; go_simp <;> with_reducible rfl)
          try simp only [Act.put, List.getElem_toArray, List.getElem_cons_zero, List.getElem_cons_succ, List.setIfInBounds_toArray, List.set_cons_zero, List.set_cons_succ]
          refine wpAnyX_take (i := 4) (v := ?_) rfl (by kernel_rfl) (fun _ _ _ h => h) hHeld (Or.inl ⟨by rfl, ?_⟩) ?_
          rotate_left
          · (intro w hSw; go_simp <;> with_reducible rfl)
          try simp only [Act.put, List.getElem_toArray, List.getElem_cons_zero, List.getElem_cons_succ, List.setIfInBounds_toArray, List.set_cons_zero, List.set_cons_succ]
          refine wpAnyX_take (i := 5) (v := ?_) rfl (by kernel_rfl) (fun _ _ _ h => h) hHeld (Or.inl ⟨by rfl, ?_⟩) ?_
          rotate_left
          · (intro w hSw; go_simp <;> with_reducible rfl)
          try simp only [Act.put, List.getElem_toArray, List.getElem_cons_zero, List.getElem_cons_succ, List.setIfInBounds_toArray, List.set_cons_zero, List.set_cons_succ]
          refine wpAnyX_take (i := 6) (v := ?_) rfl (by kernel_rfl) (fun _ _ _ h => h) hHeld (Or.inl ⟨by rfl, ?_⟩) ?_
          rotate_left
          · (intro w hSw; have q1 := run_cells16 hSw.2.2.2 hp2; go_simp <;> with_reducible rfl)
          try simp only [Act.put, List.getElem_toArray, List.getElem_cons_zero, List.getElem_cons_succ, List.setIfInBounds_toArray, List.set_cons_zero, List.set_cons_succ]
          refine wpAnyX_take (i := 7) (v := ?_) rfl (by kernel_rfl) (fun _ _ _ h => h) hHeld (Or.inl ⟨by rfl, ?_⟩) ?_
          rotate_left
          · (intro w hSw; go_simp <;> with_reducible rfl)
          try simp only [Act.put, List.getElem_toArray, List.getElem_cons_zero, List.getElem_cons_succ, List.setIfInBounds_toArray, List.set_cons_zero, List.set_cons_succ]
          refine wpAnyX_ready (rs := [8]) (by kernel_rfl) (by simp) (AllReadyX.one rfl (fun K hK => ?_))
          go_simp
          refine hK.out _ _ (fun _ => HSA.out) ?_
          clear hK K
          try simp only [Act.put, List.getElem_toArray, List.getElem_cons_zero, List.getElem_cons_succ, List.setIfInBounds_toArray, List.set_cons_zero, List.set_cons_succ]
          refine wpAnyX_ready (rs := [9]) (by kernel_rfl) (by simp) (AllReadyX.one rfl (fun K hK => ?_))
          refine step_append_run (by rfl) _ _ _ (by rfl) (by rfl) (by rfl) hrun ?_
          refine hK.out _ _ (fun _ => HSB.out) ?_
          clear hK K
          try simp only [Act.put, List.getElem_toArray, List.getElem_cons_zero, List.getElem_cons_succ, List.setIfInBounds_toArray, List.set_cons_zero, List.set_cons_succ]
          refine wpAnyX_ready (rs := [10]) (by kernel_rfl) (by simp) (AllReadyX.one rfl (fun K hK => ?_))
          go_simp
          refine hK.out _ _ (noneUp_no (by kernel_rfl)) ?_
          clear hK K
          try simp only [Act.put, List.getElem_toArray, List.getElem_cons_zero, List.getElem_cons_succ, List.setIfInBounds_toArray, List.set_cons_zero, List.set_cons_succ]
          refine wpAnyX_done (by kernel_rfl) ?_ _
          go_wp2_with fail
          exact ⟨⟨q + 1, by omega, by go_num, HRES.out⟩, by simp [intOf]; omega⟩
        · have hmb : decide ((A.length : Int) < most) = false := decide_eq_false hm
          have hsc : scan1 from_ most A p = A := by unfold scan1; rw [if_neg (by intro x; exact hm x.2)]
          clear j0 j1 j2 j3 j4 j5 j6 j7 j8 j9 j10 i0 i1 i2 i3 i4
          go_wp2_with fail
          exact ⟨⟨q + 1, by omega, by go_num, HNX.out hsc⟩, by simp [intOf]; omega⟩
      · have hsc : scan1 from_ most A p = A := by unfold scan1; rw [if_neg (by intro x; rw [hlt2] at x; simp at x)]
        clear j0 j1 j2 j3 j4 j5 j6 j7 j8 j9 j10 i0 i1 i2 i3 i4
        go_wp2_with fail
        exact ⟨⟨q + 1, by omega, by go_num, HNX.out hsc⟩, by simp [intOf]; omega⟩
    · obtain rfl : q = l.length := by omega
      have hqb : decide ((l.length : Int) < (l.length : Int)) = false := decide_eq_false (by omega)
      rw [List.take_length] at hI
      have hI' := hI
      obtain ⟨i0, i1, i2, v, i3, i4⟩ := hI'
      obtain ⟨ap, cp, rfl⟩ := i4.shape
      have ml := blk_cell i3 0
      have mm := blk_cell i2 0
      have HIr := Lib.hid hI
      have HSr := Lib.hid hsp
      have HFr := Lib.hid hf
      clear i0 i1 i2 i3 i4 hI hsp c4 hK hV hf
      go_wp2_with fail
      go_ret
      refine ⟨?_, HIr.out, HSr.out, HFr.out⟩
      show _ = Ending.returned (.bool (if l = [] then true else decide (((scanF from_ most acc l).length : Int) < most)))
      rw [if_neg HNE.out]
      rfl

end Go.Proofs.YtceakcejchbbjaaGreat
