/-
  A node is read.
-/
import Derived.Test.YtceakcejchbbjaaGreatTrE
import Derived.Laws.ResultCell
namespace Go.Proofs.YtceakcejchbbjaaGreat
open Go.RowKit Go.MapKept Go.ChangeMaps

attribute [-go_sem] loadCells Instr.buildSlice
theorem run_toArr32 (a : Option Addr) (c : Nat) (w : World) : (Instr.arrayAt 35 (.slice a 32 c)).run Tryz.prog w = .ok (.pointer a) w := by
  simp [Instr.arrayAt, run_underlying Tryz.underlying35]
theorem run_toArr16 (a : Option Addr) (c : Nat) (w : World) : (Instr.arrayAt 45 (.slice a 16 c)).run Tryz.prog w = .ok (.pointer a) w := by
  simp [Instr.arrayAt, run_underlying Tryz.underlying45]
attribute [local go_sem] run_toArr32 run_toArr16
theorem run_cells16 {w : World} {b o : Nat} {l : List UInt8} (h : w.rangeAt b o (bts l)) (hl : l.length = 16) : (loadCells ⟨b, o, none⟩ 16).run Tryz.prog w = .ok (bts l).toArray w := by
  have := run_loadCells_list (P := Tryz.prog) w ⟨b, o, none⟩ (bts l) (fun j v hv => by rw [Addr.add_mid]; exact h j v hv)
  rw [bts_length, hl] at this
  exact this
theorem own_low {w : World} {B B' n sz : Nat} {e : TypeId} {v : Value} {xs : List Value} (h : w.ownsRow B e sz v n xs) (hB : B' ≤ B) : w.ownsRow B' e sz v n xs := by
  refine ⟨h.1, ?_⟩
  rcases h.2 with h | ⟨g, cap, cur, hv, hb, r⟩
  · exact .inl h
  · exact .inr ⟨g, cap, cur, hv, Nat.le_trans hB hb, r⟩
theorem own_nil (w : World) (B : Nat) (e : TypeId) (sz : Nat) : w.ownsRow B e sz (.slice none 0 0) 0 [] := ⟨by simp, .inl ⟨rfl, rfl⟩⟩
/-- A stretch of bytes, as cells. -/
theorem Rd.range {w : World} {k c I n : Nat} {l x : List UInt8} {N : Nat} (h : Rd w (.slice (some ⟨k, 0, none⟩) N c) l) (hl : l.length = N) (hI : I + n ≤ N) (hx : (l.drop I).take n = x) : w.rangeAt k I (bts x) := by
  intro j v hv
  obtain ⟨ao, cap, e, _, hh⟩ := h
  have hj : j < x.length := by have := (List.getElem?_eq_some_iff.1 hv).1; rwa [bts_length] at this
  have hxl : x.length = n := by rw [← hx, List.length_take, List.length_drop]; omega
  obtain ⟨b, off, hab, hc⟩ := hh (by omega)
  have hk := congrArg (fun v => match v with | Value.slice a _ _ => a | _ => none) e
  simp only at hk
  rw [hab] at hk
  obtain ⟨rfl, rfl⟩ : k = b ∧ 0 = off := by simpa using hk
  have h1 : l[I + j]? = x[j]? := by rw [← hx, List.getElem?_take_of_lt (by omega), List.getElem?_drop]
  rw [List.getElem?_eq_getElem hj, List.getElem?_eq_getElem (by omega)] at h1
  have h2 := hc (I + j) (by omega)
  rw [Nat.zero_add] at h2
  rw [h2]
  have h3 : (bts x)[j]? = some (bv x[j]) := by simp [bts, hj]
  rw [h3] at hv
  rw [← hv]
  congr 2
  exact Option.some.inj h1

/-- A result that lies in memory, and another one. -/
theorem results_row_tmp {fn : Func} {p u : Tmp} {ty : TypeId} (h : fn.results = #[.cell p ty, .tmp u]) (tmps : Array Value) (w : World) (g : Nat) (cs : Array Value)
    (hp : tmps.getD p undef = .pointer (some ⟨g, 0, none⟩)) (hl : (loadVar ty ⟨g, 0, none⟩).run Tryz.prog w = .ok (.agg cs) w) :
    (results fn tmps).run Tryz.prog w = .ok (.tuple #[.agg cs, tmps.getD u undef]) w := by
  have hp' : tmps[p]?.getD undef = .pointer (some ⟨g, 0, none⟩) := by simpa using hp
  simp [results, h, hp', asAddr, hl]

set_option maxRecDepth 100000 in
set_option maxHeartbeats 4000000 in
theorem read_leaf {w : World} {g : Sg} {M : Nat → Option Sec} (h : SpAt w g M) (at_ : Nat) (hat : at_ < g.h) (hat2 : at_ < 4294967296) {ks vs : List Bs} (hok : LeafOk ks vs) (hcur : g.cur M at_ = encLeaf ks vs) :
    Calls Tryz.prog 74 #[.pointer (some ⟨g.x.tb, 0, none⟩), .int .u32 (at_ : Int)] w fun e w' => ∃ vk vv, e = .returned (.tuple #[.agg #[.int .i64 1, vk, vv, .slice none 0 0], .int .i64 0]) ∧ KOwn w' w.heap.size vk ks ∧ VOwn w' w.heap.size vv vs ∧ SpAt w' g M ∧ Upd [g.j.jb] w w' := by
  obtain ⟨wA, hwA⟩ : ∃ wA, wA = w.alloc (.cells #[.int .i64 0, .slice none 0 0, .slice none 0 0, .slice none 0 0] 145) := ⟨_, rfl⟩
  obtain ⟨b4, hb4⟩ : ∃ b, b = w.heap.size := ⟨_, rfl⟩
  have huA : Upd [] w wA := by rw [hwA]; exact (Upd.refl _ _).alloc _
  have h4 : wA.heap[b4]? = some (.cells #[.int .i64 0, .slice none 0 0, .slice none 0 0, .slice none 0 0] 145 (0, 0)) := by rw [hwA, hb4]; exact blk_alloc _
  have HRD := Lib.hid (readS (h.below huA) at_ hat)
  rw [hcur] at HRD
  have HH := Lib.hid h
  have HWA := Lib.hid hwA
  have HB4 := Lib.hid hb4
  have HUA := Lib.hid huA
  have H4 := Lib.hid h4
  have HOK := Lib.hid hok
  have hel : (encLeaf ks vs).length = 512 := leafK_length hok (Nat.le_refl _)
  have he0 : (encLeaf ks vs)[0]? = some 1 := by unfold encLeaf; rw [leafK_low hok (by omega) (Nat.le_refl _), hdN_0]; rfl
  have he1 : (encLeaf ks vs)[1]? = some (UInt8.ofNat ks.length) := by unfold encLeaf; rw [leafK_low hok (by omega) (Nat.le_refl _), hdN_1]
  have HE := Lib.hid hel
  have HE0 := Lib.hid he0
  have HE1 := Lib.hid he1
  have hn := hok.most
  clear h hok hcur huA h4 hwA hb4 hel he0 he1
  go_enter Tryz.func74, Tryz.ntmps74
  go_wp2_with fail
  have hwA := HWA.out
  have hb4 := HB4.out
  rw [← hwA, ← hb4]
  clear hwA hb4
  refine HRD.out.mono ?_
  rintro e w1 ⟨v, rfl, ho, h1, hu1⟩
  obtain ⟨kb, c, rfl, hc, hkb, hcells⟩ := ho.sec HE.out
  have z0 := hcells 0 (by omega)
  have z1 := hcells 1 (by omega)
  have e0 : (encLeaf ks vs)[0]'(by rw [HE.out]; omega) = 1 := by have := HE0.out; rw [List.getElem?_eq_getElem (by rw [HE.out]; omega)] at this; exact Option.some.inj this
  have e1 : (encLeaf ks vs)[1]'(by rw [HE.out]; omega) = UInt8.ofNat ks.length := by have := HE1.out; rw [List.getElem?_eq_getElem (by rw [HE.out]; omega)] at this; exact Option.some.inj this
  rw [e0] at z0
  rw [e1] at z1
  have ez0 : bv 1 = .int .u8 1 := rfl
  have ez1 : bv (UInt8.ofNat ks.length) = .int .u8 (ks.length : Int) := by unfold bv; rw [UInt8.toNat_ofNat', Nat.mod_eq_of_lt (by omega)]
  rw [ez0] at z0
  rw [ez1] at z1
  have HRB := Lib.hid ho.rd
  have H1 := Lib.hid h1
  have HU1 := Lib.hid hu1
  clear ho hcells e0 e1 h1 hu1 ez0 ez1
  go_upto_region 4 with (fail)
  go_cut [8, 9] (fun s8 s9 wy => s8 = .pointer (some ⟨w1.heap.size, 0, none⟩) ∧ s9 = .int .i64 (ks.length : Int) ∧ wy.heap[w1.heap.size]? = some (.cells #[.int .i64 1, .slice none 0 0, .slice none 0 0, .slice none 0 0] 145 (0, 0)) ∧ Upd [] w1 wy)
  case first =>
    go_region_held3 (fun w' => w'.cell? ⟨kb, 0, none⟩ = some (.int .u8 1) ∧ w'.cell? ⟨kb, 1, none⟩ = some (.int .u8 (ks.length : Int))) (refine ⟨?_, ?_⟩ <;> first | assumption | (exact cell_upd (by assumption) ((Upd.refl [] _).drew) (by simp)) | (exact cell_upd (by assumption) (((Upd.refl [] _).alloc _).drew) (by simp)) | (exact cell_upd (by assumption) (((Upd.refl [] _).alloc _)) (by simp)) | (exact cell_upd z0 (((Upd.refl [w1.heap.size] _).alloc _).drew.set _ (.inl (by simp))) (by simp; omega)))
      (first | fail)
    all_goals
      go_wp2_with fail
      go_meet
      have hw : IntKind.i64.wrap (ks.length : Int) = (ks.length : Int) := by rw [IntKind.wrap_i64]; omega
      refine ⟨rfl, by rw [hw], ?_, ((Upd.refl _ _).alloc _).drew⟩
      rw [show IntKind.i64.wrap 1 = 1 from rfl]
      exact blk_alloc _
  case rest =>
    rename World => wy
    obtain ⟨rfl, rfl, hy, huy⟩ := hcut
    obtain ⟨b8, hb8⟩ : ∃ b, b = w1.heap.size := ⟨_, rfl⟩
    rw [← hb8] at hy ⊢
    have y0 : wy.cell? ⟨b8, 0, none⟩ = some (.int .i64 1) := by rw [blk_cell hy]; rfl
    have dn : decide ((ks.length : Int) ≤ 10) = true := decide_eq_true (by omega)
    have dn2 : decide (ks.length ≤ 10) = true := decide_eq_true hn
    have HB8 := Lib.hid hb8
    have HY := Lib.hid hy
    have HUY := Lib.hid huy
    clear hb8 hy huy z0 z1
    go_wp2_with fail
    go_loopw [43] (fun i wr => ∃ (q : Nat) (vk vv : Value), q ≤ ks.length ∧ i = .int .i64 (q : Int) ∧ wr.heap[b8]? = some (.cells #[.int .i64 1, vk, vv, .slice none 0 0] 145 (0, 0)) ∧ KOwn wr w1.heap.size vk (ks.take q) ∧ VOwn wr w1.heap.size vv (vs.take q) ∧ Upd [] w1 wr) (fun i _ => ks.length - (intOf i).toNat)
    case atStart => exact ⟨0, _, _, Nat.zero_le _, rfl, HY.out, own_nil _ _ _ _, own_nil _ _ _ _, HUY.out⟩
    case round =>
      obtain ⟨q, vk, vv, hq, rfl, hb, hK, hV, hu⟩ := hrel
      by_cases hlt : q < ks.length
      · have hlt' : decide ((q : Int) < (ks.length : Int)) = true := decide_eq_true (by omega)
        have hlt2 : decide (q < ks.length) = true := decide_eq_true hlt
        have hnv := HOK.out.n
        have hlk : (ks.take q).length = q := by rw [List.length_take]; omega
        have hlv : (vs.take q).length = q := by rw [List.length_take]; omega
        obtain ⟨ak, ck, rfl⟩ := own_shape hK
        obtain ⟨av, cv, rfl⟩ := own_shape hV
        unfold KOwn at hK
        unfold VOwn at hV
        rw [hlk] at hK hb
        rw [hlv] at hV hb
        have hkq : ks[q]? = some ks[q] := List.getElem?_eq_getElem hlt
        have hvq : vs[q]? = some vs[q] := List.getElem?_eq_getElem (by omega)
        have hgk : ks.getD q [] = ks[q] := by rw [List.getD_eq_getElem?_getD, hkq]; rfl
        have hgv : vs.getD q [] = vs[q] := by rw [List.getD_eq_getElem?_getD, hvq]; rfl
        have h32 := HOK.out.k _ (List.getElem_mem hlt)
        have h16 := HOK.out.v _ (List.getElem_mem (show q < vs.length by omega))
        have htk : ((ks.take (q + 1)).map bts).flatten = ((ks.take q).map bts).flatten ++ bts ks[q] := by
          rw [List.take_add_one, hkq, List.map_append, List.flatten_append]; simp
        have htv : ((vs.take (q + 1)).map bts).flatten = ((vs.take q).map bts).flatten ++ bts vs[q] := by
          rw [List.take_add_one, hvq, List.map_append, List.flatten_append]; simp
        have hat2 := leafK_at HOK.out (j := q) (k := ks.length) (Nat.le_refl _) hlt
        rw [hgk, hgv] at hat2
        generalize ks[q] = kq at *
        generalize vs[q] = vq at *
        obtain ⟨I, hI⟩ : ∃ I, I = 8 + 48 * q := ⟨_, rfl⟩
        obtain ⟨I2, hI2⟩ : ∃ J, J = I + 32 := ⟨_, rfl⟩
        obtain ⟨I3, hI3⟩ : ∃ J, J = I + 48 := ⟨_, rfl⟩
        rw [← hI, ← hI2] at hat2
        have r1 := Rd.range (HRB.out.below hu) HE.out (I := I) (n := 32) (by omega) hat2.1
        have r2 := Rd.range (HRB.out.below hu) HE.out (I := I2) (n := 16) (by omega) hat2.2
        have hi1 : 8 + 48 * (q : Int) = (I : Int) := by omega
        have hi2 : (I : Int) + 32 = (I2 : Int) := by omega
        have hi3 : (I : Int) + 48 = (I3 : Int) := by omega
        have hs1 : I2 - I = 32 := by omega
        have hs2 : I3 - I2 = 16 := by omega
        have j0 : (0 : Int) ≤ (I : Int) := by omega
        have j1 : (I : Int) ≤ (I2 : Int) := by omega
        have j2 : (I2 : Int) ≤ (c : Int) := by omega
        have j3 : (0 : Int) ≤ (I2 : Int) := by omega
        have j4 : (I2 : Int) ≤ (I3 : Int) := by omega
        have j5 : (I3 : Int) ≤ (c : Int) := by omega
        have j6 : I2 ≤ c := by omega
        have j7 : I3 ≤ c := by omega
        obtain ⟨n0, n1, n2, -⟩ := op_cells9 hb
        have hbld := run_build1 (T := 141) (e := 35) (sz := 32) Tryz.underlying141 (by kernel_rfl) (by omega) (by omega) (bts kq) (by rw [bts_length, h32]) wr.drew
        obtain ⟨a10, q10, c10, w10, S10, hrun10, ho10, hu10, hS10⟩ := row_push (T := 141) (e := 35) Tryz.underlying141 infoKey rfl (by omega) (by omega) (w := wr.drew) hK (by omega) hu.size (bts kq) (by rw [bts_length, h32]) (bts_one _)
        have hld := run_cells32 (range_upd r1 (Upd.refl [] _).drew (by simp)) h32
        have hrb : wr.drew.heap[b8]? = _ := hb
        have hb10 : w10.heap[b8]? = some (.cells #[.int .i64 1, .slice ak q ck, .slice av q cv, .slice none 0 0] 145 (0, 0)) := (hu10.block _ (blk_lt hrb) (fun k => by obtain ⟨_, c, e⟩ := hS10 _ k; rw [hrb] at e; simp at e)).trans hb
        obtain ⟨m0, m1, m2, -⟩ := op_cells9 hb10
        have mf := blk_free hb10 1
        have n1a := cell_upd (w' := wr.alloc (.cells (bts kq).toArray 35)) n1 ((Upd.refl [] _).alloc _) (by simp)
        have hV10 : w10.ownsRow w1.heap.size 45 16 (.slice av q cv) q ((vs.take q).map bts).flatten := own_upd (w := wr.drew) hV hu10 (fun k c' hk _ e => by obtain ⟨_, c2, e2⟩ := hS10 _ hk; rw [e2] at e; simp at e)
        have hu110 : Upd [] w1 w10 := (hu.drew).late hu10 (fun k hk => .inr (hS10 _ hk).1)
        have HB10 := Lib.hid hb10
        have HO10 := Lib.hid ho10
        have HU10 := Lib.hid hu110
        have HV10 := Lib.hid hV10
        have HRBw : Hid (w1.rangeAt kb I2 (bts vq)) := Lib.hid (Rd.range HRB.out HE.out (I := I2) (n := 16) (by omega) hat2.2)
        have HTK := Lib.hid htk
        have HTV := Lib.hid htv
        have HI := Lib.hid hI
        have HI2 := Lib.hid hI2
        have HI3 := Lib.hid hI3
        have i0 : (0 : Int) ≤ (q : Int) := by omega
        have hw2 : IntKind.i64.wrap (I2 : Int) = (I2 : Int) := by rw [IntKind.wrap_i64]; omega
        have hw3 : IntKind.i64.wrap (I3 : Int) = (I3 : Int) := by rw [IntKind.wrap_i64]; omega
        have hci : ¬ c = I := by omega
        have hci2 : ¬ c = I2 := by omega
        clear hrb hb10 ho10 hu10 hS10 hK hV r1 r2 hb hu htk htv hI hI2 hI3 hat2 hkq hvq hgk hgv hV10 hu110
        go_upto_region 10 with (fail)
        go_cut [] (fun wz => ∃ a b c, wz.heap[b8]? = some (.cells #[.int .i64 1, .slice a b c, .slice av q cv, .slice none 0 0] 145 (0, 0)) ∧ KOwn wz w1.heap.size (.slice a b c) (ks.take (q + 1)) ∧ wz.ownsRow w1.heap.size 45 16 (.slice av q cv) q ((vs.take q).map bts).flatten ∧ Upd [] w1 wz)
        case first =>
          go_region_law (first | (refine step_append_run (by rfl) _ _ _ (by rfl) (by rfl) (by rfl) hrun10 ?_))
          all_goals
            go_wp2_with fail
            go_meet
            have us : Upd [b8] w10 (w10.setCell ⟨b8, 1, none⟩ (.slice a10 q10 c10)) := (Upd.refl _ _).set _ (.inl (by simp))
            refine ⟨a10, q10, c10, by rw [blk_set HB10.out]; rfl, ?_, own_upd HV10.out us (fun k c' hk _ e => by simp at hk; subst hk; rw [HB10.out] at e; simp at e), HU10.out.set _ (.inr (by have := HB8.out; omega))⟩
            unfold KOwn
            rw [HTK.out, show (ks.take (q + 1)).length = q + 1 from by rw [List.length_take]; omega]
            exact own_upd HO10.out us (fun k c' hk _ e => by simp at hk; subst hk; rw [HB10.out] at e; simp at e)
        case rest =>
          rename World => wz
          obtain ⟨a, b, c3, hbz, hKz, hVz, huz⟩ := hcut
          clear n0 n1 n2 n1a m0 m1 m2 mf hld hbld hrun10
          obtain ⟨n0, n1, n2, -⟩ := op_cells9 hbz
          have r2z := range_upd (HRBw.out) huz (by simp)
          have hld := run_cells16 (range_upd r2z (Upd.refl [] _).drew (by simp)) h16
          have hbld := run_build1 (T := 142) (e := 45) (sz := 16) Tryz.underlying142 (by kernel_rfl) (by omega) (by omega) (bts vq) (by rw [bts_length, h16]) wz.drew
          obtain ⟨a11, q11, c11, w11, S11, hrun11, ho11, hu11, hS11⟩ := row_push (T := 142) (e := 45) Tryz.underlying142 infoVal rfl (by omega) (by omega) (w := wz.drew) hVz (by omega) huz.size (bts vq) (by rw [bts_length, h16]) (bts_one _)
          have hrb : wz.drew.heap[b8]? = _ := hbz
          have hb11 : w11.heap[b8]? = some (.cells #[.int .i64 1, .slice a b c3, .slice av q cv, .slice none 0 0] 145 (0, 0)) := (hu11.block _ (blk_lt hrb) (fun k => by obtain ⟨_, c, e⟩ := hS11 _ k; rw [hrb] at e; simp at e)).trans hbz
          obtain ⟨m0, m1, m2, -⟩ := op_cells9 hb11
          have mf := blk_free hb11 2
          have n2a := cell_upd (w' := wz.alloc (.cells (bts vq).toArray 45)) n2 ((Upd.refl [] _).alloc _) (by simp)
          have hK11 : KOwn w11 w1.heap.size (.slice a b c3) (ks.take (q + 1)) := own_upd (w := wz.drew) hKz hu11 (fun k c' hk _ e => by obtain ⟨_, c2, e2⟩ := hS11 _ hk; rw [e2] at e; simp at e)
          have hu111 : Upd [] w1 w11 := (huz.drew).late hu11 (fun k hk => .inr (hS11 _ hk).1)
          have HB11 := Lib.hid hb11
          have HO11 := Lib.hid ho11
          have HU11 := Lib.hid hu111
          have HK11 := Lib.hid hK11
          clear hrb hb11 ho11 hu11 hS11 hKz hVz hbz huz r2z hK11 hu111
          go_wp2_with fail
          go_region_law (first | (refine step_append_run (by rfl) _ _ _ (by rfl) (by rfl) (by rfl) hrun11 ?_))
          all_goals
            have us : Upd [b8] w11 (w11.setCell ⟨b8, 2, none⟩ (.slice a11 q11 c11)) := (Upd.refl _ _).set _ (.inl (by simp))
            have HBX : Hid ((w11.setCell ⟨b8, 2, none⟩ (.slice a11 q11 c11)).heap[b8]? = some (.cells #[.int .i64 1, .slice a b c3, .slice a11 q11 c11, .slice none 0 0] 145 (0, 0))) := by
              show _ = _
              rw [blk_set HB11.out]; rfl
            have HKX := Lib.hid (own_upd HK11.out us (fun k c' hk _ e => by simp at hk; subst hk; rw [HB11.out] at e; simp at e))
            have HVX : Hid (VOwn (w11.setCell ⟨b8, 2, none⟩ (.slice a11 q11 c11)) w1.heap.size (.slice a11 q11 c11) (vs.take (q + 1))) := by
              show VOwn _ _ _ _
              unfold VOwn
              rw [HTV.out, show (vs.take (q + 1)).length = q + 1 from by rw [List.length_take]; omega]
              exact own_upd HO11.out us (fun k c' hk _ e => by simp at hk; subst hk; rw [HB11.out] at e; simp at e)
            have HUX := Lib.hid (HU11.out.set (b := b8) (o := 2) (.slice a11 q11 c11) (.inr (by have := HB8.out; omega)))
            clear us n0 n1 n2 n2a m0 m1 m2 mf hld hbld hrun11
            go_wp2_with fail
            exact ⟨⟨q + 1, _, _, by omega, by go_num, HBX.out, HKX.out, HVX.out, HUX.out⟩, by simp [intOf]; omega⟩
      · obtain rfl : q = ks.length := by omega
        have hlt' : decide ((ks.length : Int) < (ks.length : Int)) = false := by simp
        have hnv := HOK.out.n
        rw [List.take_length] at hK
        rw [show vs.take ks.length = vs from List.take_of_length_le (by omega)] at hV
        have HB := Lib.hid hb
        have HK := Lib.hid hK
        have HV := Lib.hid hV
        have HUr := Lib.hid hu
        have hld4 := run_cells_blk (n := 4) (cs := [.int .i64 1, vk, vv, .slice none 0 0]) hb rfl
        have hb4 : wr.heap[b4]? = some (.cells #[.int .i64 0, .slice none 0 0, .slice none 0 0, .slice none 0 0] 145 (0, 0)) := (hu.block _ (Nat.lt_of_lt_of_le (blk_lt H4.out) HU1.out.size) (by simp)).trans ((HU1.out.block _ (blk_lt H4.out) (by simp; rintro rfl; have := HH.out.jr.at_.st; have h4 := H4.out; rw [(HUA.out.block _ (blk_lt this) (by simp)).trans this] at h4; simp at h4)).trans H4.out)
        obtain ⟨m0, m1, m2, m3⟩ := op_cells9 hb4
        have f0 := blk_free hb4 0
        have f1 := blk_free hb4 1
        have f2 := blk_free hb4 2
        have f3 := blk_free hb4 3
        have HB4r := Lib.hid hb4
        obtain ⟨ak, ck, rfl⟩ := own_shape hK
        obtain ⟨av, cv, rfl⟩ := own_shape hV
        clear hb hK hV hu hnv hb4
        go_wp2_with fail
        have hbe := blk_set (blk_set (blk_set (blk_set HB4r.out 0 (.int .i64 1)) 1 (.slice ak ks.length ck)) 2 (.slice av vs.length cv)) 3 (.slice none 0 0)
        have hue : Upd [b4] w1 ((((wr.setCell ⟨b4, 0, none⟩ (.int .i64 1)).setCell ⟨b4, 1, none⟩ (.slice ak ks.length ck)).setCell ⟨b4, 2, none⟩ (.slice av vs.length cv)).setCell ⟨b4, 3, none⟩ (.slice none 0 0)) := ((((HUr.out.mono (by simp)).set _ (.inl (by simp))).set _ (.inl (by simp))).set _ (.inl (by simp))).set _ (.inl (by simp))
        have huk : Upd [b4] wr ((((wr.setCell ⟨b4, 0, none⟩ (.int .i64 1)).setCell ⟨b4, 1, none⟩ (.slice ak ks.length ck)).setCell ⟨b4, 2, none⟩ (.slice av vs.length cv)).setCell ⟨b4, 3, none⟩ (.slice none 0 0)) := ((((Upd.refl _ _).set _ (.inl (by simp))).set _ (.inl (by simp))).set _ (.inl (by simp))).set _ (.inl (by simp))
        generalize ((((wr.setCell ⟨b4, 0, none⟩ (.int .i64 1)).setCell ⟨b4, 1, none⟩ (.slice ak ks.length ck)).setCell ⟨b4, 2, none⟩ (.slice av vs.length cv)).setCell ⟨b4, 3, none⟩ (.slice none 0 0)) = wE at *
        have hbn := HB4.out
        refine bodyPost_ret (results_row_tmp (p := 4) (u := 5) (ty := 145) (by rfl) _ _ b4 _ (by rfl) (run_loadVar_row _ b4 _ _ _ _ _ hbe Tryz.underlying145 rfl (by kernel_rfl))) (by rfl) ?_
        refine ⟨_, _, rfl, own_low (own_upd HK.out huk (fun k c' hk _ e => by simp at hk; subst hk; rw [HB4r.out] at e; simp at e)) ?_, own_low (own_upd HV.out huk (fun k c' hk _ e => by simp at hk; subst hk; rw [HB4r.out] at e; simp at e)) ?_, ?_, ?_⟩
        · exact Nat.le_trans HUA.out.size HU1.out.size
        · exact Nat.le_trans HUA.out.size HU1.out.size
        · exact SpAt.late (HH.out) H1.out ((HUA.out.mono (by simp)).trans HU1.out) hue (fun k hk => by simp at hk; omega)
        · exact ((HUA.out.mono (by simp)).trans HU1.out).late hue (fun k hk => .inr (by simp at hk; omega))

end Go.Proofs.YtceakcejchbbjaaGreat
