/-
  JournalFront answers true: the walk.
-/
import Derived.Test.YthbgidiblcokhaaLwQ
import Derived.Deep.CutBlock
import Derived.Deep.DeepCutAuto
namespace Go.Proofs.Ythbgidiblcokhaa
open Go.RowKit

/-- The rows of states: at n the homes H, behind it H2, if that is another. -/
def FrRows (w : World) (B L : Nat) (vs : List Value) (n : Nat) (H H2 : Nat → Sec) : Prop :=
  (∃ a c, vs[n]? = some (.slice a L c) ∧ StrsB w B (.slice a L c) (hl H L)) ∧
  ((vs.length = n + 1 ∧ H2 = H) ∨ (vs.length = n + 2 ∧ ∃ a c, vs[n + 1]? = some (.slice a L c) ∧ StrsB w B (.slice a L c) (hl H2 L)))
theorem FrRows.upd {w w' : World} {B L : Nat} {vs : List Value} {n : Nat} {H H2 : Nat → Sec} (h : FrRows w B L vs n H H2) {S : List Nat} (hu : Upd S w w') (hS : ∀ (k : Nat) (c : Array Value), k ∈ S → w.heap[k]? ≠ some (.cells c 9 (0, 0))) : FrRows w' B L vs n H H2 := by
  obtain ⟨⟨a, c, h1, h2⟩, h3⟩ := h
  refine ⟨⟨a, c, h1, h2.upd hu hS⟩, h3.imp id ?_⟩
  rintro ⟨e, a, c, h1, h2⟩
  exact ⟨e, a, c, h1, h2.upd hu hS⟩
theorem FrRows.keep {w w' : World} {B L : Nat} {vs : List Value} {n : Nat} {H H2 : Nat → Sec} (h : FrRows w B L vs n H H2) (hk : ∀ (k : Nat) (c : Array Value), w.heap[k]? = some (.cells c 9 (0, 0)) → w'.heap[k]? = w.heap[k]?) : FrRows w' B L vs n H H2 := by
  obtain ⟨⟨a, c, h1, h2⟩, h3⟩ := h
  refine ⟨⟨a, c, h1, h2.keep hk⟩, h3.imp id ?_⟩
  rintro ⟨e, a, c, h1, h2⟩
  exact ⟨e, a, c, h1, h2.keep hk⟩
theorem fits_errs {n ring : Nat} {l : List Put} : fitsR n ring l ≠ 8 := by
  have key : ∀ (l : List Put) (seen : List Int) (homes : Nat), fitsL homes seen l = 0 ∨ fitsL homes seen l = 1 ∨ fitsL homes seen l = 9 := by
    intro l
    induction l with
    | nil => intro _ _; exact .inl rfl
    | cons p l ih =>
      intro seen homes
      obtain ⟨i, b⟩ := p
      rw [fitsL_cons]
      split
      · exact .inr (.inl rfl)
      · split
        · exact .inr (.inr rfl)
        · exact ih _ _
  have := key l [] (n - 2 - ring)
  unfold fitsR
  split
  · omega
  · split <;> decide
theorem JaAt.fitp {w : World} {j : JG} {J : Jn} {D : Dk} {n ring : Nat} {t m : Int} {H : Nat → Sec} (h : JaAt w j J D n ring t m H) {l : List Put} (hf : fitsR n ring l = 0) : ∀ p ∈ l, 0 ≤ p.1 ∧ p.1 < ((n - 2 - ring : Nat) : Int) ∧ p.2.length = 512 := by
  have hfe : J.fits D.n l = fitsR n ring l := by unfold Jn.fits Jn.homes fitsR; rw [h.n, h.ring]
  have := (fits_parts (hfe.trans hf)).2.2.1
  unfold Jn.homes at this
  rw [h.n, h.ring] at this
  exact this
/-- As hl_set, of any put that is right. -/
theorem hl_put {H : Nat → Sec} {l : List Put} {L : Nat} {p : Put} (h0 : 0 ≤ p.1) : hl (putsH H (l ++ [p])) L = (hl (putsH H l) L).set p.1.toNat p.2 := by
  obtain ⟨i, s⟩ := p
  obtain ⟨k, rfl⟩ := Int.eq_ofNat_of_zero_le h0
  exact hl_set

set_option maxRecDepth 100000 in
set_option maxHeartbeats 4000000 in
theorem front6_spec (a0 a2 a3 a5 a6 : Int) {v u z : Value} {ls : List (List Pz)} {keep more : List Bool} (w : World) (hv : PzzIn w v ls) (hk : RdL w [] u (keep.map Value.bool)) (hq : RdL w [] z (more.map Value.bool)) : Calls Try.prog 7 #[.int .i64 a0, v, .int .i64 a2, .int .i64 a3, u, .int .i64 a5, .int .i64 a6, z] w fun e w' => e = .returned (.bool true) ∧ Upd [] w w' := by
  obtain ⟨av, cv, rfl⟩ := hv.shape
  obtain ⟨au, cu, rfl, _⟩ := hk.shape
  obtain ⟨az, cz, rfl, _⟩ := hq.shape
  have HV := Lib.hid hv
  have HK := Lib.hid hk
  have HQ := Lib.hid hq
  clear hv hk hq
  rw [List.length_map] at HK HQ ⊢
  rw [List.length_map]
  by_cases h1 : 20 < ls.length
  · have dh1 : decide (20 < (ls.length : Int)) = true := by simp; omega
    go_enter Try.func7, Try.ntmps7
    go_wp2_with fail
    refine (begun6_spec w).mono ?_
    rintro e w1 ⟨rfl, hu1⟩
    have HU1 := Lib.hid hu1
    clear hu1
    go_wp2_with fail
    go_ret
    exact ⟨rfl, HU1.out⟩
  have dh1 : decide (20 < (ls.length : Int)) = false := by simp; omega
  by_cases h2 : 200 < keep.length
  · have dh2 : decide (200 < (keep.length : Int)) = true := by simp; omega
    go_enter Try.func7, Try.ntmps7
    go_wp2_with fail
    refine (begun6_spec w).mono ?_
    rintro e w1 ⟨rfl, hu1⟩
    have HU1 := Lib.hid hu1
    clear hu1
    go_wp2_with fail
    go_ret
    exact ⟨rfl, HU1.out⟩
  have dh2 : decide (200 < (keep.length : Int)) = false := by simp; omega
  by_cases h3 : 200 < more.length
  · have dh3 : decide (200 < (more.length : Int)) = true := by simp; omega
    go_enter Try.func7, Try.ntmps7
    go_wp2_with fail
    refine (begun6_spec w).mono ?_
    rintro e w1 ⟨rfl, hu1⟩
    have HU1 := Lib.hid hu1
    clear hu1
    go_wp2_with fail
    go_ret
    exact ⟨rfl, HU1.out⟩
  have dh3 : decide (200 < (more.length : Int)) = false := by simp; omega
  have hbo := run_build_op
  have hb0 := run_build_strs0
  have hbs := run_build_strs1
  have HPA := fun w => Lib.hid (place_spec a2 200 w (by omega) (by omega))
  have hA := placeN_lt (k := a2) (n := 200) (by omega)
  generalize placeN a2 200 = pA at *
  have HPB := fun w => Lib.hid (place_spec a5 60 w (by omega) (by omega))
  have hB := placeN_lt (k := a5) (n := 60) (by omega)
  generalize placeN a5 60 = pB at *
  have hR := placeN_lt (k := a0) (n := 25) (by omega)
  have HPR := fun w => Lib.hid (place_spec a0 25 w (by omega) (by omega))
  generalize placeN a0 25 = pR at *
  go_enter Try.func7, Try.ntmps7
  go_wp2_with fail
  refine (begun6_spec w).mono ?_
  rintro e w1 ⟨rfl, hu1⟩
  have HU1 := Lib.hid hu1
  clear hu1
  go_wp2_with fail
  refine (HPR _).out.mono ?_
  rintro e w' ⟨rfl, rfl⟩
  go_wp2_with fail
  refine (new_hi 72 (by omega) (by omega) _).mono ?_
  rintro e w2 ⟨g, rfl, hd2, hg1, hg2, hg3, hu2⟩
  have HG : Hid (g.Late w) := ⟨Nat.le_trans HU1.out.size hg1, Nat.le_trans HU1.out.size hg2, Nat.le_trans HU1.out.size hg3⟩
  have HU2 := Lib.hid (HU1.out.trans hu2)
  have HF2 := Lib.hid (new_fmt_hiI hd2 (by omega) (by omega) (8 + (pR : Int)) (8 + pR) (by omega) (by omega) (by omega) (by omega))
  clear hd2 hg1 hg2 hg3 hu2
  go_wp2_with fail
  refine HF2.out.mono ?_
  rintro e w3 ⟨rfl, hd3, hu3⟩
  have HU3 := Lib.hid (HU2.out.lateD hu3 HG.out)
  have HO3 := Lib.hid (open_hi hd3 (by omega) (by omega))
  clear hd3 hu3
  go_wp2_with fail
  refine HO3.out.mono ?_
  rintro e w4 ⟨jb, ab, rfl, hj1, hj2, ⟨J0, D0, hr4, _⟩, hu4⟩
  have HJ : Hid (JG.Late ⟨jb, ab, g⟩ w) := ⟨Nat.le_trans HU3.out.size hj1, Nat.le_trans HU3.out.size hj2, HG.out⟩
  have HU4 := Lib.hid (HU3.out.lateD hu4 HG.out)
  have HHO := Lib.hid (homesL_spec hr4 (by omega) (fun _ => zsec_length))
  clear hj1 hj2 hr4 hu4
  obtain ⟨L, hL⟩ : ∃ L, L = 72 - 2 - (8 + pR) := ⟨_, rfl⟩
  rw [← hL] at HHO
  have HLE := Lib.hid hL
  have hL1 : 30 ≤ L := by omega
  have hL2 : L ≤ 62 := by omega
  clear hL
  go_wp2_with fail
  refine HHO.out.mono ?_
  rintro e w5 ⟨a5', c5, rfl, hs5, hr5, hu5⟩
  have HU5 := Lib.hid (HU4.out.lateR hu5 HJ.out)
  have HS5 := Lib.hid (hs5.lower HU4.out.size)
  have HR5 := Lib.hid hr5
  clear hs5 hr5 hu5
  go_wp2_with fail
  refine (HPA _).out.mono ?_
  rintro e w' ⟨rfl, rfl⟩
  have hu6 : Upd [] w5 (w5.alloc (.cells #[.slice a5' L c5] 33)) := (Upd.refl _ _).alloc _
  have hrw : RowsB (w5.alloc (.cells #[.slice a5' L c5] 33)) w.heap.size (.slice (some ⟨w5.heap.size, 0, none⟩) 1 1) [.slice a5' L c5] := RowsB.one HU5.out.size (blk_alloc _)
  generalize w5.alloc (.cells #[.slice a5' L c5] 33) = w6 at hu6 hrw ⊢
  have HAR := Lib.hid (armJ_hi (HR5.out.below hu6).ja (pA : Int) a3 (by omega))
  have HU6 := Lib.hid (HU5.out.trans hu6)
  have HS6 := Lib.hid (HS5.out.upd hu6 (by simp))
  have HRW6 := Lib.hid hrw
  have HR6 := Lib.hid (HR5.out.below hu6)
  clear hu6 hrw
  go_wp2_with fail
  refine HAR.out.mono ?_
  rintro e w7 ⟨rfl, hr7, hu7⟩
  have HU7 := Lib.hid (HU6.out.late hu7 (fun q hq => by simp at hq; subst hq; exact .inr HG.out.1))
  have HS7 := Lib.hid (HS6.out.upd hu7 (fun q c hq e => HR6.out.at_.disk.notstr e (by simp at hq; simp [hq])))
  have HRW7 : Hid (RowsB w7 w.heap.size (.slice (some ⟨w5.heap.size, 0, none⟩) 1 1) [.slice a5' L c5]) := HRW6.out.upd hu7 (fun q c hq e => HR6.out.at_.kind e (by decide) (by decide) (by decide) (by simp at hq; simp [JG.all, hq]))
  have HR7 := Lib.hid hr7
  clear hr7 hu7
  go_upto_block 0 with fail
  go_cut [20, 21, 22, 23, 24, 25, 26] (fun st dn _ _ _ _ _ wx => ∃ (n : Nat) (H H2 : Nat → Sec) (vs : List Value) (a : Option Addr) (c : Nat), st = .slice a vs.length c ∧ dn = .int .i64 (n : Int) ∧ n ≤ 20 ∧ RowsB wx w.heap.size (.slice a vs.length c) vs ∧ FrRows wx w.heap.size L vs n H H2 ∧ (PwAt wx g 72 (8 + pR) 100 fun t' H' => t' ≤ 100 ∧ (H' = H ∨ H' = H2)) ∧ (∀ i, (H i).length = 512) ∧ (∀ i, (H2 i).length = 512) ∧ Upd [] w wx)
  case first =>
    go_wp2_with fail
    go_loopw [22, 20, 21] (fun i st dn wr => ∃ (k n : Nat) (dead : Bool) (H H2 : Nat → Sec) (vs : List Value) (a : Option Addr) (c : Nat), k ≤ ls.length ∧ i = .int .i64 (k : Int) ∧ st = .slice a vs.length c ∧ dn = .int .i64 (n : Int) ∧ n ≤ k ∧ RowsB wr w.heap.size (.slice a vs.length c) vs ∧ FrRows wr w.heap.size L vs n H H2 ∧ (dead = false → vs.length = n + 1 ∧ H2 = H) ∧ FrAt wr ⟨jb, ab, g⟩ 72 (8 + pR) (1 + (k : Int)) (2 + 2 * (k : Int)) H H2 dead ∧ (∀ i, (H i).length = 512) ∧ (∀ i, (H2 i).length = 512) ∧ Upd [] w wr) (fun i _ _ _ => ls.length - (intOf i).toNat)
    case atStart =>
      refine ⟨0, 0, false, fun _ => zsec, fun _ => zsec, [.slice a5' L c5], _, _, Nat.zero_le _, rfl, rfl, rfl, Nat.le_refl _, HRW7.out, ⟨⟨a5', c5, rfl, HS7.out⟩, .inl ⟨rfl, rfl⟩⟩, fun _ => ⟨rfl, rfl⟩, ?_, fun _ => zsec_length, fun _ => zsec_length, HU7.out⟩
      unfold FrAt; rw [if_neg (by decide)]; exact ⟨_, _, _, HR7.out, by simp⟩
    case round =>
      obtain ⟨k, n, dead, H, H2, vs, a, c, hk, rfl, rfl, rfl, hn, hrows, hfr, hal, hat, hH, hH2, hu⟩ := hrel
      have HROWS := Lib.hid hrows
      have HFR := Lib.hid hfr
      have HAT := Lib.hid hat
      have HH := Lib.hid hH
      have HH2 := Lib.hid hH2
      have HU := Lib.hid hu
      have HDE := Lib.hid hat.dead
      have HPWX := Lib.hid (hat.pw.mono (m' := 100) (by omega) (Q' := fun t' H' => t' ≤ 100 ∧ (H' = H ∨ H' = H2)) (fun t' H' q => ⟨by omega, q.2⟩))
      clear hrows hfr hat hH hH2 hu
      by_cases hlt : k < ls.length
      · have hlt' : decide ((k : Int) < (ls.length : Int)) = true := by simpa using hlt
        cases dead
        · obtain ⟨hvl, hHH⟩ := hal rfl
          obtain ⟨J, D, t, hr, ht⟩ : ∃ J D t, JaAt wr ⟨jb, ab, g⟩ J D 72 (8 + pR) t (2 + 2 * (k : Int)) H2 ∧ t ≤ 1 + (k : Int) := by
            have := HAT.out
            unfold FrAt at this
            rw [if_neg (by decide)] at this
            exact this
          obtain ⟨b, off, vb, rfl, c0, hpz⟩ := (HV.out.below HU.out).row k hlt
          obtain ⟨ab', cb', rfl⟩ := hpz.shape
          obtain ⟨⟨an, cn, hvn, hsn⟩, _⟩ := HFR.out
          rw [← hHH] at hsn
          have HVL := Lib.hid hvl
          have HVN := Lib.hid hvn
          have HSN := Lib.hid hsn
          have HR := Lib.hid hr
          have HT := Lib.hid ht
          have HLI := Lib.hid (light_spec _ _ wr hpz)
          have HPZ := Lib.hid hpz
          have i0 : (0 : Int) ≤ (k : Int) := by omega
          have i1 : (k : Int) < (ls.length : Int) := by omega
          have hk20 : k < 20 := by omega
          have hROWS := HROWS.out
          rw [hvl] at hROWS ⊢
          obtain ⟨gs, os, rfl, cgs⟩ := hROWS.cell n (by omega)
          have hvn' : vs[n]'(by omega) = .slice an L cn := by rw [List.getElem?_eq_getElem (by omega)] at hvn; exact Option.some.inj hvn
          rw [hvn'] at cgs
          have HROWS2 := Lib.hid hROWS
          obtain ⟨lk, hlk⟩ : ∃ lk, lk = ls[k] := ⟨_, rfl⟩
          rw [← hlk] at HLI HPZ c0
          clear hal hr ht hpz hvl hvn hsn hHH hROWS hvn' hlk
          go_wp2_with fail
          refine HDE.out.mono ?_
          rintro e w' ⟨rfl, rfl⟩
          go_wp2_with fail
          refine HLI.out.mono ?_
          rintro e w8 ⟨rfl, hu8⟩
          have HU8 := Lib.hid (HU.out.trans hu8)
          have c1 : w8.cell? ⟨b, off + k, none⟩ = some (.slice ab' lk.length cb') := by rw [World.cell?_of_block (w := wr) (hu8.block _ (block_lt_of_cell c0) (by simp))]; exact c0
          have cgs8 : w8.cell? ⟨gs, os + n, none⟩ = some (.slice an L cn) := by rw [World.cell?_of_block (w := wr) (hu8.block _ (block_lt_of_cell cgs) (by simp))]; exact cgs
          have HR8 := Lib.hid (HR.out.below hu8)
          have HPZ8 := Lib.hid (HPZ.out.below hu8)
          have HSN8 := Lib.hid (HSN.out.upd hu8 (by simp))
          have HROWS8 := Lib.hid (HROWS2.out.upd hu8 (by simp))
          clear hu8
          by_cases hli : lightB lk = true
          · obtain ⟨l60, l600⟩ := lightB_yes hli
            rw [hli]
            obtain ⟨gn, cn', curn, hvn, hBn, hgn, _⟩ := HSN8.out.block (by rw [hl_length]; omega)
            rw [hl_length] at hvn
            obtain ⟨rfl, rfl⟩ : an = some ⟨gn, 0, none⟩ ∧ cn = cn' := by simpa using hvn
            have HGN : Hid (gn < w8.heap.size) := blk_lt hgn
            have hS8' : StrsB w8 w.heap.size (.slice (some ⟨gn, 0, none⟩) (hl H2 L).length cn) (hl H2 L) := by rw [hl_length]; exact HSN8.out
            obtain ⟨a', b', c', w9, hrun, hs9, hk9, hu9⟩ := strs_copy hS8' (by rw [hl_length]; omega) HU8.out
            rw [hl_length] at hrun
            obtain ⟨g2, cap2, cur2, hv2, hB2, hg2, _⟩ := hs9.block (by rw [hl_length]; omega)
            rw [hl_length] at hv2
            obtain ⟨rfl, rfl, rfl⟩ : some ⟨g2, 0, none⟩ = a' ∧ L = b' ∧ cap2 = c' := by simpa [eq_comm] using hv2
            have cgs9 : (w8.alloc (.cells #[] 9)).cell? ⟨gs, os + n, none⟩ = some (.slice (some ⟨gn, 0, none⟩) L cn) := by rw [World.cell?_of_block (w := w8) (blk_alloc_ne (block_lt_of_cell cgs8))]; exact cgs8
            have HG2S : Hid (w8.heap.size ≤ g2) := hB2
            have HU9S : Hid (w8.heap.size ≤ w9.heap.size) := by have := blk_lt hg2; show _ ≤ _; omega
            have c2 : w9.cell? ⟨b, off + k, none⟩ = some (.slice ab' lk.length cb') := by rw [World.cell?_of_block (w := w8) (hk9 _ (block_lt_of_cell c1))]; exact c1
            have hbelow : Upd [] w8 w9 := ⟨hu9.os.trans HU8.out.os.symm, hu9.tape.trans HU8.out.tape.symm, hu9.output.trans HU8.out.output.symm, by have := blk_lt hg2; omega, fun q hq _ => hk9 q hq⟩
            have HPZ9 := Lib.hid (HPZ8.out.below hbelow)
            have HR9 := Lib.hid (HR8.out.below hbelow)
            have HX9 : Hid (StrsB w9 w8.heap.size (.slice (some ⟨g2, 0, none⟩) L cap2) (hl H2 L)) := hs9
            have HA9 := Lib.hid (HSN8.out.upd hbelow (by simp))
            have HK9 := Lib.hid hk9
            have HU9 := Lib.hid hu9
            have HLS := Lib.hid (list_spec _ _ w9 HPZ9.out (by omega) (fun p hp => by have := l600 p hp; omega))
            have L60 := Lib.hid l60
            clear hli l60 l600 hvn hBn hgn hS8' hs9 hk9 hu9 hv2 hB2 hg2 hbelow
            go_wp2_with (at_builtin; refine wpList_append_run rfl _ _ _ rfl rfl rfl hrun ?_)
            refine HLS.out.mono ?_
            rintro e w10 ⟨a10, n10, c10, rfl, hp10, hu10⟩
            obtain ⟨ao10, cap10, e10⟩ := hp10.own.at.shape
            obtain ⟨lp, hlp⟩ : ∃ lp, lp = lk.map Pz.put := ⟨_, rfl⟩
            rw [← hlp] at hp10 e10
            obtain ⟨rfl, rfl, rfl⟩ : a10 = ao10 ∧ n10 = lp.length ∧ c10 = cap10 := by simpa using e10
            have hpa := hp10.own.at
            have hl60 : lp.length ≤ 60 := by rw [hlp, List.length_map]; exact L60.out
            have HR10 := Lib.hid (HR9.out.below hu10)
            have HC := Lib.hid (comA_hi HR10.out _ _ hpa (by omega) (by have := HT.out; omega) (by omega))
            have HUW10 := Lib.hid (HU9.out.trans hu10)
            have HU10 := Lib.hid hu10
            have HP10 := Lib.hid hp10
            clear hp10 hpa e10 hlp hu10
            go_wp2_with fail
            refine HC.out.mono ?_
            rintro e w11 ⟨hu11, ⟨hf, rfl, J11, D11, t11, hr11, ht11, _⟩ | ⟨hf, rfl, hp11, hd11⟩ | ⟨hno, rfl, hr11⟩⟩
            · have HFP : Hid (∀ p ∈ lp, 0 ≤ p.1 ∧ p.1 < (L : Int) ∧ p.2.length = 512) := by
                show ∀ p ∈ lp, _
                rw [HLE.out]; exact HR10.out.fitp hf
              have HAT11 : Hid (FrAt w11 ⟨jb, ab, g⟩ 72 (8 + pR) (1 + ((k + 1 : Nat) : Int)) (2 + 2 * ((k + 1 : Nat) : Int)) H2 (putsH H2 lp) false) := by
                show FrAt _ _ _ _ _ _ _ _ _
                unfold FrAt; rw [if_neg (by decide)]
                exact ⟨J11, D11, t11, hr11.le (by omega), by have := HT.out; omega⟩
              clear hr11 ht11 hf
              have HRD : Hid (∀ (k : Nat) (c : Array Value), w9.heap[k]? = some (.cells c 9 (0, 0)) → w11.heap[k]? = w9.heap[k]?) := by
                show ∀ (k : Nat) (c : Array Value), _ → _
                intro q cq e
                have e10 : w10.heap[q]? = some (.cells cq 9 (0, 0)) := (HU10.out.block _ (blk_lt e) (by simp)).trans e
                exact (hu11.block _ (blk_lt e10) (fun hq => HR10.out.at_.kind e10 (by decide) (by decide) (by decide) hq)).trans (HU10.out.block _ (blk_lt e) (by simp))
              have HROWS11 := Lib.hid ((HROWS8.out.keep (w' := w10) (fun q cq e => (HU10.out.block _ (by have := HU9S.out; have := blk_lt e; omega) (by simp)).trans (HK9.out q (blk_lt e)))).jn hu11 HR10.out.at_ (fun _ q => q))
              have HX11 := Lib.hid (HX9.out.keep (w' := w11) HRD.out)
              have HA11 := Lib.hid (HA9.out.keep (w' := w11) HRD.out)
              have HU11 := Lib.hid (HUW10.out.lateJ hu11 HJ.out)
              have HP11 := Lib.hid (PutsOwnB.jn HR10.out.at_ HP10.out hu11 (fun _ q => q))
              clear hu11
              go_wp2_with fail
              go_loopw [26] (fun i wr => ∃ q : Nat, q ≤ lp.length ∧ i = .int .i64 (q : Int) ∧ StrsB wr w8.heap.size (.slice (some ⟨g2, 0, none⟩) L cap2) (hl (putsH H2 (lp.take q)) L) ∧ Upd [g2] w11 wr) (fun i _ => lp.length - (intOf i).toNat)
              case atStart => exact ⟨0, Nat.zero_le _, rfl, HX11.out, Upd.refl _ _⟩
              case round =>
                obtain ⟨q, hq, rfl, hxq, huq⟩ := hrel
                by_cases hltq : q < lp.length
                · have hltq' : decide ((q : Int) < (lp.length : Int)) = true := by simpa using hltq
                  obtain ⟨gx, capx, curx, hvx, hBx, hgx, hccx, hmx, hsx, htx⟩ := hxq.block (by rw [hl_length]; omega)
                  rw [hl_length] at hvx hccx htx
                  obtain ⟨rfl, rfl⟩ : g2 = gx ∧ cap2 = capx := by simpa using hvx
                  have hg11 : ∃ c11, w11.heap[g2]? = some (.cells c11 9 (0, 0)) := by
                    obtain ⟨g', _, c', hv', _, hg', _⟩ := HX11.out.block (by rw [hl_length]; omega)
                    rw [hl_length] at hv'
                    obtain ⟨rfl, _⟩ : g2 = g' ∧ _ := by simpa using hv'
                    exact ⟨_, hg'⟩
                  obtain ⟨c11, hg11⟩ := hg11
                  have hpq : PutsAt wr (.slice a10 lp.length c10) lp := (HP11.out.upd huq (fun q' c' hq' e => by simp at hq'; subst hq'; rw [hg11] at e; simp at e) (fun q' c' hq' _ e => by simp at hq'; subst hq'; rw [hg11] at e; simp at e)).own.at
                  obtain ⟨gp, capp, da, dc, e, hc1, hc2, hrd⟩ := hpq.get q hltq
                  obtain ⟨rfl, rfl⟩ : a10 = some ⟨gp, 0, none⟩ ∧ c10 = capp := by simpa using e
                  obtain ⟨f0, f1, f2⟩ := HFP.out lp[q] (List.getElem_mem hltq)
                  obtain ⟨iN, hiN⟩ := Int.eq_ofNat_of_zero_le f0
                  have HTK : Hid (lp.take (q + 1) = lp.take q ++ [lp[q]]) := by show _ = _; exact List.take_succ_eq_append_getElem hltq
                  have HSET : Hid (hl (putsH H2 (lp.take (q + 1))) L = (hl (putsH H2 (lp.take q)) L).set iN lp[q].2) := by
                    show _ = _
                    rw [HTK.out, hl_put f0, hiN]; rfl
                  rw [hiN] at hc1 f1
                  rw [f2] at hc2 hrd
                  generalize lp[q].2 = s at *
                  have hcv := run_str (w := wr.drew) (hrd.of_block fun _ _ _ _ => rfl) (by omega)
                  have hinL : iN < L := by omega
                  obtain ⟨xa, hxa⟩ : ∃ xa, curx[iN]? = some xa := ⟨curx[iN]'(by omega), Array.getElem?_eq_getElem (by omega)⟩
                  have hca : wr.cell? ⟨g2, iN, none⟩ = some xa := (blk_cell hgx _).trans hxa
                  have hfa := blk_free hgx iN
                  have d1 : decide ((L : Int) ≤ (iN : Int)) = false := by simp; omega
                  have d0 : decide ((iN : Int) < 0) = false := by simp
                  have i0 : (0 : Int) ≤ (q : Int) := by omega
                  have i1 : (q : Int) < (lp.length : Int) := by omega
                  have HST := Lib.hid (strs_set (ss := hl (putsH H2 (lp.take q)) L) hBx hgx (by rw [hl_length]; exact hccx) hmx hsx (by rw [hl_length]; exact htx) iN s)
                  rw [hl_length, ← HSET.out] at HST
                  have HUQ := Lib.hid huq
                  clear hxq huq hvx hBx hgx hccx hmx hsx htx hg11 hpq e hrd f0 f2 hiN hxa HSET
                  go_wp2_with fail
                  go_region
                  all_goals
                    go_wp2_with fail
                    exact ⟨⟨q + 1, by omega, by go_num, (HST.out).upd ((Upd.refl [] _).drew) (by simp), (HUQ.out.set _ (by simp)).drew⟩, by simp [intOf]; omega⟩
                · obtain rfl : q = lp.length := by omega
                  have hltq' : decide ((lp.length : Int) < (lp.length : Int)) = false := by simp
                  rw [List.take_length] at hxq
                  have hg11 : ∃ c11, w11.heap[g2]? = some (.cells c11 9 (0, 0)) := by
                    obtain ⟨g', _, c', hv', _, hg', _⟩ := HX11.out.block (by rw [hl_length]; omega)
                    rw [hl_length] at hv'
                    obtain ⟨rfl, _⟩ : g2 = g' ∧ _ := by simpa using hv'
                    exact ⟨_, hg'⟩
                  obtain ⟨c11, hg11⟩ := hg11
                  have hrq : RowsB wr w.heap.size (.slice (some ⟨gs, os, none⟩) (n + 1) c) vs := HROWS11.out.upd huq (fun q' c' hq' e => by simp at hq'; subst hq'; rw [hg11] at e; simp at e)
                  have hatq : FrAt wr ⟨jb, ab, g⟩ 72 (8 + pR) (1 + ((k + 1 : Nat) : Int)) (2 + 2 * ((k + 1 : Nat) : Int)) H2 (putsH H2 lp) false := HAT11.out.ownT huq hg11 (by decide) (by decide) (by decide) (by decide)
                  have haq := HA11.out.ne huq (by have := HGN.out; have := HG2S.out; omega)
                  have hul : Upd [] w wr := HU11.out.late huq (fun q' hq' => by simp at hq'; subst hq'; exact .inr (by have := HG2S.out; have := HU8.out.size; omega))
                  obtain ⟨aS, cS, wS, hrunS, hrS, hkS, huS, _⟩ := rows_push (w0 := w) (B := w.heap.size) hrq (by rw [HVL.out]; omega) hul.size hul (Nat.le_refl _) (some ⟨g2, 0, none⟩) L cap2
                  rw [HVL.out] at hrunS hrS
                  have keepS : ∀ (q : Nat) (cq : Array Value), wr.heap[q]? = some (.cells cq 9 (0, 0)) → wS.heap[q]? = wr.heap[q]? := fun q cq e => hkS q (blk_lt e) (fun c' e' => by rw [e] at e'; simp at e')
                  have HATS := Lib.hid (hatq.keptT 33 (by decide) (by decide) (by decide) (by decide) hkS)
                  have HXS := Lib.hid ((hxq.lower HU8.out.size).keep (w' := wS) keepS)
                  have HAS := Lib.hid (haq.keep (w' := wS) keepS)
                  have HRS := Lib.hid hrS
                  have HUS := Lib.hid huS
                  clear hxq huq hg11 hrq hatq haq hul hrS hkS huS keepS
                  go_wp2_with (at_builtin; refine wpList_append_run rfl _ _ _ rfl rfl rfl hrunS ?_)
                  have hlen : (vs ++ [Value.slice (some ⟨g2, 0, none⟩) L cap2]).length = n + 1 + 1 := by rw [List.length_append, HVL.out]; rfl
                  have hpl : ∀ i, (putsH H2 lp i).length = 512 := putsH_len HH2.out (fun p hp => (HFP.out p hp).2.2)
                  refine ⟨⟨k + 1, n + 1, false, putsH H2 lp, putsH H2 lp, vs ++ [.slice (some ⟨g2, 0, none⟩) L cap2], aS, cS, by omega, by go_num, by rw [hlen], by go_num, by omega, by rw [hlen]; exact HRS.out, ⟨⟨_, _, ?_, HXS.out⟩, .inl ⟨hlen, rfl⟩⟩, fun _ => ⟨hlen, rfl⟩, HATS.out, hpl, hpl, HUS.out⟩, by simp [intOf]; omega⟩
                  rw [List.getElem?_append_right (by rw [HVL.out]; omega), HVL.out, Nat.sub_self]; rfl
            · have HFP : Hid (∀ p ∈ lp, 0 ≤ p.1 ∧ p.1 < (L : Int) ∧ p.2.length = 512) := by
                show ∀ p ∈ lp, _
                rw [HLE.out]; exact HR10.out.fitp hf
              have HAT11 : Hid (FrAt w11 ⟨jb, ab, g⟩ 72 (8 + pR) (1 + ((k + 1 : Nat) : Int)) (2 + 2 * ((k + 1 : Nat) : Int)) H2 (putsH H2 lp) true) := by
                show FrAt _ _ _ _ _ _ _ _ _
                unfold FrAt; rw [if_pos rfl]
                exact ⟨hp11.mono (by omega) (fun t' H' q => ⟨by have := HT.out; have := q.1; omega, q.2⟩), hd11⟩
              clear hp11 hd11 hf
              have HRD : Hid (∀ (k : Nat) (c : Array Value), w9.heap[k]? = some (.cells c 9 (0, 0)) → w11.heap[k]? = w9.heap[k]?) := by
                show ∀ (k : Nat) (c : Array Value), _ → _
                intro q cq e
                have e10 : w10.heap[q]? = some (.cells cq 9 (0, 0)) := (HU10.out.block _ (blk_lt e) (by simp)).trans e
                exact (hu11.block _ (blk_lt e10) (fun hq => HR10.out.at_.kind e10 (by decide) (by decide) (by decide) hq)).trans (HU10.out.block _ (blk_lt e) (by simp))
              have HROWS11 := Lib.hid ((HROWS8.out.keep (w' := w10) (fun q cq e => (HU10.out.block _ (by have := HU9S.out; have := blk_lt e; omega) (by simp)).trans (HK9.out q (blk_lt e)))).jn hu11 HR10.out.at_ (fun _ q => q))
              have HX11 := Lib.hid (HX9.out.keep (w' := w11) HRD.out)
              have HA11 := Lib.hid (HA9.out.keep (w' := w11) HRD.out)
              have HU11 := Lib.hid (HUW10.out.lateJ hu11 HJ.out)
              have HP11 := Lib.hid (PutsOwnB.jn HR10.out.at_ HP10.out hu11 (fun _ q => q))
              clear hu11
              go_wp2_with fail
              go_loopw [26] (fun i wr => ∃ q : Nat, q ≤ lp.length ∧ i = .int .i64 (q : Int) ∧ StrsB wr w8.heap.size (.slice (some ⟨g2, 0, none⟩) L cap2) (hl (putsH H2 (lp.take q)) L) ∧ Upd [g2] w11 wr) (fun i _ => lp.length - (intOf i).toNat)
              case atStart => exact ⟨0, Nat.zero_le _, rfl, HX11.out, Upd.refl _ _⟩
              case round =>
                obtain ⟨q, hq, rfl, hxq, huq⟩ := hrel
                by_cases hltq : q < lp.length
                · have hltq' : decide ((q : Int) < (lp.length : Int)) = true := by simpa using hltq
                  obtain ⟨gx, capx, curx, hvx, hBx, hgx, hccx, hmx, hsx, htx⟩ := hxq.block (by rw [hl_length]; omega)
                  rw [hl_length] at hvx hccx htx
                  obtain ⟨rfl, rfl⟩ : g2 = gx ∧ cap2 = capx := by simpa using hvx
                  have hg11 : ∃ c11, w11.heap[g2]? = some (.cells c11 9 (0, 0)) := by
                    obtain ⟨g', _, c', hv', _, hg', _⟩ := HX11.out.block (by rw [hl_length]; omega)
                    rw [hl_length] at hv'
                    obtain ⟨rfl, _⟩ : g2 = g' ∧ _ := by simpa using hv'
                    exact ⟨_, hg'⟩
                  obtain ⟨c11, hg11⟩ := hg11
                  have hpq : PutsAt wr (.slice a10 lp.length c10) lp := (HP11.out.upd huq (fun q' c' hq' e => by simp at hq'; subst hq'; rw [hg11] at e; simp at e) (fun q' c' hq' _ e => by simp at hq'; subst hq'; rw [hg11] at e; simp at e)).own.at
                  obtain ⟨gp, capp, da, dc, e, hc1, hc2, hrd⟩ := hpq.get q hltq
                  obtain ⟨rfl, rfl⟩ : a10 = some ⟨gp, 0, none⟩ ∧ c10 = capp := by simpa using e
                  obtain ⟨f0, f1, f2⟩ := HFP.out lp[q] (List.getElem_mem hltq)
                  obtain ⟨iN, hiN⟩ := Int.eq_ofNat_of_zero_le f0
                  have HTK : Hid (lp.take (q + 1) = lp.take q ++ [lp[q]]) := by show _ = _; exact List.take_succ_eq_append_getElem hltq
                  have HSET : Hid (hl (putsH H2 (lp.take (q + 1))) L = (hl (putsH H2 (lp.take q)) L).set iN lp[q].2) := by
                    show _ = _
                    rw [HTK.out, hl_put f0, hiN]; rfl
                  rw [hiN] at hc1 f1
                  rw [f2] at hc2 hrd
                  generalize lp[q].2 = s at *
                  have hcv := run_str (w := wr.drew) (hrd.of_block fun _ _ _ _ => rfl) (by omega)
                  have hinL : iN < L := by omega
                  obtain ⟨xa, hxa⟩ : ∃ xa, curx[iN]? = some xa := ⟨curx[iN]'(by omega), Array.getElem?_eq_getElem (by omega)⟩
                  have hca : wr.cell? ⟨g2, iN, none⟩ = some xa := (blk_cell hgx _).trans hxa
                  have hfa := blk_free hgx iN
                  have d1 : decide ((L : Int) ≤ (iN : Int)) = false := by simp; omega
                  have d0 : decide ((iN : Int) < 0) = false := by simp
                  have i0 : (0 : Int) ≤ (q : Int) := by omega
                  have i1 : (q : Int) < (lp.length : Int) := by omega
                  have HST := Lib.hid (strs_set (ss := hl (putsH H2 (lp.take q)) L) hBx hgx (by rw [hl_length]; exact hccx) hmx hsx (by rw [hl_length]; exact htx) iN s)
                  rw [hl_length, ← HSET.out] at HST
                  have HUQ := Lib.hid huq
                  clear hxq huq hvx hBx hgx hccx hmx hsx htx hg11 hpq e hrd f0 f2 hiN hxa HSET
                  go_wp2_with fail
                  go_region
                  all_goals
                    go_wp2_with fail
                    exact ⟨⟨q + 1, by omega, by go_num, (HST.out).upd ((Upd.refl [] _).drew) (by simp), (HUQ.out.set _ (by simp)).drew⟩, by simp [intOf]; omega⟩
                · obtain rfl : q = lp.length := by omega
                  have hltq' : decide ((lp.length : Int) < (lp.length : Int)) = false := by simp
                  rw [List.take_length] at hxq
                  have hg11 : ∃ c11, w11.heap[g2]? = some (.cells c11 9 (0, 0)) := by
                    obtain ⟨g', _, c', hv', _, hg', _⟩ := HX11.out.block (by rw [hl_length]; omega)
                    rw [hl_length] at hv'
                    obtain ⟨rfl, _⟩ : g2 = g' ∧ _ := by simpa using hv'
                    exact ⟨_, hg'⟩
                  obtain ⟨c11, hg11⟩ := hg11
                  have hrq : RowsB wr w.heap.size (.slice (some ⟨gs, os, none⟩) (n + 1) c) vs := HROWS11.out.upd huq (fun q' c' hq' e => by simp at hq'; subst hq'; rw [hg11] at e; simp at e)
                  have hatq : FrAt wr ⟨jb, ab, g⟩ 72 (8 + pR) (1 + ((k + 1 : Nat) : Int)) (2 + 2 * ((k + 1 : Nat) : Int)) H2 (putsH H2 lp) true := HAT11.out.ownT huq hg11 (by decide) (by decide) (by decide) (by decide)
                  have haq := HA11.out.ne huq (by have := HGN.out; have := HG2S.out; omega)
                  have hul : Upd [] w wr := HU11.out.late huq (fun q' hq' => by simp at hq'; subst hq'; exact .inr (by have := HG2S.out; have := HU8.out.size; omega))
                  obtain ⟨aS, cS, wS, hrunS, hrS, hkS, huS, _⟩ := rows_push (w0 := w) (B := w.heap.size) hrq (by rw [HVL.out]; omega) hul.size hul (Nat.le_refl _) (some ⟨g2, 0, none⟩) L cap2
                  rw [HVL.out] at hrunS hrS
                  have keepS : ∀ (q : Nat) (cq : Array Value), wr.heap[q]? = some (.cells cq 9 (0, 0)) → wS.heap[q]? = wr.heap[q]? := fun q cq e => hkS q (blk_lt e) (fun c' e' => by rw [e] at e'; simp at e')
                  have HATS := Lib.hid (hatq.keptT 33 (by decide) (by decide) (by decide) (by decide) hkS)
                  have HXS := Lib.hid ((hxq.lower HU8.out.size).keep (w' := wS) keepS)
                  have HAS := Lib.hid (haq.keep (w' := wS) keepS)
                  have HRS := Lib.hid hrS
                  have HUS := Lib.hid huS
                  clear hxq huq hg11 hrq hatq haq hul hrS hkS huS keepS
                  go_wp2_with (at_builtin; refine wpList_append_run rfl _ _ _ rfl rfl rfl hrunS ?_)
                  have hlen : (vs ++ [Value.slice (some ⟨g2, 0, none⟩) L cap2]).length = n + 1 + 1 := by rw [List.length_append, HVL.out]; rfl
                  have hpl : ∀ i, (putsH H2 lp i).length = 512 := putsH_len HH2.out (fun p hp => (HFP.out p hp).2.2)
                  refine ⟨⟨k + 1, n, true, H2, putsH H2 lp, vs ++ [.slice (some ⟨g2, 0, none⟩) L cap2], aS, cS, by omega, by go_num, by rw [hlen], rfl, by omega, by rw [hlen]; exact HRS.out, ⟨⟨_, _, ?_, HAS.out⟩, .inr ⟨hlen, _, _, ?_, HXS.out⟩⟩, fun q => by simp at q, HATS.out, HH2.out, hpl, HUS.out⟩, by simp [intOf]; omega⟩
                  · rw [List.getElem?_append_left (by rw [HVL.out]; omega)]; exact HVN.out
                  · rw [List.getElem?_append_right (by rw [HVL.out]; omega), HVL.out, Nat.sub_self]; rfl
            · have hx0 : (fitsR 72 (8 + pR) lp != 0) = true := by simpa using hno
              have hx8 : (fitsR 72 (8 + pR) lp != 8) = true := by simpa using fits_errs
              have HR11 := Lib.hid hr11
              have HROWS11 := Lib.hid ((HROWS8.out.keep (w' := w10) (fun q cq e => (HU10.out.block _ (by have := HU9S.out; have := blk_lt e; omega) (by simp)).trans (HK9.out q (blk_lt e)))).jn hu11 HR10.out.at_ (fun _ q => q))
              have HA11 := Lib.hid ((HA9.out.upd HU10.out (by simp)).jn hu11 HR10.out.at_ (fun _ q => q))
              have HU11 := Lib.hid (HUW10.out.lateJ hu11 HJ.out)
              generalize fitsR 72 (8 + pR) lp = x at *
              clear hno hr11 hu11
              go_wp2_with fail
              refine ⟨⟨k + 1, n, false, H2, H2, vs, some ⟨gs, os, none⟩, c, by omega, by go_num, by rw [HVL.out], rfl, by omega, by rw [HVL.out]; exact HROWS11.out, ⟨⟨_, _, HVN.out, HA11.out⟩, .inl ⟨HVL.out, rfl⟩⟩, fun _ => ⟨HVL.out, rfl⟩, ?_, HH2.out, HH2.out, HU11.out⟩, by simp [intOf]; omega⟩
              unfold FrAt; rw [if_neg (by decide)]
              exact ⟨J, D, t, HR11.out.le (by omega), by have := HT.out; omega⟩
          · have hli' : lightB lk = false := by simpa using hli
            rw [hli']
            clear hli hli'
            go_wp2_with fail
            go_ret
            exact ⟨rfl, HU8.out⟩
        · go_wp2_with fail
          refine HDE.out.mono ?_
          rintro e w' ⟨rfl, rfl⟩
          go_wp2_with fail
          go_meet
          exact ⟨n, H, H2, vs, a, c, rfl, rfl, by omega, HROWS.out, HFR.out, HPWX.out, HH.out, HH2.out, HU.out⟩
      · obtain rfl : k = ls.length := by omega
        have hlt' : decide ((ls.length : Int) < (ls.length : Int)) = false := by simp
        go_wp2_with fail
        go_meet
        exact ⟨n, H, H2, vs, a, c, rfl, rfl, by omega, HROWS.out, HFR.out, HPWX.out, HH.out, HH2.out, HU.out⟩
  case rest =>
    obtain ⟨n, H, H2, vs, a, c, rfl, rfl, hn, hrows, hfr, hpw, hH, hH2, hux⟩ := hcut
    have HROWS := Lib.hid hrows
    have HFR := Lib.hid hfr
    have HH := Lib.hid hH
    have HH2 := Lib.hid hH2
    have HPW := Lib.hid hpw
    have HUX := Lib.hid hux
    have HC8 := Lib.hid (pw_hi hpw (.slice au keep.length cu) keep (HK.out.lateS hux (fun q hq => by have := HG.out; simp at hq; rcases hq with rfl | rfl | rfl; exact this.1; exact this.2.1; exact this.2.2)))
    clear hrows hfr hpw hH hH2 hux
    go_wp2_with fail
    refine HC8.out.mono ?_
    rintro e w8 ⟨rfl, ⟨J8, D8, t8, H8, hd8, ht8, hQ⟩, hu8⟩
    obtain ⟨Dp, hdp, _⟩ := id HPW.out
    have HU8 := Lib.hid (HUX.out.lateD hu8 HG.out)
    have HROWS8 := Lib.hid (HROWS.out.dk hdp hu8)
    have HFR8 := Lib.hid (HFR.out.upd hu8 (fun q cq hq e => hdp.notstr e hq))
    have HD8 := Lib.hid hd8
    have HQ8 := Lib.hid hQ
    clear hd8 hu8 hQ hdp
    go_wp2_with fail
    go_loopw [27] (fun i wr => ∃ (k : Nat) (J : Jn) (D : Dk) (t : Int) (H' : Nat → Sec), k ≤ 2 ∧ i = .int .i64 (k : Int) ∧ DsAt wr g J D 72 (8 + pR) t (100 + 2 * (k : Int)) H' ∧ t ≤ 100 ∧ (H' = H ∨ H' = H2) ∧ RowsB wr w.heap.size (.slice a vs.length c) vs ∧ FrRows wr w.heap.size L vs n H H2 ∧ Upd [] w wr) (fun i _ => 2 - (intOf i).toNat)
    case atStart => exact ⟨0, J8, D8, t8, H8, by omega, rfl, HD8.out, ht8, HQ8.out, HROWS8.out, HFR8.out, HU8.out⟩
    case round =>
      obtain ⟨k, J, D, t, H', hk, rfl, hd, ht, hQ, hrows, hfr, hu⟩ := hrel
      have HROWSr := Lib.hid hrows
      have HFRr := Lib.hid hfr
      have HUr := Lib.hid hu
      have HD := Lib.hid hd
      have HQr := Lib.hid hQ
      clear hrows hfr hu hd hQ
      by_cases hlt : k < 2
      · have hlt' : decide ((k : Int) < 2) = true := by simp; omega
        have HAR := Lib.hid (armD_hi HD.out (pB : Int) a6 (by omega))
        go_wp2_with fail
        refine (HPB _).out.mono ?_
        rintro e w' ⟨rfl, rfl⟩
        go_wp2_with fail
        refine HAR.out.mono ?_
        rintro e w9 ⟨rfl, hd9, hu9⟩
        have hu9' : Upd [g.db, g.lb, g.mb] wr w9 := hu9.mono (by simp)
        have HU9 := Lib.hid (HUr.out.lateD hu9' HG.out)
        have HROWS9 := Lib.hid (HROWSr.out.dk HD.out.disk hu9')
        have HFR9 := Lib.hid (HFRr.out.upd hu9' (fun q cq hq e => HD.out.disk.notstr e hq))
        have HOA := Lib.hid (openA_hi hd9 (by omega) (by omega))
        have HD9 := Lib.hid hd9
        clear hd9 hu9 hu9'
        go_wp2_with fail
        refine HOA.out.mono ?_
        rintro e w10 ⟨⟨p10, x10, rfl⟩, hp10, hu10⟩
        have HU10 := Lib.hid (HU9.out.lateD hu10 HG.out)
        have HROWS10 := Lib.hid (HROWS9.out.dk HD9.out.disk hu10)
        have HFR10 := Lib.hid (HFR9.out.upd hu10 (fun q cq hq e => HD9.out.disk.notstr e hq))
        have HP10 := Lib.hid hp10
        have HC10 := Lib.hid (pw_hi hp10 (.slice az more.length cz) more (HQ.out.lateS HU10.out (fun q hq => by have := HG.out; simp at hq; rcases hq with rfl | rfl | rfl; exact this.1; exact this.2.1; exact this.2.2)))
        clear hp10 hu10
        go_wp2_with fail
        refine HC10.out.mono ?_
        rintro e w11 ⟨rfl, ⟨J11, D11, t11, H11, hd11, ht11, hQ11⟩, hu11⟩
        obtain ⟨Dq, hdq, _⟩ := id HP10.out
        have HU11 := Lib.hid (HU10.out.lateD hu11 HG.out)
        have HROWS11 := Lib.hid (HROWS10.out.dk hdq hu11)
        have HFR11 := Lib.hid (HFR10.out.upd hu11 (fun q cq hq e => hdq.notstr e hq))
        have HD11 : Hid (DsAt w11 g J11 D11 72 (8 + pR) t11 (100 + 2 * ((k + 1 : Nat) : Int)) H11) := ⟨hd11.disk, hd11.held, hd11.arm, hd11.n, hd11.ring, hd11.turn, by have := hd11.num; omega, hd11.home⟩
        have HT11 : Hid (t11 ≤ 100) := by show t11 ≤ 100; omega
        have HQ11 : Hid (H11 = H ∨ H11 = H2) := by show _ ∨ _; rw [hQ11]; exact HQr.out
        clear hd11 hu11 hQ11 hdq ht11
        go_wp2_with fail
        exact ⟨⟨k + 1, J11, D11, t11, H11, by omega, by go_num, HD11.out, HT11.out, HQ11.out, HROWS11.out, HFR11.out, HU11.out⟩, by simp [intOf]; omega⟩
      · obtain rfl : k = 2 := by omega
        have HO := Lib.hid (open_hi HD.out (by omega) (by omega))
        have HLEN : Hid (∀ i, (H' i).length = 512) := by
          show ∀ i, (H' i).length = 512
          rcases HQr.out with e | e
          · rw [e]; exact HH.out
          · rw [e]; exact HH2.out
        go_wp2_with fail
        refine HO.out.mono ?_
        rintro e w12 ⟨jbK, abK, rfl, hK1, hK2, ⟨J12, D12, hr12, _⟩, hu12⟩
        have HJK : Hid (JG.Late ⟨jbK, abK, g⟩ w) := ⟨Nat.le_trans HUr.out.size hK1, Nat.le_trans HUr.out.size hK2, HG.out⟩
        have HU12 := Lib.hid (HUr.out.lateD hu12 HG.out)
        have HROWS12 := Lib.hid (HROWSr.out.dk HD.out.disk hu12)
        have HFR12 := Lib.hid (HFRr.out.upd hu12 (fun q cq hq e => HD.out.disk.notstr e hq))
        have HHO12 := Lib.hid (homesL_spec hr12 (by omega) HLEN.out)
        rw [← HLE.out] at HHO12
        have HR12 := Lib.hid hr12
        clear hK1 hK2 hr12 hu12
        go_wp2_with fail
        refine HHO12.out.mono ?_
        rintro e w13 ⟨a13, c13, rfl, hs13, hr13, hu13⟩
        have HU13 := Lib.hid (HU12.out.lateR hu13 HJK.out)
        have HROWS13 := Lib.hid (HROWS12.out.jn hu13 HR12.out.at_ (JG.mem_b ⟨jbK, abK, g⟩))
        have HFR13 := Lib.hid (HFR12.out.upd hu13 (fun q cq hq e => HR12.out.at_.kind e (by decide) (by decide) (by decide) (JG.mem_b ⟨jbK, abK, g⟩ _ hq)))
        have HS13 := Lib.hid hs13
        clear hs13 hr13 hu13
        go_wp2_with fail
        go_loopw [30] (fun i wr => ∃ (q : Nat), i = .int .i64 ((n + q : Nat) : Int) ∧ (q = 0 ∨ (q = 1 ∧ vs.length = n + 2 ∧ H' = H2)) ∧ Upd [] w13 wr) (fun i _ => n + 2 - (intOf i).toNat)
        case atStart => exact ⟨0, rfl, .inl rfl, Upd.refl _ _⟩
        case round =>
          obtain ⟨q, rfl, hq, hu⟩ := hrel
          have HROWSq := Lib.hid (HROWS13.out.upd hu (by simp))
          have HFRq := Lib.hid (HFR13.out.upd hu (by simp))
          have HSq := Lib.hid (HS13.out.upd hu (by simp))
          have HUq := Lib.hid (HU13.out.trans hu)
          have HUq0 := Lib.hid hu
          clear hu
          rcases hq with rfl | ⟨rfl, hvl, hHH⟩
          · obtain ⟨⟨an, cn, hvn, hsn⟩, hor⟩ := HFRq.out
            have hnl : n < vs.length := (List.getElem?_eq_some_iff.1 hvn).1
            obtain ⟨gs, os, rfl, cgs⟩ := HROWSq.out.cell n hnl
            have hvn' : vs[n]'hnl = .slice an L cn := by rw [List.getElem?_eq_getElem hnl] at hvn; exact Option.some.inj hvn
            rw [hvn'] at cgs
            have d1 : decide ((n : Int) < (vs.length : Int)) = true := by simpa using hnl
            have d2 : decide ((n : Int) ≤ (n : Int) + 1) = true := decide_eq_true (by omega)
            have i0 : (0 : Int) ≤ (n : Int) := by omega
            have i1 : (n : Int) < (vs.length : Int) := by omega
            have HAL := Lib.hid (alike_case HSq.out.rd hsn.rd (by rw [hl_length]; omega) (by rw [hl_length]; omega))
            have HOR := Lib.hid hor
            have e0 : ((n + 0 : Nat) : Int) = (n : Int) := by simp
            rw [e0]
            clear hvn hsn hor hnl hvn' e0
            go_wp2_with fail
            refine HAL.out.mono ?_
            rintro e w14 ⟨⟨rfl, _⟩ | ⟨rfl, hno⟩, hu14⟩
            · have HU14 := Lib.hid (HUq.out.trans hu14)
              clear hu14
              go_wp2_with fail
              go_ret
              exact ⟨rfl, HU14.out⟩
            · have HX : Hid (vs.length = n + 2 ∧ H' = H2) := by
                show _ ∧ _
                rcases HQr.out with e | e
                · exact absurd (by rw [e]) hno
                · rcases HOR.out with ⟨_, e2⟩ | ⟨e2, _⟩
                  · exact absurd (by rw [e, e2]) hno
                  · exact ⟨e2, e⟩
              have HU14 := Lib.hid (HUq0.out.trans hu14)
              clear hu14 hno
              go_wp2_with fail
              exact ⟨⟨1, by go_num, .inr ⟨rfl, HX.out.1, HX.out.2⟩, HU14.out⟩, by simp [intOf]⟩
          · obtain ⟨_, hor⟩ := HFRq.out
            obtain ⟨an, cn, hvn, hsn⟩ : ∃ a c, vs[n + 1]? = some (.slice a L c) ∧ StrsB wr w.heap.size (.slice a L c) (hl H2 L) := by
              rcases hor with ⟨e, _⟩ | ⟨_, r⟩
              · omega
              · exact r
            have hnl : n + 1 < vs.length := by omega
            obtain ⟨gs, os, rfl, cgs⟩ := HROWSq.out.cell (n + 1) hnl
            have hvn' : vs[n + 1]'hnl = .slice an L cn := by rw [List.getElem?_eq_getElem hnl] at hvn; exact Option.some.inj hvn
            rw [hvn'] at cgs
            have HAL := Lib.hid (alike_yes (x := hl H2 L) (by rw [← hHH]; exact HSq.out.rd) hsn.rd (by rw [hl_length]; omega))
            obtain ⟨n1, hn1⟩ : ∃ n1, n1 = n + 1 := ⟨_, rfl⟩
            rw [← hn1] at cgs ⊢
            have d1 : decide ((n1 : Int) < (vs.length : Int)) = true := decide_eq_true (by omega)
            have d2 : decide ((n1 : Int) ≤ (n : Int) + 1) = true := decide_eq_true (by omega)
            have i0 : (0 : Int) ≤ (n1 : Int) := by omega
            have i1 : (n1 : Int) < (vs.length : Int) := by omega
            clear hvn hsn hor hnl hvn' hvl hHH hn1
            go_wp2_with fail
            refine HAL.out.mono ?_
            rintro e w14 ⟨rfl, q14, hq14⟩
            have HU14 : Hid (Upd [] w w14) := by show Upd _ _ _; rw [hq14]; exact HUq.out.drewN _
            clear hq14
            go_wp2_with fail
            go_ret
            exact ⟨rfl, HU14.out⟩

end Go.Proofs.Ythbgidiblcokhaa
