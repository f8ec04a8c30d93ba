/-
  sha.Of, walked.
-/
import Derived.Test.YtceakcejchbbjaaGreatShF
set_option linter.unusedSimpArgs false
set_option linter.unusedVariables false
namespace Go.Proofs.YtceakcejchbbjaaGreat
open Go.RowKit Go.MapKept Go.ChangeMaps
attribute [-go_sem] loadCells storeCells Instr.build

theorem RdL.cellW {w : World} {S : List Nat} {a : Option Addr} {n c : Nat} {cs : List Value} (h : RdL w S (.slice a n c) cs) {i : Nat} {x : Value} (hi : cs[i]? = some x) : ∃ b off, b ∉ S ∧ a = some ⟨b, off, none⟩ ∧ w.cell? ⟨b, off + i, none⟩ = some x := by
  obtain ⟨ao, cap, e, hc, hh⟩ := h
  obtain ⟨hlt, hx⟩ := List.getElem?_eq_some_iff.1 hi
  obtain ⟨b, off, hb, hab, hcell⟩ := hh (by omega)
  cases e
  exact ⟨b, off, hb, hab, by rw [hcell i hlt, hx]⟩
theorem Rd.blockW {w : World} {v : Value} {l : List UInt8} (h : Rd w v l) (hp : 0 < l.length) : ∀ a n c, v = .slice (some a) n c → a.block < w.heap.size := by
  obtain ⟨ao, cap, rfl, hc, hh⟩ := h
  obtain ⟨b, off, rfl, hcell⟩ := hh hp
  intro a n c e
  cases e
  exact block_lt_of_cell (hcell 0 hp)
theorem shaOf_eq (b : List UInt8) : shaOf b = (hs0.more b).sum := by unfold shaOf; rfl
/-- Many byte rows. -/
def RdM (w : World) (vs : List Value) (ls : List (List UInt8)) : Prop := vs.length = ls.length ∧ ∀ (i : Nat) x l, vs[i]? = some x → ls[i]? = some l → Rd w x l
theorem flat_le : ∀ (ls : List (List UInt8)) (q : Nat), ((ls.take q).flatten).length ≤ ls.flatten.length
  | [], q => by simp
  | x :: ls, 0 => by simp
  | x :: ls, q + 1 => by have := flat_le ls q; simp only [List.take_succ_cons, List.flatten_cons, List.length_append]; omega
set_option maxRecDepth 100000 in
set_option maxHeartbeats 4000000 in
theorem of_sha {w : World} {v : Value} {vs : List Value} {ls : List (List UInt8)} (hv : RdL w [] v vs) (hm : RdM w vs ls) (hl : ls.flatten.length ≤ 100000000) (hvl : vs.length ≤ 1000) :
    Calls Tryz.prog 161 #[v] w fun e w' => e = .returned (.agg (bts (shaOf ls.flatten)).toArray) ∧ Upd [] w w' := by
  obtain ⟨av, cv, rfl, hcv⟩ : ∃ av cv, v = .slice av vs.length cv ∧ vs.length ≤ cv := by obtain ⟨a, c, e, hc, _⟩ := hv; exact ⟨a, c, e, hc⟩
  obtain ⟨wA, hwA⟩ : ∃ wA, wA = w.alloc (.cells (bts zb32).toArray 35) := ⟨_, rfl⟩
  obtain ⟨b2, hb2⟩ : ∃ b, b = w.heap.size := ⟨_, rfl⟩
  have h2 : wA.heap[b2]? = some (.cells (bts zb32).toArray 35 (0, 0)) := by rw [hwA, hb2]; exact blk_alloc _
  have huA : Upd [] w wA := by rw [hwA]; exact (Upd.refl _ _).alloc _
  have HV := Lib.hid hv
  have HM := Lib.hid hm
  have HWA := Lib.hid hwA
  have HB2 := Lib.hid hb2
  have H2 := Lib.hid h2
  have HUA := Lib.hid huA
  clear hv hm hwA hb2 h2 huA
  go_enter Tryz.func161, Tryz.ntmps161
  go_wp2_with fail
  have hwA := HWA.out
  have hb2 := HB2.out
  rw [zb32_lit, ← hwA, ← hb2]
  clear hwA hb2
  refine (new_sha _).mono ?_
  rintro e wB ⟨b, rfl, hbl, hb, huB⟩
  have HBL := Lib.hid hbl
  have HB := Lib.hid hb
  have HUB := Lib.hid huB
  clear hbl hb huB
  go_wp2_with fail
  go_loopw [9] (fun i wr => ∃ q : Nat, q ≤ vs.length ∧ i = .int .i64 (q : Int) ∧ wr.heap[b]? = some (.cells (hsC (hs0.more (ls.take q).flatten)).toArray 284 (0, 0)) ∧ Upd [b] wB wr) (fun i _ => vs.length - (intOf i).toNat)
  case atStart => exact ⟨0, by omega, rfl, HB.out, Upd.refl _ _⟩
  case round =>
    obtain ⟨q, hq, rfl, hb, hu⟩ := hrel
    rcases Nat.lt_or_ge q vs.length with hlt | hge
    · have hlt' : decide ((q : Int) < (vs.length : Int)) = true := decide_eq_true (by omega)
      have hlt2 : (q : Int) < (vs.length : Int) := by omega
      have gq : (0 : Int) ≤ q := by omega
      have a2 : Upd [] wA wr := HUB.out.late hu (fun k hk => .inr (by have := HBL.out; simp at hk; omega))
      have a1 : Upd [] w wr := HUA.out.trans a2
      obtain ⟨x, hx⟩ : ∃ x, vs[q]? = some x := ⟨_, List.getElem?_eq_getElem hlt⟩
      obtain ⟨l, hlq⟩ : ∃ l, ls[q]? = some l := ⟨_, List.getElem?_eq_getElem (by rw [← HM.out.1]; exact hlt)⟩
      have hrx0 := HM.out.2 q x l hx hlq
      have hrx : Rd wr x l := hrx0.below a1
      obtain ⟨bk, off, _, rfl, hcell0⟩ := HV.out.cellW hx
      have hcell : wr.cell? ⟨bk, off + q, none⟩ = some x := cell_updW hcell0 a1 (by simp)
      have htk : (ls.take (q + 1)).flatten = (ls.take q).flatten ++ l := by rw [List.take_add_one, hlq]; simp
      have hfl := flat_le ls (q + 1)
      rw [htk, List.length_append] at hfl
      have hwr := write_sha hb (by rw [Hs.more_wait]; rfl) hrx (fun hp a n c e => by have := hrx0.blockW hp a n c e; have := HBL.out; have := HUA.out.size; omega) (by rw [Hs.more_n]; show 0 + _ + _ ≤ _; omega)
      rw [← Hs.more_app, ← htk] at hwr
      obtain ⟨ax, cx, rfl, _⟩ := hrx
      have HWR := Lib.hid hwr
      have HU := Lib.hid hu
      have HLT := Lib.hid hlt
      clear hb hu hq hlt a1 a2 hx hlq hrx0 hcell0 htk hfl hwr
      go_wp2_with fail
      refine HWR.out.mono ?_
      rintro e w' ⟨rfl, h', hu'⟩
      have H' := Lib.hid h'
      have HU' := Lib.hid (HU.out.trans hu')
      clear h' hu'
      go_wp2_with fail
      exact ⟨⟨q + 1, by have := HLT.out; omega, by simp, H'.out, HU'.out⟩, by have := HLT.out; simp [intOf]; omega⟩
    · obtain rfl : q = vs.length := by omega
      have hfl := flat_le ls vs.length
      rw [HM.out.1, List.take_length] at hb
      have hsm := sum_sha hb (by rw [Hs.more_wait]; rfl) (by rw [Hs.more_n]; show 0 + _ ≤ _; omega)
      have a2 : Upd [] wA wr := HUB.out.late hu (fun k hk => .inr (by have := HBL.out; simp at hk; omega))
      rw [← shaOf_eq] at hsm
      obtain ⟨R, hR⟩ : ∃ R, R = shaOf ls.flatten := ⟨_, rfl⟩
      have hRl : R.length = 32 := by rw [hR]; exact shaOf_length _
      rw [← hR] at hsm
      have HR := Lib.hid hR
      have HSM := Lib.hid hsm
      have HA2 := Lib.hid a2
      clear hb hu a2 hsm hfl hge hq hR
      go_wp2_with fail
      refine HSM.out.mono ?_
      rintro e w' ⟨rfl, hu'⟩
      have h2' := (hu'.block _ (Nat.lt_of_lt_of_le (blk_lt H2.out) HA2.out.size) (by simp)).trans ((HA2.out.block _ (blk_lt H2.out) (by simp)).trans H2.out)
      have st := store_blkW h2' (l := bts R) (by rw [List.size_toArray, bts_length, bts_length, hRl]; rfl) (bts_one _)
      have hik : (Tryz.prog.info? 35).map (·.size) = some (bts R).toArray.size := by rw [List.size_toArray, bts_length, hRl]; exact infoI32
      have hol : (bts R).length = 32 := by rw [bts_length, hRl]
      have g2 := HB2.out
      have HU9 : Hid (Upd [] w (w'.setRow b2 (bts R).toArray)) := Lib.hid (upd_rowW ((HUA.out.trans HA2.out).trans hu') _ (.inr (by omega)))
      have H2Y := Lib.hid h2'
      clear h2' hu' g2
      go_wp2_with fail
      refine bodyPost_ret (results_cell_row (p := 2) (ty := 35) ?_ _ _ b2 _ _ _ _ ?_ (setRow_heap _ _ _ _ _ _ H2Y.out) Tryz.underlying35 rfl hik) ?_ ?_
      · rfl
      · rfl
      · rfl
      exact ⟨by rw [HR.out], HU9.out⟩
end Go.Proofs.YtceakcejchbbjaaGreat
