/-
  frame's check, walked. Byte rows appended; octet.own, octet.Put. octet.own, octet.Put, walked. frame.Put, walked.
-/
import Derived.Test.YtceakcejchbbjaaGreatShG
section
set_option linter.unusedSimpArgs false
set_option linter.unusedVariables false
namespace Go.Proofs.YtceakcejchbbjaaGreat
open Go.RowKit Go.MapKept Go.ChangeMaps
attribute [-go_sem] loadCells storeCells Instr.build

/-- The first bytes of a hash, as a frame has them. -/
def chk (key b : List UInt8) : List UInt8 := (shaOf (key ++ b)).take 8
theorem chk_length (key b : List UInt8) : (chk key b).length = 8 := by unfold chk; rw [List.length_take, shaOf_length]; rfl
set_option maxRecDepth 100000 in
set_option maxHeartbeats 2000000 in
theorem check_spec {w : World} {va vb : Value} {key b : List UInt8} (ha : Rd w va key) (hb : Rd w vb b) (hl : key.length + b.length ≤ 100000000) :
    Calls Tryz.prog 104 #[va, vb] w fun e w' => ∃ g, e = .returned (.slice (some ⟨g, 0, none⟩) 8 8) ∧ w.heap.size ≤ g ∧ Rd w' (.slice (some ⟨g, 0, none⟩) 8 8) (chk key b) ∧ Upd [] w w' := by
  obtain ⟨wA, hwA⟩ : ∃ wA, wA = w.alloc (.cells #[va, vb] 37) := ⟨_, rfl⟩
  have huA : Upd [] w wA := by rw [hwA]; exact (Upd.refl _ _).alloc _
  have hrl : RdL wA [] (.slice (some ⟨w.heap.size, 0, none⟩) 2 2) [va, vb] := by
    refine ⟨_, _, rfl, Nat.le_refl _, fun _ => ⟨_, _, by simp, rfl, fun i hi => ?_⟩⟩
    rw [hwA, blk_cell (blk_alloc _), Nat.zero_add]
    simp at hi
    rcases (by omega : i = 0 ∨ i = 1) with rfl | rfl <;> rfl
  have hrm : RdM wA [va, vb] [key, b] := ⟨rfl, fun i x l hx hl => by
    have hi := (List.getElem?_eq_some_iff.1 hx).1
    simp at hi
    rcases (by omega : i = 0 ∨ i = 1) with rfl | rfl
    · simp at hx hl; subst hx hl; exact ha.below huA
    · simp at hx hl; subst hx hl; exact hb.below huA⟩
  have hof := of_sha hrl hrm (by simp; omega) (by simp)
  rw [show ([key, b] : List (List UInt8)).flatten = key ++ b by simp] at hof
  obtain ⟨R, hR⟩ : ∃ R, R = shaOf (key ++ b) := ⟨_, rfl⟩
  have hRl : R.length = 32 := by rw [hR]; exact shaOf_length _
  rw [← hR, hwA] at hof
  have hck : chk key b = R.take 8 := by rw [hR]; rfl
  have HOF := Lib.hid hof
  have HCK := Lib.hid hck
  have HUA := Lib.hid huA
  have HWA := Lib.hid hwA
  clear hof hrl hrm huA hwA hR hck
  obtain ⟨aa, ca, rfl, _⟩ := ha
  obtain ⟨ab, cb, rfl, _⟩ := hb
  go_enter Tryz.func104, Tryz.ntmps104
  go_wp2_with fail
  refine HOF.out.mono ?_
  rintro e w1 ⟨rfl, hu1⟩
  have hwA := HWA.out
  have hb5 : (w1.alloc (.cells (bts zb32).toArray 35)).heap[w1.heap.size]? = some (.cells (bts zb32).toArray 35 (0, 0)) := blk_alloc _
  have st := store_blkW hb5 (l := bts R) (by rw [List.size_toArray, bts_length, bts_length, hRl]; rfl) (bts_one _)
  have hset := setRow_heap _ _ _ (bts R).toArray 35 (0, 0) hb5
  rw [← zb32_lit] at st
  have hol : (bts R).length = 32 := by rw [bts_length, hRl]
  have HSET := Lib.hid hset
  have HU1 := Lib.hid hu1
  clear hset hu1 hb5 hwA
  go_wp2_with fail
  rw [zb32_lit]
  go_ret
  refine ⟨_, rfl, ?_, ?_, ?_⟩
  · exact Nat.le_trans HUA.out.size (by have := HU1.out.size; have e := HWA.out; rw [e]; exact this)
  · rw [HCK.out]
    refine ⟨_, _, by rw [List.length_take, hRl]; rfl, by rw [List.length_take, hRl]; decide, fun _ => ⟨_, _, rfl, fun i hi => ?_⟩⟩
    rw [blk_cell HSET.out, List.getElem?_toArray, Nat.zero_add, bts_get]
    rw [List.length_take, hRl] at hi
    rw [List.getElem?_eq_getElem (by omega), List.getElem_take]
    rfl
  · have h1 : Upd [] w w1 := by have e := HWA.out; have := HU1.out; rw [← e] at this; exact HUA.out.trans this
    exact upd_rowW (h1.alloc _) _ (.inr h1.size)
end Go.Proofs.YtceakcejchbbjaaGreat
end

section
set_option linter.unusedSimpArgs false
set_option linter.unusedVariables false
namespace Go.Proofs.YtceakcejchbbjaaGreat
open Go.RowKit Go.MapKept Go.ChangeMaps

attribute [local go_sem] loadCells storeCells
theorem append_noneB {w : World} {a : Option Addr} {n c c2 : Nat} (hn : n ≤ c) (ty : TypeId) : (Builtin.append_ #[37, 37] ty #[.slice a n c, .slice none 0 c2]).run Tryz.prog w = .ok (.slice a n c) w := by
  obtain ⟨i0, hi, hz, hz1, hz2⟩ := info_parts infoU8
  cases a <;> simp [Builtin.append_, run_underlying Tryz.underlying37, sizeOf, typeInfo, zeroValue, hi, hz, Builtin.lenOf, hn, Question.forced, run_firstCells_none, storeCells]
/-- A row of bytes of one's own, from a block at or beyond B. -/
def BRow (w : World) (B : Nat) (v : Value) (l : List UInt8) : Prop := w.ownsRow B 5 1 v l.length (bts l)
theorem BRow.nil (w : World) (B : Nat) : BRow w B (.slice none 0 0) [] := World.ownsRow_nil _ _ _ _
theorem BRow.shape {w : World} {B : Nat} {v : Value} {l : List UInt8} (h : BRow w B v l) : ∃ a c, v = .slice a l.length c ∧ l.length ≤ c ∧ (0 < l.length → ∃ g, a = some ⟨g, 0, none⟩ ∧ B ≤ g) := by
  rcases h.2 with ⟨rfl, h0⟩ | ⟨g, cap, cur, rfl, hb, hg, hc, _⟩
  · exact ⟨none, 0, by rw [h0], by omega, fun q => by omega⟩
  · exact ⟨_, _, rfl, hc, fun _ => ⟨g, rfl, hb⟩⟩
theorem BRow.keep {w w' : World} {B : Nat} {v : Value} {l : List UInt8} (h : BRow w B v l) (hu : Upd [] w w') : BRow w' B v l := by
  refine ⟨h.1, ?_⟩
  rcases h.2 with h | ⟨g, cap, cur, hv, hb, hg, r⟩
  · exact .inl h
  · exact .inr ⟨g, cap, cur, hv, hb, (hu.block g (blk_lt hg) (by simp)).trans hg, r⟩
theorem BRow.rd {w : World} {B : Nat} {v : Value} {l : List UInt8} (h : BRow w B v l) : Rd w v l := (ownN_of_row h).rd
theorem bytes_app {w : World} {B : Nat} {v x : Value} {l lx : List UInt8} (hp : BRow w B v l) (hx : Rd w x lx) (hln : l.length + lx.length ≤ 100000) (hB : B ≤ w.heap.size) :
    ∃ a c w', (∀ ty, (Builtin.append_ #[37, 37] ty #[v, x]).run Tryz.prog w = .ok (.slice a (l.length + lx.length) c) w') ∧ BRow w' B (.slice a (l.length + lx.length) c) (l ++ lx) ∧
      (∀ w0 : World, w0.heap.size ≤ B → Upd [] w0 w → Upd [] w0 w') := by
  obtain ⟨ao, cap, rfl, hcx, hh⟩ := hx.cells
  obtain ⟨i0, hi0, hz0, hz1, hz2⟩ := info_parts infoU8
  by_cases hao : ao = none
  · subst hao
    have h0 : lx.length = 0 := by
      rcases Nat.eq_zero_or_pos lx.length with q | q
      · exact q
      · obtain ⟨_, e, _⟩ := hh q; cases e
    obtain rfl : lx = [] := List.length_eq_zero_iff.1 h0
    obtain ⟨a, c, rfl, hc, _⟩ := hp.shape
    exact ⟨a, c, w, fun ty => append_noneB hc ty, by rw [List.append_nil]; exact hp, fun _ _ h => h⟩
  · obtain ⟨ad, rfl⟩ : ∃ ad, ao = some ad := by cases ao with | none => exact absurd rfl hao | some ad => exact ⟨ad, rfl⟩
    obtain ⟨v', w', hrun, hown, hg, _⟩ := run_append_own (P := Tryz.prog) w B 37 0 5 i0 (.int .u8 0) 1 1 Tryz.underlying37 hi0 hz0 hz1 hz2 rfl (by decide) v l.length _ hp ad lx.length cap (bts lx) (by rw [bts_length, Nat.mul_one])
      (fun k u hj => by
        obtain ⟨ad', e, hc⟩ := hh (by have := (List.getElem?_eq_some_iff.1 hj).1; rw [bts_length] at this; omega)
        cases e; exact hc k u hj) (bts_one _) (by unfold maxLen; omega) (by omega) hB
    have hsh : ∃ a c, v' = .slice a (l.length + lx.length) c := by
      rcases hown.2 with ⟨h, h0⟩ | ⟨g, cap, cur, h, _⟩
      · exact ⟨none, 0, by rw [h, h0]⟩
      · exact ⟨_, _, h⟩
    obtain ⟨a, c', rfl⟩ := hsh
    refine ⟨a, c', w', fun _ => hrun, ?_, fun w0 h0 hu => ?_⟩
    · unfold BRow
      rw [List.length_append, show bts (l ++ lx) = bts l ++ bts lx by simp [bts]]
      exact hown
    · refine ⟨hg.os.trans hu.os, hg.tape.trans hu.tape, hg.output.trans hu.output, Nat.le_trans hu.size hg.size, fun k hk hs => ?_⟩
      have hk2 : k < w.heap.size := Nat.lt_of_lt_of_le hk hu.size
      rw [hg.block k hk2 (fun e => ?_)]
      · exact hu.block k hk hs
      · rcases hp.2 with ⟨rfl, _⟩ | ⟨g, cap, cur, rfl, hb, _⟩
        · simp [Value.ownBlock] at e
        · simp [Value.ownBlock] at e; omega
end Go.Proofs.YtceakcejchbbjaaGreat
end

section
set_option linter.unusedSimpArgs false
set_option linter.unusedVariables false
namespace Go.Proofs.YtceakcejchbbjaaGreat
open Go.RowKit Go.MapKept Go.ChangeMaps

set_option maxHeartbeats 1000000 in
theorem ownn_spec {w : World} {v : Value} {l : List UInt8} (hr : Rd w v l) (n : Nat) (hl : l.length + n ≤ 50000) :
    Calls Tryz.prog 160 #[v, .int .i64 (n : Int)] w fun e w' => ∃ a c, e = .returned (.slice a l.length c) ∧ BRow w' w.heap.size (.slice a l.length c) l ∧ Upd [] w w' := by
  obtain ⟨C, hC⟩ : ∃ C, C = l.length + n := ⟨_, rfl⟩
  have hmk := run_make_cap C (by omega) w
  have hrow : BRow (w.alloc (.cells (bts (List.replicate C 0)).toArray 5)) w.heap.size (.slice (some ⟨w.heap.size, 0, none⟩) 0 C) [] :=
    ⟨by simp, .inr ⟨w.heap.size, C, _, rfl, Nat.le_refl _, blk_alloc _, by simp, by unfold maxLen; omega, by simp, by simp⟩⟩
  obtain ⟨a, c, w', hrun, hown, hu⟩ := bytes_app hrow (hr.alloc _) (by simp; omega) (by simp)
  rw [List.length_nil, Nat.zero_add, List.nil_append] at hown
  rw [List.length_nil, Nat.zero_add] at hrun
  have hu2 := hu w (Nat.le_refl _) ((Upd.refl _ _).alloc _)
  have HO := Lib.hid hown
  have HU := Lib.hid hu2
  have eC : IntKind.i64.wrap ((l.length : Int) + (n : Int)) = (C : Int) := by rw [IntKind.wrap_i64]; omega
  have g1 : (0 : Int) ≤ C := by omega
  obtain ⟨av, cv, rfl, _⟩ := hr
  clear hC hown hu hu2 hrow
  generalize (bts (List.replicate C 0)).toArray = Z at *
  go_enter Tryz.func160, Tryz.ntmps160
  go_wp2_with (at_builtin; refine wpList_append_run rfl _ _ _ rfl rfl rfl hrun ?_)
  go_ret
  exact ⟨_, _, rfl, HO.out, HU.out⟩
theorem be_four (V : Nat) : be 4 V = [UInt8.ofNat (V / 16777216), UInt8.ofNat (V / 65536), UInt8.ofNat (V / 256), UInt8.ofNat (V / 1)] := by rfl
set_option maxRecDepth 100000 in
set_option maxHeartbeats 2000000 in
theorem put4_spec {w : World} {v : Value} {l : List UInt8} (hr : Rd w v l) (hl : l.length ≤ 10000) (V : Nat) (hV : V < 4294967296) :
    Calls Tryz.prog 103 #[v, .int .u64 (V : Int), .int .i64 4] w fun e w' => ∃ a c, e = .returned (.tuple #[.slice a (l.length + 4) c, .int .i64 0]) ∧ BRow w' w.heap.size (.slice a (l.length + 4) c) (l ++ be 4 V) ∧ Upd [] w w' := by
  have HO := Lib.hid (ownn_spec hr 4 (by omega))
  have hz : (V : Int) / 4294967296 = 0 := by omega
  have HV := Lib.hid hV
  clear hV
  obtain ⟨av, cv, rfl, _⟩ := hr
  go_enter Tryz.func103, Tryz.ntmps103
  go_wp2_with fail
  refine HO.out.mono ?_
  rintro e w1 ⟨a1, c1, rfl, h1, hu1⟩
  have H1 := Lib.hid h1
  have HU1 := Lib.hid hu1
  clear h1 hu1
  go_wp2_with fail
  go_loopw [8, 9] (fun s8 s9 wr => ∃ q : Nat, q ≤ 4 ∧ s9 = .int .i64 (3 - (q : Int)) ∧ (∃ a c, s8 = .slice a (l.length + q) c ∧ BRow wr w.heap.size (.slice a (l.length + q) c) (l ++ (be 4 V).take q)) ∧ Upd [] w wr) (fun _ s9 _ => (intOf s9 + 1).toNat)
  case atStart => exact ⟨0, by omega, rfl, ⟨_, _, rfl, by rw [List.take_zero, List.append_nil]; exact H1.out⟩, HU1.out⟩
  case round =>
    obtain ⟨q, hq, rfl, ⟨a, c, rfl, hb⟩, hu⟩ := hrel
    obtain ⟨m, hm⟩ : ∃ m, m = l.length + q := ⟨_, rfl⟩
    rw [← hm] at hb ⊢
    have step : ∀ (x : Nat) (xi : Int), xi = (x : Int) → x < 256 → q < 4 → (be 4 V)[q]? = some (UInt8.ofNat x) → ∃ a' c' w', (∀ ty, (Builtin.append_ #[37, 37] ty #[.slice a m c, .slice (some ⟨wr.heap.size, 0, none⟩) 1 1]).run Tryz.prog (wr.alloc (.cells #[.int .u8 xi] 5)) = .ok (.slice a' (m + 1) c') w') ∧
        BRow w' w.heap.size (.slice a' (l.length + (q + 1)) c') (l ++ (be 4 V).take (q + 1)) ∧ Upd [] w w' := fun x xi hxi hx hq4 hbe => by
      have hlen : (l ++ (be 4 V).take q).length = m := by rw [List.length_append, List.length_take, be_length]; omega
      have hb2 : BRow wr w.heap.size (.slice a (l ++ (be 4 V).take q).length c) (l ++ (be 4 V).take q) := by rw [hlen]; exact hb
      obtain ⟨a', c', w', hrun, hown, hu'⟩ := bytes_app (hb2.keep ((Upd.refl [] wr).alloc (.cells #[.int .u8 xi] 5))) (one_rd wr x xi hxi hx) (by rw [hlen]; simp; omega) (by have := hu.size; simp; omega)
      rw [hlen] at hrun hown
      refine ⟨a', c', w', hrun, ?_, hu' w (Nat.le_refl _) (hu.alloc _)⟩
      rw [List.take_add_one, hbe, show l.length + (q + 1) = m + 1 by omega]
      simpa [List.append_assoc] using hown
    have HBR := Lib.hid hb
    have HU := Lib.hid hu
    have HM := Lib.hid hm
    rcases (by omega : q = 0 ∨ q = 1 ∨ q = 2 ∨ q = 3 ∨ q = 4) with rfl | rfl | rfl | rfl | rfl
    · obtain ⟨a', c', w', hrun, hown, hu'⟩ := step (V / 16777216) ((V : Int) / 16777216) (by omega) (by have := HV.out; omega) (by omega) (by rw [be_four]; rfl)
      have HOW := Lib.hid hown
      have HU' := Lib.hid hu'
      clear hb hu step hown hu' hm hq
      go_wp2_with (at_builtin; refine wpList_append_run rfl _ _ _ rfl rfl rfl hrun ?_)
      have hm := HM.out
      exact ⟨⟨1, by omega, rfl, ⟨_, _, by rw [hm], HOW.out⟩, HU'.out⟩, by simp [intOf]⟩
    · obtain ⟨a', c', w', hrun, hown, hu'⟩ := step (V / 65536 % 256) ((V : Int) / 65536 % 256) (by omega) (by omega) (by omega) (by rw [be_four]; show some _ = some _; congr 1; apply UInt8.toNat_inj.1; rw [UInt8.toNat_ofNat', UInt8.toNat_ofNat']; omega)
      have HOW := Lib.hid hown
      have HU' := Lib.hid hu'
      clear hb hu step hown hu' hm hq
      go_wp2_with (at_builtin; refine wpList_append_run rfl _ _ _ rfl rfl rfl hrun ?_)
      have hm := HM.out
      exact ⟨⟨2, by omega, rfl, ⟨_, _, by rw [hm], HOW.out⟩, HU'.out⟩, by simp [intOf]⟩
    · obtain ⟨a', c', w', hrun, hown, hu'⟩ := step (V / 256 % 256) ((V : Int) / 256 % 256) (by omega) (by omega) (by omega) (by rw [be_four]; show some _ = some _; congr 1; apply UInt8.toNat_inj.1; rw [UInt8.toNat_ofNat', UInt8.toNat_ofNat']; omega)
      have HOW := Lib.hid hown
      have HU' := Lib.hid hu'
      clear hb hu step hown hu' hm hq
      go_wp2_with (at_builtin; refine wpList_append_run rfl _ _ _ rfl rfl rfl hrun ?_)
      have hm := HM.out
      exact ⟨⟨3, by omega, rfl, ⟨_, _, by rw [hm], HOW.out⟩, HU'.out⟩, by simp [intOf]⟩
    · obtain ⟨a', c', w', hrun, hown, hu'⟩ := step (V / 1 % 256) ((V : Int) % 256) (by omega) (by omega) (by omega) (by rw [be_four]; show some _ = some _; congr 1; apply UInt8.toNat_inj.1; rw [UInt8.toNat_ofNat', UInt8.toNat_ofNat']; omega)
      have HOW := Lib.hid hown
      have HU' := Lib.hid hu'
      clear hb hu step hown hu' hm hq
      go_wp2_with (at_builtin; refine wpList_append_run rfl _ _ _ rfl rfl rfl hrun ?_)
      have hm := HM.out
      exact ⟨⟨4, by omega, rfl, ⟨_, _, by rw [hm], HOW.out⟩, HU'.out⟩, by simp [intOf]⟩
    · have hT : l ++ (be 4 V).take 4 = l ++ be 4 V := by rw [List.take_of_length_le (by rw [be_length]; omega)]
      rw [hT] at HBR
      clear hb hu step hq hT
      go_wp2_with fail
      go_ret2
      have hm := HM.out
      subst hm
      exact ⟨_, _, rfl, HBR.out, HU.out⟩
end Go.Proofs.YtceakcejchbbjaaGreat
end

section
set_option linter.unusedSimpArgs false
set_option linter.unusedVariables false
namespace Go.Proofs.YtceakcejchbbjaaGreat
open Go.RowKit Go.MapKept Go.ChangeMaps
attribute [-go_sem] loadCells storeCells Instr.build

/-- A frame. -/
def frameB (key b : List UInt8) : List UInt8 := [199, 70] ++ be 4 b.length ++ chk key b ++ key ++ b
theorem frameB_length {key b : List UInt8} (hk : key.length = 32) : (frameB key b).length = 46 + b.length := by
  unfold frameB
  simp only [List.length_append, be_length, chk_length, hk]
  rfl
theorem BRow.low {w : World} {B B' : Nat} {v : Value} {l : List UInt8} (h : BRow w B v l) (hB : B' ≤ B) : BRow w B' v l := by
  refine ⟨h.1, ?_⟩
  rcases h.2 with h | ⟨g, cap, cur, hv, hb, r⟩
  · exact .inl h
  · exact .inr ⟨g, cap, cur, hv, Nat.le_trans hB hb, r⟩
theorem rd_blk {w : World} {b : Nat} {l : List UInt8} {T : TypeId} {n : Nat} (h : w.heap[b]? = some (.cells (bts l).toArray T (0, 0))) (hn : l.length = n) : Rd w (.slice (some ⟨b, 0, none⟩) n n) l := by
  subst hn
  refine ⟨_, _, rfl, Nat.le_refl _, fun _ => ⟨_, _, rfl, fun i hi => ?_⟩⟩
  rw [blk_cell h, List.getElem?_toArray, Nat.zero_add, bts_get, List.getElem?_eq_getElem hi]; rfl
set_option maxRecDepth 100000 in
set_option maxHeartbeats 2000000 in
theorem put_frame {w : World} {v : Value} {key b : List UInt8} (hr : Rd w v b) (hk : key.length = 32) (hb : b.length ≤ 4200) :
    Calls Tryz.prog 59 #[.agg (bts key).toArray, v] w fun e w' => ∃ a c, e = .returned (.tuple #[.slice a (46 + b.length) c, .int .i64 0]) ∧ BRow w' w.heap.size (.slice a (46 + b.length) c) (frameB key b) ∧ Upd [] w w' := by
  obtain ⟨w1, hw1⟩ : ∃ w1, w1 = w.alloc (.cells (bts key).toArray 35) := ⟨_, rfl⟩
  obtain ⟨kb, hkb⟩ : ∃ k, k = w.heap.size := ⟨_, rfl⟩
  have hc1 : w1.heap[kb]? = some (.cells (bts key).toArray 35 (0, 0)) := by rw [hw1, hkb]; exact blk_alloc _
  have hu1 : Upd [] w w1 := by rw [hw1]; exact (Upd.refl _ _).alloc _
  obtain ⟨w2, hw2⟩ : ∃ w2, w2 = w1.alloc (.cells #[.int .u8 199, .int .u8 70] 5) := ⟨_, rfl⟩
  have hu2 : Upd [] w1 w2 := by rw [hw2]; exact (Upd.refl _ _).alloc _
  have hr2 : Rd w2 (.slice (some ⟨w1.heap.size, 0, none⟩) 2 2) [199, 70] := rd_blk (b := w1.heap.size) (T := 5) (by rw [hw2]; exact blk_alloc _) rfl
  have hp4 := put4_spec hr2 (by simp) b.length (by omega)
  have hsz1 : w1.heap.size = w.heap.size + 1 := by rw [hw1]; simp
  rw [hsz1, hw2, hw1] at hp4
  have HP4 := Lib.hid hp4
  have HR := Lib.hid hr
  have HC1 := Lib.hid hc1
  have HU2 := Lib.hid (hu1.trans hu2)
  have HU1 := Lib.hid hu1
  have HU12 := Lib.hid hu2
  have HW1 := Lib.hid hw1
  have HW2 := Lib.hid hw2
  have HKB := Lib.hid hkb
  have hn0 : decide ((4200 : Int) < (b.length : Int)) = false := decide_eq_false (by omega)
  have hn1 : decide (4200 < b.length) = false := decide_eq_false (by omega)
  have hwl : IntKind.u64.wrap (b.length : Int) = (b.length : Int) := by rw [IntKind.wrap_u64]; omega
  have hkl : (bts key).length = 32 := by rw [bts_length, hk]
  obtain ⟨av, cv, rfl, _⟩ := hr
  clear hc1 hu1 hu2 hr2 hp4 hw1 hw2 hkb
  go_enter Tryz.func59, Tryz.ntmps59
  go_wp2_with fail
  refine HP4.out.mono ?_
  rintro e w3 ⟨a3, c3, rfl, h3, hu3⟩
  have hw1 := HW1.out
  have hw2 := HW2.out
  have hkb := HKB.out
  rw [← hw1, ← hw2] at h3 hu3
  have hk3 : w3.heap[kb]? = some (.cells (bts key).toArray 35 (0, 0)) := by
    have hlt := blk_lt HC1.out
    exact (hu3.block _ (Nat.lt_of_lt_of_le hlt HU12.out.size) (by simp)).trans ((HU12.out.block _ hlt (by simp)).trans HC1.out)
  have hck := check_spec (rd_blk hk3 hk) (HR.out.below (HU2.out.trans hu3)) (by omega)
  have HCK := Lib.hid hck
  have H3 := Lib.hid h3
  have HU3 := Lib.hid hu3
  have HK3 := Lib.hid hk3
  rw [hkb] at HCK
  clear h3 hu3 hk3 hck hw1 hw2 hkb
  go_wp2_with fail
  refine HCK.out.mono ?_
  rintro e w4 ⟨g, rfl, hg, hr4, hu4⟩
  have hsz2 : w2.heap.size ≤ w4.heap.size := Nat.le_trans HU3.out.size hu4.size
  have h3' : BRow w3 w2.heap.size (.slice a3 ([199, 70] ++ be 4 b.length).length c3) ([199, 70] ++ be 4 b.length) := by
    have := H3.out; simpa [be_length] using this
  obtain ⟨a5, c5, w5, hrun5, h5, hu5⟩ := bytes_app (h3'.keep hu4) hr4 (by simp [be_length, chk_length]) hsz2
  have hw25 : Upd [] w2 w5 := hu5 w2 (Nat.le_refl _) (HU3.out.trans hu4)
  have hk5 : w5.heap[kb]? = some (.cells (bts key).toArray 35 (0, 0)) := by
    have hlt := blk_lt HC1.out
    exact (hw25.block _ (Nat.lt_of_lt_of_le hlt HU12.out.size) (by simp)).trans ((HU12.out.block _ hlt (by simp)).trans HC1.out)
  have h5' : BRow w5 w2.heap.size (.slice a5 ([199, 70] ++ be 4 b.length ++ chk key b).length c5) ([199, 70] ++ be 4 b.length ++ chk key b) := by rw [List.length_append]; exact h5
  obtain ⟨a6, c6, w6, hrun6, h6, hu6⟩ := bytes_app h5' (rd_blk hk5 hk) (by simp [be_length, chk_length, hk]) hw25.size
  have hw26 : Upd [] w2 w6 := hu6 w2 (Nat.le_refl _) hw25
  have h6' : BRow w6 w2.heap.size (.slice a6 ([199, 70] ++ be 4 b.length ++ chk key b ++ key).length c6) ([199, 70] ++ be 4 b.length ++ chk key b ++ key) := by rw [List.length_append]; exact h6
  obtain ⟨a7, c7, w7, hrun7, h7, hu7⟩ := bytes_app h6' (HR.out.below (HU2.out.trans hw26)) (by simp [be_length, chk_length, hk]; omega) hw26.size
  have hw27 : Upd [] w2 w7 := hu7 w2 (Nat.le_refl _) hw26
  have e5 : ([199, 70] ++ be 4 b.length : List UInt8).length + (chk key b).length = 14 := by simp [be_length, chk_length]
  have e6 : ([199, 70] ++ be 4 b.length ++ chk key b : List UInt8).length + key.length = 46 := by simp [be_length, chk_length, hk]
  have e7 : ([199, 70] ++ be 4 b.length ++ chk key b ++ key : List UInt8).length + b.length = 46 + b.length := by simp [be_length, chk_length, hk]
  have e3 : ([199, 70] ++ be 4 b.length : List UInt8).length = 6 := by simp [be_length]
  rw [e5, e3] at hrun5
  rw [e6, List.length_append, e5] at hrun6
  rw [e7, List.length_append, e6] at hrun7
  rw [e7] at h7
  have HF := Lib.hid (h7.low HU2.out.size)
  have HUF := Lib.hid (HU2.out.trans hw27)
  rw [HKB.out] at hrun6
  clear hr4 hu4 hsz2 h3' h5 hu5 hw25 hk5 h5' h6 hu6 hw26 h6' h7 hu7 hw27 e5 e6 e7 e3
  go_wp2_with (at_builtin; first | (refine wpList_append_run rfl _ _ _ rfl rfl rfl hrun5 ?_; clear hrun5) | (refine wpList_append_run rfl _ _ _ rfl rfl rfl hrun6 ?_; clear hrun6) | (refine wpList_append_run rfl _ _ _ rfl rfl rfl hrun7 ?_; clear hrun7))
  go_ret2
  exact ⟨_, _, rfl, HF.out, HUF.out⟩
end Go.Proofs.YtceakcejchbbjaaGreat
end
