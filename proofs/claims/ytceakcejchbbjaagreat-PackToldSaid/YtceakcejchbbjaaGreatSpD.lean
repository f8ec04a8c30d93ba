/-
  space.taken, turn, Take, Taken, Free, Left.
-/
import Derived.Test.YtceakcejchbbjaaGreatSpB
namespace Go.Proofs.YtceakcejchbbjaaGreat
open Go.RowKit Go.MapKept Go.ChangeMaps

theorem own_set512 {w : World} {k c : Nat} {F : Nat → Prop} {l : List UInt8} (h : Own w 5 F (.slice (some ⟨k, 0, none⟩) 512 c) l) (hl : l.length = 512) {q : Nat} (hq : q < 512) {y : Nat} (hy : y < 256) : Own (w.setCell ⟨k, q, none⟩ (.int .u8 (y : Int))) 5 F (.slice (some ⟨k, 0, none⟩) 512 c) (l.set q (UInt8.ofNat y)) := by
  rw [← hl] at h hq ⊢
  exact own_set h hq hy
theorem Own.block512 {w : World} {k c : Nat} {F : Nat → Prop} {l : List UInt8} (h : Own w 5 F (.slice (some ⟨k, 0, none⟩) 512 c) l) : F k := by
  obtain ⟨k', _, hF, e, _⟩ := h
  obtain ⟨rfl, _⟩ : k = k' ∧ _ := by simpa using e
  exact hF
theorem Own.cell512 {w : World} {k c : Nat} {F : Nat → Prop} {l : List UInt8} (h : Own w 5 F (.slice (some ⟨k, 0, none⟩) 512 c) l) (hl : l.length = 512) {q : Nat} (hq : q < 512) : w.cell? ⟨k, q, none⟩ = some (.int .u8 ((l.getD q 0).toNat : Int)) ∧ w.frozen? ⟨k, q, none⟩ = false := by
  obtain ⟨k', rest, _, e, hb⟩ := h
  obtain ⟨rfl, _⟩ : k = k' ∧ _ := by simpa using e
  refine ⟨?_, blk_free hb q⟩
  rw [blk_cell hb, List.getD_eq_getElem?_getD, List.getElem?_eq_getElem (by omega)]
  simp [List.getElem?_append_left, bts, show q < l.length from by omega, bv]

set_option maxHeartbeats 1000000 in
theorem taken_spec {w : World} {g : Sg} {M : Nat → Option Sec} (h : SpAt w g M) (hh : 1 < g.h) :
    Calls Tryz.prog 69 #[.pointer (some ⟨g.x.tb, 0, none⟩)] w fun e w' => ∃ k c, e = .returned (.tuple #[.slice (some ⟨k, 0, none⟩) 512 c, .int .i64 0]) ∧ Own w' 5 (fun k => w.heap.size ≤ k) (.slice (some ⟨k, 0, none⟩) 512 c) (fixB (g.cur M 1)) ∧ SpAt w' g M ∧ Upd [g.j.jb] w w' := by
  have HR : Hid (Calls Tryz.prog 106 #[.pointer (some ⟨g.x.tb, 0, none⟩), .int .i64 1] w fun e w' => ∃ v, e = .returned (.tuple #[v, .int .i64 0]) ∧ OwnN w' 5 (fun k => w.heap.size ≤ k) v (g.cur M 1) ∧ SpAt w' g M ∧ Upd [g.j.jb] w w') := Lib.hid (readS h 1 hh)
  have hl := h.cur_len 1
  have H := Lib.hid h
  clear h hh
  generalize g.cur M 1 = L at *
  go_enter Tryz.func69, Tryz.ntmps69
  go_wp2_with fail
  refine HR.out.mono ?_
  rintro e w1 ⟨v, rfl, ho, h1, hu⟩
  obtain ⟨k, c, rfl, _, hk, -⟩ := ho.sec hl
  have ho1 := ho.own (by omega)
  obtain ⟨hc, hf⟩ := ho1.cell512 hl (q := 0) (by omega)
  obtain ⟨x, hx⟩ : ∃ x, x = (L.getD 0 0).toNat := ⟨_, rfl⟩
  rw [← hx] at hc
  have hx8 : x < 256 := by rw [hx]; exact UInt8.toNat_lt _
  obtain ⟨y, hy⟩ : ∃ y, y = x ||| 15 := ⟨_, rfl⟩
  have hor : bits BinOp.or IntKind.u8 (x : Int) 15 = (y : Int) := by rw [show (15 : Int) = ((15 : Nat) : Int) from rfl, u8_or_nat x 15 hx8 (by decide), hy]
  have hy8 : y < 256 := by rw [hy]; exact Nat.or_lt_two_pow (n := 8) hx8 (by decide)
  have o2 := own_set512 ho1 hl (q := 0) (by omega) hy8
  have u2 : Upd [k] w1 (w1.setCell ⟨k, 0, none⟩ (.int .u8 (y : Int))) := (Upd.refl _ _).set _ (by simp)
  have HFX : Hid (fixB L = L.set 0 (UInt8.ofNat y)) := by show _ = _; unfold fixB; rw [hy, hx]
  have H2 := Lib.hid (H.out.late h1 hu u2 (fun q hq => by simp at hq; subst hq; exact hk))
  have HO2 := Lib.hid o2
  have HU2 := Lib.hid (hu.late u2 (fun q hq => by simp at hq; subst hq; exact .inr hk))
  clear ho ho1 h1 hu hx hy o2 u2
  go_wp2_with fail
  go_ret2
  exact ⟨_, _, rfl, by rw [HFX.out]; exact HO2.out, H2.out, HU2.out⟩

set_option maxHeartbeats 1000000 in
theorem turn_spec8 {w : World} {g : Sg} {M : Nat → Option Sec} (h : SpAt w g M) (hh : 1 < g.h) (v : Value) (l : List UInt8) (hr : Rd w v l) (hl : l.length = 512) (s n : Nat) (si : Int) (hsi : si = (s : Int)) (on : Bool) (hn : s + n ≤ 4096) (hc : (M 1).isSome = true ∨ cntM M g.h < 40) :
    Calls Tryz.prog 93 #[.pointer (some ⟨g.x.tb, 0, none⟩), v, .int .i64 si, .int .i64 (n : Int), .bool on] w fun e w' => e = .returned (.int .i64 0) ∧ SpAt w' g (fun k => if k = 1 then some (setR l s on n) else M k) ∧ Upd g.S w w' := by
  subst hsi
  obtain ⟨av, cv, rfl, _⟩ := id hr
  have H := Lib.hid h
  have HR := Lib.hid hr
  have HL := Lib.hid hl
  have HC := Lib.hid hc
  rw [hl] at HR ⊢
  clear h hr hl hc
  go_enter Tryz.func93, Tryz.ntmps93
  go_wp2_with fail
  go_loopw [1, 11] (fun b i wr => ∃ (q : Nat) (a : Option Addr) (c : Nat), q ≤ n ∧ i = .int .i64 ((s + q : Nat) : Int) ∧ b = .slice a 512 c ∧ Rd wr (.slice a 512 c) (setR l s on q) ∧ Upd [] w wr) (fun _ i _ => s + n - (intOf i).toNat)
  case atStart => exact ⟨0, av, cv, Nat.zero_le _, rfl, rfl, HR.out, Upd.refl _ _⟩
  case round =>
    obtain ⟨q, a, c, hq, rfl, rfl, hrd, hu⟩ := hrel
    have HRD := Lib.hid hrd
    have HU := Lib.hid hu
    clear hrd hu
    obtain ⟨I, hI⟩ : ∃ I, I = s + q := ⟨_, rfl⟩
    rw [← hI]
    by_cases hlt : q < n
    · have hlt' : decide ((I : Int) < (s : Int) + (n : Int)) = true := decide_eq_true (by omega)
      have hlen : (setR l s on q).length = 512 := by rw [setR_length]; exact HL.out
      have HSB := Lib.hid (setbit_spec _ _ I on wr HRD.out (by omega) (by omega))
      rw [hlen] at HSB
      have HST : Hid (setR l s on (q + 1) = setB (setR l s on q) I on) := by show _ = _; rw [hI]; rfl
      have HI := Lib.hid hI
      have hI4 : I < 4096 := by omega
      clear hI hlen
      go_wp2_with fail
      refine HSB.out.mono ?_
      rintro e w1 ⟨k, c1, rfl, ho1, hu1⟩
      have HO1 := Lib.hid ho1.rd
      have HU1 := Lib.hid (HU.out.trans hu1)
      clear ho1 hu1
      go_wp2_with fail
      exact ⟨⟨q + 1, _, _, by omega, by rw [HI.out]; go_num, rfl, by rw [HST.out]; exact HO1.out, HU1.out⟩, by have := HI.out; simp [intOf]; omega⟩
    · obtain rfl : q = n := by omega
      have hlt' : decide ((I : Int) < (s : Int) + (q : Int)) = false := decide_eq_false (by omega)
      have HW : Hid (Calls Tryz.prog 101 #[.pointer (some ⟨g.x.tb, 0, none⟩), .int .i64 1, .slice a 512 c] wr fun e w' => e = .returned (.int .i64 0) ∧ SpAt w' g (fun k => if k = 1 then some (setR l s on q) else M k) ∧ Upd [g.x.wb] wr w') := Lib.hid (writeS (H.out.below HU.out) 1 hh _ _ HRD.out (by rw [setR_length]; exact HL.out) HC.out)
      clear hI
      go_wp2_with fail
      refine HW.out.mono ?_
      rintro e w1 ⟨rfl, h1, hu1⟩
      have H1 := Lib.hid h1
      have HU1 := Lib.hid ((HU.out.mono (by simp)).trans (hu1.mono g.memw))
      clear h1 hu1
      go_wp2_with fail
      go_ret
      exact ⟨rfl, H1.out, HU1.out⟩

/-! ## what is taken -/

/-- Is sector i taken? -/
def Sg.T (g : Sg) (M : Nat → Option Sec) (i : Nat) : Bool := bitB (fixB (g.cur M 1)) i
def put1 (M : Nat → Option Sec) (s : Sec) : Nat → Option Sec := fun k => if k = 1 then some s else M k
theorem Sg.T_low {g : Sg} {M : Nat → Option Sec} (hl : (g.cur M 1).length = 512) {i : Nat} (hi : i < 4) : g.T M i = true := by
  unfold Sg.T
  rw [bitB_fix (by omega), decide_eq_true hi]; rfl
theorem Sg.T_turn {g : Sg} {M : Nat → Option Sec} (hl : (g.cur M 1).length = 512) {s n : Nat} (on : Bool) (hs : 4 ≤ s) (hn : s + n ≤ 4096) (i : Nat) : g.T (put1 M (setR (fixB (g.cur M 1)) s on n)) i = if s ≤ i ∧ i < s + n then on else g.T M i := by
  unfold Sg.T
  have e : g.cur (put1 M (setR (fixB (g.cur M 1)) s on n)) 1 = setR (fixB (g.cur M 1)) s on n := by unfold Sg.cur put1; rw [if_pos rfl]; rfl
  have hlen : (fixB (g.cur M 1)).length = 512 := by rw [fixB_length]; exact hl
  rw [e, bitB_fix (by rw [setR_length]; omega), bitB_setR on (by omega)]
  by_cases h4 : i < 4
  · rw [decide_eq_true h4, if_neg (by omega), bitB_fix (by omega), decide_eq_true h4]; rfl
  · rw [decide_eq_false h4]; rfl
def TakePost (w : World) (g : Sg) (M : Nat → Option Sec) (k : Nat) (e : Ending) (w' : World) : Prop :=
  Upd g.S w w' ∧ ((∃ s, FirstFit (g.T M) g.h k (some s) ∧ e = .returned (.tuple #[.int .i64 (s : Int), .int .i64 0]) ∧ SpAt w' g (put1 M (setR (fixB (g.cur M 1)) s true k))) ∨ (FirstFit (g.T M) g.h k none ∧ e = .returned (.tuple #[.int .i64 0, .int .i64 7]) ∧ SpAt w' g M))

set_option maxHeartbeats 400000 in
theorem take_arg {w : World} {g : Sg} {M : Nat → Option Sec} (h : SpAt w g M) (hh : 1 < g.h) (k : Int) (hk : k < 1 ∨ 64 < k) :
    Calls Tryz.prog 47 #[.pointer (some ⟨g.x.tb, 0, none⟩), .int .i64 k] w fun e w' => e = .returned (.tuple #[.int .i64 0, .int .i64 1]) ∧ SpAt w' g M ∧ Upd g.S w w' := by
  have HH := Lib.hid (homesS h)
  have H := Lib.hid h
  have hb : ((g.h : Int) == 0) = false := by rw [beq_eq_false_iff_ne]; omega
  obtain ⟨d, hd⟩ : ∃ d, d = decide (k < 1) := ⟨_, rfl⟩
  clear h
  by_cases h1 : k < 1
  · have d1 : decide (k < 1) = true := decide_eq_true h1
    clear hk hd
    go_enter Tryz.func47, Tryz.ntmps47
    go_wp2_with fail
    refine HH.out.mono ?_
    rintro e w1 ⟨rfl, n1, hn1⟩
    have hu1 : Upd [] w w1 := by rw [hn1]; exact (Upd.refl _ _).drewN _
    clear hn1
    go_wp2_with fail
    go_ret2
    exact ⟨rfl, H.out.below hu1, hu1.mono (by simp)⟩
  · have d1 : decide (k < 1) = false := decide_eq_false h1
    have d2 : decide (64 < k) = true := decide_eq_true (by omega)
    clear hk hd
    go_enter Tryz.func47, Tryz.ntmps47
    go_wp2_with fail
    refine HH.out.mono ?_
    rintro e w1 ⟨rfl, n1, hn1⟩
    have hu1 : Upd [] w w1 := by rw [hn1]; exact (Upd.refl _ _).drewN _
    clear hn1
    go_wp2_with fail
    go_ret2
    exact ⟨rfl, H.out.below hu1, hu1.mono (by simp)⟩

set_option maxRecDepth 100000 in
set_option maxHeartbeats 2000000 in
theorem take_spec {w : World} {g : Sg} {M : Nat → Option Sec} (h : SpAt w g M) (hh : 1 < g.h) (hh2 : g.h ≤ 4096) (hc : (M 1).isSome = true ∨ cntM M g.h < 40) (k : Nat) (hk : 1 ≤ k) (hk2 : k ≤ 64) :
    Calls Tryz.prog 47 #[.pointer (some ⟨g.x.tb, 0, none⟩), .int .i64 (k : Int)] w (TakePost w g M k) := by
  have HH := Lib.hid (homesS h)
  have H := Lib.hid h
  have HC := Lib.hid hc
  have hb : ((g.h : Int) == 0) = false := by rw [beq_eq_false_iff_ne]; omega
  have d1 : decide ((k : Int) < 1) = false := decide_eq_false (by omega)
  have d2 : decide (64 < (k : Int)) = false := decide_eq_false (by omega)
  have hlf : (fixB (g.cur M 1)).length = 512 := by rw [fixB_length]; exact h.cur_len 1
  have HLF := Lib.hid hlf
  have HT : Hid (∀ i, g.T M i = bitB (fixB (g.cur M 1)) i) := by show ∀ i, _; exact fun _ => rfl
  obtain ⟨hm, hhm⟩ : ∃ hm, hm = g.h := ⟨_, rfl⟩
  rw [← hhm] at hb HH hh hh2 HC
  have HHM := Lib.hid hhm
  clear h hc hlf hhm
  go_enter Tryz.func47, Tryz.ntmps47
  go_wp2_with fail
  refine HH.out.mono ?_
  rintro e w1 ⟨rfl, n1, hn1⟩
  have hu1 : Upd [] w w1 := by rw [hn1]; exact (Upd.refl _ _).drewN _
  have HTK := Lib.hid (taken_spec (H.out.below hu1) (by rw [← HHM.out]; exact hh))
  have HU1 := Lib.hid hu1
  clear hn1 hu1
  go_wp2_with fail
  refine HTK.out.mono ?_
  rintro e w2 ⟨kb, c, rfl, ho2, h2, hu2⟩
  have HH2 := Lib.hid (homesS h2)
  rw [← HHM.out] at HH2
  have HU2 := Lib.hid ((HU1.out.mono (by simp)).trans (hu2.mono g.mem))
  have HO2 := Lib.hid ho2
  have H2 := Lib.hid h2
  clear ho2 h2 hu2
  go_wp2_with fail
  refine HH2.out.mono ?_
  rintro e w3 ⟨rfl, n3, hn3⟩
  have hu3 : Upd [] w2 w3 := by rw [hn3]; exact (Upd.refl _ _).drewN _
  have HRD3 := Lib.hid (HO2.out.rd.below hu3)
  have H3 := Lib.hid (H2.out.below hu3)
  have HU3 := Lib.hid (HU2.out.trans (hu3.mono (by simp)))
  clear hn3 hu3
  go_wp2_with fail
  go_loopw [8, 33] (fun run i wr => ∃ q r : Nat, q ≤ hm ∧ i = .int .i64 (q : Int) ∧ run = .int .i64 (r : Int) ∧ Run (g.T M) k q r ∧ wr = w3) (fun _ i _ => hm - (intOf i).toNat)
  case atStart => exact ⟨0, 0, Nat.zero_le _, rfl, rfl, Run.zero hk, rfl⟩
  case round =>
    obtain ⟨q, r, hq, rfl, rfl, hrun, rfl⟩ := hrel
    have hrl := hrun.lt
    have hrle := hrun.le
    have HRUN := Lib.hid hrun
    clear hrun
    by_cases hlt : q < hm
    · have hlt' : decide (q < hm) = true := decide_eq_true hlt
      have HSET := Lib.hid (set_spec _ _ q wr HRD3.out (by rw [HLF.out]; omega) (by rw [HLF.out]; omega))
      rw [← HT.out q] at HSET
      go_wp2_with fail
      refine HSET.out.mono ?_
      rintro e w' ⟨rfl, rfl⟩
      cases htq : g.T M q
      · have HTQ := Lib.hid htq
        clear htq
        by_cases hfd : r + 1 = k
        · have e1 : (((r : Int) + 1) == (k : Int)) = true := by rw [beq_iff_eq]; omega
          obtain ⟨s, hs⟩ : ∃ s, s = q + 1 - k := ⟨_, rfl⟩
          have HFF := Lib.hid (HRUN.out.found HTQ.out hfd hlt)
          rw [← hs] at HFF
          have HTU := Lib.hid (turn_spec8 H3.out (by rw [← HHM.out]; exact hh) _ _ HRD3.out HLF.out s k ((q : Int) - (k : Int) + 1) (by omega) true (by omega) (by rw [← HHM.out]; exact HC.out))
          have HSI : Hid ((q : Int) - (k : Int) + 1 = (s : Int)) := by show _ = _; omega
          clear hs hfd
          go_wp2_with fail
          refine HTU.out.mono ?_
          rintro e w5 ⟨rfl, h5, hu5⟩
          have H5 := Lib.hid h5
          have HU5 := Lib.hid (HU3.out.trans hu5)
          clear h5 hu5
          go_wp2_with fail
          go_ret2
          refine ⟨HU5.out, .inl ⟨s, by rw [← HHM.out]; exact HFF.out, by rw [← HSI.out]; rfl, H5.out⟩⟩
        · have e1 : (((r : Int) + 1) == (k : Int)) = false := by rw [beq_eq_false_iff_ne]; omega
          go_wp2_with fail
          exact ⟨⟨q + 1, r + 1, by omega, by go_num, by go_num, HRUN.out.next HTQ.out (by omega), trivial⟩, by simp [intOf]; omega⟩
      · have e1 : ((0 : Int) == (k : Int)) = false := by rw [beq_eq_false_iff_ne]; omega
        have HTQ := Lib.hid htq
        clear htq
        go_wp2_with fail
        exact ⟨⟨q + 1, 0, by omega, by go_num, rfl, HRUN.out.set HTQ.out, trivial⟩, by simp [intOf]; omega⟩
    · obtain rfl : q = hm := by omega
      have hlt' : decide (q < q) = false := decide_eq_false (by omega)
      go_wp2_with fail
      go_ret2
      exact ⟨HU3.out, .inr ⟨by rw [← HHM.out]; exact HRUN.out.full, rfl, H3.out⟩⟩

end Go.Proofs.YtceakcejchbbjaaGreat

