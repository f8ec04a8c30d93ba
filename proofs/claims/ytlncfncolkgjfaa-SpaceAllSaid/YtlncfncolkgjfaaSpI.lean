/-
  space.Root, SetRoot; Free's other answers.
-/
import Derived.Test.YtlncfncolkgjfaaSpF
namespace Go.Proofs.Ytlncfncolkgjfaa
open Go.RowKit Go.MapKept Go.ChangeMaps

/-- The k-th number. -/
def Sg.R (g : Sg) (M : Nat → Option Sec) (k : Nat) : Nat := num (g.cur M 0) (4 * k) 4
def put0 (M : Nat → Option Sec) (s : Sec) : Nat → Option Sec := fun k => if k = 0 then some s else M k

set_option maxHeartbeats 1000000 in
theorem root_ok {w : World} {g : Sg} {M : Nat → Option Sec} (h : SpAt w g M) (hh : 1 < g.h) (k : Nat) (hk : k < 16) :
    Calls Try.prog 20 #[.pointer (some ⟨g.x.tb, 0, none⟩), .int .i64 (k : Int)] w fun e w' => e = .returned (.tuple #[.int .u32 (g.R M k : Int), .int .i64 0]) ∧ SpAt w' g M ∧ Upd g.S w w' := by
  have HH := Lib.hid (homesS h)
  have H := Lib.hid h
  have hb : ((g.h : Int) == 0) = false := by rw [beq_eq_false_iff_ne]; omega
  have d1 : decide ((k : Int) < 0) = false := decide_eq_false (by omega)
  have d2 : decide (16 ≤ (k : Int)) = false := decide_eq_false (by omega)
  have d3 : decide (16 ≤ k) = false := decide_eq_false (by omega)
  have HL := Lib.hid (h.cur_len 0)
  obtain ⟨N, hN⟩ : ∃ N : Int, N = (g.R M k : Int) := ⟨_, rfl⟩
  have hN0 : 0 ≤ N := by omega
  have hN1 : N < 4294967296 := by have := num_lt (g.cur M 0) (4 * k) 4; unfold Sg.R at hN; omega
  have hwr : IntKind.u32.wrap N = N := by rw [IntKind.wrap_u32]; omega
  have HN := Lib.hid hN
  rw [← hN]
  clear h hN
  go_enter Try.func20, Try.ntmps20
  go_wp2_with fail
  refine HH.out.mono ?_
  rintro e w1 ⟨rfl, n1, hn1⟩
  have hu1 : Upd [] w w1 := by rw [hn1]; exact (Upd.refl _ _).drewN _
  have HRD := Lib.hid (readS (H.out.below hu1) 0 (by omega))
  have HU1 := Lib.hid hu1
  clear hn1 hu1
  go_wp2_with fail
  refine HRD.out.mono ?_
  rintro e w2 ⟨v, rfl, ho, h2, hu2⟩
  obtain ⟨av, lv, cv, rfl⟩ : ∃ a b c, v = .slice a b c := by obtain ⟨a, c, rfl, _⟩ := ho.rd; exact ⟨_, _, _, rfl⟩
  have hat := at_spec _ _ (4 * k) 4 w2 ho.rd (by omega) (by omega) (by rw [HL.out]; omega) (by rw [HL.out]; omega)
  rw [show ((4 * k : Nat) : Int) = 4 * (k : Int) from by omega, show ((4 : Nat) : Int) = 4 from rfl, show ((num (g.cur M 0) (4 * k) 4 : Nat) : Int) = N from by rw [HN.out]; rfl] at hat
  have HAT := Lib.hid hat
  have HU2 := Lib.hid ((HU1.out.mono (by simp)).trans (hu2.mono g.mem))
  have H2 := Lib.hid h2
  clear ho hat h2 hu2
  go_wp2_with fail
  refine HAT.out.mono ?_
  rintro e w' ⟨rfl, rfl⟩
  go_wp2_with fail
  go_ret2
  exact ⟨rfl, H2.out, HU2.out⟩

set_option maxHeartbeats 1000000 in
theorem root_arg {w : World} {g : Sg} {M : Nat → Option Sec} (h : SpAt w g M) (hh : 1 < g.h) (k : Int) (hk : k < 0 ∨ 16 ≤ k) :
    Calls Try.prog 20 #[.pointer (some ⟨g.x.tb, 0, none⟩), .int .i64 k] w fun e w' => e = .returned (.tuple #[.int .u32 0, .int .i64 1]) ∧ SpAt w' g M ∧ Upd g.S w w' := by
  have HH := Lib.hid (homesS h)
  have H := Lib.hid h
  have hb : ((g.h : Int) == 0) = false := by rw [beq_eq_false_iff_ne]; omega
  clear h
  by_cases h1 : k < 0
  · have d1 : decide (k < 0) = true := decide_eq_true h1
    clear hk
    go_enter Try.func20, Try.ntmps20
    go_wp2_with fail
    refine HH.out.mono ?_
    rintro e w1 ⟨rfl, n1, hn1⟩
    have hu1 : Upd [] w w1 := by rw [hn1]; exact (Upd.refl _ _).drewN _
    clear hn1
    go_wp2_with fail
    go_ret2
    exact ⟨rfl, H.out.below hu1, hu1.mono (by simp)⟩
  · have d1 : decide (k < 0) = false := decide_eq_false h1
    have d2 : decide (16 ≤ k) = true := decide_eq_true (by omega)
    clear hk
    go_enter Try.func20, Try.ntmps20
    go_wp2_with fail
    refine HH.out.mono ?_
    rintro e w1 ⟨rfl, n1, hn1⟩
    have hu1 : Upd [] w w1 := by rw [hn1]; exact (Upd.refl _ _).drewN _
    clear hn1
    go_wp2_with fail
    go_ret2
    exact ⟨rfl, H.out.below hu1, hu1.mono (by simp)⟩

set_option maxHeartbeats 1000000 in
theorem setroot_arg {w : World} {g : Sg} {M : Nat → Option Sec} (h : SpAt w g M) (hh : 1 < g.h) (k : Int) (hk : k < 0 ∨ 16 ≤ k) (V : Int) :
    Calls Try.prog 19 #[.pointer (some ⟨g.x.tb, 0, none⟩), .int .i64 k, .int .u32 V] w fun e w' => e = .returned (.int .i64 1) ∧ SpAt w' g M ∧ Upd g.S w w' := by
  have HH := Lib.hid (homesS h)
  have H := Lib.hid h
  have hb : ((g.h : Int) == 0) = false := by rw [beq_eq_false_iff_ne]; omega
  clear h
  by_cases h1 : k < 0
  · have d1 : decide (k < 0) = true := decide_eq_true h1
    clear hk
    go_enter Try.func19, Try.ntmps19
    go_wp2_with fail
    refine HH.out.mono ?_
    rintro e w1 ⟨rfl, n1, hn1⟩
    have hu1 : Upd [] w w1 := by rw [hn1]; exact (Upd.refl _ _).drewN _
    clear hn1
    go_wp2_with fail
    go_ret
    exact ⟨rfl, H.out.below hu1, hu1.mono (by simp)⟩
  · have d1 : decide (k < 0) = false := decide_eq_false h1
    have d2 : decide (16 ≤ k) = true := decide_eq_true (by omega)
    clear hk
    go_enter Try.func19, Try.ntmps19
    go_wp2_with fail
    refine HH.out.mono ?_
    rintro e w1 ⟨rfl, n1, hn1⟩
    have hu1 : Upd [] w w1 := by rw [hn1]; exact (Upd.refl _ _).drewN _
    clear hn1
    go_wp2_with fail
    go_ret
    exact ⟨rfl, H.out.below hu1, hu1.mono (by simp)⟩

set_option maxRecDepth 100000 in
set_option maxHeartbeats 2000000 in
theorem setroot_ok {w : World} {g : Sg} {M : Nat → Option Sec} (h : SpAt w g M) (hh : 1 < g.h) (hc : (M 0).isSome = true ∨ cntM M g.h < 40) (k : Nat) (hk : k < 16) (V : Nat) :
    Calls Try.prog 19 #[.pointer (some ⟨g.x.tb, 0, none⟩), .int .i64 (k : Int), .int .u32 (V : Int)] w fun e w' => e = .returned (.int .i64 0) ∧ SpAt w' g (put0 M (put (g.cur M 0) (4 * k) 4 V)) ∧ Upd g.S w w' := by
  have HH := Lib.hid (homesS h)
  have H := Lib.hid h
  have HC := Lib.hid hc
  have hb : ((g.h : Int) == 0) = false := by rw [beq_eq_false_iff_ne]; omega
  have d1 : decide ((k : Int) < 0) = false := decide_eq_false (by omega)
  have d2 : decide (16 ≤ (k : Int)) = false := decide_eq_false (by omega)
  have d3 : decide (16 ≤ k) = false := decide_eq_false (by omega)
  have HL := Lib.hid (h.cur_len 0)
  clear h hc
  go_enter Try.func19, Try.ntmps19
  go_wp2_with fail
  refine HH.out.mono ?_
  rintro e w1 ⟨rfl, n1, hn1⟩
  have hu1 : Upd [] w w1 := by rw [hn1]; exact (Upd.refl _ _).drewN _
  have HRD : Hid (Calls Try.prog 31 #[.pointer (some ⟨g.x.tb, 0, none⟩), .int .i64 0] w1 fun e w' => ∃ v, e = .returned (.tuple #[v, .int .i64 0]) ∧ OwnN w' 5 (fun k => w1.heap.size ≤ k) v (g.cur M 0) ∧ SpAt w' g M ∧ Upd [g.j.jb] w1 w') := Lib.hid (readS (H.out.below hu1) 0 (by omega))
  have HU1 := Lib.hid hu1
  clear hn1 hu1
  go_wp2_with fail
  refine HRD.out.mono ?_
  rintro e w2 ⟨v, rfl, ho, h2, hu2⟩
  obtain ⟨kb, c, rfl, _, hkb, -⟩ := ho.sec HL.out
  have ho2 := ho.own (by rw [HL.out]; omega)
  have HLT := Lib.hid (show w.heap.size ≤ kb from Nat.le_trans HU1.out.size hkb)
  have HO2 := Lib.hid ho2
  have H1 := Lib.hid (H.out.below HU1.out)
  have HU12 := Lib.hid hu2
  have HU2 := Lib.hid ((HU1.out.mono (by simp)).trans (hu2.mono g.mem))
  have H2 := Lib.hid h2
  have HKB := Lib.hid hkb
  clear ho ho2 hkb h2 hu2
  go_wp2_with fail
  go_loopw [29] (fun i wr => ∃ q : Nat, q ≤ 4 ∧ i = .int .i64 (q : Int) ∧ Own wr 5 (fun k => w1.heap.size ≤ k) (.slice (some ⟨kb, 0, none⟩) 512 c) (putK (g.cur M 0) (4 * k) 4 V q) ∧ Upd [kb] w2 wr) (fun i _ => 4 - (intOf i).toNat)
  case atStart => exact ⟨0, by omega, rfl, by rw [putK_zero]; exact HO2.out, Upd.refl _ _⟩
  case round =>
    obtain ⟨q, hq, rfl, ho, hu⟩ := hrel
    by_cases hlt : q < 4
    · have hlt' : decide ((q : Int) < 4) = true := decide_eq_true (by omega)
      have hlen : (putK (g.cur M 0) (4 * k) 4 V q).length = 512 := by rw [putK_length (by omega) (by rw [HL.out]; omega)]; exact HL.out
      have hst := putK_step (b := g.cur M 0) (a := 4 * k) (n := 4) (v := V) hlt (by rw [HL.out]; omega)
      obtain ⟨I, hI⟩ : ∃ I, I = 4 * k + q := ⟨_, rfl⟩
      have hIk : 4 * (k : Int) + (q : Int) = (I : Int) := by omega
      obtain ⟨hcl, hf⟩ := ho.cell512 hlen (q := I) (by omega)
      obtain ⟨Y, hY⟩ : ∃ Y, Y = V / 256 ^ (4 - 1 - q) % 256 := ⟨_, rfl⟩
      have o2 := own_set512 ho hlen (q := I) (by omega) (y := Y) (by omega)
      have eY : UInt8.ofNat Y = UInt8.ofNat (V / 256 ^ (4 - 1 - q)) := by
        apply UInt8.toNat_inj.1
        rw [UInt8.toNat_ofNat', UInt8.toNat_ofNat', hY]; omega
      rw [eY, hI, hst, ← hI] at o2
      have u2 : Upd [kb] wr (wr.setCell ⟨kb, I, none⟩ (.int .u8 (Y : Int))) := (Upd.refl _ _).set _ (by simp)
      have HO := Lib.hid o2
      have HUx := Lib.hid (hu.trans u2)
      have i0 : (0 : Int) ≤ (I : Int) := by omega
      have i1 : (I : Int) < 512 := by omega
      have s0 : decide ((24 : Int) - 8 * (q : Int) < 0) = false := decide_eq_false (by omega)
      have hsh : (0 : Int) ≤ 24 - 8 * (q : Int) := by omega
      have hsh2 : 24 - 8 * (q : Int) ≤ 24 := by omega
      have hYI : (V : Int) / 2 ^ (24 - 8 * q) % 256 = (Y : Int) := by
        have e1 : (2 : Int) ^ (24 - 8 * q) = ((256 ^ (4 - 1 - q) : Nat) : Int) := by
          rw [show (256 : Nat) = 2 ^ 8 from rfl, ← Nat.pow_mul, Int.natCast_pow, show 24 - 8 * q = 8 * (4 - 1 - q) from by omega]; rfl
        rw [e1, hY]; omega
      have HYI := Lib.hid hYI
      clear ho hu hlen hst hI eY o2 u2 hYI hY
      go_wp2_with fail
      exact ⟨⟨q + 1, by omega, by go_num, by rw [HYI.out]; exact HO.out, by rw [HYI.out]; exact HUx.out⟩, by simp [intOf]; omega⟩
    · obtain rfl : q = 4 := by omega
      have hlt' : decide (((4 : Nat) : Int) < 4) = false := rfl
      rw [putK_full] at ho
      have hlen : (put (g.cur M 0) (4 * k) 4 V).length = 512 := by rw [put_length (by rw [HL.out]; omega)]; exact HL.out
      have h3 := H1.out.late H2.out HU12.out hu (fun q hq => by simp at hq; subst hq; exact HKB.out)
      have HW : Hid (Calls Try.prog 32 #[.pointer (some ⟨g.x.tb, 0, none⟩), .int .i64 0, .slice (some ⟨kb, 0, none⟩) 512 c] wr fun e w' => e = .returned (.int .i64 0) ∧ SpAt w' g (put0 M (put (g.cur M 0) (4 * k) 4 V)) ∧ Upd [g.x.wb] wr w') := Lib.hid (writeS h3 0 (by omega) _ _ ho.rd hlen HC.out)
      have HU3 := Lib.hid (HU2.out.late hu (fun k hk => by simp at hk; subst hk; exact .inr HLT.out))
      clear ho hu hlen h3
      go_wp2_with fail
      refine HW.out.mono ?_
      rintro e w4 ⟨rfl, h4, hu4⟩
      have H4 := Lib.hid h4
      have HU4 := Lib.hid (HU3.out.trans (hu4.mono g.memw))
      clear h4 hu4
      go_wp2_with fail
      go_ret
      exact ⟨rfl, H4.out, HU4.out⟩

end Go.Proofs.Ytlncfncolkgjfaa
