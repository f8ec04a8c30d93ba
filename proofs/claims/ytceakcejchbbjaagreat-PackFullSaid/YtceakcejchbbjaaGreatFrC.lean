/-
  octet.own, octet.Put, walked.
-/
import Derived.Test.YtceakcejchbbjaaGreatFrB
set_option linter.unusedSimpArgs false
set_option linter.unusedVariables false
namespace Go.Proofs.YtceakcejchbbjaaGreat
open Go.RowKit Go.MapKept Go.ChangeMaps

set_option maxHeartbeats 1000000 in
theorem ownn_spec {w : World} {v : Value} {l : List UInt8} (hr : Rd w v l) (n : Nat) (hl : l.length + n ≤ 50000) :
    Calls Tryz.prog 160 #[v, .int .i64 (n : Int)] w fun e w' => ∃ a c, e = .returned (.slice a l.length c) ∧ BRow w' w.heap.size (.slice a l.length c) l ∧ Upd [] w w' := by
  obtain ⟨C, hC⟩ : ∃ C, C = l.length + n := ⟨_, rfl⟩
  have hmk := run_make_cap C (by omega) w
  have hrow : BRow (w.alloc (.cells (bts (List.replicate C 0)).toArray 5)) w.heap.size (.slice (some ⟨w.heap.size, 0, none⟩) 0 C) [] :=
    ⟨by simp, .inr ⟨w.heap.size, C, _, rfl, Nat.le_refl _, blk_alloc _, by simp, by unfold maxLen; omega, by simp, by simp⟩⟩
  obtain ⟨a, c, w', hrun, hown, hu⟩ := bytes_app hrow (hr.alloc _) (by simp; omega) (by simp)
  rw [List.length_nil, Nat.zero_add, List.nil_append] at hown
  rw [List.length_nil, Nat.zero_add] at hrun
  have hu2 := hu w (Nat.le_refl _) ((Upd.refl _ _).alloc _)
  have HO := Lib.hid hown
  have HU := Lib.hid hu2
  have eC : IntKind.i64.wrap ((l.length : Int) + (n : Int)) = (C : Int) := by rw [IntKind.wrap_i64]; omega
  have g1 : (0 : Int) ≤ C := by omega
  obtain ⟨av, cv, rfl, _⟩ := hr
  clear hC hown hu hu2 hrow
  generalize (bts (List.replicate C 0)).toArray = Z at *
  go_enter Tryz.func160, Tryz.ntmps160
  go_wp2_with (at_builtin; refine wpList_append_run rfl _ _ _ rfl rfl rfl hrun ?_)
  go_ret
  exact ⟨_, _, rfl, HO.out, HU.out⟩
theorem be_four (V : Nat) : be 4 V = [UInt8.ofNat (V / 16777216), UInt8.ofNat (V / 65536), UInt8.ofNat (V / 256), UInt8.ofNat (V / 1)] := by rfl
set_option maxRecDepth 100000 in
set_option maxHeartbeats 2000000 in
theorem put4_spec {w : World} {v : Value} {l : List UInt8} (hr : Rd w v l) (hl : l.length ≤ 10000) (V : Nat) (hV : V < 4294967296) :
    Calls Tryz.prog 103 #[v, .int .u64 (V : Int), .int .i64 4] w fun e w' => ∃ a c, e = .returned (.tuple #[.slice a (l.length + 4) c, .int .i64 0]) ∧ BRow w' w.heap.size (.slice a (l.length + 4) c) (l ++ be 4 V) ∧ Upd [] w w' := by
  have HO := Lib.hid (ownn_spec hr 4 (by omega))
  have hz : (V : Int) / 4294967296 = 0 := by omega
  have HV := Lib.hid hV
  clear hV
  obtain ⟨av, cv, rfl, _⟩ := hr
  go_enter Tryz.func103, Tryz.ntmps103
  go_wp2_with fail
  refine HO.out.mono ?_
  rintro e w1 ⟨a1, c1, rfl, h1, hu1⟩
  have H1 := Lib.hid h1
  have HU1 := Lib.hid hu1
  clear h1 hu1
  go_wp2_with fail
  go_loopw [8, 9] (fun s8 s9 wr => ∃ q : Nat, q ≤ 4 ∧ s9 = .int .i64 (3 - (q : Int)) ∧ (∃ a c, s8 = .slice a (l.length + q) c ∧ BRow wr w.heap.size (.slice a (l.length + q) c) (l ++ (be 4 V).take q)) ∧ Upd [] w wr) (fun _ s9 _ => (intOf s9 + 1).toNat)
  case atStart => exact ⟨0, by omega, rfl, ⟨_, _, rfl, by rw [List.take_zero, List.append_nil]; exact H1.out⟩, HU1.out⟩
  case round =>
    obtain ⟨q, hq, rfl, ⟨a, c, rfl, hb⟩, hu⟩ := hrel
    obtain ⟨m, hm⟩ : ∃ m, m = l.length + q := ⟨_, rfl⟩
    rw [← hm] at hb ⊢
    have step : ∀ (x : Nat) (xi : Int), xi = (x : Int) → x < 256 → q < 4 → (be 4 V)[q]? = some (UInt8.ofNat x) → ∃ a' c' w', (∀ ty, (Builtin.append_ #[37, 37] ty #[.slice a m c, .slice (some ⟨wr.heap.size, 0, none⟩) 1 1]).run Tryz.prog (wr.alloc (.cells #[.int .u8 xi] 5)) = .ok (.slice a' (m + 1) c') w') ∧
        BRow w' w.heap.size (.slice a' (l.length + (q + 1)) c') (l ++ (be 4 V).take (q + 1)) ∧ Upd [] w w' := fun x xi hxi hx hq4 hbe => by
      have hlen : (l ++ (be 4 V).take q).length = m := by rw [List.length_append, List.length_take, be_length]; omega
      have hb2 : BRow wr w.heap.size (.slice a (l ++ (be 4 V).take q).length c) (l ++ (be 4 V).take q) := by rw [hlen]; exact hb
      obtain ⟨a', c', w', hrun, hown, hu'⟩ := bytes_app (hb2.keep ((Upd.refl [] wr).alloc (.cells #[.int .u8 xi] 5))) (one_rd wr x xi hxi hx) (by rw [hlen]; simp; omega) (by have := hu.size; simp; omega)
      rw [hlen] at hrun hown
      refine ⟨a', c', w', hrun, ?_, hu' w (Nat.le_refl _) (hu.alloc _)⟩
      rw [List.take_add_one, hbe, show l.length + (q + 1) = m + 1 by omega]
      simpa [List.append_assoc] using hown
    have HBR := Lib.hid hb
    have HU := Lib.hid hu
    have HM := Lib.hid hm
    rcases (by omega : q = 0 ∨ q = 1 ∨ q = 2 ∨ q = 3 ∨ q = 4) with rfl | rfl | rfl | rfl | rfl
    · obtain ⟨a', c', w', hrun, hown, hu'⟩ := step (V / 16777216) ((V : Int) / 16777216) (by omega) (by have := HV.out; omega) (by omega) (by rw [be_four]; rfl)
      have HOW := Lib.hid hown
      have HU' := Lib.hid hu'
      clear hb hu step hown hu' hm hq
      go_wp2_with (at_builtin; refine wpList_append_run rfl _ _ _ rfl rfl rfl hrun ?_)
      have hm := HM.out
      exact ⟨⟨1, by omega, rfl, ⟨_, _, by rw [hm], HOW.out⟩, HU'.out⟩, by simp [intOf]⟩
    · obtain ⟨a', c', w', hrun, hown, hu'⟩ := step (V / 65536 % 256) ((V : Int) / 65536 % 256) (by omega) (by omega) (by omega) (by rw [be_four]; show some _ = some _; congr 1; apply UInt8.toNat_inj.1; rw [UInt8.toNat_ofNat', UInt8.toNat_ofNat']; omega)
      have HOW := Lib.hid hown
      have HU' := Lib.hid hu'
      clear hb hu step hown hu' hm hq
      go_wp2_with (at_builtin; refine wpList_append_run rfl _ _ _ rfl rfl rfl hrun ?_)
      have hm := HM.out
      exact ⟨⟨2, by omega, rfl, ⟨_, _, by rw [hm], HOW.out⟩, HU'.out⟩, by simp [intOf]⟩
    · obtain ⟨a', c', w', hrun, hown, hu'⟩ := step (V / 256 % 256) ((V : Int) / 256 % 256) (by omega) (by omega) (by omega) (by rw [be_four]; show some _ = some _; congr 1; apply UInt8.toNat_inj.1; rw [UInt8.toNat_ofNat', UInt8.toNat_ofNat']; omega)
      have HOW := Lib.hid hown
      have HU' := Lib.hid hu'
      clear hb hu step hown hu' hm hq
      go_wp2_with (at_builtin; refine wpList_append_run rfl _ _ _ rfl rfl rfl hrun ?_)
      have hm := HM.out
      exact ⟨⟨3, by omega, rfl, ⟨_, _, by rw [hm], HOW.out⟩, HU'.out⟩, by simp [intOf]⟩
    · obtain ⟨a', c', w', hrun, hown, hu'⟩ := step (V / 1 % 256) ((V : Int) % 256) (by omega) (by omega) (by omega) (by rw [be_four]; show some _ = some _; congr 1; apply UInt8.toNat_inj.1; rw [UInt8.toNat_ofNat', UInt8.toNat_ofNat']; omega)
      have HOW := Lib.hid hown
      have HU' := Lib.hid hu'
      clear hb hu step hown hu' hm hq
      go_wp2_with (at_builtin; refine wpList_append_run rfl _ _ _ rfl rfl rfl hrun ?_)
      have hm := HM.out
      exact ⟨⟨4, by omega, rfl, ⟨_, _, by rw [hm], HOW.out⟩, HU'.out⟩, by simp [intOf]⟩
    · have hT : l ++ (be 4 V).take 4 = l ++ be 4 V := by rw [List.take_of_length_le (by rw [be_length]; omega)]
      rw [hT] at HBR
      clear hb hu step hq hT
      go_wp2_with fail
      go_ret2
      have hm := HM.out
      subst hm
      exact ⟨_, _, rfl, HBR.out, HU.out⟩
end Go.Proofs.YtceakcejchbbjaaGreat
