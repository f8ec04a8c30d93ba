/-
  slices.Clone at rows of keys, of values, and of numbers. (Written by tools/mkclo.py.)
-/
import Derived.Test.YtceakcejchbbjaaGreatTrI
namespace Go.Proofs.YtceakcejchbbjaaGreat
open Go.RowKit Go.MapKept Go.ChangeMaps

theorem run_build0K (w : World) : (Instr.buildSlice 141 0 #[]).run Tryz.prog w = .ok (.slice (some ⟨w.heap.size, 0, none⟩) 0 0) (w.alloc (.cells #[] 35)) := by kernel_rfl
set_option maxRecDepth 100000 in
set_option maxHeartbeats 1000000 in
theorem cloK {w : World} {b off n cap : Nat} {xs : List Value} (h0 : 0 < n) (hn : n ≤ 100) (hx : xs.length = n * 32) (h1 : ∀ u ∈ xs, u.oneCell' = true) (hr : ∀ j v, xs[j]? = some v → w.cell? ⟨b, off + j, none⟩ = some v) :
    Calls Tryz.prog 125 #[.slice (some ⟨b, off, none⟩) n cap] w fun e w' => ∃ a c, e = .returned (.slice a n c) ∧ w'.ownsRow w.heap.size 35 32 (.slice a n c) n xs ∧ Upd [] w w' := by
  obtain ⟨i0, hi0, hz0, hz1, hz2⟩ := info_parts infoKey
  have hb := run_build0K
  have hown : (w.alloc (.cells #[] 35)).ownsRow w.heap.size 35 32 (.slice (some ⟨w.heap.size, 0, none⟩) 0 0) 0 [] := ⟨by simp, .inr ⟨w.heap.size, 0, #[], rfl, Nat.le_refl _, blk_alloc _, Nat.le_refl _, Nat.zero_le _, by simp, by simp⟩⟩
  obtain ⟨v', w', hrun, ho, hg, _⟩ := run_append_own (P := Tryz.prog) (w.alloc (.cells #[] 35)) w.heap.size 141 141 35 i0 _ 32 32 Tryz.underlying141 hi0 hz0 hz1 hz2 rfl (by decide) _ 0 [] hown ⟨b, off, none⟩ n cap xs hx
    (fun k u hj => by
      rw [addr_add]
      exact cell_upd (hr k u hj) ((Upd.refl [] _).alloc _) (by simp)) h1 (by unfold maxLen; omega) (by omega) (by simp)
  have hs : ∃ a c', v' = .slice a n c' := by
    rcases ho.2 with ⟨_, h⟩ | ⟨g, cap, cur, h, _⟩
    · omega
    · exact ⟨_, _, by rw [h, Nat.zero_add]⟩
  obtain ⟨a', c', rfl⟩ := hs
  rw [Nat.zero_add, List.nil_append] at ho
  have hrun' : ∀ ty, (Builtin.append_ #[141, 141] ty #[.slice (some ⟨w.heap.size, 0, none⟩) 0 0, .slice (some ⟨b, off, none⟩) n cap]).run Tryz.prog (w.alloc (.cells #[] 35)) = .ok (.slice a' n c') w' := fun _ => hrun
  have hu : Upd [] w w' := by
    have u1 : Upd [] w (w.alloc (.cells #[] 35)) := (Upd.refl [] w).alloc _
    have u2 : Upd [w.heap.size] (w.alloc (.cells #[] 35)) w' := ⟨hg.os, hg.tape, hg.output, hg.size, fun k hk hS => hg.block k hk (by simp [Value.ownBlock]; rintro rfl; exact hS (by simp))⟩
    exact u1.late u2 (fun k hk => .inr (by simp at hk; omega))
  have hnil : ∀ (a : Option Addr) (n c : Nat) (w : World), (binOp .eql 141 (.slice a n c) (.slice none 0 0)).run Tryz.prog w = .ok (.bool a.isNone) w := fun a n c w => Lib.run_eql_slice_nil w 141 35 a n c 0 0 Tryz.underlying141
  have HO := Lib.hid ho
  have HU := Lib.hid hu
  clear hrun ho hg hu hown hr
  go_enter Tryz.func125, Tryz.ntmps125
  go_wp2_with (at_builtin; refine wpList_append_run rfl _ _ _ rfl rfl rfl hrun' ?_)
  go_ret
  exact ⟨_, _, rfl, HO.out, HU.out⟩
theorem run_build0V (w : World) : (Instr.buildSlice 142 0 #[]).run Tryz.prog w = .ok (.slice (some ⟨w.heap.size, 0, none⟩) 0 0) (w.alloc (.cells #[] 45)) := by kernel_rfl
set_option maxRecDepth 100000 in
set_option maxHeartbeats 1000000 in
theorem cloV {w : World} {b off n cap : Nat} {xs : List Value} (h0 : 0 < n) (hn : n ≤ 100) (hx : xs.length = n * 16) (h1 : ∀ u ∈ xs, u.oneCell' = true) (hr : ∀ j v, xs[j]? = some v → w.cell? ⟨b, off + j, none⟩ = some v) :
    Calls Tryz.prog 126 #[.slice (some ⟨b, off, none⟩) n cap] w fun e w' => ∃ a c, e = .returned (.slice a n c) ∧ w'.ownsRow w.heap.size 45 16 (.slice a n c) n xs ∧ Upd [] w w' := by
  obtain ⟨i0, hi0, hz0, hz1, hz2⟩ := info_parts infoVal
  have hb := run_build0V
  have hown : (w.alloc (.cells #[] 45)).ownsRow w.heap.size 45 16 (.slice (some ⟨w.heap.size, 0, none⟩) 0 0) 0 [] := ⟨by simp, .inr ⟨w.heap.size, 0, #[], rfl, Nat.le_refl _, blk_alloc _, Nat.le_refl _, Nat.zero_le _, by simp, by simp⟩⟩
  obtain ⟨v', w', hrun, ho, hg, _⟩ := run_append_own (P := Tryz.prog) (w.alloc (.cells #[] 45)) w.heap.size 142 142 45 i0 _ 16 16 Tryz.underlying142 hi0 hz0 hz1 hz2 rfl (by decide) _ 0 [] hown ⟨b, off, none⟩ n cap xs hx
    (fun k u hj => by
      rw [addr_add]
      exact cell_upd (hr k u hj) ((Upd.refl [] _).alloc _) (by simp)) h1 (by unfold maxLen; omega) (by omega) (by simp)
  have hs : ∃ a c', v' = .slice a n c' := by
    rcases ho.2 with ⟨_, h⟩ | ⟨g, cap, cur, h, _⟩
    · omega
    · exact ⟨_, _, by rw [h, Nat.zero_add]⟩
  obtain ⟨a', c', rfl⟩ := hs
  rw [Nat.zero_add, List.nil_append] at ho
  have hrun' : ∀ ty, (Builtin.append_ #[142, 142] ty #[.slice (some ⟨w.heap.size, 0, none⟩) 0 0, .slice (some ⟨b, off, none⟩) n cap]).run Tryz.prog (w.alloc (.cells #[] 45)) = .ok (.slice a' n c') w' := fun _ => hrun
  have hu : Upd [] w w' := by
    have u1 : Upd [] w (w.alloc (.cells #[] 45)) := (Upd.refl [] w).alloc _
    have u2 : Upd [w.heap.size] (w.alloc (.cells #[] 45)) w' := ⟨hg.os, hg.tape, hg.output, hg.size, fun k hk hS => hg.block k hk (by simp [Value.ownBlock]; rintro rfl; exact hS (by simp))⟩
    exact u1.late u2 (fun k hk => .inr (by simp at hk; omega))
  have hnil : ∀ (a : Option Addr) (n c : Nat) (w : World), (binOp .eql 142 (.slice a n c) (.slice none 0 0)).run Tryz.prog w = .ok (.bool a.isNone) w := fun a n c w => Lib.run_eql_slice_nil w 142 45 a n c 0 0 Tryz.underlying142
  have HO := Lib.hid ho
  have HU := Lib.hid hu
  clear hrun ho hg hu hown hr
  go_enter Tryz.func126, Tryz.ntmps126
  go_wp2_with (at_builtin; refine wpList_append_run rfl _ _ _ rfl rfl rfl hrun' ?_)
  go_ret
  exact ⟨_, _, rfl, HO.out, HU.out⟩
theorem run_build0D (w : World) : (Instr.buildSlice 143 0 #[]).run Tryz.prog w = .ok (.slice (some ⟨w.heap.size, 0, none⟩) 0 0) (w.alloc (.cells #[] 47)) := by kernel_rfl
set_option maxRecDepth 100000 in
set_option maxHeartbeats 1000000 in
theorem cloD {w : World} {b off n cap : Nat} {xs : List Value} (h0 : 0 < n) (hn : n ≤ 100) (hx : xs.length = n * 1) (h1 : ∀ u ∈ xs, u.oneCell' = true) (hr : ∀ j v, xs[j]? = some v → w.cell? ⟨b, off + j, none⟩ = some v) :
    Calls Tryz.prog 129 #[.slice (some ⟨b, off, none⟩) n cap] w fun e w' => ∃ a c, e = .returned (.slice a n c) ∧ w'.ownsRow w.heap.size 47 1 (.slice a n c) n xs ∧ Upd [] w w' := by
  obtain ⟨i0, hi0, hz0, hz1, hz2⟩ := info_parts infoNum
  have hb := run_build0D
  have hown : (w.alloc (.cells #[] 47)).ownsRow w.heap.size 47 1 (.slice (some ⟨w.heap.size, 0, none⟩) 0 0) 0 [] := ⟨by simp, .inr ⟨w.heap.size, 0, #[], rfl, Nat.le_refl _, blk_alloc _, Nat.le_refl _, Nat.zero_le _, by simp, by simp⟩⟩
  obtain ⟨v', w', hrun, ho, hg, _⟩ := run_append_own (P := Tryz.prog) (w.alloc (.cells #[] 47)) w.heap.size 143 143 47 i0 _ 1 4 Tryz.underlying143 hi0 hz0 hz1 hz2 rfl (by decide) _ 0 [] hown ⟨b, off, none⟩ n cap xs hx
    (fun k u hj => by
      rw [addr_add]
      exact cell_upd (hr k u hj) ((Upd.refl [] _).alloc _) (by simp)) h1 (by unfold maxLen; omega) (by omega) (by simp)
  have hs : ∃ a c', v' = .slice a n c' := by
    rcases ho.2 with ⟨_, h⟩ | ⟨g, cap, cur, h, _⟩
    · omega
    · exact ⟨_, _, by rw [h, Nat.zero_add]⟩
  obtain ⟨a', c', rfl⟩ := hs
  rw [Nat.zero_add, List.nil_append] at ho
  have hrun' : ∀ ty, (Builtin.append_ #[143, 143] ty #[.slice (some ⟨w.heap.size, 0, none⟩) 0 0, .slice (some ⟨b, off, none⟩) n cap]).run Tryz.prog (w.alloc (.cells #[] 47)) = .ok (.slice a' n c') w' := fun _ => hrun
  have hu : Upd [] w w' := by
    have u1 : Upd [] w (w.alloc (.cells #[] 47)) := (Upd.refl [] w).alloc _
    have u2 : Upd [w.heap.size] (w.alloc (.cells #[] 47)) w' := ⟨hg.os, hg.tape, hg.output, hg.size, fun k hk hS => hg.block k hk (by simp [Value.ownBlock]; rintro rfl; exact hS (by simp))⟩
    exact u1.late u2 (fun k hk => .inr (by simp at hk; omega))
  have hnil : ∀ (a : Option Addr) (n c : Nat) (w : World), (binOp .eql 143 (.slice a n c) (.slice none 0 0)).run Tryz.prog w = .ok (.bool a.isNone) w := fun a n c w => Lib.run_eql_slice_nil w 143 47 a n c 0 0 Tryz.underlying143
  have HO := Lib.hid ho
  have HU := Lib.hid hu
  clear hrun ho hg hu hown hr
  go_enter Tryz.func129, Tryz.ntmps129
  go_wp2_with (at_builtin; refine wpList_append_run rfl _ _ _ rfl rfl rfl hrun' ?_)
  go_ret
  exact ⟨_, _, rfl, HO.out, HU.out⟩

end Go.Proofs.YtceakcejchbbjaaGreat
