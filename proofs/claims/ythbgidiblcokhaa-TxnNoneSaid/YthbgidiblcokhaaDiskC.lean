/-
  What disk.New and Disk.Read do.
-/
import Derived.Test.YthbgidiblcokhaaDiskB
namespace Go.Proofs.Ythbgidiblcokhaa
open Go.RowKit

theorem zeroBytes (w : World) : (zeroValue 36).run Try.prog w = .ok (.slice none 0 0) w := by kernel_rfl

theorem Dk.may_zero {D : Dk} {i : Int} (h : D.may i = 0) : D.off = false ∧ 0 ≤ i ∧ i < D.n := by
  unfold Dk.may at h
  split at h
  · simp at h
  · split at h
    · simp at h
    · rename_i a b; refine ⟨by simpa using a, by omega, by omega⟩
theorem Dk.may_of {D : Dk} {i : Int} (h : D.off = false) (h0 : 0 ≤ i) (h1 : i < D.n) : D.may i = 0 := by
  unfold Dk.may; rw [h, if_neg (by simp), if_neg (by omega)]

set_option maxHeartbeats 400000 in
theorem read_err {w : World} {F : Nat → Prop} {g : DG} {D : Dk} (h : DiskAt w F g D) (i : Int) (hm : D.may i ≠ 0) :
    Calls Try.prog 51 #[.pointer (some ⟨g.db, 0, none⟩), .int .i64 i] w fun e w' => e = .returned (.tuple #[.slice none 0 0, .int .i64 (D.may i)]) ∧ w = w' := by
  have H := Lib.hid h
  have hm' : (D.may i != 0) = true := by simpa using hm
  clear h hm
  go_enter Try.func51, Try.ntmps51
  go_wp2_with (go_at_call 69; refine (may_spec H.out _).mono ?_; rintro e w' ⟨rfl, rfl⟩)
  go_ret2
  exact ⟨rfl, rfl⟩

set_option maxHeartbeats 400000 in
theorem read_ok {w : World} {F : Nat → Prop} {g : DG} {D : Dk} (h : DiskAt w F g D) (i : Nat) (hoff : D.off = false) (hi : i < D.n) :
    Calls Try.prog 51 #[.pointer (some ⟨g.db, 0, none⟩), .int .i64 (i : Int)] w fun e w' => e = .returned (.tuple #[.slice (some ⟨w.heap.size, 0, none⟩) 512 512, .int .i64 0]) ∧ w.alloc (.cells (bts (D.now i)).toArray 5) = w' := by
  have H := Lib.hid h
  have hm : D.may i = 0 := Dk.may_of hoff (by omega) (by omega)
  have hm' : (D.may i != 0) = false := by simp [hm]
  obtain ⟨fv, a1, _⟩ := h.st
  obtain ⟨f, hf, hf1, hf2⟩ := h.wait
  obtain ⟨lv, b1, b2, b3⟩ := h.last
  have hc := blk_cell a1
  have hok := h.ok
  have hlk := hf.lookup (P := Try.prog) (T := 49) Try.underlying49 Try.underlying3 (zeroBytes w) (i : Int) true
  cases hfi : f (i : Int) with
  | some v =>
    obtain ⟨_, s, e1, o⟩ := hf1 _ _ hfi
    have hnow : pad s = D.now i := by
      have e2 : D.wait i = some s := by simpa using e1
      rw [pad_full (hok.wait i s e2).2]; simp [Dk.now, e2]
    rw [hfi] at hlk
    simp only [if_true, Option.getD_some, Option.isSome_some] at hlk
    have HR := Lib.hid o.rd
    have HN := Lib.hid hnow
    clear h a1 hf hf1 hf2 b1 b2 b3 hok hm o hnow hfi e1
    go_enter Try.func51, Try.ntmps51
    go_wp2_with (first | (go_at_call 69; refine (may_spec H.out _).mono ?_; rintro e w' ⟨rfl, rfl⟩) | (go_at_call 64; refine (whole_spec _ _ _ HR.out).mono ?_; rintro e w' ⟨rfl, rfl⟩))
    go_ret2
    exact ⟨rfl, by rw [HN.out]⟩
  | none =>
    have e2 : D.wait i = none := by
      cases hq : D.wait i with
      | none => rfl
      | some s => obtain ⟨v, hv⟩ := hf2 i s hq; rw [hfi] at hv; simp at hv
    rw [hfi] at hlk
    simp only [if_true, Option.getD_none, Option.isSome_none] at hlk
    obtain ⟨v, hv⟩ : ∃ v, lv[i]? = some v := ⟨_, List.getElem?_eq_getElem (by omega)⟩
    have hcl : w.cell? ⟨g.lb, i, none⟩ = some v := by rw [blk_cell b1]; simpa using hv
    have hnow : ∃ l, Rd w v l ∧ pad l = D.now i := by
      rcases b3 i v hv with ⟨rfl, e⟩ | o
      · exact ⟨[], Rd.nil w, by rw [pad_nil]; simp [Dk.now, e2, e]⟩
      · exact ⟨_, o.rd, by rw [pad_full (hok.last i)]; simp [Dk.now, e2]⟩
    obtain ⟨l, hr, hn⟩ := hnow
    have HR := Lib.hid hr
    have HN := Lib.hid hn
    clear h a1 hf hf1 hf2 b1 b2 b3 hok hm hr hn hfi hv
    go_enter Try.func51, Try.ntmps51
    go_wp2_with (first | (go_at_call 69; refine (may_spec H.out _).mono ?_; rintro e w' ⟨rfl, rfl⟩) | (go_at_call 64; refine (whole_spec _ _ _ HR.out).mono ?_; rintro e w' ⟨rfl, rfl⟩))
    go_ret2
    exact ⟨rfl, by rw [HN.out]⟩

theorem infoBS : (Try.prog.info? 36).map (fun i => (i.zero, i.size, i.bytes)) = some (some (.slice none 0 0), 1, 24) := by kernel_rfl

theorem madeCells_one (z : Value) (hz : z.cells = #[z]) (n : Nat) : madeCells z.cells n = (List.replicate n z).toArray := by
  rw [hz]
  apply Array.ext
  · simp [size_madeCells]
  · intro i h1 h2
    simp [madeCells, Nat.mod_one]

theorem run_make_bs (n : Nat) (hn : n ≤ 100000) (w : World) : (Instr.makeSlice 84 (.int .i64 (n : Int)) (.int .i64 (n : Int))).run Try.prog w =
    .ok (.slice (some ⟨w.heap.size, 0, none⟩) n n) (w.alloc (.cells (List.replicate n (.slice none 0 0)).toArray 36)) := by
  obtain ⟨i0, hi, hz0, hz1, hz2⟩ := info_parts infoBS
  have := run_make (P := Try.prog) w 84 36 i0 (.slice none 0 0) Try.underlying84 hi hz0 .i64 .i64 n n (by omega) (by omega) (by rw [hz2]; omega) (by omega)
  rw [this, hz1]
  simp only [Int.toNat_natCast, Nat.mul_one]
  rw [madeCells_one _ rfl]

set_option maxHeartbeats 400000 in
theorem new_spec (n : Nat) (h0 : 32 ≤ n) (h1 : n ≤ 4096) (w : World) :
    Calls Try.prog 16 #[.int .i64 (n : Int)] w fun e w' => e = .returned (.pointer (some ⟨w.heap.size + 2, 0, none⟩)) ∧ DiskAt w' (fun _ => False) ⟨w.heap.size + 2, w.heap.size, w.heap.size + 1⟩ (Dk.new n) ∧ Upd [] w w' := by
  have hmk := run_make_bs n (by omega)
  have hmm := @run_makeMap Try.prog
  have fin : ∀ A B C : Obj, A = .cells (Array.replicate n (.slice none 0 0)) 36 → B = .map #[] 0 → C = .cells #[.slice (some ⟨w.heap.size, 0, none⟩) n n, .map (some (w.heap.size + 1)), .bool false, .int .i64 (-1), .int .i64 0, .int .i64 (-1), .slice none 0 0, .int .i64 0, .int .i64 0] 86 →
      DiskAt (((w.alloc A).alloc B).alloc C) (fun _ => False) ⟨w.heap.size + 2, w.heap.size, w.heap.size + 1⟩ (Dk.new n) ∧ Upd [] w (((w.alloc A).alloc B).alloc C) := by
    intro A B C eA eB eC
    have e3 : (((w.alloc A).alloc B).alloc C).heap[w.heap.size + 2]? = some C := by
      have := blk_alloc (w := (w.alloc A).alloc B) C
      simpa using this
    have e2 : (((w.alloc A).alloc B).alloc C).heap[w.heap.size + 1]? = some B := by
      rw [blk_alloc_ne (by simp)]
      have := blk_alloc (w := w.alloc A) B
      simpa using this
    have e1 : (((w.alloc A).alloc B).alloc C).heap[w.heap.size]? = some A := by
      rw [blk_alloc_ne (by simp; omega), blk_alloc_ne (by simp)]
      exact blk_alloc A
    refine ⟨⟨⟨.slice none 0 0, ?_, .inr ⟨rfl, rfl⟩⟩, ⟨List.replicate n (.slice none 0 0), ?_, by simp [Dk.new], ?_⟩, ⟨fun _ => none, ?_, by simp, by simp [Dk.new]⟩, ?_⟩, (((Upd.refl _ _).alloc _).alloc _).alloc _⟩
    · rw [e3, eC]; rfl
    · rw [e1, eA]; simp
    · intro i v hv
      rw [List.getElem?_replicate] at hv
      split at hv
      · cases hv; exact .inl ⟨rfl, rfl⟩
      · simp at hv
    · exact MapI.made (c := 0) (by rw [e2, eB])
    · exact ⟨h0, h1, fun _ => zsec_length, by simp [Dk.new], by simp [Dk.new], by simp [Dk.new], by simp [Dk.new], by simp [Dk.new], by simp [Dk.new]⟩
  have FIN := Lib.hid fin
  clear fin
  go_enter Try.func16, Try.ntmps16
  go_wp2
  go_ret
  exact ⟨rfl, FIN.out _ _ _ rfl rfl rfl⟩

end Go.Proofs.Ythbgidiblcokhaa
