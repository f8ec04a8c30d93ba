/-
  The disk in memory, and what its small functions do: whole, Clone, Len, may, Dead, Lives, Writes, Arm.
-/
import Derived.Test.YthbgidiblcokhaaBytes
import Derived.Test.YthbgidiblcokhaaMaps
import Derived.Lib.SliceRun
namespace Go.Proofs.Ythbgidiblcokhaa
open Go.RowKit

theorem infoU8 : (Try.prog.info? 5).map (fun i => (i.zero, i.size, i.bytes)) = some (some (.int .u8 0), 1, 1) := by kernel_rfl
theorem sizeU8 : (Try.prog.info? 5).map (·.size) = some 1 := by kernel_rfl

/-- make([]byte, n) with a constant n. -/
theorem run_make_u8 (n : Nat) (hn : n ≤ 100000) (w : World) : (Instr.makeSlice 36 (.int .i64 (n : Int)) (.int .i64 (n : Int))).run Try.prog w =
    .ok (.slice (some ⟨w.heap.size, 0, none⟩) n n) (w.alloc (.cells (bts (List.replicate n 0)).toArray 5)) := by
  obtain ⟨i0, hi, hz0, hz1, hz2⟩ := info_parts infoU8
  have := run_make (P := Try.prog) w 36 5 i0 (.int .u8 0) Try.underlying36 hi hz0 .i64 .i64 n n (by omega) (by omega) (by rw [hz2]; omega) (by omega)
  rw [this, hz1]
  simp only [Int.toNat_natCast, Nat.mul_one]
  rw [show (Value.int IntKind.u8 0).cells = #[.int .u8 0] from rfl, madeCells_bytes]
theorem run_make_512 (w : World) : (Instr.makeSlice 36 (.int .i64 512) (.int .i64 512)).run Try.prog w =
    .ok (.slice (some ⟨w.heap.size, 0, none⟩) 512 512) (w.alloc (.cells (bts zsec).toArray 5)) := run_make_u8 512 (by omega) w

theorem Rd.alloc {w : World} {v : Value} {l : List UInt8} (h : Rd w v l) (o : Obj) : Rd (w.alloc o) v l := by
  obtain ⟨ao, cap, e, hc, hh⟩ := h
  refine ⟨ao, cap, e, hc, fun hp => ?_⟩
  obtain ⟨b, off, rfl, hcell⟩ := hh hp
  refine ⟨b, off, rfl, fun i hi => ?_⟩
  have hlt : b < w.heap.size := block_lt_of_cell (hcell i hi)
  rw [World.cell?_alloc_past _ _ _ hlt]; exact hcell i hi

set_option maxHeartbeats 400000 in
theorem whole_spec (v : Value) (l : List UInt8) (w : World) (hr : Rd w v l) :
    Calls Try.prog 64 #[v] w fun e w' => e = .returned (.slice (some ⟨w.heap.size, 0, none⟩) 512 512) ∧ w.alloc (.cells (bts (pad l)).toArray 5) = w' := by
  have hmk := run_make_512
  have hcp : ∀ ty, (Builtin.copy_ #[36, 36] ty #[.slice (some ⟨w.heap.size, 0, none⟩) 512 512, v]).run Try.prog (w.alloc (.cells (bts zsec).toArray 5)) = .ok (goInt ((min l.length 512 : Nat) : Int)) (w.alloc (.cells (bts (pad l)).toArray 5)) := by
    intro ty
    rw [run_copy_rd (u8 := 5) Try.underlying36 sizeU8 w.heap.size 0 512 512 (bts zsec) (blk_alloc _) (by rw [bts_length, zsec_length]; omega) (hr.alloc _), setRow_alloc, splice_pad]
  clear hr
  generalize (bts zsec).toArray = Z at *
  generalize (bts (pad l)).toArray = Y at *
  go_enter Try.func64, Try.ntmps64
  go_wp2
  go_ret
  exact ⟨rfl, rfl⟩

/-- A row of the program's own, or the nil slice where there is no byte. -/
def OwnN (w : World) (u8 : TypeId) (F : Nat → Prop) (v : Value) (l : List UInt8) : Prop := Own w u8 F v l ∨ (l = [] ∧ v = .slice none 0 0)

theorem OwnN.rd {w : World} {u8 : TypeId} {F : Nat → Prop} {v : Value} {l : List UInt8} (h : OwnN w u8 F v l) : Rd w v l := by
  rcases h with h | ⟨rfl, rfl⟩
  · exact h.rd
  · exact Rd.nil w
theorem OwnN.mono {w : World} {u8 : TypeId} {F G : Nat → Prop} {v : Value} {l : List UInt8} (h : OwnN w u8 F v l) (hFG : ∀ k, F k → G k) : OwnN w u8 G v l := by
  rcases h with h | h
  · exact .inl (h.mono hFG)
  · exact .inr h
theorem OwnN.world {w w' : World} {u8 : TypeId} {F : Nat → Prop} {v : Value} {l : List UInt8} (h : OwnN w u8 F v l) (ha : ∀ k c, F k → w.heap[k]? = some (.cells c u8 (0, 0)) → w'.heap[k]? = w.heap[k]?) : OwnN w' u8 F v l := by
  rcases h with h | h
  · exact .inl (h.world ha)
  · exact .inr h
theorem OwnN.own {w : World} {u8 : TypeId} {F : Nat → Prop} {v : Value} {l : List UInt8} (h : OwnN w u8 F v l) (hl : 0 < l.length) : Own w u8 F v l := by
  rcases h with h | ⟨rfl, _⟩
  · exact h
  · simp at hl

theorem ownN_of_row {w : World} {base : Nat} {u8 : TypeId} {v : Value} {l : List UInt8} (h : w.ownsRow base u8 1 v l.length (bts l)) : OwnN w u8 (fun k => base ≤ k) v l := by
  rcases h.2 with ⟨rfl, h0⟩ | ⟨g, cap, cur, rfl, hb, hg, hc, _, hs, ht⟩
  · exact .inr ⟨List.eq_nil_of_length_eq_zero h0, rfl⟩
  · refine .inl ⟨g, cur.toList.drop l.length, hb, ?_, ?_⟩
    · congr 1; simp; omega
    · rw [hg]; congr 2
      rw [Nat.mul_one] at ht
      rw [← ht, List.take_append_drop]
theorem row_of_ownN {w : World} {base : Nat} {u8 : TypeId} {v : Value} {l : List UInt8} (h : OwnN w u8 (fun k => base ≤ k) v l) (hm : ∀ o n c, v = .slice o n c → c ≤ maxLen) : w.ownsRow base u8 1 v l.length (bts l) := by
  rcases h with ⟨k, rest, hk, rfl, hb⟩ | ⟨rfl, rfl⟩
  · exact ⟨by simp, .inr ⟨k, _, _, rfl, hk, hb, by omega, hm _ _ _ rfl, by simp, by simp⟩⟩
  · exact ⟨by simp, .inl ⟨rfl, rfl⟩⟩

theorem run_build_u8 (w : World) : (Instr.buildSlice 36 0 #[]).run Try.prog w = .ok (.slice (some ⟨w.heap.size, 0, none⟩) 0 0) (w.alloc (.cells #[] 5)) := by kernel_rfl

set_option maxHeartbeats 400000 in
theorem clone_spec (v : Value) (l : List UInt8) (w : World) (hr : Rd w v l) (hl : l.length ≤ 1000000) :
    Calls Try.prog 62 #[v] w fun e w' => ∃ v', e = .returned v' ∧ Upd [] w w' ∧ OwnN w' 5 (fun k => w.heap.size ≤ k) v' l := by
  obtain ⟨ao, cap, rfl, _, hh⟩ := hr.cells
  have hnil : ∀ (a : Option Addr) (n c : Nat) (w : World), (binOp .eql 36 (.slice a n c) (.slice none 0 0)).run Try.prog w = .ok (.bool a.isNone) w := fun a n c w => Lib.run_eql_slice_nil w 36 5 a n c 0 0 Try.underlying36
  cases ao with
  | none =>
    have h0 : l = [] := by
      apply List.eq_nil_of_length_eq_zero
      by_cases h : 0 < l.length
      · obtain ⟨_, e, _⟩ := hh h; simp at e
      · omega
    clear hh hr
    go_enter Try.func62, Try.ntmps62
    go_wp2
    go_ret
    exact ⟨_, rfl, Upd.refl _ _, .inr ⟨h0, rfl⟩⟩
  | some ad =>
    have hbs := run_build_u8
    obtain ⟨i0, hi, hz0, hz1, hz2⟩ := info_parts infoU8
    have happ : ∃ v' w', (∀ ty, (Builtin.append_ #[36, 36] ty #[.slice (some ⟨w.heap.size, 0, none⟩) 0 0, .slice (some ad) l.length cap]).run Try.prog (w.alloc (.cells #[] 5)) = .ok v' w') ∧ Upd [] w w' ∧ OwnN w' 5 (fun k => w.heap.size ≤ k) v' l := by
      have hc' : ∀ j u, (bts l)[j]? = some u → (w.alloc (.cells #[] 5)).cell? (ad.add j) = some u := by
        intro j u hj
        obtain ⟨ad', e, hc⟩ := hh (by have := (List.getElem?_eq_some_iff.1 hj).1; simp at this; omega)
        cases e
        have hb : (ad.add j).block < w.heap.size := block_lt_of_cell (hc j u hj)
        rw [World.cell?_of_block (w := w) (blk_alloc_ne hb)]
        exact hc j u hj
      obtain ⟨v', w', hrun, hown, hg, _⟩ := run_append_own (P := Try.prog) (w.alloc (.cells #[] 5)) w.heap.size 36 0 5 i0 (.int .u8 0) 1 1 Try.underlying36 hi hz0 hz1 hz2 rfl (by decide) _ 0 []
        (World.ownsRow_made w #[] 0 (Nat.le_refl _) (by unfold maxLen; omega) rfl) ad l.length cap (bts l) (by simp) hc' (bts_one _) (by unfold maxLen; omega) (by omega) (by simp)
      refine ⟨v', w', fun _ => hrun, ((Upd.refl _ _).alloc _).grown hg (fun k hk => by cases hk; exact .inr (Nat.le_refl _)), ownN_of_row (by simpa using hown)⟩
    obtain ⟨v', w', hrun, hu, ho⟩ := happ
    clear hh hr hi hz0 hz1 hz2
    have HU := Lib.hid hu; clear hu
    have HO := Lib.hid ho; clear ho
    go_enter Try.func62, Try.ntmps62
    go_wp2_with (at_builtin; refine wpList_append_run rfl _ _ _ rfl rfl rfl hrun ?_)
    go_ret
    exact ⟨_, rfl, HU.out, HO.out⟩

end Go.Proofs.Ythbgidiblcokhaa
