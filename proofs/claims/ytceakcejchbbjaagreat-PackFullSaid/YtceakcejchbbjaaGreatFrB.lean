/-
  Byte rows appended; octet.own, octet.Put.
-/
import Derived.Test.YtceakcejchbbjaaGreatFrA
set_option linter.unusedSimpArgs false
set_option linter.unusedVariables false
namespace Go.Proofs.YtceakcejchbbjaaGreat
open Go.RowKit Go.MapKept Go.ChangeMaps

attribute [local go_sem] loadCells storeCells
theorem append_noneB {w : World} {a : Option Addr} {n c c2 : Nat} (hn : n ≤ c) (ty : TypeId) : (Builtin.append_ #[37, 37] ty #[.slice a n c, .slice none 0 c2]).run Tryz.prog w = .ok (.slice a n c) w := by
  obtain ⟨i0, hi, hz, hz1, hz2⟩ := info_parts infoU8
  cases a <;> simp [Builtin.append_, run_underlying Tryz.underlying37, sizeOf, typeInfo, zeroValue, hi, hz, Builtin.lenOf, hn, Question.forced, run_firstCells_none, storeCells]
/-- A row of bytes of one's own, from a block at or beyond B. -/
def BRow (w : World) (B : Nat) (v : Value) (l : List UInt8) : Prop := w.ownsRow B 5 1 v l.length (bts l)
theorem BRow.nil (w : World) (B : Nat) : BRow w B (.slice none 0 0) [] := World.ownsRow_nil _ _ _ _
theorem BRow.shape {w : World} {B : Nat} {v : Value} {l : List UInt8} (h : BRow w B v l) : ∃ a c, v = .slice a l.length c ∧ l.length ≤ c ∧ (0 < l.length → ∃ g, a = some ⟨g, 0, none⟩ ∧ B ≤ g) := by
  rcases h.2 with ⟨rfl, h0⟩ | ⟨g, cap, cur, rfl, hb, hg, hc, _⟩
  · exact ⟨none, 0, by rw [h0], by omega, fun q => by omega⟩
  · exact ⟨_, _, rfl, hc, fun _ => ⟨g, rfl, hb⟩⟩
theorem BRow.keep {w w' : World} {B : Nat} {v : Value} {l : List UInt8} (h : BRow w B v l) (hu : Upd [] w w') : BRow w' B v l := by
  refine ⟨h.1, ?_⟩
  rcases h.2 with h | ⟨g, cap, cur, hv, hb, hg, r⟩
  · exact .inl h
  · exact .inr ⟨g, cap, cur, hv, hb, (hu.block g (blk_lt hg) (by simp)).trans hg, r⟩
theorem BRow.rd {w : World} {B : Nat} {v : Value} {l : List UInt8} (h : BRow w B v l) : Rd w v l := (ownN_of_row h).rd
theorem bytes_app {w : World} {B : Nat} {v x : Value} {l lx : List UInt8} (hp : BRow w B v l) (hx : Rd w x lx) (hln : l.length + lx.length ≤ 100000) (hB : B ≤ w.heap.size) :
    ∃ a c w', (∀ ty, (Builtin.append_ #[37, 37] ty #[v, x]).run Tryz.prog w = .ok (.slice a (l.length + lx.length) c) w') ∧ BRow w' B (.slice a (l.length + lx.length) c) (l ++ lx) ∧
      (∀ w0 : World, w0.heap.size ≤ B → Upd [] w0 w → Upd [] w0 w') := by
  obtain ⟨ao, cap, rfl, hcx, hh⟩ := hx.cells
  obtain ⟨i0, hi0, hz0, hz1, hz2⟩ := info_parts infoU8
  by_cases hao : ao = none
  · subst hao
    have h0 : lx.length = 0 := by
      rcases Nat.eq_zero_or_pos lx.length with q | q
      · exact q
      · obtain ⟨_, e, _⟩ := hh q; cases e
    obtain rfl : lx = [] := List.length_eq_zero_iff.1 h0
    obtain ⟨a, c, rfl, hc, _⟩ := hp.shape
    exact ⟨a, c, w, fun ty => append_noneB hc ty, by rw [List.append_nil]; exact hp, fun _ _ h => h⟩
  · obtain ⟨ad, rfl⟩ : ∃ ad, ao = some ad := by cases ao with | none => exact absurd rfl hao | some ad => exact ⟨ad, rfl⟩
    obtain ⟨v', w', hrun, hown, hg, _⟩ := run_append_own (P := Tryz.prog) w B 37 0 5 i0 (.int .u8 0) 1 1 Tryz.underlying37 hi0 hz0 hz1 hz2 rfl (by decide) v l.length _ hp ad lx.length cap (bts lx) (by rw [bts_length, Nat.mul_one])
      (fun k u hj => by
        obtain ⟨ad', e, hc⟩ := hh (by have := (List.getElem?_eq_some_iff.1 hj).1; rw [bts_length] at this; omega)
        cases e; exact hc k u hj) (bts_one _) (by unfold maxLen; omega) (by omega) hB
    have hsh : ∃ a c, v' = .slice a (l.length + lx.length) c := by
      rcases hown.2 with ⟨h, h0⟩ | ⟨g, cap, cur, h, _⟩
      · exact ⟨none, 0, by rw [h, h0]⟩
      · exact ⟨_, _, h⟩
    obtain ⟨a, c', rfl⟩ := hsh
    refine ⟨a, c', w', fun _ => hrun, ?_, fun w0 h0 hu => ?_⟩
    · unfold BRow
      rw [List.length_append, show bts (l ++ lx) = bts l ++ bts lx by simp [bts]]
      exact hown
    · refine ⟨hg.os.trans hu.os, hg.tape.trans hu.tape, hg.output.trans hu.output, Nat.le_trans hu.size hg.size, fun k hk hs => ?_⟩
      have hk2 : k < w.heap.size := Nat.lt_of_lt_of_le hk hu.size
      rw [hg.block k hk2 (fun e => ?_)]
      · exact hu.block k hk hs
      · rcases hp.2 with ⟨rfl, _⟩ | ⟨g, cap, cur, rfl, hb, _⟩
        · simp [Value.ownBlock] at e
        · simp [Value.ownBlock] at e; omega
end Go.Proofs.YtceakcejchbbjaaGreat
