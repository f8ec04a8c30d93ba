/-
  Package pack, plain: the round of room; results that hold a stat.
-/
import Derived.Test.YtceakcejchbbjaaGreatPkE
set_option linter.unusedSimpArgs false
set_option linter.unusedVariables false
namespace Go.Proofs.YtceakcejchbbjaaGreat
open Go.RowKit Go.MapKept Go.ChangeMaps

theorem cell_updP {w w' : World} {S : List Nat} {a : Addr} {v : Value} (h : w.cell? a = some v) (hu : Upd S w w') (hS : a.block ∉ S) : w'.cell? a = some v := by
  rw [World.cell?_of_block (w := w) (hu.block _ (block_lt_of_cell h) hS)]; exact h
/-- A stat as a value. -/
def stV (x : Nat × Nat × Nat) : Value := .agg #[.int .i64 (x.1 : Int), .int .i64 (x.2.1 : Int), .int .i64 (x.2.2 : Int)]
/-- What room has found when q packs are looked at. -/
structure RoomI (K : Nat → Option Pk) (but : Int) (l q free : Nat) : Prop where
  le : free ≤ 64
  none_ : free < 64 → K free = Option.none ∧ free < q
  some_ : ∀ m, m < q → m < free → K m ≠ Option.none
  fit : ∀ m, m < q → ¬ FitsP K but l m
theorem RoomI.zero (K : Nat → Option Pk) (but : Int) (l : Nat) : RoomI K but l 0 64 := ⟨Nat.le_refl _, fun h => by omega, fun _ h => by omega, fun _ h => by omega⟩
theorem RoomI.stepNone {K : Nat → Option Pk} {but : Int} {l q free : Nat} (h : RoomI K but l q free) (hq : q < 64) (hk : K q = Option.none) : RoomI K but l (q + 1) (min free q) := by
  have hfit : ∀ m, m < q + 1 → ¬ FitsP K but l m := fun m hm => by
    by_cases e : m = q
    · subst e; rintro ⟨_, p, hp, _⟩; rw [hk] at hp; cases hp
    · exact h.fit m (by omega)
  by_cases hf : free < 64
  · obtain ⟨h1, h2⟩ := h.none_ hf
    have e : min free q = free := by omega
    rw [e]
    exact ⟨h.le, fun _ => ⟨h1, by omega⟩, fun m hm hm2 => h.some_ m (by omega) hm2, hfit⟩
  · have e : min free q = q := by have := h.le; omega
    rw [e]
    exact ⟨by omega, fun _ => ⟨hk, by omega⟩, fun m hm hm2 => h.some_ m hm2 (by have := h.le; omega), hfit⟩
theorem RoomI.stepSome {K : Nat → Option Pk} {but : Int} {l q free : Nat} (h : RoomI K but l q free) {p : Pk} (hk : K q = some p) (hn : ¬ FitsP K but l q) : RoomI K but l (q + 1) free := by
  refine ⟨h.le, fun hf => ⟨(h.none_ hf).1, by have := (h.none_ hf).2; omega⟩, fun m hm hm2 => ?_, fun m hm => ?_⟩
  · by_cases e : m = q
    · subst e; rw [hk]; exact fun e => by cases e
    · exact h.some_ m (by omega) hm2
  · by_cases e : m = q
    · subst e; exact hn
    · exact h.fit m (by omega)
theorem RoomI.found {K : Nat → Option Pk} {but : Int} {l q free : Nat} (h : RoomI K but l q free) (hq : q < 64) (hf : FitsP K but l q) : RoomR K but l q free :=
  ⟨by omega, fun _ => hf, h.fit, h.le, fun hf => (h.none_ hf).1, h.some_⟩
theorem RoomI.done {K : Nat → Option Pk} {but : Int} {l free : Nat} (h : RoomI K but l 64 free) : RoomR K but l 64 free :=
  ⟨Nat.le_refl _, fun h => by omega, h.fit, h.le, fun hf => (h.none_ hf).1, h.some_⟩
theorem results_st {fn : Func} {p u : Tmp} (h : fn.results = #[.cell p 119, .tmp u]) (tmps : Array Value) (w : World) (g : Nat) (x y z : Value)
    (hp : tmps.getD p undef = .pointer (some ⟨g, 0, none⟩)) (hg : w.heap[g]? = some (.cells #[x, y, z] 119 (0, 0))) :
    (results fn tmps).run Tryz.prog w = .ok (.tuple #[.agg #[x, y, z], tmps.getD u undef]) w := by
  have hp' : tmps[p]?.getD undef = .pointer (some ⟨g, 0, none⟩) := by simpa using hp
  have c0 : w.cell? ⟨g, 0, none⟩ = some x := by rw [blk_cell hg]; rfl
  have c1 : w.cell? ⟨g, 1, none⟩ = some y := by rw [blk_cell hg]; rfl
  have c2 : w.cell? ⟨g, 2, none⟩ = some z := by rw [blk_cell hg]; rfl
  simp [results, h, hp', asAddr, go_sem, c0, c1, c2]
theorem results_st3 {fn : Func} {p u v x : Tmp} (h : fn.results = #[.cell p 119, .tmp u, .tmp v, .tmp x]) (tmps : Array Value) (w : World) (g : Nat) (a b c : Value)
    (hp : tmps.getD p undef = .pointer (some ⟨g, 0, none⟩)) (hg : w.heap[g]? = some (.cells #[a, b, c] 119 (0, 0))) :
    (results fn tmps).run Tryz.prog w = .ok (.tuple #[.agg #[a, b, c], tmps.getD u undef, tmps.getD v undef, tmps.getD x undef]) w := by
  have hp' : tmps[p]?.getD undef = .pointer (some ⟨g, 0, none⟩) := by simpa using hp
  have c0 : w.cell? ⟨g, 0, none⟩ = some a := by rw [blk_cell hg]; rfl
  have c1 : w.cell? ⟨g, 1, none⟩ = some b := by rw [blk_cell hg]; rfl
  have c2 : w.cell? ⟨g, 2, none⟩ = some c := by rw [blk_cell hg]; rfl
  simp [results, h, hp', asAddr, go_sem, c0, c1, c2]
end Go.Proofs.YtceakcejchbbjaaGreat
