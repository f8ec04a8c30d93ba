/-
  A range over a function whose iterator keeps its place in a cell of its own: one law for the caller.
-/
import Derived.RangeFuncBound
import Derived.RangeFuncLeaves
import Derived.Shelf.Abstract
import Derived.Shelf.RegionOpen
import Derived.WalkKit
import Derived.OwnWalkIn
import Derived.TacticsInMore
import Derived.LoopNIn
import Derived.LoopIn
import Derived.Test.YtceakcejchbbjaaGreatSpF
set_option linter.unusedSimpArgs false
set_option linter.unusedVariables false
namespace Go.Proofs.YtceakcejchbbjaaGreat
open Go.RowKit Go.MapKept Go.ChangeMaps

/-- No cells. -/
def notC : Obj → Prop
  | .cells _ _ _ => False
  | _ => True
/-- What an iterator owes that gives the list L, and writes the cell at b1 alone: whatever holds between the rounds abides that. -/
def Gives {α : Type} (F : Fence) (n : Nat) (P : Program) (g : Nat) (lb : Array Value) (encs : α → Array Value) (L : List α) (bs : List Nat) (b1 : Nat) (w : World) : Prop :=
  ∀ (l : Nat) (J : Nat → World → Prop) (W : World), (∀ b, b ∈ bs → W.heap[b]? = w.heap[b]?) → (∀ q W v, J q W → J q (W.setCell ⟨b1, 0, none⟩ v)) →
    (∀ q x W1, L[q]? = some x → J q W1 → YieldAt F (n - 1) P l (encs x) W1 fun e W' => e = .returned (.bool true) ∧ J (q + 1) W' ∧ ∀ b, b ∈ bs → W'.heap[b]? = W1.heap[b]?) →
    J 0 W → CallsIn F n P g (#[.func (.yield l) #[] #[]] ++ lb) W fun e W' => (∃ v, e = .returned v) ∧ J L.length W'

variable {F : Fence} {n : Nat} {P : Program}
theorem upd_put (W : World) (l : Nat) (o : Obj) : Upd [l] W (W.putObj l o) :=
  ⟨rfl, rfl, rfl, by simp, fun k hk hs => World.putObj_heap_other (by simp at hs; omega)⟩
/-- How a round is left. -/
def RoundEnd (D l : Nat) (bs : List Nat) (I : World → Prop) (W W2 : World) : Exit → Act → World → Prop
  | .normal, _, W3 => (∀ b, b ∈ [D, l] → W3.heap[b]? = W2.heap[b]?) ∧ I W3 ∧ ∀ b, b ∈ bs → W3.heap[b]? = W.heap[b]?
  | _, _, _ => False
/-- The statement, where no round leaves it. -/
theorem wpIn_rangeFunc_gives {α : Type} {g : Operand} {ps : Array Tmp} {assign body : Code} {Q : Exit → Act → World → Prop} {a : Act} {w : World}
    (hro : F.round = none) (h1 : 1 ≤ n) {gf : Nat} {lb : Array Value} (hg : a.eval g = .func (.func gf) #[] lb) (hFg : F.fn gf) (eg : ∀ args w, (callFunc gf args).run P w = .ok (.enter gf args) w)
    {encs : α → Array Value} {L : List α} {bs : List Nat} {b1 : Nat} (hseq : Gives F (n - 1) P gf lb encs L bs b1 w) (hbs : ∀ b, b ∈ bs → b < w.heap.size) (hb1 : b1 < w.heap.size) (hps : ∀ x, (encs x).size = ps.size)
    (I : Nat → World → Prop)
    (hIo : ∀ q W W', I q W → Upd [w.heap.size, w.heap.size + 1] W W' → (∀ b, b ∈ [w.heap.size, w.heap.size + 1] → ∀ o, W.heap[b]? = some o → notC o) → I q W')
    (hIs : ∀ q W v, I q W → I q (W.setCell ⟨b1, 0, none⟩ v)) (h0 : I 0 w)
    (hround : ∀ (l q : Nat) (x : α) (W : World), l = w.heap.size + 1 → L[q]? = some x → I q W → l < W.heap.size →
      assign.wpIn (F.inRound l) (n - 1 - 1) P (Exit.then (fun a₁ W1 => (∀ b, b ∈ [w.heap.size, l] → W1.heap[b]? = W.heap[b]?) ∧ ∀ W2 : World, Upd [l] W1 W2 → (∃ o, W1.heap[l]? = some o ∧ notC o) →
        body.wpIn (F.inRound l) (n - 1 - 1) P (RoundEnd w.heap.size l bs (I (q + 1)) W W2) a₁ W2) (fun _ _ _ => False))
        { tmps := (ps.zip (encs x)).foldl (fun t (p, v) => t.setIfInBounds p v) a.tmps, defers := [] } W)
    (hdone : ∀ W : World, I L.length W → W.heap[w.heap.size]? = some (.deferred (some [])) → Q .normal { a with defers := { target := .collected w.heap.size, args := #[] } :: a.defers } W) :
    (Code.rangeFunc g ps assign body).wpIn F n P Q a w := by
  refine wpIn_rangeFunc ?_
  intro fn hfn
  rw [hro]
  obtain ⟨rec, hrec⟩ : ∃ rec : LoopState → Option Code → Loop, rec = fun st pe => { state := st, pending := pe, fn, tmps := a.tmps, params := ps, assign, body, defers := w.heap.size } := ⟨_, rfl⟩
  obtain ⟨W1, hW1⟩ : ∃ W1, (w.alloc (.deferred (some []))).alloc (.loop (rec .ready none)) = W1 := ⟨_, rfl⟩
  have hL1 : W1.heap[w.heap.size + 1]? = some (.loop (rec .ready none)) := by
    rw [← hW1]; have := World.alloc_heap_new (w.alloc (.deferred (some []))) (.loop (rec .ready none)); rwa [World.size_alloc] at this
  have hK1 : W1.heap[w.heap.size]? = some (.deferred (some [])) := by
    rw [← hW1]; exact (Below.heap_alloc _ _ _ (by simp)).trans (World.alloc_heap_new w _)
  have hu1 : Upd [] w W1 := by rw [← hW1]; exact ((Upd.refl _ _).alloc _).alloc _
  have hI1 : I 0 W1 := hIo 0 w W1 h0 ⟨hu1.os, hu1.tape, hu1.output, hu1.size, fun k hk _ => hu1.block k hk (by simp)⟩ (fun b hb o e => by
    have := (Array.getElem?_eq_some_iff.1 e).1
    simp at hb; omega)
  have two : ∀ {W : World}, W.heap[w.heap.size + 1]? = some (.loop (rec .ready none)) ∨ (∃ st pe, W.heap[w.heap.size + 1]? = some (.loop (rec st pe))) → W.heap[w.heap.size]? = some (.deferred (some [])) → ∀ b, b ∈ [w.heap.size, w.heap.size + 1] → ∀ o, W.heap[b]? = some o → notC o := by
    intro W h1 h2 b hb o e
    simp at hb
    rcases hb with rfl | rfl
    · rw [h2] at e; cases e; trivial
    · rcases h1 with h1 | ⟨st, pe, h1⟩
      · rw [h1] at e; cases e; trivial
      · rw [h1] at e; cases e; trivial
  have put2 : ∀ (W : World) (o : Obj), Upd [w.heap.size, w.heap.size + 1] W (W.putObj (w.heap.size + 1) o) := fun W o => by
    have h := upd_put W (w.heap.size + 1) o
    exact ⟨h.os, h.tape, h.output, h.size, fun k hk hs => h.block k hk (by simp at hs ⊢; omega)⟩
  refine ⟨w.heap.size + 1, [{ target := .collected w.heap.size, args := #[] }], W1, { target := .fn (.func gf) lb, args := #[.func (.yield (w.heap.size + 1)) #[] #[]] }, W1, gf,
    #[.func (.yield (w.heap.size + 1)) #[] #[]] ++ lb, W1, ?_, ?_, ?_, ?_, fun _ => h1, ?_⟩
  · rw [← hW1, hrec]; exact run_enterLoop_outer _ _ _ _ _
  · simp only [resolve, hg]
    simp [go_sem]
  · intro f' hf'; simp [Target.leads] at hf'; subst hf'; exact hFg
  · simp [invoke, go_sem, eg]
  · refine (hseq (w.heap.size + 1)
      (fun q W => I q W ∧ W.heap[w.heap.size + 1]? = some (.loop (rec .ready none)) ∧ W.heap[w.heap.size]? = some (.deferred (some [])))
      W1 (fun b hb => hu1.block b (hbs b hb) (by simp))
      (fun q W v hs => ⟨hIs q W v hs.1, (blk_set_ne 0 v (show w.heap.size + 1 ≠ b1 by omega)).trans hs.2.1, (blk_set_ne 0 v (show w.heap.size ≠ b1 by omega)).trans hs.2.2⟩)
      ?_ ⟨hI1, hL1, hK1⟩).mono ?_
    · rintro q x W hx ⟨hi, hl, hk⟩
      have hlt : w.heap.size + 1 < W.heap.size := (Array.getElem?_eq_some_iff.1 hl).1
      have hy := run_yield (P := P) (args := encs x) hl (by rw [hrec]; exact hps x)
      rw [hrec] at hy
      refine ⟨fn, _, assign, body, hy, roundIn_of_wpIn hfn (wpIn_mono (hround (w.heap.size + 1) q x W rfl hx hi hlt) ?_)⟩
      rintro e a1 W2 hp
      cases e with
      | normal =>
        obtain ⟨hkeep, hb⟩ := hp
        have hl2 : W2.heap[w.heap.size + 1]? = some (.loop (rec .ready none)) := (hkeep _ (by simp)).trans hl
        have hk2 : W2.heap[w.heap.size]? = some (.deferred (some [])) := (hkeep _ (by simp)).trans hk
        have hlt2 : w.heap.size + 1 < W2.heap.size := (Array.getElem?_eq_some_iff.1 hl2).1
        refine ⟨_, run_beginRound hl2 (by rw [hrec]), ?_⟩
        obtain ⟨W3, hW3⟩ : ∃ W3, W3 = W2.putObj (w.heap.size + 1) (.loop { rec .ready none with state := .busy }) := ⟨_, rfl⟩
        rw [← hW3]
        have hl3 : W3.heap[w.heap.size + 1]? = some (.loop { rec .ready none with state := .busy }) := by rw [hW3]; exact World.putObj_heap_same hlt2
        have hk3 : W3.heap[w.heap.size]? = some (.deferred (some [])) := by rw [hW3]; exact (World.putObj_heap_other (by omega)).trans hk2
        refine wpIn_mono (hb W3 (by rw [hW3]; exact upd_put _ _ _) ⟨_, hl2, trivial⟩) ?_
        rintro e a3 W4 hp4
        cases e with
        | normal =>
          obtain ⟨hkeep4, hi4, hb4⟩ := hp4
          have hl4 := (hkeep4 _ (by simp)).trans hl3
          have hk4 := (hkeep4 _ (by simp)).trans hk3
          have hlt4 : w.heap.size + 1 < W4.heap.size := (Array.getElem?_eq_some_iff.1 hl4).1
          have hr := run_endRound (P := P) none hl4
          refine ⟨_, _, hr, rfl, ⟨hIo _ _ _ hi4 (put2 _ _) (two (.inr ⟨.busy, none, by rw [hl4, hrec]⟩) hk4), ?_, (World.putObj_heap_other (by omega)).trans hk4⟩, fun b hb => ?_⟩
          · rw [World.putObj_heap_same hlt4, hrec]; rfl
          · have := hbs b hb
            rw [World.putObj_heap_other (by omega)]; exact hb4 b hb
        | _ => exact hp4.elim
      | _ => exact hp.elim
    · rintro e W2 ⟨⟨v, rfl⟩, hi, hl, hk⟩
      exact ⟨none, _, by have := run_endLoop (P := P) hl (by rw [hrec]; simp); rw [hrec] at this; exact this, hdone _ (hIo _ _ _ hi (put2 _ _) (two (.inl hl) hk)) ((World.putObj_heap_other (by omega)).trans hk)⟩
end Go.Proofs.YtceakcejchbbjaaGreat
