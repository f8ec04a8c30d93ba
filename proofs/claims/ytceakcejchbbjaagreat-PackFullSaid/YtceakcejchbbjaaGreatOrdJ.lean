/-
  A drawn region whose operations all yield known values: its end.
-/
import Derived.Test.YtceakcejchbbjaaGreatOrdI
set_option linter.unusedSimpArgs false
set_option linter.unusedVariables false
namespace Go.Proofs.YtceakcejchbbjaaGreat
open Go.RowKit Go.MapKept Go.ChangeMaps

theorem tm_some {tmps : Array Value} {i : Nat} {b : Bool} (h : tmps[i]?.getD undef = .bool b) : tmps[i]? = some (.bool b) := by
  cases hq : tmps[i]? with
  | none => rw [hq] at h; cases h
  | some v => rw [hq] at h; rw [show v = .bool b from h]
theorem RegI.fin {w0 w : World} {n : Nat} {a0 : Act} {V : List (Nat × Nat × Value)} {L : Nat → Bool} {tmps : Array Value} (h : RegI w0 n a0 V [] L ⟨tmps, []⟩ w) (hn : a0.tmps.size = n) (hall : ∀ t, t ∈ V → L t.1 = true) : tmps = sets a0.tmps (V.map (·.2)) :=
  h.tmps_eq hn _ (fun j hj => by
    rw [List.all_map] at hj
    simp only [okO, List.all_nil, Bool.and_true]
    exact hj) (fun p hp => by
    obtain ⟨t, ht, rfl⟩ := List.mem_map.1 hp
    exact h.val t ht (hall t ht))
end Go.Proofs.YtceakcejchbbjaaGreat
