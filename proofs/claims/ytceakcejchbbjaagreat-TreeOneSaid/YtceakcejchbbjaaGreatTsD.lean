/-
  An array of bytes that is handed in.
-/
import Derived.Test.YtceakcejchbbjaaGreatTsC
set_option linter.unusedSimpArgs false
set_option linter.unusedVariables false
namespace Go.Proofs.YtceakcejchbbjaaGreat
open Go.RowKit Go.MapKept Go.ChangeMaps

theorem mapM_some_all {β : Type} {f : Nat → Option β} : ∀ (L : List Nat) (xs : List β), L.mapM f = some xs → ∀ i, i ∈ L → ∃ y, f i = some y
  | [], _, _, i, h => by simp at h
  | k :: L, xs, h, i, hi => by
    rw [List.mapM_cons] at h
    simp only [bind, Option.bind_eq_some_iff, pure, Option.some.injEq] at h
    obtain ⟨y, hy, ys, hys, _⟩ := h
    rcases List.mem_cons.1 hi with rfl | q
    · exact ⟨y, hy⟩
    · exact mapM_some_all L ys hys i q
set_option maxRecDepth 100000 in
theorem open_arr9 {H : Type} {enc : TypeId × Value → H} {W : World} {base : Nat} {sp : Nat → Bool} {held : Bool} {r : Reach} {b0 k n : Nat} {v : Value} {d : DataW H} {ps : List MemPlace} (hu : Tryz.prog.underlying k = some (.array n 5)) (hs : Tryz.prog.cellsOf k = n)
    (hval : Value.okWide Tryz.prog W r b0 k v) (hd : DataW.Trod enc Tryz.prog W base sp held k v d ps) : ∃ l : List UInt8, l.length = n ∧ v = .agg (bts l).toArray := by
  have hc1 : Tryz.prog.cellsOf 5 = 1 := cellsOf_u8
  simp only [Value.okWide, hu] at hval
  obtain ⟨cs, rfl, h2, _⟩ := hval
  rw [hs] at h2
  obtain ⟨fuel, hf⟩ := hd
  cases fuel with
  | zero => simp [DataW.trod] at hf
  | succ m =>
    rw [DataW.trod_step] at hf
    unfold DataW.trodStep at hf
    simp only [hu, Value.cells] at hf
    split at hf
    · simp only [Option.map_eq_some_iff] at hf
      obtain ⟨ys, hy, _⟩ := hf
      have hall := mapM_some_all _ ys hy
      obtain ⟨l, hl, hp⟩ := list_of (p := fun i c => cs.toList[i]? = some (bv c)) n (fun i hi => by
        obtain ⟨y, hy⟩ := hall i (List.mem_range.2 hi)
        obtain ⟨a, ea, _, wa⟩ := DataW.trod_int Tryz.underlying5 hy
        obtain ⟨c, hc⟩ := byte_of wa
        refine ⟨c, ?_⟩
        rw [hc1, Nat.mul_one] at ea
        have hil : i < cs.toList.length := by rw [Array.length_toList, h2]; exact hi
        rw [List.drop_eq_getElem_cons hil, List.take_succ_cons, List.take_zero] at ea
        rw [List.getElem?_eq_getElem hil, hc]
        exact congrArg some (List.cons.inj ea).1)
      refine ⟨l, hl, congrArg Value.agg (Array.toList_inj.1 (List.ext_getElem? fun i => ?_))⟩
      by_cases hi : i < l.length
      · rw [hp i hi, bts_get, List.getElem?_eq_getElem hi]; rfl
      · rw [List.getElem?_eq_none (by rw [Array.length_toList, h2]; omega), List.getElem?_eq_none (by rw [bts_length]; omega)]
    · simp at hf

end Go.Proofs.YtceakcejchbbjaaGreat
