/-
  Byte rows: make, copy, Clone, at any program whose byte type is u8 and whose slice type is T.
-/
import Derived.Test.YthbgidiblcokhaaDk
namespace Go.Proofs.Ythbgidiblcokhaa
open Go.RowKit

/-- An append whose run is known. -/
theorem wpList_append_run {P : Program} {ops : Array Oper} {rest : List Oper} {o : Oper} {a : Act} {Q : Exit → Act → World → Prop} {w : World} (hgd : o.guard = none) (s x : Operand) (T : TypeId)
    (ho : o.op = .call { callee := .builtin .append, args := #[s, x], argTypes := #[T, T] }) {vs vx v' : Value} {w' : World} (hs : a.eval s = vs) (hx : a.eval x = vx)
    (hrun : ∀ ty, (Builtin.append_ #[T, T] ty #[vs, vx]).run P w = .ok v' w') (h : wpList P ops Q rest (a.put o.dst v') w') : wpList P ops Q (o :: rest) a w := by
  refine wpList_plain hgd fun K hK => ?_
  unfold Oper.wp execOp
  simp only [ho, resolve, invoke, builtin, Sem.run_bind, Sem.run_pure, Result.andThen_ok, List.map_toArray, List.map_cons, List.map_nil, hs, hx, hrun]
  exact hK _ _ h

theorem addr_add (b off i : Nat) : (⟨b, off, none⟩ : Addr).add i = ⟨b, off + i, none⟩ := by
  unfold Addr.add; split <;> simp_all

theorem setRow_alloc (w : World) (c c' : Array Value) (e : TypeId) : (w.alloc (.cells c e)).setRow w.heap.size c' = w.alloc (.cells c' e) := by
  simp only [World.setRow, World.alloc]
  congr 1
  apply Array.ext_getElem?
  intro i
  rw [Array.getElem?_modify, Array.getElem?_push, Array.getElem?_push]
  by_cases h : w.heap.size = i
  · subst h; simp
  · rw [if_neg h]; rw [if_neg (Ne.symm h), if_neg (Ne.symm h)]

theorem Rd.cells {w : World} {v : Value} {l : List UInt8} (h : Rd w v l) : ∃ ao cap, v = .slice ao l.length cap ∧ l.length ≤ cap ∧ (0 < l.length → ∃ ad, ao = some ad ∧ ∀ j u, (bts l)[j]? = some u → w.cell? (ad.add j) = some u) := by
  obtain ⟨ao, cap, rfl, hc, hh⟩ := h
  refine ⟨ao, cap, rfl, hc, fun hp => ?_⟩
  obtain ⟨b, off, rfl, hcell⟩ := hh hp
  refine ⟨_, rfl, fun j u hj => ?_⟩
  rw [bts_get] at hj
  obtain ⟨c, hc', rfl⟩ := Option.map_eq_some_iff.1 hj
  obtain ⟨hlt, rfl⟩ := List.getElem?_eq_some_iff.1 hc'
  rw [addr_add]; exact hcell j hlt

theorem run_copy_rd {P : Program} {w : World} {dT sT ty u8 : TypeId} (hu : P.underlying dT = some (.slice u8)) (hs : (P.info? u8).map (·.size) = some 1)
    (g o dLen dCap : Nat) (cur : List Value) (hg : w.heap[g]? = some (.cells cur.toArray u8 (0, 0))) (hfit : o + dLen ≤ cur.length) {v : Value} {l : List UInt8} (hr : Rd w v l) :
    (Builtin.copy_ #[dT, sT] ty #[.slice (some ⟨g, o, none⟩) dLen dCap, v]).run P w = .ok (goInt ((min l.length dLen : Nat) : Int)) (w.setRow g (splice cur o (bts (l.take dLen))).toArray) := by
  obtain ⟨ao, cap, rfl, _, hh⟩ := hr.cells
  by_cases h0 : min l.length dLen = 0
  · rw [run_copy_none w dT sT ty u8 _ ao dLen dCap l.length cap hu hs h0, h0]
    simp only [Int.natCast_zero]
    have : l.take dLen = [] := by
      apply List.eq_nil_of_length_eq_zero; rw [List.length_take]; omega
    rw [this]
    have e : splice cur o (bts []) = cur := by simp [splice]
    rw [e, setRow_self w g cur.toArray u8 (0, 0) hg]
  · obtain ⟨ad, rfl, hc⟩ := hh (by omega)
    have hlen : (bts (l.take dLen)).length = min l.length dLen := by simp; omega
    have hrun := run_copy_row (P := P) w dT sT ty u8 g o dLen dCap ad l.length cap cur.toArray u8 (bts (l.take dLen)) hu hs hg (by rw [hlen])
      (fun j u hj => hc j u (by
        rw [bts_get] at hj ⊢
        rw [List.getElem?_take] at hj
        split at hj
        · exact hj
        · simp at hj)) (by rw [hlen]; simp; omega) (bts_one _)
    rw [hrun, splice, hlen]
    simp only [List.append_assoc]

theorem madeCells_bytes (n : Nat) : madeCells #[.int .u8 0] n = (bts (List.replicate n 0)).toArray := by
  apply Array.ext
  · simp [size_madeCells]
  · intro i h1 h2
    simp [madeCells, bts, bv, Nat.mod_one]

theorem splice_full {cur : List Value} {l : List Value} (h : l.length = cur.length) : splice cur 0 l = l := by
  simp [splice, h]
theorem splice_head {cur : List Value} {l : List Value} : splice cur 0 l = l ++ cur.drop l.length := by
  simp [splice]

/-- What a copy into a fresh sector leaves. -/
theorem splice_pad (l : List UInt8) : splice (bts zsec) 0 (bts (l.take 512)) = bts (pad l) := by
  rw [splice_head, bts_length]
  unfold pad
  have : (bts zsec).drop (l.take 512).length = bts (zsec.drop (l.take 512).length) := by simp [bts, List.map_drop]
  rw [this, ← bts_append]
  congr 1
  rw [List.take_append]
  congr 1
  rw [List.length_take]
  by_cases h : l.length ≤ 512
  · have e1 : min 512 l.length = l.length := by omega
    rw [e1]
    unfold zsec
    rw [List.drop_replicate, List.take_replicate]
    congr 1; omega
  · have e1 : min 512 l.length = 512 := by omega
    have e2 : 512 - l.length = 0 := by omega
    rw [e1, e2, List.take_zero]
    exact List.drop_eq_nil_of_le (by rw [zsec_length]; omega)

end Go.Proofs.Ythbgidiblcokhaa
