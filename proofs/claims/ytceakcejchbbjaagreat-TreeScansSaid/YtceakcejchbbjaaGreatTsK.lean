/-
  The key behind another one; a scan from there; next.
-/
import Derived.Test.YtceakcejchbbjaaGreatTsJ
set_option linter.unusedSimpArgs false
set_option linter.unusedVariables false
namespace Go.Proofs.YtceakcejchbbjaaGreat
open Go.RowKit Go.MapKept Go.ChangeMaps

/-- One more, as a number of bytes; none, if all are 255. -/
def incB : Bs → Option Bs
  | [] => none
  | x :: l => match incB l with
    | some l' => some (x :: l')
    | none => if x.toNat = 255 then none else some (UInt8.ofNat (x.toNat + 1) :: List.replicate l.length 0)
theorem incB_length : ∀ {a a' : Bs}, incB a = some a' → a'.length = a.length
  | [], _, h => by simp [incB] at h
  | x :: l, a', h => by
    unfold incB at h
    cases hl : incB l with
    | some l' => rw [hl] at h; simp at h; subst h; simp [incB_length hl]
    | none =>
      rw [hl] at h
      simp only at h
      split at h
      · simp at h
      · simp at h; subst h; simp
theorem ltB_none : ∀ {l q : Bs}, incB l = none → q.length = l.length → ltB l q = false
  | [], [], _, _ => rfl
  | [], _ :: _, _, h => by simp at h
  | _ :: _, [], _, h => by simp at h
  | x :: l, y :: q, h, hq => by
    unfold incB at h
    cases hl : incB l with
    | some l' => rw [hl] at h; simp at h
    | none =>
      rw [hl] at h
      simp only at h
      split at h
      · rename_i hx
        have ih := ltB_none hl (by simpa using hq)
        have := y.toNat_lt
        unfold ltB
        rw [if_neg (by omega)]
        split
        · rfl
        · exact ih
      · simp at h
theorem ltB_zeros : ∀ (q : Bs), ltB q (List.replicate q.length 0) = false
  | [] => rfl
  | y :: q => by
    rw [List.length_cons, List.replicate_succ]
    unfold ltB
    rw [if_neg (by simp)]
    split
    · rfl
    · exact ltB_zeros q
/-- Nothing lies between a key and the one behind it. -/
theorem ltB_inc : ∀ {a a' p : Bs}, incB a = some a' → p.length = a.length → ltB p a' = !ltB a p
  | [], _, _, h, _ => by simp [incB] at h
  | _ :: _, _, [], _, hp => by simp at hp
  | x :: l, a', y :: q, h, hp => by
    have hq : q.length = l.length := by simpa using hp
    unfold incB at h
    cases hl : incB l with
    | some l' =>
      rw [hl] at h; simp at h; subst h
      have ih := ltB_inc hl hq
      unfold ltB
      by_cases h1 : y.toNat < x.toNat
      · rw [if_pos h1, if_neg (by omega), if_pos h1]; rfl
      · rw [if_neg h1]
        by_cases h2 : x.toNat < y.toNat
        · rw [if_pos h2, if_pos h2]; rfl
        · rw [if_neg h2, if_neg h2, if_neg h1]; exact ih
    | none =>
      rw [hl] at h
      simp only at h
      split at h
      · simp at h
      · rename_i hx
        simp at h; subst h
        have hlt := x.toNat_lt
        have hx1 : (x + 1).toNat = x.toNat + 1 := by rw [UInt8.toNat_add]; simp; omega
        have hlq := ltB_none hl hq
        have hz : ltB q (List.replicate l.length 0) = false := by rw [← hq]; exact ltB_zeros q
        unfold ltB
        rw [hx1, hlq, hz]
        by_cases h1 : y.toNat < x.toNat
        · rw [if_pos (by omega), if_neg (by omega), if_pos h1]; rfl
        · by_cases h2 : x.toNat < y.toNat
          · rw [if_neg (by omega), if_pos h2]
            split <;> rfl
          · rw [if_pos (by omega), if_neg h2, if_neg h1]; rfl
theorem incB_app : ∀ (pre : Bs) {t t' : Bs}, incB t = some t' → incB (pre ++ t) = some (pre ++ t')
  | [], _, _, h => h
  | x :: pre, t, t', h => by
    show incB (x :: (pre ++ t)) = _
    unfold incB
    rw [incB_app pre h]; rfl
/-- The key behind one whose last byte but one is zero. -/
def nextK (id : Bs) (c : UInt8) : Bs := if c.toNat = 255 then (id.set 31 0).set 30 1 else id.set 31 (UInt8.ofNat (c.toNat + 1))
theorem incB_next {pre : Bs} {c : UInt8} (hp : pre.length = 30) : incB (pre ++ [0, c]) = some (nextK (pre ++ [0, c]) c) := by
  unfold nextK
  by_cases hc : c.toNat = 255
  · rw [if_pos hc]
    have h1 : incB [0, c] = some [1, 0] := by simp [incB, hc]
    rw [incB_app pre h1]
    congr 1
    rw [List.set_append_right _ _ (by omega), List.set_append_right _ _ (by omega), hp]
    rfl
  · rw [if_neg hc]
    have h1 : incB [0, c] = some [0, UInt8.ofNat (c.toNat + 1)] := by simp [incB, hc]
    rw [incB_app pre h1]
    congr 1
    rw [List.set_append_right _ _ (by omega), hp]
    rfl
/-- Behind some of a rising row. -/
theorem filter_drop {L : List Pair9} (hs : (L.map (·.1)).Pairwise (fun x y => ltB x y = true)) (hlen : ∀ p, p ∈ L → p.1.length = 32) {q : Nat} {p : Pair9} (hp : L[q]? = some p) {k' : Bs} (hk : incB p.1 = some k') : (L.filter fun x => !ltB x.1 k') = L.drop (q + 1) := by
  obtain ⟨hq, he⟩ := List.getElem?_eq_some_iff.1 hp
  have hL : L = L.take q ++ p :: L.drop (q + 1) := by
    rw [← he, List.getElem_cons_drop, List.take_append_drop]
  have hl1 : p.1.length = 32 := hlen p (List.mem_of_getElem? hp)
  have hin : ∀ x, x ∈ L → (!ltB x.1 k') = ltB p.1 x.1 := fun x hx => by
    rw [ltB_inc hk (by rw [hl1, hlen x hx])]; simp
  have hs' := hs
  rw [List.pairwise_map] at hs'
  rw [hL, List.pairwise_append] at hs'
  obtain ⟨_, hs2, hs3⟩ := hs'
  rw [List.pairwise_cons] at hs2
  have h1 : ((L.take q).filter fun x => !ltB x.1 k') = [] := by
    rw [List.filter_eq_nil_iff]
    intro x hx
    rw [hin x (List.mem_of_mem_take hx), ltB_asymm (hs3 x hx p (by simp))]
    simp
  have h2 : ((L.drop (q + 1)).filter fun x => !ltB x.1 k') = L.drop (q + 1) := by
    rw [List.filter_eq_self]
    intro x hx
    rw [hin x (List.mem_of_mem_drop hx)]
    exact hs2.1 x hx
  have h3 : (!ltB p.1 k') = false := by
    rw [hin p (List.mem_of_getElem? hp), ltB_irrefl]
  conv => lhs; rw [hL]
  rw [List.filter_append, h1, List.nil_append, List.filter_cons_of_neg (by rw [h3]; simp), h2]
theorem filter_zero {L : List Pair9} (hlen : ∀ p, p ∈ L → p.1.length = 32) : (L.filter fun x => !ltB x.1 z32) = L := by
  rw [List.filter_eq_self]
  intro x hx
  have h3 := ltB_zero 32 x.1 (hlen x hx)
  unfold z32
  rw [h3]; rfl
/-- A key of which the last byte but one is zero. -/
def Low30 (k : Bs) : Prop := ∃ (pre : Bs) (c : UInt8), pre.length = 30 ∧ k = pre ++ [0, c]
theorem keyB_low (k : Int) : Low30 (keyB k) := by
  refine ⟨(keyB k).take 30, u8I k, by rw [List.length_take, keyB_length]; rfl, ?_⟩
  have h1 : (keyB k).drop 30 = [0, u8I k] := by
    unfold keyB z32
    rfl
  rw [← h1, List.take_append_drop]

end Go.Proofs.YtceakcejchbbjaaGreat
