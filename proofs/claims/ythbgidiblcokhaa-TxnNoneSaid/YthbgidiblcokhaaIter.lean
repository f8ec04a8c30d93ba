/-
  slices.Sorted(maps.Keys(m)) at a map[int][]byte: its keys, rising, in a new row.
-/
import Derived.Test.YthbgidiblcokhaaIterLay
import Derived.Test.YthbgidiblcokhaaDiskB
namespace Go.Proofs.Ythbgidiblcokhaa
open Go.RowKit Go.Maps Go.Sort Go.Shelf

/-- The keys that are there, rising. -/
def keysF (f : Int → Option Value) (N : Nat) : List Nat := (List.range N).filter fun i => (f (i : Int)).isSome

theorem sortsA (m : Nat) : AnyZI.SortsIn Try.prog Try.sortedA_ren Fence.wide m :=
  ⟨fun blk off cap ss W hH hblk hsz => callsIn_wide.2 (AnyM.slices_Sort_int Try.sortA blk off cap ss W hH hblk hsz),
   fun p cap W => callsIn_wide.2 (AnyM.slices_Sort_int_none Try.sortA p cap W)⟩

theorem keys_call (mb : Option Nat) (w : World) : Calls Try.prog 67 #[.map mb] w fun e w' => e = .returned (.func (.func 75) #[] #[.pointer (some ⟨w.heap.size, 0, none⟩)]) ∧ w.alloc (.cells #[.map mb] 49) = w' :=
  (callsIn_wide.1 (AnyZI.keys_in Try.keysA Fence.wide 5 trivial rfl mb w)).mono fun _ _ ⟨h1, h2⟩ => ⟨h1, h2.symm⟩

theorem nodup_lt : ∀ (N : Nat) (l : List Int), l.Nodup → (∀ x ∈ l, 0 ≤ x ∧ x < N) → l.length ≤ N
  | 0, l, _, h => by
    cases l with
    | nil => simp
    | cons a l => have := h a (by simp); omega
  | N + 1, l, hn, h => by
    by_cases hm : (N : Int) ∈ l
    · have h1 := nodup_lt N (l.erase (N : Int)) (hn.erase _) (fun x hx => by
        have := (hn.mem_erase_iff).1 hx
        have := h x this.2
        omega)
      rw [List.length_erase_of_mem hm] at h1
      omega
    · have := nodup_lt N l hn (fun x hx => by
        have h2 := h x hx
        have : x ≠ (N : Int) := fun e => hm (e ▸ hx)
        omega)
      omega

/-- A trivial way of reading the map's elements. -/
def anyElem (_ : Value) : Option (DataW Unit × List MemPlace) := some (.nil, [])

theorem MapI.owns {w : World} {mb : Nat} {f : Int → Option Value} (h : MapI w mb f) (N : Nat) (hN : N ≤ 100000) (hf : ∀ k v, f k = some v → 0 ≤ k ∧ k < N) :
    ∃ D0 : DataW Unit, w.ownsMap Try.prog 3 anyElem mb N D0 ∧ Maps.size D0 ≤ N ∧ (intKeys D0).Perm ((keysF f N).map fun i : Nat => (i : Int)) := by
  obtain ⟨es, clock, hb, hst, hk, hfe⟩ := h
  have hkl : ∀ x ∈ es.toList, ∃ k : Int, x.key = .int .i64 k ∧ 0 ≤ k ∧ k < N := by
    intro x hx
    obtain ⟨k, e⟩ := hk x hx
    exact ⟨k, e, hf k x.val ((hfe k x.val).2 ⟨x, hx, e, rfl⟩)⟩
  have hrg : ∀ x ∈ es.toList, ∀ k : Int, x.key = .int .i64 k → WideElems.rd Try.prog 3 anyElem x = some (.int .i64 k, .nil) := by
    intro x hx k e
    obtain ⟨k', e', h0, h1⟩ := hkl x hx
    rw [e] at e'
    obtain rfl : k = k' := by simpa using e'
    have hko := keyOf_int_mk (P := Try.prog) (q := .i64) (a := k) Try.underlying3 (WalkArith.wf_i64 (by omega))
    simp [WideElems.rd, e, hko, anyElem]
  have hkeys : intKeys (.map ((es.toList.map (WideElems.rg Try.prog 3 anyElem)).foldr DataW.insert []) : DataW Unit) = ((es.toList.map (WideElems.rg Try.prog 3 anyElem)).foldr DataW.insert []).map (fun p => _root_.Go.intOf p.1) := rfl
  have hp1 : (intKeys (.map ((es.toList.map (WideElems.rg Try.prog 3 anyElem)).foldr DataW.insert []) : DataW Unit)).Perm (es.toList.map (fun x => RowKit.intOf x.key)) := by
    rw [hkeys]
    refine ((WideShapes.sorted_perm _).map _).trans ?_
    rw [List.map_map]
    refine List.Perm.of_eq (List.map_congr_left fun x hx => ?_)
    obtain ⟨k, e, _⟩ := hkl x hx
    simp [WideElems.rg, hrg x hx k e, _root_.Go.intOf, RowKit.intOf, e]
  have hnd : (es.toList.map (fun x => RowKit.intOf x.key)).Nodup := by
    have hq : (es.toList.map (·.key)).Nodup := hst.2.2
    rw [List.Nodup, List.pairwise_map] at hq ⊢
    refine hq.imp_of_mem fun {a b} ha hb' hne e => hne ?_
    obtain ⟨q, e1, _⟩ := hkl a ha
    obtain ⟨r, e2, _⟩ := hkl b hb'
    rw [e1, e2] at e ⊢
    simp [RowKit.intOf] at e; rw [e]
  have hmem : ∀ k : Int, k ∈ es.toList.map (fun x => RowKit.intOf x.key) ↔ ∃ v, f k = some v := by
    intro k
    rw [List.mem_map]
    constructor
    · rintro ⟨x, hx, e⟩
      obtain ⟨q, e1, _⟩ := hkl x hx
      rw [e1] at e; simp [RowKit.intOf] at e; subst e
      exact ⟨x.val, (hfe q x.val).2 ⟨x, hx, e1, rfl⟩⟩
    · rintro ⟨v, hv⟩
      obtain ⟨x, hx, e1, _⟩ := (hfe k v).1 hv
      exact ⟨x, hx, by rw [e1]; rfl⟩
  have hlen : es.size ≤ N := by
    have := nodup_lt N _ hnd (fun k hk' => by obtain ⟨v, hv⟩ := (hmem k).1 hk'; exact hf k v hv)
    simpa using this
  refine ⟨_, ⟨es, clock, hb, ⟨by unfold maxLen; omega, hst, fun x hx => ?_⟩, hlen, rfl⟩, ?_, ?_⟩
  · obtain ⟨k, e, _⟩ := hkl x hx
    exact ⟨_, hrg x hx k e⟩
  · rw [Maps.size_eq, length_sorted]; simpa using hlen
  · refine hp1.trans ?_
    refine (List.perm_ext_iff_of_nodup hnd ?_).2 fun k => ?_
    · rw [List.Nodup, List.pairwise_map]
      refine List.Pairwise.filter _ (List.pairwise_lt_range.imp ?_)
      intro a b hab e
      omega
    · rw [hmem k, List.mem_map]
      constructor
      · rintro ⟨v, hv⟩
        have h2 := hf k v hv
        refine ⟨k.toNat, ?_, by omega⟩
        unfold keysF
        rw [List.mem_filter, List.mem_range]
        refine ⟨by omega, ?_⟩
        rw [Int.toNat_of_nonneg h2.1, hv]; rfl
      · rintro ⟨i, hi, rfl⟩
        unfold keysF at hi
        rw [List.mem_filter] at hi
        exact Option.isSome_iff_exists.1 hi.2

theorem sorted_call {w : World} {mb : Nat} {f : Int → Option Value} (h : MapI w mb f) (N : Nat) (hN : N ≤ 100000) (hf : ∀ k v, f k = some v → 0 ≤ k ∧ k < N) :
    Calls Try.prog 66 #[.func (.func 75) #[] #[.pointer (some ⟨w.heap.size, 0, none⟩)]] (w.alloc (.cells #[.map (some mb)] 49)) fun e w' => ∃ v, e = .returned v ∧
      w'.ownsRow w.heap.size 3 1 v (keysF f N).length ((keysF f N).map fun i : Nat => .int .i64 (i : Int)) ∧ Upd [] w w' := by
  obtain ⟨D0, hown, hsz, hperm⟩ := h.owns N hN hf
  have hbl := hown.lt
  have hseq : SeqGives Fence.wide 2 Try.prog 75 #[.pointer (some ⟨w.heap.size, 0, none⟩)] encZ (fun ss => ss.Perm (intKeys D0)) (Maps.size D0) (w.alloc (.cells #[.map (some mb)] 49)) :=
    AnyZI.keys_gives (ρ := Try.keysA_ren) { Try.keysA with } Fence.wide _ trivial rfl (by omega) w.heap.size mb N D0 _ (by simp) (by simp) (by
      obtain ⟨es, clock, hb, Ft, hs, hD⟩ := hown
      exact ⟨es, clock, (Below.heap_alloc _ _ mb hbl).trans hb, Ft, hs, hD⟩)
  have cS := AnyZI.sorted_in Try.sortedA Fence.wide 5 trivial trivial trivial trivial rfl (by omega) (sortsA _) (enters_of Try.func74 (by kernel_rfl) rfl) 75 #[.pointer (some ⟨w.heap.size, 0, none⟩)] trivial (enters_of Try.func75 (by kernel_rfl) rfl) _ _ (by unfold maxLen; omega) (by omega) _ hseq
  refine (callsIn_wide.1 cS).mono ?_
  rintro e w' ⟨v, ss, rfl, hS, hrow, _, hb⟩
  have hms : (ss.mergeSort fun x y => decide (x ≤ y)) = (keysF f N).map fun i : Nat => (i : Int) := by
    refine List.Perm.eq_of_pairwise (le := fun a b => decide (a ≤ b) = true) (fun a b _ _ h1 h2 => ?_) (List.pairwise_mergeSort (fun a b c h1 h2 => ?_) (fun a b => ?_) ss) ?_ ((List.mergeSort_perm ss _).trans (hS.trans hperm))
    · simp only [decide_eq_true_eq] at h1 h2; omega
    · simp only [decide_eq_true_eq] at h1 h2 ⊢; omega
    · simp only [Bool.or_eq_true, decide_eq_true_eq]; omega
    · rw [List.pairwise_map]
      refine List.Pairwise.filter _ (List.pairwise_lt_range.imp ?_)
      intro a b hab
      simp only [decide_eq_true_eq]; omega
  have hln : ss.length = (keysF f N).length := by
    have := congrArg List.length hms
    simpa using this
  refine ⟨v, rfl, ?_, ?_⟩
  · rw [hms, hln, List.map_map] at hrow
    exact ownsRow_base_a hrow (by simp)
  · exact ((Upd.refl _ _).alloc _).trans ⟨hb.os, hb.tape, hb.output, hb.size, fun k hk _ => hb.block k hk⟩

end Go.Proofs.Ythbgidiblcokhaa
