/-
  Keys: arrays of bytes; which of two stands ahead.
-/
import Derived.Test.YtceakcejchbbjaaGreatSpF
import Derived.Lib.BytesEntry
import Derived.Laws.Rows
import Derived.Deep.MidRow
namespace Go.Proofs.YtceakcejchbbjaaGreat
open Go.RowKit Go.MapKept Go.ChangeMaps

/-- An array of bytes, as a value. -/
def arr (l : List UInt8) : Value := .agg (bts l).toArray
/-- Does a stand ahead of b? -/
def ltB : List UInt8 → List UInt8 → Bool
  | [], [] => false
  | [], _ :: _ => true
  | _ :: _, [] => false
  | x :: a, y :: b => if x.toNat < y.toNat then true else if y.toNat < x.toNat then false else ltB a b
theorem ltB_irrefl : ∀ a, ltB a a = false
  | [] => rfl
  | x :: a => by unfold ltB; rw [if_neg (by omega), if_neg (by omega)]; exact ltB_irrefl a
theorem ltB_trans : ∀ {a b c}, ltB a b = true → ltB b c = true → ltB a c = true
  | [], [], c, h, _ => by simp [ltB] at h
  | [], y :: b, [], _, h => by simp [ltB] at h
  | [], y :: b, z :: c, _, _ => rfl
  | x :: a, [], c, h, _ => by simp [ltB] at h
  | x :: a, y :: b, [], _, h => by simp [ltB] at h
  | x :: a, y :: b, z :: c, h, k => by
    unfold ltB at h k ⊢
    by_cases h1 : x.toNat < y.toNat
    · by_cases k1 : y.toNat < z.toNat
      · rw [if_pos (by omega)]
      · rw [if_neg k1] at k
        by_cases k2 : z.toNat < y.toNat
        · rw [if_pos k2] at k; simp at k
        · rw [if_pos (by omega)]
    · rw [if_neg h1] at h
      by_cases h2 : y.toNat < x.toNat
      · rw [if_pos h2] at h; simp at h
      · rw [if_neg h2] at h
        by_cases k1 : y.toNat < z.toNat
        · rw [if_pos (by omega)]
        · rw [if_neg k1] at k
          by_cases k2 : z.toNat < y.toNat
          · rw [if_pos k2] at k; simp at k
          · rw [if_neg k2] at k
            rw [if_neg (by omega), if_neg (by omega)]
            exact ltB_trans h k
theorem ltB_asymm {a b : List UInt8} (h : ltB a b = true) : ltB b a = false := by
  cases q : ltB b a
  · rfl
  · have := ltB_trans h q
    rw [ltB_irrefl] at this
    simp at this
theorem ltB_total : ∀ {a b : List UInt8}, ltB a b = false → ltB b a = false → a = b
  | [], [], _, _ => rfl
  | [], y :: b, h, _ => by simp [ltB] at h
  | x :: a, [], _, h => by simp [ltB] at h
  | x :: a, y :: b, h, k => by
    unfold ltB at h k
    by_cases h1 : x.toNat < y.toNat
    · rw [if_pos h1] at h; simp at h
    · rw [if_neg h1] at h
      by_cases h2 : y.toNat < x.toNat
      · rw [if_pos h2] at k; simp at k
      · rw [if_neg h2] at h
        rw [if_neg h2, if_neg h1] at k
        rw [UInt8.toNat_inj.1 (show x.toNat = y.toNat by omega), ltB_total h k]
theorem cmp_lt : ∀ (a b : List UInt8), decide (Lib.compareBytes a b < 0) = ltB a b
  | [], [] => by simp [Lib.compareBytes, ltB]
  | [], y :: b => by simp [Lib.compareBytes, ltB]
  | x :: a, [] => by simp [Lib.compareBytes, ltB]
  | x :: a, y :: b => by
    have ih := cmp_lt a b
    unfold ltB Lib.compareBytes
    simp only [UInt8.lt_iff_toNat_lt]
    by_cases h1 : x.toNat < y.toNat
    · rw [if_pos h1, if_pos h1]; rfl
    · rw [if_neg h1, if_neg h1]
      by_cases h2 : y.toNat < x.toNat
      · rw [if_pos h2, if_pos h2]; rfl
      · rw [if_neg h2, if_neg h2]; exact ih

theorem run_bytesOf {w : World} {v : Value} {l : List UInt8} (h : Rd w v l) : (Extern.Bytes.bytesOf v).run Tryz.prog w = .ok ⟨l.toArray⟩ w := by
  obtain ⟨ao, cap, rfl, hc, hh⟩ := h
  cases ao with
  | none =>
    cases l with
    | nil => rfl
    | cons x l => obtain ⟨b, off, h, _⟩ := hh (by simp); simp at h
  | some a =>
    by_cases hp : 0 < l.length
    · obtain ⟨b, off, hab, hcell⟩ := hh hp
      cases hab
      have := Lib.run_loadBytesX (P := Tryz.prog) w (l.map fun c => (c.toNat : Int)) ⟨b, off, none⟩ .empty (fun j x hj => by
        rw [List.getElem?_map] at hj
        have hjl : j < l.length := by
          rcases Nat.lt_or_ge j l.length with r | r
          · exact r
          · rw [List.getElem?_eq_none r] at hj; simp at hj
        rw [List.getElem?_eq_getElem hjl] at hj
        simp at hj
        rw [addr_add, hcell j hjl, ← hj]; rfl)
      rw [List.length_map] at this
      show (Extern.Bytes.loadBytes ⟨b, off, none⟩ l.length .empty).run Tryz.prog w = _
      rw [this]
      congr 1
      apply ByteArray.ext
      show (#[] : Array UInt8) ++ (Lib.bytesOf (l.map fun c => (c.toNat : Int))).toArray = l.toArray
      simp [Lib.bytesOf]
      exact (List.map_congr_left fun c _ => by simp).trans (List.map_id _)
    · have : l = [] := by cases l with | nil => rfl | cons x l => simp at hp
      subst this
      rfl
theorem run_cmp {w : World} {v1 v2 : Value} {a b : List UInt8} (h1 : Rd w v1 a) (h2 : Rd w v2 b) : (Extern.BytealgCompare.compare #[v1, v2]).run Tryz.prog w = .ok (.int .i64 (Lib.compareBytes a b)) w := by
  change Sem.run Tryz.prog (do pure (goInt (Extern.BytealgCompare.cmp (← Extern.Bytes.bytesOf v1) (← Extern.Bytes.bytesOf v2)))) w = _
  simp only [Sem.run_bind, run_bytesOf h1, run_bytesOf h2, Sem.run_pure, Result.andThen]
  rw [Lib.cmp_eq]
  rfl

set_option maxRecDepth 100000 in
theorem compare_spec {w : World} {v1 v2 : Value} {a b : List UInt8} (h1 : Rd w v1 a) (h2 : Rd w v2 b) :
    Calls Tryz.prog 134 #[v1, v2] w fun e w' => e = .returned (.int .i64 (Lib.compareBytes a b)) ∧ w = w' := by
  have hr := run_cmp h1 h2
  clear h1 h2
  go_enter Tryz.func134, Tryz.ntmps134
  go_wp2
  rw [run_callFunc_extern Tryz.func173 (by kernel_rfl) (by kernel_rfl) (by kernel_rfl) (e := Extern.BytealgCompare.compare) (by kernel_rfl), hr]
  simp only [Result.andThen]
  rw [Oper.upon_value]
  go_wp2
  go_ret
  exact ⟨rfl, rfl⟩

theorem rd_arr {w : World} {b : Nat} {l : List UInt8} {T : TypeId} {fr : Nat × Nat} (h : w.heap[b]? = some (.cells (bts l).toArray T fr)) (hl : l.length = 32) : Rd w (.slice (some ⟨b, 0, none⟩) 32 32) l := by
  refine ⟨some ⟨b, 0, none⟩, 32, by rw [hl], by omega, fun _ => ⟨b, 0, rfl, fun i hi => ?_⟩⟩
  rw [blk_cell h, List.getElem?_toArray, Nat.zero_add]
  simp [bts, hi]

set_option maxRecDepth 100000 in
theorem less_spec (a b : List UInt8) (ha : a.length = 32) (hb : b.length = 32) (w : World) :
    Calls Tryz.prog 85 #[arr a, arr b] w fun e w' => e = .returned (.bool (ltB a b)) ∧ Upd [] w w' := by
  obtain ⟨w2, hw2⟩ : ∃ w2, w2 = (w.alloc (.cells (bts a).toArray 35)).alloc (.cells (bts b).toArray 35) := ⟨_, rfl⟩
  have hu : Upd [] w w2 := by rw [hw2]; exact ((Upd.refl _ _).alloc _).alloc _
  have h1 : w2.heap[w.heap.size]? = some (.cells (bts a).toArray 35 (0, 0)) := by
    rw [hw2, blk_alloc_ne (by simp)]; exact blk_alloc _
  have h2 : w2.heap[w.heap.size + 1]? = some (.cells (bts b).toArray 35 (0, 0)) := by
    rw [hw2]; have := blk_alloc (w := w.alloc (.cells (bts a).toArray 35)) (.cells (bts b).toArray 35); simpa using this
  have HC := Lib.hid (fun n => compare_spec (w := w2.drewN n) (rd_arr (b := w.heap.size) h1 ha) (rd_arr (b := w.heap.size + 1) h2 hb))
  have HU := Lib.hid hu
  have HW := Lib.hid hw2
  have hlt := cmp_lt a b
  clear hu h1 h2 hw2
  unfold arr
  go_enter Tryz.func85, Tryz.ntmps85
  go_wp2
  have hw2 := HW.out
  rw [← hw2]
  clear hw2
  go_quiet ((go_at_call 134; exact Calls.quiet_of_same ((HC.out _).mono fun _ _ ⟨a, b⟩ => ⟨a, b.symm⟩)))
  all_goals
    go_wp2
    go_ret
    exact ⟨rfl, HU.out.drewN _⟩

end Go.Proofs.YtceakcejchbbjaaGreat
