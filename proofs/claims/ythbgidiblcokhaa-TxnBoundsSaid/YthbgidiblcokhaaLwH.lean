/-
  JournalFree answers true.
-/
import Derived.Test.YthbgidiblcokhaaLwG
namespace Go.Proofs.Ythbgidiblcokhaa
open Go.RowKit

theorem ck_hi {w : World} {j : JG} {J : Jn} {D : Dk} {n ring : Nat} {t m : Int} {H : Nat → Sec} (h : JrAt w j J D n ring t m H) (ht : t < 1000000) (hm : m < 1000000) :
    Calls Try.prog 27 #[.pointer (some ⟨j.jb, 0, none⟩)] w fun e w' => e = .returned (.int .i64 0) ∧ (∃ J' D', JrAt w' j J' D' n ring t (m + 1) H ∧ J'.used = 0 ∧ (J.used = 0 → D' = D)) ∧ Upd j.all w w' := by
  have h1 := h.num
  have h2 := h.turn
  refine (ck_spec h.at_).mono ?_
  rintro e w' ⟨rfl, e2, e3⟩
  rcases h.live.ck ⟨by omega, by omega⟩ with ⟨q1, q2, q3, q4, q5, q6, q7, q8, q9⟩ | ⟨_, q, _⟩
  · rw [q1]
    refine ⟨rfl, ⟨_, _, ⟨e2.any, q2, q9 h.arm, q8.trans h.n, q6.trans h.ring, q5.trans h.turn, by omega, q3.trans h.home⟩, q4, fun hu => ?_⟩, e3⟩
    unfold Jn.ckD
    rw [if_neg (by rw [h.live.held.may]; decide), if_pos (h.live.held.nokeys hu)]
  · exact absurd h.arm q
theorem free_hi {w : World} {j : JG} {J : Jn} {D : Dk} {n ring : Nat} {t m : Int} {H : Nat → Sec} (h : JrAt w j J D n ring t m H) {u : Nat} (hu : J.used = u) :
    Calls Try.prog 29 #[.pointer (some ⟨j.jb, 0, none⟩)] w fun e w' => e = .returned (.int .i64 ((ring : Int) - (u : Int))) ∧ ∃ k, w' = w.drewN k := by
  have := free_spec h.at_
  rw [h.ring, hu] at this
  exact this
theorem writes_hi {w : World} {j : JG} {J : Jn} {D : Dk} {n ring : Nat} {t m : Int} {H : Nat → Sec} (h : JrAt w j J D n ring t m H) :
    Calls Try.prog 35 #[.pointer (some ⟨j.d.db, 0, none⟩)] w fun e w' => e = .returned (.int .i64 D.writes) ∧ w = w' := writes_spec h.at_.disk
theorem waiting_hi {w : World} {j : JG} {J : Jn} {D : Dk} {n ring : Nat} {t m : Int} {H : Nat → Sec} (h : JrAt w j J D n ring t m H) :
    Calls Try.prog 36 #[.pointer (some ⟨j.d.db, 0, none⟩)] w fun e w' => ∃ a c, e = .returned (.slice a 0 c) ∧ Upd [] w w' := by
  refine (waiting_spec h.at_.disk).mono ?_
  rintro e w' ⟨v, rfl, h1, h2⟩
  have hw : D.waiting = [] := by
    apply List.eq_nil_iff_forall_not_mem.2
    intro i hi
    have := (Dk.mem_waiting.1 hi).2
    rw [h.live.held.calm.wait] at this; simp at this
  rw [hw] at h1
  rcases h1.2 with ⟨e, _⟩ | ⟨g, cap, cur, e, _⟩
  · exact ⟨none, 0, by rw [e], h2⟩
  · exact ⟨_, _, by rw [e]; rfl, h2⟩

/-! ## a row of Puts of the law's own -/

def pzCells (ps : List (Int × Value × Bool)) : List Value := ps.flatMap fun p => [.int .i64 p.1, p.2.1, .bool p.2.2]
theorem pzCells_length (ps : List (Int × Value × Bool)) : (pzCells ps).length = ps.length * 3 := by
  induction ps with
  | nil => rfl
  | cons p ps ih => simp [pzCells] at *; omega
theorem pzCells_append (a b : List (Int × Value × Bool)) : pzCells (a ++ b) = pzCells a ++ pzCells b := by simp [pzCells]
theorem pzCells_get : ∀ (ps : List (Int × Value × Bool)) (k : Nat) (p : Int × Value × Bool), ps[k]? = some p → (pzCells ps)[k * 3]? = some (.int .i64 p.1) ∧ (pzCells ps)[k * 3 + 1]? = some p.2.1 ∧ (pzCells ps)[k * 3 + 2]? = some (.bool p.2.2)
  | [], k, p, h => by simp at h
  | q :: ps, 0, p, h => by simp at h; subst h; simp [pzCells]
  | q :: ps, k + 1, p, h => by
    have ih := pzCells_get ps k p (by simpa using h)
    have e : pzCells (q :: ps) = [.int .i64 q.1, q.2.1, .bool q.2.2] ++ pzCells ps := rfl
    rw [e, List.getElem?_append_right (by simp; omega), List.getElem?_append_right (by simp; omega), List.getElem?_append_right (by simp; omega)]
    simp only [List.length_cons, List.length_nil]
    rw [show (k + 1) * 3 - (0 + 1 + 1 + 1) = k * 3 from by omega, show (k + 1) * 3 + 1 - (0 + 1 + 1 + 1) = k * 3 + 1 from by omega, show (k + 1) * 3 + 2 - (0 + 1 + 1 + 1) = k * 3 + 2 from by omega]
    exact ih
theorem infoPuts : (Try.prog.info? 70).map (fun i => (i.zero, i.size, i.bytes)) = some (some (.agg #[.int .i64 0, .slice none 0 0, .bool false]), 3, 40) := by kernel_rfl
def PzB (w : World) (B : Nat) (v : Value) (ps : List (Int × Value × Bool)) : Prop := w.ownsRow B 70 3 v ps.length (pzCells ps)
theorem PzB.keep {w w' : World} {B : Nat} {v : Value} {ps : List (Int × Value × Bool)} (h : PzB w B v ps) (hk : ∀ (k : Nat) (c : Array Value), w.heap[k]? = some (.cells c 70 (0, 0)) → w'.heap[k]? = w.heap[k]?) : PzB w' B v ps := by
  refine ⟨h.1, ?_⟩
  rcases h.2 with h | ⟨g, cap, cur, e, hb, hg, r⟩
  · exact .inl h
  · exact .inr ⟨g, cap, cur, e, hb, (hk g cur hg).trans hg, r⟩
theorem PzB.shape {w : World} {B : Nat} {v : Value} {ps : List (Int × Value × Bool)} (h : PzB w B v ps) : ∃ a c, v = .slice a ps.length c := by
  rcases h.2 with ⟨e, h0⟩ | ⟨g, cap, cur, e, _⟩
  · exact ⟨none, 0, by rw [e, h0]⟩
  · exact ⟨_, _, e⟩
theorem pz_push {w w0 : World} {B : Nat} {v : Value} {ps : List (Int × Value × Bool)} {S : List Nat} (hp : PzB w B v ps) (hl : ps.length ≤ 100000) (hB : B ≤ w.heap.size) (h0 : Upd S w0 w) (hB0 : w0.heap.size ≤ B) (i : Int) (a0 : Option Addr) (n0 c0 : Nat) (od : Bool) :
    ∃ a b c' w', (∀ ty, (Builtin.append_ #[58, 58] ty #[v, .slice (some ⟨w.heap.size, 0, none⟩) 1 1]).run Try.prog (w.alloc (.cells #[.int .i64 i, .slice a0 n0 c0, .bool od] 70)) = .ok (.slice a b c') w') ∧ PzB w' B (.slice a b c') (ps ++ [(i, .slice a0 n0 c0, od)]) ∧
      (∀ k, k < w.heap.size → (∀ c, w.heap[k]? ≠ some (.cells c 70 (0, 0))) → w'.heap[k]? = w.heap[k]?) ∧ Upd S w0 w' ∧ B ≤ w'.heap.size := by
  obtain ⟨i0, hi, hz0, hz1, hz2⟩ := info_parts infoPuts
  have hp1 : PzB (w.alloc (.cells #[.int .i64 i, .slice a0 n0 c0, .bool od] 70)) B v ps := hp.keep fun k c e => blk_alloc_ne (blk_lt e)
  obtain ⟨v', w', hrun, hown, hg, _⟩ := run_append_own (P := Try.prog) (w.alloc (.cells #[.int .i64 i, .slice a0 n0 c0, .bool od] 70)) B 58 0 70 i0 _ 3 40 Try.underlying58 hi hz0 hz1 hz2 rfl (by decide) v ps.length (pzCells ps) hp1 ⟨w.heap.size, 0, none⟩ 1 1 [.int .i64 i, .slice a0 n0 c0, .bool od] rfl
    (fun j u hj => by
      rw [addr_add, blk_cell (blk_alloc _)]
      match j, hj with
      | 0, hj => simpa using hj
      | 1, hj => simpa using hj
      | 2, hj => simpa using hj
      | j + 3, hj => simp at hj)
    (fun u hu => by simp at hu; rcases hu with rfl | rfl | rfl <;> rfl) (by unfold maxLen; omega) (by omega) (by simp; omega)
  have hs : PzB w' B v' (ps ++ [(i, .slice a0 n0 c0, od)]) := by
    unfold PzB; rw [List.length_append, pzCells_append]; exact hown
  obtain ⟨a, c', rfl⟩ := hs.shape
  have hsz := hg.size
  have hkeep : ∀ k, k < w.heap.size → (∀ c, w.heap[k]? ≠ some (.cells c 70 (0, 0))) → w'.heap[k]? = w.heap[k]? := by
    intro k hk ht
    rw [hg.block k (by simp; omega) (fun e => ?_), blk_alloc_ne hk]
    rcases hp.2 with ⟨rfl, _⟩ | ⟨g, cap, cur, rfl, _, hgb, _⟩
    · simp [Value.ownBlock] at e
    · simp [Value.ownBlock] at e; subst e; exact ht _ hgb
  refine ⟨a, _, c', w', fun _ => hrun, hs, hkeep, (h0.alloc _).low (fun k hk => ?_) ⟨hg.size, hg.os, hg.tape, hg.output⟩, by simp at hsz; omega⟩
  refine hg.block k (by have := h0.size; simp; omega) fun e => ?_
  rcases hp.2 with ⟨rfl, _⟩ | ⟨g, cap, cur, rfl, hb, hgb, _⟩
  · simp [Value.ownBlock] at e
  · simp [Value.ownBlock] at e; subst e; omega
theorem PzB.pzIn {w : World} {B : Nat} {v : Value} {ps : List (Int × Value × Bool)} {l : List Pz} (h : PzB w B v ps) (hl : ps.length = l.length) (hr : ∀ (k : Nat) (hk : k < l.length) (p : Int × Value × Bool), ps[k]? = some p → p.1 = l[k].I ∧ Rd w p.2.1 l[k].B ∧ p.2.2 = l[k].Odd) : PzIn w v l := by
  rcases h.2 with ⟨rfl, h0⟩ | ⟨g, cap, cur, rfl, hb, hg, hc, _, hs, ht⟩
  · obtain rfl : l = [] := List.eq_nil_of_length_eq_zero (by omega)
    exact ⟨none, 0, rfl, Nat.le_refl _, fun q => by simp at q⟩
  · refine ⟨_, cap, by rw [hl], by omega, fun _ => ⟨g, 0, rfl, fun i hi => ?_⟩⟩
    have hget : ps[i]? = some ps[i] := List.getElem?_eq_getElem (by omega)
    obtain ⟨c0, c1, c2⟩ := pzCells_get ps i _ hget
    obtain ⟨r0, r1, r2⟩ := hr i hi _ hget
    have cell : ∀ o x, (pzCells ps)[o]? = some x → w.cell? ⟨g, 0 + o, none⟩ = some x := fun o x hx => by
      rw [blk_cell hg, ← hx, ← ht, List.getElem?_take_of_lt (by have := (List.getElem?_eq_some_iff.1 hx).1; rw [pzCells_length] at this; omega)]; simp
    exact ⟨ps[i].2.1, by rw [← r0]; exact cell _ _ c0, by rw [Nat.add_assoc]; exact cell _ _ c1, by rw [← r2, Nat.add_assoc]; exact cell _ _ c2, r1⟩
theorem run_build_pz (i : Int) (ad : Option Addr) (n c : Nat) (w : World) : (Instr.buildSlice 58 1 #[(0, .agg #[.int .i64 i, .slice ad n c, .bool false])]).run Try.prog w = .ok (.slice (some ⟨w.heap.size, 0, none⟩) 1 1) (w.alloc (.cells #[.int .i64 i, .slice ad n c, .bool false] 70)) := by kernel_rfl
theorem run_build_pzv (i : Int) (ad : Option Addr) (n c : Nat) (w : World) : (Instr.build 70 #[(0, .int .i64 i), (1, .slice ad n c)]).run Try.prog w = .ok (.agg #[.int .i64 i, .slice ad n c, .bool false]) w := by kernel_rfl

end Go.Proofs.Ythbgidiblcokhaa
