/-
  JournalFront: rows of rows of strings; a journal whose power has failed or not.
-/
import Derived.Test.YthbgidiblcokhaaLwP
namespace Go.Proofs.Ythbgidiblcokhaa
open Go.RowKit

theorem infoStrs : (Try.prog.info? 33).map (fun i => (i.zero, i.size, i.bytes)) = some (some (.slice none 0 0), 1, 24) := by kernel_rfl
theorem run_build_strs1 (a : Option Addr) (n c : Nat) (w : World) : (Instr.buildSlice 64 1 #[(0, .slice a n c)]).run Try.prog w = .ok (.slice (some ⟨w.heap.size, 0, none⟩) 1 1) (w.alloc (.cells #[.slice a n c] 33)) := by kernel_rfl

/-- A row of slices of strings of the law's own. -/
def RowsB (w : World) (B : Nat) (v : Value) (vs : List Value) : Prop := w.ownsRow B 33 1 v vs.length vs
theorem RowsB.shape {w : World} {B : Nat} {v : Value} {vs : List Value} (h : RowsB w B v vs) : ∃ a c, v = .slice a vs.length c := by
  rcases h.2 with ⟨e, h0⟩ | ⟨g, cap, cur, e, _⟩
  · exact ⟨none, 0, by rw [e, h0]⟩
  · exact ⟨_, _, e⟩
theorem RowsB.keep {w w' : World} {B : Nat} {v : Value} {vs : List Value} (h : RowsB w B v vs) (hk : ∀ (k : Nat) (c : Array Value), w.heap[k]? = some (.cells c 33 (0, 0)) → w'.heap[k]? = w.heap[k]?) : RowsB w' B v vs := by
  refine ⟨h.1, ?_⟩
  rcases h.2 with h | ⟨g, cap, cur, e, hb, hg, r⟩
  · exact .inl h
  · exact .inr ⟨g, cap, cur, e, hb, (hk g cur hg).trans hg, r⟩
theorem RowsB.upd {w w' : World} {B : Nat} {v : Value} {vs : List Value} (h : RowsB w B v vs) {S : List Nat} (hu : Upd S w w') (hS : ∀ (k : Nat) (c : Array Value), k ∈ S → w.heap[k]? ≠ some (.cells c 33 (0, 0))) : RowsB w' B v vs :=
  h.keep fun k c e => hu.block _ (blk_lt e) fun q => hS k c q e
theorem RowsB.cell {w : World} {B : Nat} {a : Option Addr} {n c : Nat} {vs : List Value} (h : RowsB w B (.slice a n c) vs) (i : Nat) (hi : i < vs.length) : ∃ b off, a = some ⟨b, off, none⟩ ∧ w.cell? ⟨b, off + i, none⟩ = some vs[i] := by
  have : RdL w [] (.slice a n c) vs := RdL.of_row h (by simp)
  obtain ⟨ao, cap, e, hc, hh⟩ := this
  obtain ⟨b, off, _, hab, hcell⟩ := hh (by omega)
  cases e
  exact ⟨b, off, hab, hcell i hi⟩
theorem RowsB.one {w : World} {B : Nat} {b : Nat} {v : Value} (hB : B ≤ b) (h : w.heap[b]? = some (.cells #[v] 33 (0, 0))) : RowsB w B (.slice (some ⟨b, 0, none⟩) 1 1) [v] :=
  ⟨by simp, .inr ⟨b, 1, #[v], rfl, hB, h, Nat.le_refl _, by unfold maxLen; omega, by simp, by simp⟩⟩
/-- A row is appended to the law's own rows. -/
theorem rows_push {w w0 : World} {B : Nat} {v : Value} {vs : List Value} {S : List Nat} (hp : RowsB w B v vs) (hl : vs.length ≤ 100000) (hB : B ≤ w.heap.size) (h0 : Upd S w0 w) (hB0 : w0.heap.size ≤ B) (ax : Option Addr) (nx cx : Nat) :
    ∃ a c' w', (∀ ty, (Builtin.append_ #[64, 64] ty #[v, .slice (some ⟨w.heap.size, 0, none⟩) 1 1]).run Try.prog (w.alloc (.cells #[.slice ax nx cx] 33)) = .ok (.slice a (vs.length + 1) c') w') ∧ RowsB w' B (.slice a (vs.length + 1) c') (vs ++ [.slice ax nx cx]) ∧
      (∀ k, k < w.heap.size → (∀ c, w.heap[k]? ≠ some (.cells c 33 (0, 0))) → w'.heap[k]? = w.heap[k]?) ∧ Upd S w0 w' ∧ B ≤ w'.heap.size := by
  obtain ⟨i0, hi, hz0, hz1, hz2⟩ := info_parts infoStrs
  have hp1 : RowsB (w.alloc (.cells #[.slice ax nx cx] 33)) B v vs := hp.keep fun k c e => blk_alloc_ne (blk_lt e)
  obtain ⟨v', w', hrun, hown, hg, _⟩ := run_append_own (P := Try.prog) (w.alloc (.cells #[.slice ax nx cx] 33)) B 64 0 33 i0 _ 1 24 Try.underlying64 hi hz0 hz1 hz2 rfl (by decide) v vs.length vs hp1 ⟨w.heap.size, 0, none⟩ 1 1 [.slice ax nx cx] rfl
    (fun j u hj => by
      rw [addr_add, blk_cell (blk_alloc _)]
      match j, hj with
      | 0, hj => simpa using hj
      | j + 1, hj => simp at hj)
    (fun u hu => by simp at hu; rw [hu]; rfl) (by unfold maxLen; omega) (by omega) (by simp; omega)
  have hs : RowsB w' B v' (vs ++ [.slice ax nx cx]) := by
    unfold RowsB; rw [List.length_append]; exact hown
  obtain ⟨a, c', rfl⟩ := hs.shape
  rw [List.length_append] at hrun hs
  have hsz := hg.size
  have hkeep : ∀ k, k < w.heap.size → (∀ c, w.heap[k]? ≠ some (.cells c 33 (0, 0))) → w'.heap[k]? = w.heap[k]? := by
    intro k hk ht
    rw [hg.block k (by simp; omega) (fun e => ?_), blk_alloc_ne hk]
    rcases hp.2 with ⟨rfl, _⟩ | ⟨g, cap, cur, rfl, _, hgb, _⟩
    · simp [Value.ownBlock] at e
    · simp [Value.ownBlock] at e; subst e; exact ht _ hgb
  refine ⟨a, c', w', fun _ => hrun, hs, hkeep, (h0.alloc _).low (fun k hk => ?_) ⟨hg.size, hg.os, hg.tape, hg.output⟩, by simp at hsz; omega⟩
  refine hg.block k (by have := h0.size; simp; omega) fun e => ?_
  rcases hp.2 with ⟨rfl, _⟩ | ⟨g, cap, cur, rfl, hb, hgb, _⟩
  · simp [Value.ownBlock] at e
  · simp [Value.ownBlock] at e; subst e; omega

/-- A journal on its disk: the power has failed (then it holds H or H2 behind it), or not (then it holds H2). -/
def FrAt (w : World) (j : JG) (n ring : Nat) (t m : Int) (H H2 : Nat → Sec) (dead : Bool) : Prop :=
  if dead = true then (PwAt w j.d n ring m fun t' H' => t' ≤ t ∧ (H' = H ∨ H' = H2)) ∧ ∃ D', DiskAt w AnyF j.d D' ∧ D'.off = true
  else ∃ J D t', JaAt w j J D n ring t' m H2 ∧ t' ≤ t
theorem FrAt.le {w : World} {j : JG} {n ring : Nat} {t t2 m m2 : Int} {H H2 : Nat → Sec} {dead : Bool} (h : FrAt w j n ring t m H H2 dead) (ht : t ≤ t2) (hm : m ≤ m2) : FrAt w j n ring t2 m2 H H2 dead := by
  unfold FrAt at h ⊢
  split at h
  · rename_i q; rw [if_pos q]
    exact ⟨h.1.mono hm (fun t' H' ⟨a, b⟩ => ⟨Int.le_trans a ht, b⟩), h.2⟩
  · rename_i q; rw [if_neg q]
    obtain ⟨J, D, t', a, b⟩ := h
    exact ⟨J, D, t', a.le hm, Int.le_trans b ht⟩
theorem FrAt.keptT {w w' : World} {j : JG} {n ring : Nat} {t m : Int} {H H2 : Nat → Sec} {dead : Bool} (h : FrAt w j n ring t m H H2 dead) (T : TypeId) (h1 : T ≠ 51) (h2 : T ≠ 86) (h3 : T ≠ 36) (h4 : T ≠ 5)
    (hk : ∀ k, k < w.heap.size → (∀ c, w.heap[k]? ≠ some (.cells c T (0, 0))) → w'.heap[k]? = w.heap[k]?) : FrAt w' j n ring t m H H2 dead := by
  unfold FrAt at h ⊢
  split at h
  · rename_i q; rw [if_pos q]
    obtain ⟨a, D', b, c⟩ := h
    exact ⟨a.world fun D hd => hd.keptT T h2 h3 h4 hk, D', b.keptT T h2 h3 h4 hk, c⟩
  · rename_i q; rw [if_neg q]
    obtain ⟨J, D, t', a, b⟩ := h
    exact ⟨J, D, t', a.keptT T h1 h2 h3 h4 hk, b⟩
theorem FrAt.below {w w' : World} {j : JG} {n ring : Nat} {t m : Int} {H H2 : Nat → Sec} {dead : Bool} (h : FrAt w j n ring t m H H2 dead) (hu : Upd [] w w') : FrAt w' j n ring t m H H2 dead :=
  h.keptT 9 (by decide) (by decide) (by decide) (by decide) fun k hk _ => hu.block k hk (by simp)
/-- One block of another kind turns. -/
theorem FrAt.ownT {w w' : World} {j : JG} {n ring : Nat} {t m : Int} {H H2 : Nat → Sec} {dead : Bool} (h : FrAt w j n ring t m H H2 dead) {b : Nat} {c0 : Array Value} {T : TypeId} {fr : Nat × Nat} (hu : Upd [b] w w') (hb : w.heap[b]? = some (.cells c0 T fr)) (h1 : T ≠ 51) (h2 : T ≠ 86) (h3 : T ≠ 36) (h4 : T ≠ 5) : FrAt w' j n ring t m H H2 dead := by
  unfold FrAt at h ⊢
  split at h
  · rename_i q; rw [if_pos q]
    obtain ⟨a, D', b', c⟩ := h
    exact ⟨a.world fun D hd => hd.ownT hu hb h2 h3 h4, D', b'.ownT hu hb h2 h3 h4, c⟩
  · rename_i q; rw [if_neg q]
    obtain ⟨J, D, t', a, b'⟩ := h
    exact ⟨J, D, t', a.own hu (fun q hq => by simp at hq; subst hq; exact ⟨_, _, _, hb, h1, h2, h3, h4⟩), b'⟩
theorem FrAt.pw {w : World} {j : JG} {n ring : Nat} {t m : Int} {H H2 : Nat → Sec} {dead : Bool} (h : FrAt w j n ring t m H H2 dead) : PwAt w j.d n ring m fun t' H' => t' ≤ t ∧ (H' = H ∨ H' = H2) := by
  unfold FrAt at h
  split at h
  · exact h.1
  · obtain ⟨J, D, t', a, b⟩ := h
    exact a.pw.mono (Int.le_refl _) fun t'' H' ⟨e1, e2⟩ => ⟨by omega, .inr e2⟩
theorem FrAt.notT {w : World} {j : JG} {n ring : Nat} {t m : Int} {H H2 : Nat → Sec} {dead : Bool} (h : FrAt w j n ring t m H H2 dead) {k : Nat} {c : Array Value} {fr : Nat × Nat} (hk : w.heap[k]? = some (.cells c 9 fr)) : k ∉ [j.d.db, j.d.lb, j.d.mb] := by
  obtain ⟨D, hd, _⟩ := h.pw
  exact hd.notstr hk
theorem DiskAt.notrows {w : World} {F : Nat → Prop} {g : DG} {D : Dk} (h : DiskAt w F g D) {k : Nat} {c : Array Value} {fr : Nat × Nat} (hk : w.heap[k]? = some (.cells c 33 fr)) : k ∉ [g.db, g.lb, g.mb] := by
  obtain ⟨⟨fv, a1, _⟩, ⟨lv, b1, _⟩, ⟨f, hf, _⟩, _⟩ := h
  simp only [List.mem_cons, List.not_mem_nil, or_false, not_or]
  refine ⟨?_, ?_, hf.not_cells hk⟩
  · rintro rfl; rw [a1] at hk; simp at hk
  · rintro rfl; rw [b1] at hk; simp at hk
theorem RowsB.dk {w w' : World} {B : Nat} {v : Value} {vs : List Value} (h : RowsB w B v vs) {F : Nat → Prop} {g : DG} {D : Dk} (hd : DiskAt w F g D) (hu : Upd [g.db, g.lb, g.mb] w w') : RowsB w' B v vs := h.upd hu fun _ _ hq e => hd.notrows e hq
theorem RowsB.jn {w w' : World} {B : Nat} {v : Value} {vs : List Value} (h : RowsB w B v vs) {S : List Nat} (hu : Upd S w w') {j : JG} {J : Jn} {D : Dk} (hj : JnAt w AnyF j J D) (hS : ∀ k, k ∈ S → k ∈ j.all) : RowsB w' B v vs :=
  h.upd hu fun k c hk e => hj.kind e (by decide) (by decide) (by decide) (hS k hk)
/-- Is the power off? -/
theorem FrAt.dead {w : World} {j : JG} {n ring : Nat} {t m : Int} {H H2 : Nat → Sec} {dead : Bool} (h : FrAt w j n ring t m H H2 dead) :
    Calls Try.prog 33 #[.pointer (some ⟨j.d.db, 0, none⟩)] w fun e w' => e = .returned (.bool dead) ∧ w = w' := by
  unfold FrAt at h
  cases dead with
  | true =>
    rw [if_pos rfl] at h
    obtain ⟨_, D', hd, ho⟩ := h
    have := dead_spec hd
    rw [ho] at this; exact this
  | false =>
    rw [if_neg (by decide)] at h
    obtain ⟨J, D, t', a, _⟩ := h
    have := dead_spec a.at_.disk
    rw [a.live.held.calm.off] at this; exact this

end Go.Proofs.Ythbgidiblcokhaa
