/-
  What Journal.Commit's main way leans on: tight footprints, lists beside a journal, an append inside a drawn region.
-/
import Derived.Test.YthbgidiblcokhaaJnJ
import Derived.Deep.RegionLaw
namespace Go.Proofs.Ythbgidiblcokhaa
open Go.RowKit

theorem Own.tight {w : World} {u8 : TypeId} {F : Nat → Prop} {v : Value} {l : List UInt8} (h : Own w u8 F v l) : Own w u8 (fun k => F k ∧ k < w.heap.size) v l := by
  obtain ⟨k, r, hF, e, hb⟩ := h
  exact ⟨k, r, ⟨hF, blk_lt hb⟩, e, hb⟩
theorem DiskAt.tight {w : World} {F : Nat → Prop} {g : DG} {D : Dk} (h : DiskAt w F g D) : DiskAt w (fun k => F k ∧ k < w.heap.size) g D := by
  obtain ⟨⟨fv, a1, a2⟩, ⟨lv, b1, b2, b3⟩, ⟨f, c1, c2, c3⟩, d⟩ := h
  refine ⟨⟨fv, a1, a2.imp (·.tight) id⟩, ⟨lv, b1, b2, fun i v hv => (b3 i v hv).imp id (·.tight)⟩, ⟨f, c1, fun k v hk => ?_, c3⟩, d⟩
  obtain ⟨k0, s, e, o⟩ := c2 k v hk
  exact ⟨k0, s, e, o.tight⟩
theorem WaitM.tight {w : World} {F : Nat → Prop} {mb : Nat} {wt : Nat → Option Sec} (h : WaitM w F mb wt) : WaitM w (fun k => F k ∧ k < w.heap.size) mb wt := by
  obtain ⟨f, c1, c2, c3⟩ := h
  refine ⟨f, c1, fun k v hk => ?_, c3⟩
  obtain ⟨k0, s, e, o⟩ := c2 k v hk
  exact ⟨k0, s, e, o.tight⟩
/-- Every sector's block is there already. -/
theorem JnAt.tight {w : World} {F : Nat → Prop} {j : JG} {J : Jn} {D : Dk} (h : JnAt w F j J D) : JnAt w (fun k => F k ∧ k < w.heap.size) j J D :=
  ⟨h.disk.tight, h.st, h.away.tight, h.ne, h.ok⟩
theorem PutsOwn.tight {w : World} {F : Nat → Prop} {v : Value} {l : List Put} (h : PutsOwn w F v l) : PutsOwn w (fun k => F k ∧ k < w.heap.size) v l := by
  obtain ⟨ps, h1, h2, h3⟩ := h
  refine ⟨ps, h1, h2, fun k p hp => ?_⟩
  obtain ⟨q, a, b, c⟩ := h3 k p hp
  exact ⟨q, a, b, c.tight⟩

/-- Blocks that are none of the journal's, and none of F, may turn. -/
theorem JnAt.upd {w w' : World} {F : Nat → Prop} {j : JG} {J : Jn} {D : Dk} (h : JnAt w F j J D) {S : List Nat} (hu : Upd S w w') (h1 : ∀ k, k ∈ S → k ∉ j.all) (h2 : ∀ k, k ∈ S → ¬ F k) : JnAt w' F j J D := by
  have hb : ∀ k, k ∈ j.all → k ∉ S := fun k hk hs => h1 k hs hk
  exact h.world (hu.block _ h.lt.1 (hb _ (by simp [JG.all]))) (hu.block _ h.lt.2 (hb _ (by simp [JG.all]))) (hu.block _ h.disk.lt.1 (hb _ (by simp [JG.all]))) (hu.block _ h.disk.lt.2.1 (hb _ (by simp [JG.all]))) (hu.block _ h.disk.lt.2.2 (hb _ (by simp [JG.all])))
    (fun k c hF hk => hu.block _ (blk_lt hk) (fun hs => h2 k hs hF))

/-- A byte's cell is in none of the journal's blocks. -/
theorem JnAt.cellB {w : World} {F : Nat → Prop} {j : JG} {J : Jn} {D : Dk} (h : JnAt w F j J D) {b o : Nat} {c : UInt8} (hc : w.cell? ⟨b, o, none⟩ = some (bv c)) : b ∉ j.all := by
  have hd := h.disk.cell hc
  simp only [JG.all, List.mem_cons, List.not_mem_nil, or_false, not_or] at hd ⊢
  refine ⟨?_, ?_, hd.1, hd.2.1, hd.2.2⟩
  · rintro rfl
    rw [blk_cell h.st] at hc
    match o, hc with
    | 0, hc | 1, hc | 2, hc | 3, hc | 4, hc | 5, hc | 6, hc | 7, hc | 8, hc | 9, hc | 10, hc => simp [bv] at hc
    | o + 11, hc => simp at hc
  · rintro rfl
    obtain ⟨f, hf, _⟩ := h.away
    obtain ⟨es, clock, hm, _⟩ := hf
    simp [World.cell?, hm] at hc
theorem PutsAt.jn {w w' : World} {F : Nat → Prop} {j : JG} {J : Jn} {D : Dk} (h : JnAt w F j J D) {v : Value} {l : List Put} (hp : PutsAt w v l) {S : List Nat} (hu : Upd S w w') (hS : ∀ k, k ∈ S → k ∈ j.all) : PutsAt w' v l :=
  hp.world hu (fun _ _ hk e => h.kind e (by decide) (by decide) (by decide) (hS _ hk)) (fun _ _ _ hk e => h.cellB e (hS _ hk))
theorem PutsOwn.jn {w w' : World} {F G : Nat → Prop} {j : JG} {J : Jn} {D : Dk} (h : JnAt w F j J D) {v : Value} {l : List Put} (hp : PutsOwn w G v l) {S : List Nat} (hu : Upd S w w') (hS : ∀ k, k ∈ S → k ∈ j.all) : PutsOwn w' G v l :=
  hp.world hu (fun _ _ hk e => h.kind e (by decide) (by decide) (by decide) (hS _ hk)) (fun _ _ hk e => h.kind e (by decide) (by decide) (by decide) (hS _ hk))
theorem PutsOwn.upd {w w' : World} {G : Nat → Prop} {v : Value} {l : List Put} (hp : PutsOwn w G v l) {S : List Nat} (hu : Upd S w w') (h1 : ∀ (k : Nat) (c : Array Value), k ∈ S → w.heap[k]? ≠ some (.cells c 40 (0, 0))) (h2 : ∀ k, k ∈ S → ¬ G k) : PutsOwn w' G v l := by
  obtain ⟨ps, g1, g2, g3⟩ := hp
  refine ⟨ps, ⟨g1.1, ?_⟩, g2, fun k p hp => ?_⟩
  · rcases g1.2 with h | ⟨g, cap, cur, e, hb, hg, r⟩
    · exact .inl h
    · exact .inr ⟨g, cap, cur, e, hb, (hu.block _ (blk_lt hg) (fun q => h1 g cur q hg)).trans hg, r⟩
  · obtain ⟨q, a, b, c⟩ := g3 k p hp
    exact ⟨q, a, b, c.world fun bb cc hG hc => hu.block _ (blk_lt hc) (fun q => h2 bb q hG)⟩

/-- An append whose run is known, as one step of a region that draws its order. -/
theorem step_append_run {P : Program} {ops : Array Oper} {o : Oper} {a : Act} {w : World} {K : Act → World → Prop} {Q : Exit → Act → World → Prop} {E : Prop} (hgd : o.guard = none) (s x : Operand) (T : TypeId)
    (ho : o.op = .call { callee := .builtin .append, args := #[s, x], argTypes := #[T, T] }) {vs vx v' : Value} {w' : World} (hs : a.eval s = vs) (hx : a.eval x = vx)
    (hrun : ∀ ty, (Builtin.append_ #[T, T] ty #[vs, vx]).run P w = .ok v' w') (h : K (a.put o.dst v') w') : if Region.wanted o (yielded ops a.tmps) = true then Oper.wp P o a w K Q else E := by
  have hw : Region.wanted o (yielded ops a.tmps) = true := by simp [Region.wanted, hgd]
  rw [if_pos hw]
  unfold Oper.wp execOp
  simp only [ho, resolve, invoke, builtin, Sem.run_bind, Sem.run_pure, Result.andThen_ok, List.map_toArray, List.map_cons, List.map_nil, hs, hx, hrun]
  exact h

theorem infoPut : (Try.prog.info? 40).map (fun i => (i.zero, i.size, i.bytes)) = some (some (.agg #[.int .i64 0, .slice none 0 0]), 2, 32) := by kernel_rfl

/-- append(mine, api.Put{i, d}): the new element lies in a block of its own. -/
theorem PutsOwn.append {w : World} {G : Nat → Prop} {v : Value} {l : List Put} (hp : PutsOwn w G v l) (hl : l.length ≤ 100000) (nb : Nat) (i : Int) (d : Value) (s : List UInt8) (hnb : w.heap[nb]? = some (.cells #[.int .i64 i, d] 40 (0, 0))) (hd : Own w 5 G d s) (hone : d.oneCell' = true) :
    ∃ v' w', (∀ ty, (Builtin.append_ #[35, 35] ty #[v, .slice (some ⟨nb, 0, none⟩) 1 1]).run Try.prog w = .ok v' w') ∧ PutsOwn w' G v' (l ++ [(i, s)]) ∧ w.grownBy w' v.ownBlock := by
  obtain ⟨ps, g1, g2, g3⟩ := hp
  obtain ⟨i0, hi, hz0, hz1, hz2⟩ := info_parts infoPut
  obtain ⟨v', w', hrun, hown, hg, _⟩ := run_append_own (P := Try.prog) w 0 35 0 40 i0 _ 2 32 Try.underlying35 hi hz0 hz1 hz2 rfl (by decide) v ps.length (putCells ps) g1 ⟨nb, 0, none⟩ 1 1 [.int .i64 i, d] rfl
    (fun j u hj => by
      rw [addr_add, blk_cell hnb]
      match j, hj with
      | 0, hj => simpa using hj
      | 1, hj => simpa using hj
      | j + 2, hj => simp at hj)
    (fun u hu => by simp at hu; rcases hu with rfl | rfl; rfl; exact hone) (by unfold maxLen; omega) (by omega) (Nat.zero_le _)
  have hkeep : ∀ (k : Nat) (c : Array Value) (t : TypeId), w.heap[k]? = some (.cells c t (0, 0)) → t ≠ 40 → w'.heap[k]? = w.heap[k]? := by
    intro k c t hk ht
    refine hg.block k (blk_lt hk) fun e => ?_
    rcases g1.2 with ⟨rfl, _⟩ | ⟨g, cap, cur, rfl, _, hgb, _⟩
    · simp [Value.ownBlock] at e
    · simp [Value.ownBlock] at e; subst e; rw [hgb] at hk; simp at hk; exact ht hk.2.symm
  refine ⟨v', w', fun _ => hrun, ⟨ps ++ [(i, d)], ?_, by simp [g2], ?_⟩, hg⟩
  · rw [putCells_append, List.length_append]; exact hown
  · intro k p hk
    rw [List.getElem?_append] at hk
    split at hk
    · rename_i hlt
      obtain ⟨q, a, b, c⟩ := g3 k p hk
      exact ⟨q, by rw [List.getElem?_append_left (by omega)]; exact a, b, c.world fun bb cc _ hc => hkeep bb cc _ hc (by decide)⟩
    · rename_i hge
      have hk0 : k - ps.length = 0 := by
        have := (List.getElem?_eq_some_iff.1 hk).1
        simp at this; omega
      rw [hk0] at hk
      simp at hk
      subst hk
      exact ⟨(i, s), by rw [List.getElem?_append_right (by omega), ← g2, hk0]; rfl, rfl, hd.world fun bb cc _ hc => hkeep bb cc _ hc (by decide)⟩

end Go.Proofs.Ythbgidiblcokhaa
