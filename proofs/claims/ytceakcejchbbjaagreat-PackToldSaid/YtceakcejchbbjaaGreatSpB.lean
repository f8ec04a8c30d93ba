/-
  A transaction as package space sees it: what it tells of its sectors.
-/
import Derived.Test.YtceakcejchbbjaaGreatSpC
import Derived.Test.YtceakcejchbbjaaGreatGT
namespace Go.Proofs.YtceakcejchbbjaaGreat
open Go.RowKit Go.MapKept Go.ChangeMaps

/-- A transaction, its journal, what lies beneath. -/
structure Sg where
  x : TG
  j : JG
  J : Jn
  D : Dk
  n : Nat
  ring : Nat
  turn : Int
  t : Int
  m : Int
  H : Nat → Sec
def Sg.S (g : Sg) : List Nat := g.x.wb :: g.j.all
def Sg.h (g : Sg) : Nat := g.n - 2 - g.ring
/-- What the transaction tells of sector i. -/
def Sg.cur (g : Sg) (M : Nat → Option Sec) (i : Nat) : Sec := (M i).getD (g.H i)
structure SpAt (w : World) (g : Sg) (M : Nat → Option Sec) : Prop where
  jr : JrAt w g.j g.J g.D g.n g.ring g.t g.m g.H
  tx : TxAt w g.x g.j.jb g.turn M
  ne : g.x.wb ∉ g.j.all
  ok : MOk M g.h
  len : ∀ i, (g.H i).length = 512
theorem SpAt.below {w w' : World} {g : Sg} {M : Nat → Option Sec} (h : SpAt w g M) (hu : Upd [] w w') : SpAt w' g M := ⟨h.jr.below hu, h.tx.below hu, h.ne, h.ok, h.len⟩
theorem SpAt.cur_len {w : World} {g : Sg} {M : Nat → Option Sec} (h : SpAt w g M) (i : Nat) : (g.cur M i).length = 512 := by
  unfold Sg.cur
  cases hq : M i with
  | none => exact h.len i
  | some s => exact (h.ok i s hq).2
theorem Sg.mem (g : Sg) : ∀ k, k ∈ [g.j.jb] → k ∈ g.S := by intro k hk; simp at hk; simp [Sg.S, JG.all, hk]
theorem Sg.memw (g : Sg) : ∀ k, k ∈ [g.x.wb] → k ∈ g.S := by intro k hk; simp at hk; simp [Sg.S, hk]
/-- Another transaction's blocks, a journal's: not the bytes that are new. -/
theorem SpAt.late {w w1 w2 : World} {g : Sg} {M : Nat → Option Sec} (h : SpAt w g M) (h1 : SpAt w1 g M) (hu : Upd [g.j.jb] w w1) {S : List Nat} (hu2 : Upd S w1 w2) (hS : ∀ k, k ∈ S → w.heap.size ≤ k) : SpAt w2 g M := by
  have hj : JnAt w (fun k => AnyF k ∧ k < w.heap.size) g.j g.J g.D := h.jr.at_.tight
  have hb : ∀ k, k ∈ g.j.all → k < w.heap.size := fun k hk => by
    have h1 := hj.lt
    have h2 := hj.disk.lt
    simp [JG.all] at hk
    rcases hk with rfl | rfl | rfl | rfl | rfl
    · exact h1.1
    · exact h1.2
    · exact h2.1
    · exact h2.2.1
    · exact h2.2.2
  obtain ⟨⟨fv, a1, _⟩, ⟨lv, b1, _⟩, ⟨f, hf, _⟩, _⟩ := id hj.disk
  obtain ⟨f2, hf2, _⟩ := id hj.away
  have nb : ∀ {k : Nat} {c : Array Value} {T : TypeId} {fr : Nat × Nat}, w.heap[k]? = some (.cells c T fr) → T ≠ 197 → k ≠ g.j.jb := by
    intro k c T fr e ht q
    subst q
    rw [hj.st] at e; simp at e; exact ht e.2.1.symm
  have hj1 : JnAt w1 (fun k => AnyF k ∧ k < w.heap.size) g.j g.J g.D :=
    ⟨hj.disk.world (hu.block _ hj.disk.lt.1 (by simpa using nb a1 (by decide))) (hu.block _ hj.disk.lt.2.1 (by simpa using nb b1 (by decide))) (hu.block _ hj.disk.lt.2.2 (by simp; intro q; exact hf.not_cells hj.st q.symm)) (fun k c hk e => hu.block _ hk.2 (by simpa using nb e (by decide))),
      h1.jr.at_.st, hj.away.world (hu.block _ hj.lt.2 (by simp; intro q; exact hf2.not_cells hj.st q.symm)) (fun k c hk e => hu.block _ hk.2 (by simpa using nb e (by decide))), hj.ne, hj.ok⟩
  have hj2 : JnAt w2 (fun k => AnyF k ∧ k < w.heap.size) g.j g.J g.D := hj1.upd hu2 (fun k hk q => by have := hb k q; have := hS k hk; omega) (fun k hk q => by have := q.2; have := hS k hk; omega)
  have ht : WaitM w (fun k => AnyF k ∧ k < w.heap.size) g.x.wb M := h.tx.wrote.tight
  have hl := h.tx.lt
  have keep : ∀ k, k < w.heap.size → k ≠ g.j.jb → w2.heap[k]? = w.heap[k]? := fun k hk hne => (hu2.block k (Nat.lt_of_lt_of_le hk hu.size) (fun q => by have := hS k q; omega)).trans (hu.block k hk (by simpa using hne))
  refine ⟨h.jr.of hj2.any, ⟨(keep _ hl.1 (nb h.tx.st (by decide))).trans h.tx.st, ?_⟩, h.ne, h.ok, h.len⟩
  exact (ht.world (keep _ hl.2 (fun q => h.ne (by simp [JG.all, q]))) (fun k c hk e => keep _ hk.2 (nb e (by decide)))).mono fun _ _ => trivial

theorem readS {w : World} {g : Sg} {M : Nat → Option Sec} (h : SpAt w g M) (i : Nat) (hi : i < g.h) :
    Calls Tryz.prog 106 #[.pointer (some ⟨g.x.tb, 0, none⟩), .int .i64 (i : Int)] w fun e w' => ∃ v, e = .returned (.tuple #[v, .int .i64 0]) ∧ OwnN w' 5 (fun k => w.heap.size ≤ k) v (g.cur M i) ∧ SpAt w' g M ∧ Upd [g.j.jb] w w' := by
  unfold Sg.h at hi
  refine (readT_hi h.jr h.tx h.ne h.ok i (by omega)).mono ?_
  rintro e w' ⟨v, e1, e2, e3, e4, e5⟩
  exact ⟨v, e1, e2, ⟨e3, e4, h.ne, h.ok, h.len⟩, e5⟩
theorem writeS {w : World} {g : Sg} {M : Nat → Option Sec} (h : SpAt w g M) (i : Nat) (hi : i < g.h) (v : Value) (b : List UInt8) (hr : Rd w v b) (hb : b.length = 512) (hc : (M i).isSome = true ∨ cntM M g.h < 40) :
    Calls Tryz.prog 101 #[.pointer (some ⟨g.x.tb, 0, none⟩), .int .i64 (i : Int), v] w fun e w' => e = .returned (.int .i64 0) ∧ SpAt w' g (fun k => if k = i then some b else M k) ∧ Upd [g.x.wb] w w' := by
  have hE : wrE M g.h (i : Int) b.length = 0 := by
    unfold wrE
    rw [if_neg (by omega), if_neg (by omega), if_neg]
    rintro ⟨a, q⟩
    rw [Int.toNat_natCast] at a
    rcases hc with r | r
    · rw [a] at r; simp at r
    · omega
  have hM : wrM M g.h (i : Int) b = fun k => if k = i then some b else M k := by unfold wrM; rw [if_pos hE, Int.toNat_natCast]
  refine (write_hi h.jr h.tx h.ne h.ok (i : Int) v b hr (by omega)).mono ?_
  rintro e w' ⟨e1, e2, e3, e4⟩
  replace e1 : e = .returned (.int .i64 (wrE M g.h (i : Int) b.length)) := e1
  replace e2 : TxAt w' g.x g.j.jb g.turn (wrM M g.h (i : Int) b) := e2
  rw [hE] at e1
  rw [hM] at e2
  exact ⟨e1, ⟨e3, e2, h.ne, h.ok.put hi hb, h.len⟩, e4⟩
theorem homesS {w : World} {g : Sg} {M : Nat → Option Sec} (h : SpAt w g M) :
    Calls Tryz.prog 58 #[.pointer (some ⟨g.x.tb, 0, none⟩)] w fun e w' => e = .returned (.int .i64 (g.h : Int)) ∧ ∃ n, w' = w.drewN n := by
  have := homesT_spec h.tx h.jr.at_
  rw [h.jr.homes] at this
  exact this

end Go.Proofs.YtceakcejchbbjaaGreat

