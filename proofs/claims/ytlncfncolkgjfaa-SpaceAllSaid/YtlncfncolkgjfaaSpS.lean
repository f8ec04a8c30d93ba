/-
  SpaceAll: what stands between the rounds.
-/
import Derived.Test.YtlncfncolkgjfaaSpR
import Derived.Test.YtlncfncolkgjfaaSpO
import Derived.Test.YtlncfncolkgjfaaSpQ
namespace Go.Proofs.Ytlncfncolkgjfaa
open Go.RowKit Go.MapKept Go.ChangeMaps

/-- None but the first two sectors are turned. -/
def Two (M : Nat → Option Sec) : Prop := ∀ i, 2 ≤ i → M i = none
theorem Two.none : Two (fun _ => none) := fun _ _ => rfl
theorem Two.put0 {M : Nat → Option Sec} (h : Two M) (s : Sec) : Two (put0 M s) := fun i hi => by unfold Go.Proofs.Ytlncfncolkgjfaa.put0; rw [if_neg (by omega)]; exact h i hi
theorem Two.put1 {M : Nat → Option Sec} (h : Two M) (s : Sec) : Two (put1 M s) := fun i hi => by unfold Go.Proofs.Ytlncfncolkgjfaa.put1; rw [if_neg (by omega)]; exact h i hi
theorem Two.cnt {M : Nat → Option Sec} (ht : Two M) : ∀ h, cntM M h ≤ 2
  | 0 => by unfold cntM keysM; simp
  | h + 1 => by
    have ih := ht.cnt h
    unfold cntM keysM at *
    rw [List.range_succ, List.filter_append, List.length_append]
    by_cases e : 2 ≤ h
    · rw [List.filter_cons_of_neg (by rw [ht h e]; simp)]
      simpa using ih
    · have h1 := List.length_filter_le (fun i => (M i).isSome) (List.range h)
      have h2 := List.length_filter_le (fun i => (M i).isSome) [h]
      rw [List.length_range] at h1
      simp only [List.length_cons, List.length_nil] at h2
      omega
theorem Sg.T_put0 (g : Sg) (M : Nat → Option Sec) (s : Sec) : g.T (put0 M s) = g.T M := by
  funext i; unfold Sg.T Sg.cur put0; rw [if_neg (by omega)]
theorem Sg.R_put1 (g : Sg) (M : Nat → Option Sec) (s : Sec) : g.R (put1 M s) = g.R M := by
  funext i; unfold Sg.R Sg.cur put1; rw [if_neg (by omega)]
theorem Sg.R_put0 {g : Sg} {M : Nat → Option Sec} (hl : (g.cur M 0).length = 512) {k V : Nat} (hk : k < 16) (hV : V < 4294967296) : ∀ j, j < 16 → g.R (put0 M (put (g.cur M 0) (4 * k) 4 V)) j = if j = k then V else g.R M j := by
  intro j hj
  have e : g.cur (put0 M (put (g.cur M 0) (4 * k) 4 V)) 0 = put (g.cur M 0) (4 * k) 4 V := by unfold Sg.cur put0; rw [if_pos rfl]; rfl
  unfold Sg.R
  rw [e]
  by_cases h : j = k
  · rw [if_pos h, h, num_put (by omega) (by omega)]
  · rw [if_neg h, num_put_ne _ (by omega) (by omega)]
theorem spCells_ext (sl : Value) {r r' : Nat → Nat} (h : ∀ j, j < 16 → r' j = r j) : spCells sl r' = spCells sl r := by
  unfold spCells
  rw [h 0 (by omega), h 1 (by omega), h 2 (by omega), h 3 (by omega), h 4 (by omega), h 5 (by omega), h 6 (by omega), h 7 (by omega), h 8 (by omega), h 9 (by omega), h 10 (by omega), h 11 (by omega), h 12 (by omega), h 13 (by omega), h 14 (by omega), h 15 (by omega)]
theorem RfAt.extR {w : World} {b sb h : Nat} {f : Nat → Bool} {r r' : Nat → Nat} (H : RfAt w b sb h f r) (he : ∀ j, j < 16 → r' j = r j) : RfAt w b sb h f r' := by
  obtain ⟨⟨c, hc, e⟩, hr⟩ := H
  exact ⟨⟨c, hc, by rw [spCells_ext _ he]; exact e⟩, hr⟩

/-- What stands between the rounds: the transaction, the document's Space, the one of the last commit, the list of extents. -/
structure AlAt (w0 w : World) (g : Sg) (M : Nat → Option Sec) (b7 s7 : Nat) (f7 : Nat → Bool) (r7 : Nat → Nat) (b8 s8 : Nat) (f8 : Nat → Bool) (r8 : Nat → Nat) (v : Value) (ps : List (Int × Int)) : Prop where
  sp : SpAt w g M
  two : Two M
  a : RfAt w b7 s7 g.h f7 r7
  b : RfAt w b8 s8 g.h f8 r8
  ns : s7 ≠ s8
  nb : b7 ≠ b8
  ring : g.ring = 16
  n0 : 64 ≤ g.n
  n1 : g.n ≤ 318
  turn : g.turn = g.t - 1
  late : ∀ k, k ∈ g.x.tb :: g.S → w0.heap.size ≤ k
  new : w0.heap.size ≤ b7 ∧ w0.heap.size ≤ s7 ∧ w0.heap.size ≤ b8 ∧ w0.heap.size ≤ s8
  pr : PrB w w0.heap.size v ps
  upd : Upd [] w0 w
section
variable {w0 w w' : World} {g : Sg} {M : Nat → Option Sec} {b7 s7 : Nat} {f7 : Nat → Bool} {r7 : Nat → Nat} {b8 s8 : Nat} {f8 : Nat → Bool} {r8 : Nat → Nat} {v : Value} {ps : List (Int × Int)}
theorem RfAt.cross {b7 s7 b8 s8 h h' : Nat} (H : RfAt w b7 s7 h f7 r7) (K : RfAt w b8 s8 h' f8 r8) : b7 ≠ s8 := by
  rintro rfl
  obtain ⟨⟨c, _, e⟩, _⟩ := H
  obtain ⟨_, ⟨rest, e2⟩⟩ := K
  rw [e] at e2; simp at e2
theorem AlAt.hl (H : AlAt w0 w g M b7 s7 f7 r7 b8 s8 f8 r8 v ps) : 46 ≤ g.h ∧ g.h ≤ 300 ∧ g.h = g.n - 18 := by
  have h1 := H.n0
  have h2 := H.n1
  have e : g.h = g.n - 18 := by unfold Sg.h; rw [H.ring]; omega
  omega
theorem AlAt.tx {M' : Nat → Option Sec} (H : AlAt w0 w g M b7 s7 f7 r7 b8 s8 f8 r8 v ps) (hs : SpAt w' g M') (h2 : Two M') (hu : Upd g.S w w') : AlAt w0 w' g M' b7 s7 f7 r7 b8 s8 f8 r8 v ps :=
  ⟨hs, h2, H.a.tx H.sp hu, H.b.tx H.sp hu, H.ns, H.nb, H.ring, H.n0, H.n1, H.turn, H.late, H.new, H.pr.upd hu (fun k c hk e => H.sp.other e (.inr (.inr (.inl rfl))) hk), late_all H.upd hu (fun k hk => H.late k (by simp [hk]))⟩
theorem AlAt.below (H : AlAt w0 w g M b7 s7 f7 r7 b8 s8 f8 r8 v ps) (hu : Upd [] w w') : AlAt w0 w' g M b7 s7 f7 r7 b8 s8 f8 r8 v ps := H.tx (H.sp.below hu) H.two (hu.mono (by simp))
theorem AlAt.ref {f' : Nat → Bool} {r' : Nat → Nat} (H : AlAt w0 w g M b7 s7 f7 r7 b8 s8 f8 r8 v ps) (ha : RfAt w' b7 s7 g.h f' r') (hu : Upd [s7] w w') : AlAt w0 w' g M b7 s7 f' r' b8 s8 f8 r8 v ps := by
  have hx := H.b.cross H.a
  have hns := H.ns
  obtain ⟨rest, e⟩ := H.a.row
  exact ⟨H.sp.turned e (.inr rfl) hu, H.two, ha, H.b.below hu (by simpa using hx) (by simpa using fun q => hns q.symm), H.ns, H.nb, H.ring, H.n0, H.n1, H.turn, H.late, H.new, H.pr.upd hu (fun k c hk e2 => by simp at hk; subst hk; rw [e] at e2; simp at e2), late_all H.upd hu (fun k hk => by simp at hk; subst hk; exact H.new.2.1)⟩
theorem AlAt.put7 {r' : Nat → Nat} (H : AlAt w0 w g M b7 s7 f7 r7 b8 s8 f8 r8 v ps) (ha : RfAt w' b7 s7 g.h f7 r') (hu : Upd [b7] w w') : AlAt w0 w' g M b7 s7 f7 r' b8 s8 f8 r8 v ps := by
  have hx := H.a.cross H.b
  have hnb := H.nb
  obtain ⟨c, _, e⟩ := H.a.st
  exact ⟨H.sp.turned e (.inl rfl) hu, H.two, ha, H.b.below hu (by simpa using fun q => hnb q.symm) (by simpa using fun q => hx q.symm), H.ns, H.nb, H.ring, H.n0, H.n1, H.turn, H.late, H.new, H.pr.upd hu (fun k c hk e2 => by simp at hk; subst hk; rw [e] at e2; simp at e2), late_all H.upd hu (fun k hk => by simp at hk; subst hk; exact H.new.1)⟩
theorem AlAt.root (H : AlAt w0 w g M b7 s7 f7 r7 b8 s8 f8 r8 v ps) {k : Nat} (hk : k < 16) (V : Nat) : AlAt w0 (w.setCell ⟨b7, 1 + k, none⟩ (.int .u32 (V : Int))) g M b7 s7 f7 (fun j => if j = k then V else r7 j) b8 s8 f8 r8 v ps :=
  H.put7 (H.a.root hk V) ((Upd.refl _ _).set _ (.inl (by simp)))
theorem AlAt.push {S : List Nat} {v' : Value} {ps' : List (Int × Int)} (H : AlAt w0 w g M b7 s7 f7 r7 b8 s8 f8 r8 v ps) (hp : PrB w' w0.heap.size v' ps') (hu : Upd S w w') (hS : ∀ k, k ∈ S → w0.heap.size ≤ k ∧ ∃ c, w.heap[k]? = some (.cells c 50 (0, 0))) : AlAt w0 w' g M b7 s7 f7 r7 b8 s8 f8 r8 v' ps' := by
  have no : ∀ {k : Nat} {c : Array Value} {T : TypeId}, w.heap[k]? = some (.cells c T (0, 0)) → T ≠ 50 → k ∉ S := fun {k c T} e ht q => by
    obtain ⟨c2, e2⟩ := (hS k q).2
    rw [e] at e2; simp at e2; exact ht e2.2
  have keep : ∀ {b sb h : Nat} {f : Nat → Bool} {r : Nat → Nat}, RfAt w b sb h f r → RfAt w' b sb h f r := fun {b sb h f r} K => by
    obtain ⟨⟨c, hc, e⟩, ⟨rest, e2⟩⟩ := id K
    exact K.below hu (no e (by decide)) (no e2 (by decide))
  have hsp : SpAt w' g M := ⟨H.sp.jr.own hu (fun k hk => by obtain ⟨c, e⟩ := (hS k hk).2; exact ⟨_, _, _, e, by decide, by decide, by decide, by decide⟩),
     H.sp.tx.upd hu (no H.sp.tx.st (by decide)) (fun q => by obtain ⟨c, e⟩ := (hS _ q).2; exact H.sp.tx.map e) (fun k c hk e => no e (by decide) hk), H.sp.ne, H.sp.ok, H.sp.len⟩
  exact ⟨hsp, H.two, keep H.a, keep H.b, H.ns, H.nb, H.ring, H.n0, H.n1, H.turn, H.late, H.new, hp, late_all H.upd hu (fun k hk => (hS k hk).1)⟩
/-- The transaction is over, another one begins. -/
theorem AlAt.over {g' : Sg} (H : AlAt w0 w g M b7 s7 f7 r7 b8 s8 f8 r8 v ps) (hs : SpAt w' g' (fun _ => none)) (hu : Upd (g.x.tb :: g.j.all) w w') (hj : g'.j = g.j) (hx : w.heap.size ≤ g'.x.tb) (hx2 : w.heap.size ≤ g'.x.wb) (hn : g'.n = g.n) (hr : g'.ring = g.ring) (ht : g'.turn = g'.t - 1) : AlAt w0 w' g' (fun _ => none) b7 s7 f7 r7 b8 s8 f8 r8 v ps := by
  have hh : g'.h = g.h := by unfold Sg.h; rw [hn, hr]
  have no : ∀ {k : Nat} {c : Array Value} {T : TypeId}, w.heap[k]? = some (.cells c T (0, 0)) → (T = 43 ∨ T = 4 ∨ T = 50 ∨ T = 48) → k ∉ g.x.tb :: g.j.all := fun {k c T} e ht q => by
    have h1 := H.sp.other e ht
    simp only [Sg.S, List.mem_cons, not_or] at h1
    rcases List.mem_cons.1 q with q | q
    · have := H.sp.tx.st
      rw [← q, e] at this
      simp at this
      rcases ht with rfl | rfl | rfl | rfl <;> exact absurd this.2 (by decide)
    · exact h1.2 q
  have keep : ∀ {b sb h : Nat} {f : Nat → Bool} {r : Nat → Nat}, RfAt w b sb h f r → RfAt w' b sb h f r := fun {b sb h f r} K => by
    obtain ⟨⟨c, hc, e⟩, ⟨rest, e2⟩⟩ := id K
    exact K.below hu (no e (.inl rfl)) (no e2 (.inr (.inl rfl)))
  have hsz := H.upd.size
  refine ⟨hs, Two.none, by rw [hh]; exact keep H.a, by rw [hh]; exact keep H.b, H.ns, H.nb, hr.trans H.ring, by rw [hn]; exact H.n0, by rw [hn]; exact H.n1, ht, fun k hk => ?_, H.new, H.pr.upd hu (fun k c hk e => no e (.inr (.inr (.inl rfl))) hk), late_all H.upd hu (fun k hk => H.late k (by simp [Sg.S] at hk ⊢; rcases hk with q | q <;> simp [q]))⟩
  simp only [Sg.S, List.mem_cons] at hk
  rcases hk with rfl | rfl | hk
  · omega
  · omega
  · rw [hj] at hk; exact H.late k (by simp [Sg.S, hk])
/-- The one of the last commit is written whole. -/
theorem AlAt.new8 {gb c : Nat} (H : AlAt w0 w g M b7 s7 f7 r7 b8 s8 f8 r8 v ps) (hc : g.h ≤ c) {f : Nat → Bool} {r : Nat → Nat} (hb : BlG w gb g.h f) (h0 : w0.heap.size ≤ gb) (hne : s7 ≠ gb) : AlAt w0 (w.setRow b8 (spCells (.slice (some ⟨gb, 0, none⟩) g.h c) r)) g M b7 s7 f7 r7 b8 gb f r v ps := by
  obtain ⟨c8, _, e⟩ := H.b.st
  have hu : Upd [b8] w (w.setRow b8 (spCells (.slice (some ⟨gb, 0, none⟩) g.h c) r)) := (Upd.refl _ _).row _ (.inl (by simp))
  have hx := H.b.cross H.a
  have hnb := H.nb
  obtain ⟨rest, e2⟩ := id hb
  have hgb : gb ≠ b8 := by rintro rfl; rw [e] at e2; simp at e2
  exact ⟨H.sp.turned e (.inl rfl) hu, H.two, H.a.below hu (by simpa using hnb) (by simpa using fun q => hx q.symm), ⟨⟨c, hc, setRow_heap _ _ _ _ _ _ e⟩, hb.upd hu (by simpa using hgb)⟩, hne, H.nb, H.ring, H.n0, H.n1, H.turn, H.late, ⟨H.new.1, H.new.2.1, H.new.2.2.1, h0⟩, H.pr.upd hu (fun k c hk e2 => by simp at hk; subst hk; rw [e] at e2; simp at e2), late_all H.upd hu (fun k hk => by simp at hk; subst hk; exact H.new.2.2.1)⟩
theorem AlAt.new7 {gb c : Nat} (H : AlAt w0 w g M b7 s7 f7 r7 b8 s8 f8 r8 v ps) (hc : g.h ≤ c) {f : Nat → Bool} {r : Nat → Nat} (hb : BlG w gb g.h f) (h0 : w0.heap.size ≤ gb) (hne : gb ≠ s8) : AlAt w0 (w.setRow b7 (spCells (.slice (some ⟨gb, 0, none⟩) g.h c) r)) g M b7 gb f r b8 s8 f8 r8 v ps := by
  obtain ⟨c8, _, e⟩ := H.a.st
  have hu : Upd [b7] w (w.setRow b7 (spCells (.slice (some ⟨gb, 0, none⟩) g.h c) r)) := (Upd.refl _ _).row _ (.inl (by simp))
  have hx := H.a.cross H.b
  have hnb := H.nb
  obtain ⟨rest, e2⟩ := id hb
  have hgb : gb ≠ b7 := by rintro rfl; rw [e] at e2; simp at e2
  exact ⟨H.sp.turned e (.inl rfl) hu, H.two, ⟨⟨c, hc, setRow_heap _ _ _ _ _ _ e⟩, hb.upd hu (by simpa using hgb)⟩, H.b.below hu (by simpa using fun q => hnb q.symm) (by simpa using fun q => hx q.symm), hne, H.nb, H.ring, H.n0, H.n1, H.turn, H.late, ⟨H.new.1, h0, H.new.2.2⟩, H.pr.upd hu (fun k c hk e2 => by simp at hk; subst hk; rw [e] at e2; simp at e2), late_all H.upd hu (fun k hk => by simp at hk; subst hk; exact H.new.1)⟩
end

end Go.Proofs.Ytlncfncolkgjfaa
