/-
  The journal's contracts where the power may fail; header.
-/
import Derived.Test.YthbgidiblcokhaaLwM
namespace Go.Proofs.Ythbgidiblcokhaa
open Go.RowKit

/-- A journal in memory, on its disk; the power may fail at a later operation. -/
structure JaAt (w : World) (j : JG) (J : Jn) (D : Dk) (n ring : Nat) (t m : Int) (H : Nat → Sec) : Prop where
  at_ : JnAt w AnyF j J D
  live : Live D J
  n : D.n = n
  ring : J.last.ring = ring
  turn : J.turn = t
  num : J.last.number ≤ m
  home : J.home D = H
theorem JrAt.ja {w : World} {j : JG} {J : Jn} {D : Dk} {n ring : Nat} {t m : Int} {H : Nat → Sec} (h : JrAt w j J D n ring t m H) : JaAt w j J D n ring t m H := ⟨h.at_, h.live, h.n, h.ring, h.turn, h.num, h.home⟩
theorem JaAt.of {w w' : World} {j : JG} {J : Jn} {D : Dk} {n ring : Nat} {t m : Int} {H : Nat → Sec} (h : JaAt w j J D n ring t m H) (ha : JnAt w' AnyF j J D) : JaAt w' j J D n ring t m H := ⟨ha, h.live, h.n, h.ring, h.turn, h.num, h.home⟩
theorem JaAt.below {w w' : World} {j : JG} {J : Jn} {D : Dk} {n ring : Nat} {t m : Int} {H : Nat → Sec} (h : JaAt w j J D n ring t m H) (hu : Upd [] w w') : JaAt w' j J D n ring t m H := h.of (h.at_.below hu)
theorem JaAt.rj {w : World} {j : JG} {J : Jn} {D : Dk} {n ring : Nat} {t m : Int} {H : Nat → Sec} (h : JaAt w j J D n ring t m H) : RjAt w j J D n ring t H :=
  ⟨h.at_, h.live.held.lives, h.live.held.done, h.live.held.calm.off, h.n, h.ring, h.turn, h.home⟩
theorem JaAt.le {w : World} {j : JG} {J : Jn} {D : Dk} {n ring : Nat} {t m m' : Int} {H : Nat → Sec} (h : JaAt w j J D n ring t m H) (hm : m ≤ m') : JaAt w j J D n ring t m' H := ⟨h.at_, h.live, h.n, h.ring, h.turn, Int.le_trans h.num hm, h.home⟩
/-- Blocks of another kind may turn. -/
theorem JaAt.keptT {w w' : World} {j : JG} {J : Jn} {D : Dk} {n ring : Nat} {t m : Int} {H : Nat → Sec} (h : JaAt w j J D n ring t m H) (T : TypeId) (h1 : T ≠ 51) (h2 : T ≠ 86) (h3 : T ≠ 36) (h4 : T ≠ 5)
    (hk : ∀ k, k < w.heap.size → (∀ c, w.heap[k]? ≠ some (.cells c T (0, 0))) → w'.heap[k]? = w.heap[k]?) : JaAt w' j J D n ring t m H := h.of (h.rj.keptT T h1 h2 h3 h4 hk).at_
theorem JaAt.own {w w' : World} {j : JG} {J : Jn} {D : Dk} {n ring : Nat} {t m : Int} {H : Nat → Sec} (h : JaAt w j J D n ring t m H) {S : List Nat} (hu : Upd S w w')
    (hS : ∀ k, k ∈ S → ∃ c t fr, w.heap[k]? = some (.cells c t fr) ∧ t ≠ 51 ∧ t ≠ 86 ∧ t ≠ 36 ∧ t ≠ 5) : JaAt w' j J D n ring t m H := by
  have hk : ∀ k, k ∈ j.all → k ∉ S := fun k hk hs => by
    obtain ⟨c, t, fr, e, e1, e2, e3, _⟩ := hS k hs
    exact h.at_.kind e e1 e2 e3 hk
  exact h.of (h.at_.world (hu.block _ h.at_.lt.1 (hk _ (by simp [JG.all]))) (hu.block _ h.at_.lt.2 (hk _ (by simp [JG.all]))) (hu.block _ h.at_.disk.lt.1 (hk _ (by simp [JG.all]))) (hu.block _ h.at_.disk.lt.2.1 (hk _ (by simp [JG.all]))) (hu.block _ h.at_.disk.lt.2.2 (hk _ (by simp [JG.all])))
    (fun k c _ e => hu.block _ (blk_lt e) (fun q => by
      obtain ⟨c', t, fr, e', _, _, _, e4⟩ := hS k q
      rw [e] at e'; simp at e'; exact e4 e'.2.1.symm)))

/-- A disk that holds a journal of Q behind any failure of the power. -/
def PwAt (w : World) (g : DG) (n ring : Nat) (m : Int) (Q : Int → (Nat → Sec) → Prop) : Prop :=
  ∃ D, DiskAt w AnyF g D ∧ ∀ keep, ∃ J', Held (D.power keep) J' ∧ J'.last.ring = ring ∧ J'.last.number ≤ m ∧ (D.power keep).n = n ∧ (D.power keep).armed = -1 ∧ Q J'.turn (J'.home (D.power keep))
theorem PwAt.mono {w : World} {g : DG} {n ring : Nat} {m m' : Int} {Q Q' : Int → (Nat → Sec) → Prop} (h : PwAt w g n ring m Q) (hm : m ≤ m') (hQ : ∀ t H, Q t H → Q' t H) : PwAt w g n ring m' Q' := by
  obtain ⟨D, hd, hk⟩ := h
  refine ⟨D, hd, fun keep => ?_⟩
  obtain ⟨J', a1, a2, a3, a4, a5, a6⟩ := hk keep
  exact ⟨J', a1, a2, Int.le_trans a3 hm, a4, a5, hQ _ _ a6⟩
theorem PwAt.world {w w' : World} {g : DG} {n ring : Nat} {m : Int} {Q : Int → (Nat → Sec) → Prop} (h : PwAt w g n ring m Q) (hw : ∀ D, DiskAt w AnyF g D → DiskAt w' AnyF g D) : PwAt w' g n ring m Q := by
  obtain ⟨D, hd, hk⟩ := h
  exact ⟨D, hw D hd, hk⟩
theorem DiskAt.any_below {w w' : World} {g : DG} {D : Dk} (h : DiskAt w AnyF g D) (hu : Upd [] w w') : DiskAt w' AnyF g D :=
  h.world (hu.block _ h.lt.1 (by simp)) (hu.block _ h.lt.2.1 (by simp)) (hu.block _ h.lt.2.2 (by simp)) (fun _ _ _ hk => hu.block _ (blk_lt hk) (by simp))
theorem PwAt.below {w w' : World} {g : DG} {n ring : Nat} {m : Int} {Q : Int → (Nat → Sec) → Prop} (h : PwAt w g n ring m Q) (hu : Upd [] w w') : PwAt w' g n ring m Q := h.world fun _ hd => hd.any_below hu
theorem DiskAt.keptT {w w' : World} {g : DG} {D : Dk} (h : DiskAt w AnyF g D) (T : TypeId) (h2 : T ≠ 86) (h3 : T ≠ 36) (h4 : T ≠ 5)
    (hk : ∀ k, k < w.heap.size → (∀ c, w.heap[k]? ≠ some (.cells c T (0, 0))) → w'.heap[k]? = w.heap[k]?) : DiskAt w' AnyF g D := by
  obtain ⟨⟨fv, a1, _⟩, ⟨lv, b1, _⟩, ⟨f, hf, _⟩, _⟩ := id h
  refine h.world (hk _ h.lt.1 fun c e => ?_) (hk _ h.lt.2.1 fun c e => ?_) (hk _ h.lt.2.2 fun c e => ?_) (fun k c _ e => hk _ (blk_lt e) (fun c' e' => by rw [e] at e'; simp at e'; exact h4 e'.2.symm))
  · rw [a1] at e; simp at e; exact h2 e.2.symm
  · rw [b1] at e; simp at e; exact h3 e.2.symm
  · exact hf.not_cells e rfl
theorem DiskAt.ownT {w w' : World} {g : DG} {D : Dk} (h : DiskAt w AnyF g D) {b : Nat} {c0 : Array Value} {T : TypeId} {fr : Nat × Nat} (hu : Upd [b] w w') (hb : w.heap[b]? = some (.cells c0 T fr)) (h2 : T ≠ 86) (h3 : T ≠ 36) (h4 : T ≠ 5) : DiskAt w' AnyF g D := by
  obtain ⟨⟨fv, a1, _⟩, ⟨lv, b1, _⟩, ⟨f, hf, _⟩, _⟩ := id h
  refine h.world (hu.block _ h.lt.1 ?_) (hu.block _ h.lt.2.1 ?_) (hu.block _ h.lt.2.2 ?_) (fun k c _ e => hu.block _ (blk_lt e) ?_)
  · simp; rintro rfl; rw [a1] at hb; simp at hb; exact h2 hb.2.1.symm
  · simp; rintro rfl; rw [b1] at hb; simp at hb; exact h3 hb.2.1.symm
  · simp; exact fun q => hf.not_cells hb q.symm
  · simp; rintro rfl; rw [e] at hb; simp at hb; exact h4 hb.2.1.symm
theorem JaAt.pw {w : World} {j : JG} {J : Jn} {D : Dk} {n ring : Nat} {t m : Int} {H : Nat → Sec} (h : JaAt w j J D n ring t m H) : PwAt w j.d n ring m fun t' H' => t' = t ∧ H' = H := by
  refine ⟨D, h.at_.disk, fun keep => ?_⟩
  obtain ⟨q1, q2, q3, q4⟩ := h.live.held.power keep
  exact ⟨_, q1, h.ring, h.num, q3.trans h.n, q4, h.turn, q2.trans h.home⟩
theorem DsAt.pw {w : World} {g : DG} {J : Jn} {D : Dk} {n ring : Nat} {t m : Int} {H : Nat → Sec} (h : DsAt w g J D n ring t m H) : PwAt w g n ring m fun t' H' => t' = t ∧ H' = H := by
  refine ⟨D, h.disk, fun keep => ?_⟩
  obtain ⟨q1, q2, q3, q4⟩ := h.held.power keep
  exact ⟨_, q1, h.ring, h.num, q3.trans h.n, q4, h.turn, q2.trans h.home⟩
theorem pw_hi {w : World} {g : DG} {n ring : Nat} {m : Int} {Q : Int → (Nat → Sec) → Prop} (h : PwAt w g n ring m Q) (v : Value) (keep : List Bool) (hr : RdL w [g.db, g.lb, g.mb] v (keep.map Value.bool)) :
    Calls Try.prog 23 #[.pointer (some ⟨g.db, 0, none⟩), v] w fun e w' => e = .returned (.tuple #[]) ∧ (∃ J D t H, DsAt w' g J D n ring t m H ∧ Q t H) ∧ Upd [g.db, g.lb, g.mb] w w' := by
  obtain ⟨D, hd, hk⟩ := h
  refine (power_spec hd v keep hr).mono ?_
  rintro e w' ⟨e1, e2, e3⟩
  obtain ⟨J', a1, a2, a3, a4, a5, a6⟩ := hk keep
  exact ⟨e1, ⟨J', _, _, _, ⟨e2.any, a1, a5, a4, a2, rfl, a3, rfl⟩, a6⟩, e3⟩
theorem arm_calm {D : Dk} {n part : Int} (h : D.Calm) (hok : (D.arm n part).Ok) : (D.arm n part).Calm := ⟨hok, h.off, h.wait, h.way⟩
theorem Held.arm {D : Dk} {J : Jn} (h : Held D J) {n part : Int} (hok : (D.arm n part).Ok) : Held (D.arm n part) J ∧ J.home (D.arm n part) = J.home D := by
  have := h.stay (arm_calm h.calm hok) rfl rfl h.oth (fun _ _ => rfl) h.clean
  have e : J.anew (D.arm n part) = J := by
    show ({ J with lives := D.lives, done := false } : Jn) = J
    rw [← h.lives, ← h.done]
  rw [e] at this
  exact ⟨this, rfl⟩
theorem armJ_hi {w : World} {j : JG} {J : Jn} {D : Dk} {n ring : Nat} {t m : Int} {H : Nat → Sec} (h : JaAt w j J D n ring t m H) (a p : Int) (ha : a ≤ 9223372036854775807) :
    Calls Try.prog 32 #[.pointer (some ⟨j.d.db, 0, none⟩), .int .i64 a, .int .i64 p] w fun e w' => e = .returned (.tuple #[]) ∧ JaAt w' j J (D.arm a p) n ring t m H ∧ Upd [j.d.db] w w' := by
  refine (arm_spec h.at_.disk a p ha).mono ?_
  rintro e w' ⟨e1, e2, e3⟩
  obtain ⟨q1, q2⟩ := h.live.held.arm e2.ok
  exact ⟨e1, ⟨h.at_.step e2 (e3.mono (by simp)) (fun _ q => q) rfl, ⟨q1, h.live.low⟩, h.n, h.ring, h.turn, h.num, q2.trans h.home⟩, e3⟩
/-- A disk that holds a journal; the power may fail at a later operation. -/
structure DaAt (w : World) (g : DG) (J : Jn) (D : Dk) (n ring : Nat) (t m : Int) (H : Nat → Sec) : Prop where
  disk : DiskAt w AnyF g D
  held : Held D J
  n : D.n = n
  ring : J.last.ring = ring
  turn : J.turn = t
  num : J.last.number ≤ m
  home : J.home D = H
theorem armD_hi {w : World} {g : DG} {J : Jn} {D : Dk} {n ring : Nat} {t m : Int} {H : Nat → Sec} (h : DsAt w g J D n ring t m H) (a p : Int) (ha : a ≤ 9223372036854775807) :
    Calls Try.prog 32 #[.pointer (some ⟨g.db, 0, none⟩), .int .i64 a, .int .i64 p] w fun e w' => e = .returned (.tuple #[]) ∧ DaAt w' g J (D.arm a p) n ring t m H ∧ Upd [g.db] w w' := by
  refine (arm_spec h.disk a p ha).mono ?_
  rintro e w' ⟨e1, e2, e3⟩
  obtain ⟨q1, q2⟩ := h.held.arm e2.ok
  exact ⟨e1, ⟨e2, q1, h.n, h.ring, h.turn, h.num, q2.trans h.home⟩, e3⟩
/-- An opening where the power may fail. -/
theorem openA_hi {w : World} {g : DG} {J : Jn} {D : Dk} {n ring : Nat} {t m : Int} {H : Nat → Sec} (h : DaAt w g J D n ring t m H) (ht : t < 1000000) (hm : m < 1000000) :
    Calls Try.prog 18 #[.pointer (some ⟨g.db, 0, none⟩)] w fun e w' => (∃ p x, e = .returned (.tuple #[.pointer p, .int .i64 x])) ∧ (PwAt w' g n ring (m + 1) fun t' H' => t' = t ∧ H' = H) ∧ Upd [g.db, g.lb, g.mb] w w' := by
  refine (open_main h.disk h.held.calm.off).mono ?_
  rintro e w' ⟨D', r, err, ho, hat, hu⟩
  have h1 := h.num
  have h2 := h.turn
  rcases h.held.open ⟨by omega, by omega⟩ ho with ⟨rfl, J', rfl, q1, q2, q3, q4, q5, q6, q7, q8⟩ | ⟨rfl, rfl, _, b1, b2, b3, b4⟩
  · obtain ⟨jb, ab, e1, e2, e3, e4⟩ := hat
    have hJ : JaAt w' ⟨jb, ab, g⟩ J' D' n ring t (m + 1) H := ⟨e4.any, q1, q7.trans h.n, q5.trans h.ring, q4.trans h.turn, by omega, q2.trans h.home⟩
    exact ⟨⟨_, _, e1⟩, hJ.pw, hu⟩
  · obtain ⟨e1, e2⟩ := hat
    refine ⟨⟨_, _, e1⟩, ⟨D', e2.any, fun keep => ?_⟩, hu⟩
    obtain ⟨J', a1, a2, a3, a4, a5, a6, a7⟩ := b4 keep
    exact ⟨J', a1, a2.trans h.ring, by omega, a4.trans h.n, a5, a6.trans h.turn, a7.trans h.home⟩
/-- A commit where the power may fail. -/
theorem comA_hi {w : World} {j : JG} {J : Jn} {D : Dk} {n ring : Nat} {t m : Int} {H : Nat → Sec} (h : JaAt w j J D n ring t m H) (v : Value) (l : List Put) (hp : PutsAt w v l) (hl : l.length ≤ 1000000) (ht : t < 1000000) (hm : m < 1000000) :
    Calls Try.prog 22 #[.pointer (some ⟨j.jb, 0, none⟩), v] w fun e w' => Upd j.all w w' ∧
      ((fitsR n ring l = 0 ∧ e = .returned (.int .i64 0) ∧ ∃ J' D' t', JaAt w' j J' D' n ring t' (m + 1) (putsH H l) ∧ t' ≤ t + 1 ∧ D'.off = false) ∨
       (fitsR n ring l = 0 ∧ e = .returned (.int .i64 8) ∧ (PwAt w' j.d n ring (m + 2) fun t' H' => t' ≤ t + 1 ∧ (H' = H ∨ H' = putsH H l)) ∧ ∃ D', DiskAt w' AnyF j.d D' ∧ D'.off = true) ∨
       (fitsR n ring l ≠ 0 ∧ e = .returned (.int .i64 (fitsR n ring l)) ∧ JaAt w' j J D n ring t m H)) := by
  have hfe : J.fits D.n l = fitsR n ring l := by unfold Jn.fits Jn.homes fitsR; rw [h.n, h.ring]
  have hu : J.used ≤ 1024 := by have := h.live.held.used; have := h.live.held.jok.ring1; omega
  have h1 := h.num
  have h2 := h.turn
  refine (com_spec h.at_ v l hp hl (by omega)).mono ?_
  rintro e w' ⟨rfl, e2, e3⟩
  refine ⟨e3, ?_⟩
  by_cases hf : fitsR n ring l = 0
  · by_cases h0 : l = []
    · obtain ⟨q1, q2⟩ := h.live.comNo (l := l) (.inr h0)
      rw [q1, q2] at e2
      rw [q1]
      refine .inl ⟨hf, by show Ending.returned (.int .i64 (J.fits D.n l)) = _; rw [hfe, hf], J, D, t, ⟨e2.any, h.live, h.n, h.ring, h.turn, by omega, by rw [h0]; exact h.home⟩, by omega, h.live.held.calm.off⟩
    · rcases h.live.com ⟨by omega, by omega⟩ (by omega) (hfe.trans hf) h0 with ⟨q1, q2, q3, q4, q5, q6, q7, q8, q9⟩ | ⟨q1, q, b1, b2, b3, b4⟩
      · rw [q1]
        exact .inl ⟨hf, rfl, _, _, t + 1, ⟨e2.any, q2, q7.trans h.n, q5.trans h.ring, by omega, by omega, by rw [q3, h.home]⟩, by omega, q2.held.calm.off⟩
      · rw [q1]
        refine .inr (.inl ⟨hf, rfl, ⟨_, e2.disk.any, fun keep => ?_⟩, _, e2.disk.any, b1⟩)
        obtain ⟨J', a1, a2, a3, a4, a5, a6⟩ := b4 keep
        refine ⟨J', a1, a2.trans h.ring, by omega, a4.trans h.n, a5, ?_⟩
        rw [h.home] at a6
        rcases a6 with ⟨c1, c2⟩ | ⟨c1, c2⟩
        · exact ⟨by omega, .inl c2⟩
        · exact ⟨by omega, .inr c2⟩
  · obtain ⟨q1, q2⟩ := h.live.comNo (l := l) (.inl (by rw [hfe]; exact hf))
    rw [q1, q2] at e2
    rw [q1]
    exact .inr (.inr ⟨hf, by show Ending.returned (.int .i64 (J.fits D.n l)) = _; rw [hfe], h.of e2.any⟩)

end Go.Proofs.Ythbgidiblcokhaa
