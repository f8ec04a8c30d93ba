/-
  Commit and Begin as package space sees them.
-/
import Derived.Test.YtlncfncolkgjfaaSpN
namespace Go.Proofs.Ytlncfncolkgjfaa
open Go.RowKit Go.MapKept Go.ChangeMaps

theorem commitS {w : World} {g : Sg} {M : Nat → Option Sec} (h : SpAt w g M) (htu : g.turn = g.t - 1) (hn : g.n ≤ 5000) (h1 : cntM M g.h ≤ 40) (h2 : cntM M g.h < g.ring) (ht : g.t < 1000000) (hm : g.m < 1000000) :
    Calls Try.prog 21 #[.pointer (some ⟨g.x.tb, 0, none⟩)] w fun e w' => e = .returned (.int .i64 0) ∧ (∃ J' D' t', JrAt w' g.j J' D' g.n g.ring t' (g.m + 1) (g.cur M) ∧ t' ≤ g.t + 1) ∧ Upd (g.x.tb :: g.j.all) w w' := by
  refine (commit_hi h.jr (by rw [← htu]; exact h.tx) h.ne h.ok hn h1 h2 ht hm).mono ?_
  rintro e w' ⟨e1, _, ⟨J', D', t', hr, ht'⟩, hu⟩
  refine ⟨e1, ⟨J', D', t', hr, ?_⟩, hu⟩
  rw [ht']; split <;> omega
theorem beginS {w : World} {j : JG} {J : Jn} {D : Dk} {n ring : Nat} {t m : Int} {H : Nat → Sec} (h : JrAt w j J D n ring t m H) (hH : ∀ i, (H i).length = 512) :
    Calls Try.prog 22 #[.pointer (some ⟨j.jb, 0, none⟩)] w fun e w' => ∃ x : TG, e = .returned (.tuple #[.pointer (some ⟨x.tb, 0, none⟩), .int .i64 0]) ∧ w.heap.size ≤ x.tb ∧ w.heap.size ≤ x.wb ∧ SpAt w' ⟨x, j, J, D, n, ring, t - 1, t, m, H⟩ (fun _ => none) ∧ Upd j.all w w' := by
  refine (begin_hi h).mono ?_
  rintro e w' ⟨x, e1, e2, e3, hx, hr, hu⟩
  exact ⟨x, e1, e2, e3, ⟨hr, hx, h.at_.late e3, MOk.none _, hH⟩, hu⟩

end Go.Proofs.Ytlncfncolkgjfaa
