/-
  cofferlaw8.same; what a Space in memory keeps.
-/
import Derived.Test.YtlncfncolkgjfaaSpJ
namespace Go.Proofs.Ytlncfncolkgjfaa
open Go.RowKit Go.MapKept Go.ChangeMaps

theorem sp_root {w : World} {b : Nat} {sl : Value} {r : Nat → Nat} {T : TypeId} (h : w.heap[b]? = some (.cells (spCells sl r) T (0, 0))) (k : Nat) (hk : k < 16) : w.cell? ⟨b, 1 + k, none⟩ = some (.int .u32 (r k : Int)) := by
  rw [blk_cell h]
  match k, hk with
  | 0, _ => rfl
  | 1, _ => rfl
  | 2, _ => rfl
  | 3, _ => rfl
  | 4, _ => rfl
  | 5, _ => rfl
  | 6, _ => rfl
  | 7, _ => rfl
  | 8, _ => rfl
  | 9, _ => rfl
  | 10, _ => rfl
  | 11, _ => rfl
  | 12, _ => rfl
  | 13, _ => rfl
  | 14, _ => rfl
  | 15, _ => rfl
  | k + 16, h => exact absurd h (by omega)
theorem spCells_set (sl : Value) (r : Nat → Nat) (k V : Nat) (hk : k < 16) : (spCells sl r).setIfInBounds (1 + k) (.int .u32 (V : Int)) = spCells sl (fun j => if j = k then V else r j) := by
  match k, hk with
  | 0, _ => rfl
  | 1, _ => rfl
  | 2, _ => rfl
  | 3, _ => rfl
  | 4, _ => rfl
  | 5, _ => rfl
  | 6, _ => rfl
  | 7, _ => rfl
  | 8, _ => rfl
  | 9, _ => rfl
  | 10, _ => rfl
  | 11, _ => rfl
  | 12, _ => rfl
  | 13, _ => rfl
  | 14, _ => rfl
  | 15, _ => rfl
  | k + 16, h => exact absurd h (by omega)
theorem RfAt.root {w : World} {b sb h : Nat} {f : Nat → Bool} {r : Nat → Nat} (H : RfAt w b sb h f r) {k : Nat} (hk : k < 16) (V : Nat) : RfAt (w.setCell ⟨b, 1 + k, none⟩ (.int .u32 (V : Int))) b sb h f (fun j => if j = k then V else r j) := by
  have hne := H.ne
  obtain ⟨⟨c, hc, e⟩, hr⟩ := H
  refine ⟨⟨c, hc, ?_⟩, hr.upd ((Upd.refl [b] w).set _ (.inl (by simp))) (by simpa using hne)⟩
  rw [blk_set e, spCells_set _ _ _ _ hk]
/-- A block of cells of another type than the transaction's and the journal's may be turned. -/
theorem SpAt.other {w : World} {g : Sg} {M : Nat → Option Sec} (h : SpAt w g M) {b : Nat} {c : Array Value} {T : TypeId} {fr : Nat × Nat} (hb : w.heap[b]? = some (.cells c T fr)) (t1 : T = 43 ∨ T = 4 ∨ T = 50 ∨ T = 48) : b ∉ g.S := by
  simp only [Sg.S, List.mem_cons, not_or]
  rcases t1 with rfl | rfl | rfl | rfl
  · exact ⟨by rintro rfl; exact h.tx.map hb, h.jr.at_.kind hb (by decide) (by decide) (by decide)⟩
  · exact ⟨by rintro rfl; exact h.tx.map hb, h.jr.at_.kind hb (by decide) (by decide) (by decide)⟩
  · exact ⟨by rintro rfl; exact h.tx.map hb, h.jr.at_.kind hb (by decide) (by decide) (by decide)⟩
  · exact ⟨by rintro rfl; exact h.tx.map hb, h.jr.at_.kind hb (by decide) (by decide) (by decide)⟩
theorem SpAt.turned {w w' : World} {g : Sg} {M : Nat → Option Sec} (h : SpAt w g M) {b : Nat} {c : Array Value} {T : TypeId} {fr : Nat × Nat} (hb : w.heap[b]? = some (.cells c T fr)) (t1 : T = 43 ∨ T = 4) (hu : Upd [b] w w') : SpAt w' g M := by
  rcases t1 with rfl | rfl
  · exact ⟨h.jr.own hu (fun k hk => by simp at hk; subst hk; exact ⟨_, _, _, hb, by decide, by decide, by decide, by decide⟩),
     h.tx.upd hu (by simp; rintro rfl; have := h.tx.st; rw [hb] at this; simp at this) (by simp; rintro rfl; exact h.tx.map hb) (fun k c hk e => by simp at hk; subst hk; rw [hb] at e; simp at e), h.ne, h.ok, h.len⟩
  · exact ⟨h.jr.own hu (fun k hk => by simp at hk; subst hk; exact ⟨_, _, _, hb, by decide, by decide, by decide, by decide⟩),
     h.tx.upd hu (by simp; rintro rfl; have := h.tx.st; rw [hb] at this; simp at this) (by simp; rintro rfl; exact h.tx.map hb) (fun k c hk e => by simp at hk; subst hk; rw [hb] at e; simp at e), h.ne, h.ok, h.len⟩
/-- The document's Space is none of the transaction's blocks. -/
theorem RfAt.apart {w : World} {g : Sg} {M : Nat → Option Sec} (h : SpAt w g M) {b sb hh : Nat} {f : Nat → Bool} {r : Nat → Nat} (H : RfAt w b sb hh f r) : b ∉ g.S ∧ sb ∉ g.S := by
  obtain ⟨⟨c, _, e⟩, ⟨rest, e2⟩⟩ := H
  exact ⟨h.other e (.inl rfl), h.other e2 (.inr (.inl rfl))⟩
theorem RfAt.tx {w w' : World} {g : Sg} {M : Nat → Option Sec} (h : SpAt w g M) {b sb hh : Nat} {f : Nat → Bool} {r : Nat → Nat} (H : RfAt w b sb hh f r) (hu : Upd g.S w w') : RfAt w' b sb hh f r := H.below hu (H.apart h).1 (H.apart h).2

set_option maxRecDepth 100000 in
set_option maxHeartbeats 2000000 in
theorem same_spec {w : World} {g : Sg} {M : Nat → Option Sec} (h : SpAt w g M) (hh : 1 < g.h) (hh2 : g.h ≤ 4096) {b sb : Nat} (H : RfAt w b sb g.h (g.T M) (g.R M)) :
    Calls Try.prog 24 #[.pointer (some ⟨g.x.tb, 0, none⟩), .pointer (some ⟨b, 0, none⟩)] w fun e w' => e = .returned (.bool true) ∧ SpAt w' g M ∧ Upd g.S w w' := by
  have HL := Lib.hid (left_spec h hh hh2)
  have HH := Lib.hid H
  have HS := Lib.hid h
  clear h H
  obtain ⟨L, hL⟩ : ∃ L : Int, L = (leftN (g.T M) g.h : Int) := ⟨_, rfl⟩
  rw [← hL] at HL
  have HLL := Lib.hid hL
  clear hL
  go_enter Try.func24, Try.ntmps24
  go_wp2_with fail
  refine HL.out.mono ?_
  rintro e w1 ⟨rfl, h1, hu1⟩
  have HH1 := Lib.hid (HH.out.tx HS.out hu1)
  have HRL := Lib.hid (rleft_spec HH1.out hh2)
  rw [← HLL.out] at HRL
  have H1 := Lib.hid h1
  have HU1 := Lib.hid hu1
  clear h1 hu1
  go_wp2_with fail
  refine HRL.out.mono ?_
  rintro e w' ⟨rfl, rfl⟩
  go_wp2_with fail
  go_loopw [7] (fun i wr => ∃ q : Nat, q ≤ 16 ∧ i = .int .i64 (q : Int) ∧ SpAt wr g M ∧ RfAt wr b sb g.h (g.T M) (g.R M) ∧ Upd g.S w wr) (fun i _ => 16 - (intOf i).toNat)
  case atStart => exact ⟨0, Nat.zero_le _, rfl, H1.out, HH1.out, HU1.out⟩
  case round =>
    obtain ⟨q, hq, rfl, hs, hr, hu⟩ := hrel
    have HSx := Lib.hid hs
    have HRx := Lib.hid hr
    have HUx := Lib.hid hu
    clear hs hr hu
    by_cases hlt : q < 16
    · have hlt' : decide ((q : Int) < 16) = true := decide_eq_true (by omega)
      have hlt2 : decide (q < 16) = true := decide_eq_true (by omega)
      have HRT := Lib.hid (root_ok HSx.out hh q hlt)
      have i0 : (0 : Int) ≤ (q : Int) := by omega
      have i1 : (q : Int) < 16 := by omega
      obtain ⟨R, hR⟩ : ∃ R : Int, R = (g.R M q : Int) := ⟨_, rfl⟩
      rw [← hR] at HRT
      have HR := Lib.hid hR
      clear hR
      go_wp2_with fail
      refine HRT.out.mono ?_
      rintro e w2 ⟨rfl, h2, hu2⟩
      have hr2 := HRx.out.tx HSx.out hu2
      obtain ⟨c2, hc2, e2⟩ := hr2.st
      have hcell := sp_root e2 q hlt
      rw [← HR.out] at hcell
      have H2 := Lib.hid h2
      have HR2 := Lib.hid hr2
      have HU2 := Lib.hid (HUx.out.trans hu2)
      clear h2 hr2 hu2 e2 hc2
      go_wp2_with fail
      exact ⟨⟨q + 1, by omega, by go_num, H2.out, HR2.out, HU2.out⟩, by simp [intOf]; omega⟩
    · obtain rfl : q = 16 := by omega
      have hlt' : decide (((16 : Nat) : Int) < 16) = false := rfl
      go_wp2_with fail
      go_ret
      exact ⟨rfl, HSx.out, HUx.out⟩

end Go.Proofs.Ytlncfncolkgjfaa
