/-
  SpaceAll: what each call of the round does, on both sides.
-/
import Derived.Test.YtlncfncolkgjfaaSpS
namespace Go.Proofs.Ytlncfncolkgjfaa
open Go.RowKit Go.MapKept Go.ChangeMaps

/-- Blocks of operations and of pairs stand as they stood. -/
def KeepT (w w' : World) : Prop := ∀ (b : Nat) (c : Array Value) (T : TypeId), (T = 50 ∨ T = 48) → w.heap[b]? = some (.cells c T (0, 0)) → w'.heap[b]? = some (.cells c T (0, 0))
theorem KeepT.none {w w' : World} (hu : Upd [] w w') : KeepT w w' := fun _ _ _ _ e => (hu.block _ (blk_lt e) (by simp)).trans e
theorem KeepT.tx {w w' : World} {g : Sg} {M : Nat → Option Sec} (h : SpAt w g M) (hu : Upd g.S w w') : KeepT w w' := fun _ _ _ ht e => (hu.block _ (blk_lt e) (h.other e (.inr (.inr ht)))).trans e
theorem KeepT.row {w w' : World} {sb h : Nat} {f : Nat → Bool} (hb : BlG w sb h f) (hu : Upd [sb] w w') : KeepT w w' := fun b c T ht e => (hu.block _ (blk_lt e) (by
  obtain ⟨rest, e2⟩ := hb
  simp only [List.mem_singleton]
  rintro rfl
  rw [e] at e2; simp at e2
  rcases ht with rfl | rfl <;> exact absurd e2.2 (by decide))).trans e

section
variable {w0 w : World} {g : Sg} {M : Nat → Option Sec} {b7 s7 : Nat} {f7 : Nat → Bool} {r7 : Nat → Nat} {b8 s8 : Nat} {f8 : Nat → Bool} {r8 : Nat → Nat} {v : Value} {ps : List (Int × Int)}
theorem AlAt.room (H : AlAt w0 w g M b7 s7 f7 r7 b8 s8 f8 r8 v ps) (i : Nat) : (M i).isSome = true ∨ cntM M g.h < 40 := .inr (by have := H.two.cnt g.h; omega)

theorem takeA (H : AlAt w0 w g M b7 s7 (g.T M) (g.R M) b8 s8 f8 r8 v ps) (k : Int) :
    Calls Try.prog 11 #[.pointer (some ⟨g.x.tb, 0, none⟩), .int .i64 k] w fun e w' => ∃ (a x : Int) (M' : Nat → Option Sec), e = .returned (.tuple #[.int .i64 a, .int .i64 x]) ∧ KeepT w w' ∧ AlAt w0 w' g M' b7 s7 (g.T M) (g.R M) b8 s8 f8 r8 v ps ∧
      (∀ w1, AlAt w0 w1 g M' b7 s7 (g.T M) (g.R M) b8 s8 f8 r8 v ps → Calls Try.prog 17 #[.pointer (some ⟨b7, 0, none⟩), .int .i64 k] w1 fun e w2 => e = .returned (.tuple #[.int .i64 a, .int .i64 x]) ∧ KeepT w1 w2 ∧ AlAt w0 w2 g M' b7 s7 (g.T M') (g.R M') b8 s8 f8 r8 v ps) := by
  have hl := H.hl
  by_cases hk : k < 1 ∨ 64 < k
  · refine (take_arg H.sp (by omega) k hk).mono ?_
    rintro e w' ⟨rfl, hs, hu⟩
    refine ⟨0, 1, M, rfl, KeepT.tx H.sp hu, H.tx hs H.two hu, fun w1 H1 => (rtake_arg b7 k hk).mono ?_⟩
    rintro e w2 ⟨rfl, rfl⟩
    exact ⟨rfl, KeepT.none (Upd.refl _ _), H1⟩
  · obtain ⟨n, rfl⟩ := Int.eq_ofNat_of_zero_le (show 0 ≤ k by omega)
    refine (take_spec H.sp (by omega) (by omega) (H.room 1) n (by omega) (by omega)).mono ?_
    rintro e w' ⟨hu, ⟨s, hf, rfl, hs⟩ | ⟨hf, rfl, hs⟩⟩
    · have hl1 := H.sp.cur_len 1
      have hs4 : 4 ≤ s := by
        rcases Nat.lt_or_ge s 4 with r | r
        · have := hf.2.1 0 (by omega)
          rw [Sg.T_low hl1 (by omega)] at this
          simp at this
        · exact r
      have hsk := hf.1
      refine ⟨_, _, _, rfl, KeepT.tx H.sp hu, H.tx hs (H.two.put1 _) hu, fun w1 H1 => (rtake_spec H1.a (by omega) n (by omega) (by omega)).mono ?_⟩
      rintro e w2 ⟨hu2, ⟨s', hf', rfl, ha⟩ | ⟨hf', _, _⟩⟩
      · obtain rfl : s = s' := by simpa using hf.uniq hf'
        refine ⟨rfl, KeepT.row H1.a.row hu2, H1.ref ?_ hu2⟩
        rw [Sg.R_put1]
        exact ha.ext fun i _ => Sg.T_turn hl1 true hs4 (by omega) i
      · simpa using hf.uniq hf'
    · refine ⟨_, _, M, rfl, KeepT.tx H.sp hu, H.tx hs H.two hu, fun w1 H1 => (rtake_spec H1.a (by omega) n (by omega) (by omega)).mono ?_⟩
      rintro e w2 ⟨hu2, ⟨s', hf', rfl, ha⟩ | ⟨hf', rfl, ha⟩⟩
      · simpa using hf.uniq hf'
      · exact ⟨rfl, KeepT.row H1.a.row hu2, H1.ref ha hu2⟩

theorem freeA (H : AlAt w0 w g M b7 s7 (g.T M) (g.R M) b8 s8 f8 r8 v ps) (s n : Int) :
    Calls Try.prog 13 #[.pointer (some ⟨g.x.tb, 0, none⟩), .int .i64 s, .int .i64 n] w fun e w' => ∃ (x : Int) (M' : Nat → Option Sec), e = .returned (.int .i64 x) ∧ KeepT w w' ∧ AlAt w0 w' g M' b7 s7 (g.T M) (g.R M) b8 s8 f8 r8 v ps ∧
      (∀ w1, AlAt w0 w1 g M' b7 s7 (g.T M) (g.R M) b8 s8 f8 r8 v ps → Calls Try.prog 18 #[.pointer (some ⟨b7, 0, none⟩), .int .i64 s, .int .i64 n] w1 fun e w2 => e = .returned (.int .i64 x) ∧ KeepT w1 w2 ∧ AlAt w0 w2 g M' b7 s7 (g.T M') (g.R M') b8 s8 f8 r8 v ps) := by
  have hl := H.hl
  have hl1 := H.sp.cur_len 1
  by_cases hf : FreeOk (g.T M) g.h s n
  · refine (free_yes H.sp (by omega) (by omega) (H.room 1) s n hf).mono ?_
    rintro e w' ⟨rfl, hs, hu⟩
    obtain ⟨a, b, c, d, f⟩ := hf
    obtain ⟨s', rfl⟩ := Int.eq_ofNat_of_zero_le (show 0 ≤ s by omega)
    obtain ⟨n', rfl⟩ := Int.eq_ofNat_of_zero_le (show 0 ≤ n by omega)
    simp only [Int.toNat_natCast] at f hs
    refine ⟨_, _, rfl, KeepT.tx H.sp hu, H.tx hs (H.two.put1 _) hu, fun w1 H1 => (rfree_run H1.a (by omega) s' n' (by omega) (by omega) (by omega) (by omega)).mono ?_⟩
    rintro e w2 ⟨hu2, ⟨_, rfl, ha⟩ | ⟨hn, _, _⟩⟩
    · refine ⟨rfl, KeepT.row H1.a.row hu2, H1.ref ?_ hu2⟩
      rw [Sg.R_put1]
      exact ha.ext fun i _ => Sg.T_turn hl1 false (by omega) (by omega) i
    · exact absurd f hn
  · refine (free_no H.sp (by omega) (by omega) s n hf).mono ?_
    rintro e w' ⟨rfl, hs, hu⟩
    refine ⟨_, M, rfl, KeepT.tx H.sp hu, H.tx hs H.two hu, fun w1 H1 => ?_⟩
    by_cases hb : n < 1 ∨ 64 < n ∨ s < 4 ∨ (g.h : Int) ≤ s ∨ (g.h : Int) - s < n
    · refine (rfree_bad H1.a (by omega) s n hb).mono ?_
      rintro e w2 ⟨rfl, rfl⟩
      exact ⟨rfl, KeepT.none (Upd.refl _ _), H1⟩
    · obtain ⟨s', rfl⟩ := Int.eq_ofNat_of_zero_le (show 0 ≤ s by omega)
      obtain ⟨n', rfl⟩ := Int.eq_ofNat_of_zero_le (show 0 ≤ n by omega)
      refine (rfree_run H1.a (by omega) s' n' (by omega) (by omega) (by omega) (by omega)).mono ?_
      rintro e w2 ⟨hu2, ⟨hy, _, _⟩ | ⟨_, rfl, ha⟩⟩
      · exact absurd ⟨by omega, by omega, by omega, by omega, by simpa using hy⟩ hf
      · exact ⟨rfl, KeepT.row H1.a.row hu2, H1.ref ha hu2⟩

theorem takenA (H : AlAt w0 w g M b7 s7 f7 r7 b8 s8 f8 r8 v ps) (i : Nat) (hi : i < g.h) :
    Calls Try.prog 12 #[.pointer (some ⟨g.x.tb, 0, none⟩), .int .i64 (i : Int)] w fun e w' => e = .returned (.tuple #[.bool (g.T M i), .int .i64 0]) ∧ KeepT w w' ∧ AlAt w0 w' g M b7 s7 f7 r7 b8 s8 f8 r8 v ps := by
  have hl := H.hl
  refine (isTaken_ok H.sp (by omega) (by omega) i hi).mono ?_
  rintro e w' ⟨rfl, hs, hu⟩
  exact ⟨rfl, KeepT.tx H.sp hu, H.tx hs H.two hu⟩
theorem takenA_arg (H : AlAt w0 w g M b7 s7 f7 r7 b8 s8 f8 r8 v ps) (i : Int) (hi : i < 0 ∨ (g.h : Int) ≤ i) :
    Calls Try.prog 12 #[.pointer (some ⟨g.x.tb, 0, none⟩), .int .i64 i] w fun e w' => e = .returned (.tuple #[.bool false, .int .i64 1]) ∧ KeepT w w' ∧ AlAt w0 w' g M b7 s7 f7 r7 b8 s8 f8 r8 v ps := by
  have hl := H.hl
  refine (isTaken_arg H.sp (by omega) i hi).mono ?_
  rintro e w' ⟨rfl, hs, hu⟩
  exact ⟨rfl, KeepT.tx H.sp hu, H.tx hs H.two hu⟩
theorem rootA (H : AlAt w0 w g M b7 s7 f7 r7 b8 s8 f8 r8 v ps) (k : Nat) (hk : k < 16) :
    Calls Try.prog 20 #[.pointer (some ⟨g.x.tb, 0, none⟩), .int .i64 (k : Int)] w fun e w' => e = .returned (.tuple #[.int .u32 (g.R M k : Int), .int .i64 0]) ∧ KeepT w w' ∧ AlAt w0 w' g M b7 s7 f7 r7 b8 s8 f8 r8 v ps := by
  have hl := H.hl
  refine (root_ok H.sp (by omega) k hk).mono ?_
  rintro e w' ⟨rfl, hs, hu⟩
  exact ⟨rfl, KeepT.tx H.sp hu, H.tx hs H.two hu⟩
theorem rootA_arg (H : AlAt w0 w g M b7 s7 f7 r7 b8 s8 f8 r8 v ps) (k : Int) (hk : k < 0 ∨ 16 ≤ k) :
    Calls Try.prog 20 #[.pointer (some ⟨g.x.tb, 0, none⟩), .int .i64 k] w fun e w' => e = .returned (.tuple #[.int .u32 0, .int .i64 1]) ∧ KeepT w w' ∧ AlAt w0 w' g M b7 s7 f7 r7 b8 s8 f8 r8 v ps := by
  have hl := H.hl
  refine (root_arg H.sp (by omega) k hk).mono ?_
  rintro e w' ⟨rfl, hs, hu⟩
  exact ⟨rfl, KeepT.tx H.sp hu, H.tx hs H.two hu⟩
theorem setA_arg (H : AlAt w0 w g M b7 s7 f7 r7 b8 s8 f8 r8 v ps) (k : Int) (hk : k < 0 ∨ 16 ≤ k) (V : Int) :
    Calls Try.prog 19 #[.pointer (some ⟨g.x.tb, 0, none⟩), .int .i64 k, .int .u32 V] w fun e w' => e = .returned (.int .i64 1) ∧ KeepT w w' ∧ AlAt w0 w' g M b7 s7 f7 r7 b8 s8 f8 r8 v ps := by
  have hl := H.hl
  refine (setroot_arg H.sp (by omega) k hk V).mono ?_
  rintro e w' ⟨rfl, hs, hu⟩
  exact ⟨rfl, KeepT.tx H.sp hu, H.tx hs H.two hu⟩
theorem setA (H : AlAt w0 w g M b7 s7 (g.T M) (g.R M) b8 s8 f8 r8 v ps) (k : Nat) (hk : k < 16) (V : Nat) (hV : V < 4294967296) :
    Calls Try.prog 19 #[.pointer (some ⟨g.x.tb, 0, none⟩), .int .i64 (k : Int), .int .u32 (V : Int)] w fun e w' => ∃ M', e = .returned (.int .i64 0) ∧ KeepT w w' ∧ AlAt w0 w' g M' b7 s7 (g.T M) (g.R M) b8 s8 f8 r8 v ps ∧
      (∀ w1, AlAt w0 w1 g M' b7 s7 (g.T M) (g.R M) b8 s8 f8 r8 v ps → AlAt w0 (w1.setCell ⟨b7, 1 + k, none⟩ (.int .u32 (V : Int))) g M' b7 s7 (g.T M') (g.R M') b8 s8 f8 r8 v ps) := by
  have hl := H.hl
  have hl0 := H.sp.cur_len 0
  refine (setroot_ok H.sp (by omega) (H.room 0) k hk V).mono ?_
  rintro e w' ⟨rfl, hs, hu⟩
  refine ⟨_, rfl, KeepT.tx H.sp hu, H.tx hs (H.two.put0 _) hu, fun w1 H1 => ?_⟩
  rw [Sg.T_put0]
  exact (H1.root hk V).put7 ((H1.root hk V).a.extR (Sg.R_put0 hl0 hk hV)) (Upd.refl _ _)
theorem commitA (H : AlAt w0 w g M b7 s7 (g.T M) (g.R M) b8 s8 f8 r8 v ps) (ht : g.t < 1000000) (hm : g.m < 1000000) :
    Calls Try.prog 21 #[.pointer (some ⟨g.x.tb, 0, none⟩)] w fun e w1 => e = .returned (.int .i64 0) ∧ Calls Try.prog 22 #[.pointer (some ⟨g.j.jb, 0, none⟩)] w1 fun e w2 => ∃ g' : Sg, e = .returned (.tuple #[.pointer (some ⟨g'.x.tb, 0, none⟩), .int .i64 0]) ∧ g'.j.jb = g.j.jb ∧ g'.h = g.h ∧ g'.t ≤ g.t + 1 ∧ g'.m ≤ g.m + 1 ∧
      AlAt w0 w2 g' (fun _ => none) b7 s7 (g'.T fun _ => none) (g'.R fun _ => none) b8 s8 f8 r8 v ps := by
  have h2 := H.two.cnt g.h
  have hn := H.n1
  have hr := H.ring
  refine (commitS H.sp H.turn (by omega) (by omega) (by omega) ht hm).mono ?_
  rintro e w1 ⟨rfl, ⟨J', D', t', hj, ht'⟩, hu⟩
  refine ⟨rfl, (beginS hj H.sp.cur_len).mono ?_⟩
  rintro e w2 ⟨x, rfl, hx, hx2, hs, hu2⟩
  have hsz := hu.size
  refine ⟨⟨x, g.j, J', D', g.n, g.ring, t' - 1, t', g.m + 1, g.cur M⟩, rfl, rfl, rfl, ht', Int.le_refl _, ?_⟩
  exact AlAt.over H hs (hu.trans (hu2.mono (by simp; exact fun a q => .inr q))) rfl (Nat.le_trans hsz hx) (Nat.le_trans hsz hx2) rfl rfl rfl
theorem abortA (H : AlAt w0 w g M b7 s7 f7 r7 b8 s8 (g.T fun _ => none) (g.R fun _ => none) v ps) :
    Calls Try.prog 23 #[.pointer (some ⟨g.x.tb, 0, none⟩)] w fun e w1 => e = .returned (.tuple #[]) ∧ Calls Try.prog 22 #[.pointer (some ⟨g.j.jb, 0, none⟩)] w1 fun e w2 => ∃ g' : Sg, e = .returned (.tuple #[.pointer (some ⟨g'.x.tb, 0, none⟩), .int .i64 0]) ∧ g'.j.jb = g.j.jb ∧ g'.h = g.h ∧ g'.t ≤ g.t + 1 ∧ g'.m ≤ g.m + 1 ∧
      AlAt w0 w2 g' (fun _ => none) b7 s7 f7 r7 b8 s8 (g'.T fun _ => none) (g'.R fun _ => none) v ps := by
  refine (abort_spec H.sp.tx).mono ?_
  rintro e w1 ⟨rfl, _, _, hu⟩
  have hj := H.sp.jr.own hu (fun k hk => by simp at hk; subst hk; exact ⟨_, _, _, H.sp.tx.st, by decide, by decide, by decide, by decide⟩)
  refine ⟨rfl, (beginS hj H.sp.len).mono ?_⟩
  rintro e w2 ⟨x, rfl, hx, hx2, hs, hu2⟩
  have hsz := hu.size
  refine ⟨⟨x, g.j, g.J, g.D, g.n, g.ring, g.t - 1, g.t, g.m, g.H⟩, rfl, rfl, rfl, by show g.t ≤ g.t + 1; omega, by show g.m ≤ g.m + 1; omega, ?_⟩
  exact AlAt.over H hs ((hu.mono (by simp)).trans (hu2.mono (by simp; exact fun a q => .inr q))) rfl (Nat.le_trans hsz hx) (Nat.le_trans hsz hx2) rfl rfl rfl
/-- The Space of now is copied into the one of the last commit. -/
theorem copyA8 (H : AlAt w0 w g M b7 s7 f7 r7 b8 s8 f8 r8 v ps) :
    Calls Try.prog 16 #[.pointer (some ⟨b7, 0, none⟩)] w fun e w' => ∃ gb c, e = .returned (.agg (spCells (.slice (some ⟨gb, 0, none⟩) g.h c) r7)) ∧ (∃ gb0 c0, w'.heap[b8]? = some (.cells (spCells (.slice (some ⟨gb0, 0, none⟩) g.h c0) r8) 43 (0, 0))) ∧
      AlAt w0 (w'.setRow b8 (spCells (.slice (some ⟨gb, 0, none⟩) g.h c) r7)) g M b7 s7 f7 r7 b8 gb f7 r7 v ps := by
  have hl := H.hl
  refine (copy8_spec H.a (by omega) (by omega)).mono ?_
  rintro e w' ⟨gb, c, rfl, hc, hg, hb, hu⟩
  have H1 := H.below hu
  have h7 := H.a.row.lt
  have hs := H.upd.size
  obtain ⟨c8, _, e8⟩ := H1.b.st
  exact ⟨gb, c, rfl, ⟨_, _, e8⟩, H1.new8 hc hb (by omega) (by omega)⟩
theorem copyA7 (H : AlAt w0 w g M b7 s7 f7 r7 b8 s8 f8 r8 v ps) :
    Calls Try.prog 16 #[.pointer (some ⟨b8, 0, none⟩)] w fun e w' => ∃ gb c, e = .returned (.agg (spCells (.slice (some ⟨gb, 0, none⟩) g.h c) r8)) ∧ (∃ gb0 c0, w'.heap[b7]? = some (.cells (spCells (.slice (some ⟨gb0, 0, none⟩) g.h c0) r7) 43 (0, 0))) ∧
      AlAt w0 (w'.setRow b7 (spCells (.slice (some ⟨gb, 0, none⟩) g.h c) r8)) g M b7 gb f8 r8 b8 s8 f8 r8 v ps := by
  have hl := H.hl
  refine (copy8_spec H.b (by omega) (by omega)).mono ?_
  rintro e w' ⟨gb, c, rfl, hc, hg, hb, hu⟩
  have H1 := H.below hu
  have h8 := H.b.row.lt
  have hs := H.upd.size
  obtain ⟨c7, _, e7⟩ := H1.a.st
  exact ⟨gb, c, rfl, ⟨_, _, e7⟩, H1.new7 hc hb (by omega) (by omega)⟩
theorem sameA (H : AlAt w0 w g M b7 s7 (g.T M) (g.R M) b8 s8 f8 r8 v ps) :
    Calls Try.prog 24 #[.pointer (some ⟨g.x.tb, 0, none⟩), .pointer (some ⟨b7, 0, none⟩)] w fun e w' => e = .returned (.bool true) ∧ AlAt w0 w' g M b7 s7 (g.T M) (g.R M) b8 s8 f8 r8 v ps := by
  have hl := H.hl
  refine (same_spec H.sp (by omega) (by omega) H.a).mono ?_
  rintro e w' ⟨rfl, hs, hu⟩
  exact ⟨rfl, H.tx hs H.two hu⟩
end

end Go.Proofs.Ytlncfncolkgjfaa
