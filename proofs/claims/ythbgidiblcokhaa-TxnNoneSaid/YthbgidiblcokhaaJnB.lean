/-
  Anchors: anchor.sector and journal.read.
-/
import Derived.Test.YthbgidiblcokhaaJnA
namespace Go.Proofs.Ythbgidiblcokhaa
open Go.RowKit

set_option maxHeartbeats 400000 in
theorem sector_spec (a : Anc) (w : World) (h1 : a.place < 9223372036854775808) (h2 : a.ring < 9223372036854775808) (h3 : 0 ≤ a.number) (h4 : 0 ≤ a.turn) :
    Calls Try.prog 49 #[.agg a.val] w fun e w' => e = .returned (.slice (some ⟨w.heap.size + 1, 0, none⟩) 512 512) ∧ w'.heap[w.heap.size + 1]? = some (.cells (bts a.sector).toArray 5 (0, 0)) ∧ Upd [] w w' := by
  unfold Anc.val
  have hw1 := u64_wrap_in (a.place : Int) (by omega) (by omega)
  have hw2 := u64_wrap_in (a.ring : Int) (by omega) (by omega)
  go_enter Try.func49, Try.ntmps49
  go_wp2_with fail
  refine (tagged_spec a.number _ h3).mono ?_
  rintro e w1 ⟨rfl, g1, hu1⟩
  rw [World.size_alloc] at g1
  have c1 : w1.heap[w.heap.size]? = some (.cells #[.int .u64 a.number, .int .u64 a.turn, .int .i64 (a.place : Int), .int .i64 (a.ring : Int)] 48 (0, 0)) := (hu1.block _ (by simp) (by simp)).trans (blk_alloc _)
  have hc1 := blk_cell c1
  have C1 := Lib.hid c1
  have G1 := Lib.hid g1
  have U1 := Lib.hid (((Upd.refl [] w).alloc _).trans hu1)
  clear c1 g1 hu1
  rw [World.size_alloc]
  go_wp2_with fail
  refine (lay_spec (w.heap.size + 1) 512 512 8 8 a.turn _ [] _ (by simpa using G1.out) h4 (tagged_length _) (by omega) (by omega) (by omega)).mono ?_
  rintro e w2 ⟨rfl, g2, hu2⟩
  have c2 : w2.heap[w.heap.size]? = _ := (hu2.block _ (blk_lt C1.out) (by simp)).trans C1.out
  have hc2 := blk_cell c2
  have C2 := Lib.hid c2
  have G2 := Lib.hid g2
  have U2 := Lib.hid (U1.out.late hu2 (fun i hi => .inr (by simp at hi; omega)))
  clear c2 g2 hu2 hc1
  go_wp2_with fail
  refine (lay_spec (w.heap.size + 1) 512 512 16 4 a.place _ [] _ G2.out (by omega) (put_len (tagged_length _) (by omega)) (by omega) (by omega) (by omega)).mono ?_
  rintro e w3 ⟨rfl, g3, hu3⟩
  have c3 : w3.heap[w.heap.size]? = _ := (hu3.block _ (blk_lt C2.out) (by simp)).trans C2.out
  have hc3 := blk_cell c3
  have G3 := Lib.hid g3
  have U3 := Lib.hid (U2.out.late hu3 (fun i hi => .inr (by simp at hi; omega)))
  clear c3 g3 hu3 hc2
  go_wp2_with fail
  refine (lay_spec (w.heap.size + 1) 512 512 20 4 a.ring _ [] _ G3.out (by omega) (put_len (put_len (tagged_length _) (by omega)) (by omega)) (by omega) (by omega) (by omega)).mono ?_
  rintro e w4 ⟨rfl, g4, hu4⟩
  have G4 := Lib.hid g4
  have U4 := Lib.hid (U3.out.late hu4 (fun i hi => .inr (by simp at hi; omega)))
  clear g4 hu4 hc3
  go_wp2
  go_ret
  refine ⟨rfl, ?_, U4.out⟩
  have := G4.out
  rw [List.append_nil] at this; exact this

theorem okB_eq (g t : Int) (p r sectors : Nat) (f : Bool) (hf : f = (g != 0 && decide (1 ≤ t) && decide (t < 4611686018427387904) && (decide ((8 : Int) ≤ (r : Int)) && decide ((r : Int) ≤ 1024) && decide ((p : Int) < (r : Int)) && decide ((8 : Int) ≤ (sectors : Int) - 2 - (r : Int))))) : f = Anc.okB ⟨g, t, p, r⟩ sectors := by
  subst hf
  unfold Anc.okB
  rw [Bool.eq_iff_iff]
  simp only [Bool.and_eq_true, decide_eq_true_eq, bne_iff_ne]
  omega

set_option maxHeartbeats 1000000 in
set_option maxRecDepth 100000 in
theorem readA_spec (v : Value) (b : Sec) (sectors : Nat) (w : World) (hr : Rd w v b) (hl : b.length = 512) (hs : sectors ≤ 4096) :
    Calls Try.prog 52 #[v, .int .i64 (sectors : Int)] w fun e w' => e = .returned (.tuple #[.agg (ancOf b).val, .bool ((ancOf b).okB sectors)]) ∧ Upd [] w w' := by
  have HR := Lib.hid hr
  have HL := Lib.hid hl
  clear hr hl
  have n0 := numI_nonneg b 8 8
  have n1 := numI_nonneg b 16 4
  have n2 := numI_nonneg b 20 4
  have n3 := numI_4 b 16
  have n4 := numI_4 b 20
  have nt := tagOf_nonneg b
  have c1 := fun W => tag_spec v b W
  have c2 := fun W (hW : Rd W v b) => of_spec v b 8 8 W hW (by omega) (by omega) (by rw [HL.out]; omega) (by rw [HL.out]; omega)
  have c3 := fun W (hW : Rd W v b) => of_spec v b 16 4 W hW (by omega) (by omega) (by rw [HL.out]; omega) (by rw [HL.out]; omega)
  have c4 := fun W (hW : Rd W v b) => of_spec v b 20 4 W hW (by omega) (by omega) (by rw [HL.out]; omega) (by rw [HL.out]; omega)
  have hres : ∀ (g t p r : Int), g = tagOf b → t = numI b 8 8 → p = numI b 16 4 → r = numI b 20 4 → ∀ f : Bool, f = (g != 0 && decide (1 ≤ t) && decide (t < 4611686018427387904) && (decide (8 ≤ r) && decide (r ≤ 1024) && decide (p < r) && decide (8 ≤ (sectors : Int) - 2 - r))) →
      Value.tuple #[.agg #[.int .u64 g, .int .u64 t, .int .i64 p, .int .i64 r], .bool f] = .tuple #[.agg (ancOf b).val, .bool ((ancOf b).okB sectors)] := by
    intro g t p r e1 e2 e3 e4 f ef
    subst e1 e2 e3 e4 ef
    exact congrArg (fun x => Value.tuple #[.agg (ancOf b).val, .bool x]) (okB_eq (tagOf b) (numI b 8 8) (num b 16 4) (num b 20 4) sectors _ rfl)
  generalize tagOf b = g at *
  generalize numI b 8 8 = t at *
  generalize numI b 16 4 = p at *
  generalize numI b 20 4 = r at *
  have HC1 := Lib.hid c1
  have HC2 := Lib.hid c2
  have HC3 := Lib.hid c3
  have HC4 := Lib.hid c4
  have HRES := Lib.hid hres
  clear c1 c2 c3 c4 hres
  go_enter Try.func52, Try.ntmps52
  go_wp2_with fail
  refine (HC1.out _ (HR.out.alloc _) HL.out).mono ?_
  rintro e w' ⟨rfl, rfl⟩
  go_wp2_with fail
  refine (HC2.out _ (HR.out.alloc _)).mono ?_
  rintro e w' ⟨rfl, rfl⟩
  go_wp2_with fail
  refine (HC3.out _ (HR.out.alloc _)).mono ?_
  rintro e w' ⟨rfl, rfl⟩
  go_wp2_with fail
  refine (HC4.out _ (HR.out.alloc _)).mono ?_
  rintro e w' ⟨rfl, rfl⟩
  go_wp2
  all_goals
    refine bodyPost_ret (v := .tuple #[.agg #[.int .u64 g, .int .u64 t, .int .i64 p, .int .i64 r], .bool (g != 0 && decide (1 ≤ t) && decide (t < 4611686018427387904) && (decide (8 ≤ r) && decide (r ≤ 1024) && decide (p < r) && decide (8 ≤ (sectors : Int) - 2 - r)))]) ?_ rfl ⟨congrArg Ending.returned (HRES.out g t p r rfl rfl rfl rfl _ rfl), ?_⟩
    · simp [results, Try.results52, go_sem, *]
      try (intros; omega)
    · exact ((((Upd.refl [] w).alloc _).alloc _))

end Go.Proofs.Ythbgidiblcokhaa
