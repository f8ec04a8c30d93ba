/-
  cofferlaw9.Alike.
-/
import Derived.Test.YtceakcejchbbjaaGreatTsK
set_option linter.unusedSimpArgs false
set_option linter.unusedVariables false
namespace Go.Proofs.YtceakcejchbbjaaGreat
open Go.RowKit Go.MapKept Go.ChangeMaps

theorem run_eqSame (d : Nat) {T : TypeId} {n : Nat} (hu : Tryz.prog.underlying T = some (.array n 5)) {a : List UInt8} (ha : a.length = n) (w : World) : (Op.equalIn (d + 2) T (.agg (bts a).toArray) (.agg (bts a).toArray)).run Tryz.prog w = .ok true w := by
  obtain ⟨r, hr, hiff⟩ := run_eqBytes d a a w (List.range n) (fun i hi => by have := List.mem_range.1 hi; omega)
  obtain ⟨i0, hi0⟩ : ∃ i0, Tryz.prog.info? 5 = some i0 := Option.isSome_iff_exists.1 (by kernel_rfl)
  have h1 := run_equalIn_array (P := Tryz.prog) w (d + 1) (t := T) (bts a).toArray (bts a).toArray hu hi0
  rw [cellsOf_u8] at h1
  rw [h1, hr, hiff.2 (fun _ _ => rfl)]
theorem run_part_arr {T : TypeId} {n : Nat} (hu : Tryz.prog.underlying T = some (.array n 5)) (hi : (Tryz.prog.info? T).map (·.size) = some n) (hc : Tryz.prog.cellsOf T = n) (xs : List Value) (off : Nat) (w : World) : (part T xs.toArray off).run Tryz.prog w = .ok (.agg ((xs.drop off).take n).toArray) w := by
  obtain ⟨i0, hi0, hi1⟩ := Option.map_eq_some_iff.1 hi
  have h1 := run_sizeOf (P := Tryz.prog) w hi0
  have h2 : xs.toArray.extract off (off + n) = ((xs.drop off).take n).toArray := by
    rw [List.extract_toArray, List.extract_eq_take_drop, Nat.add_sub_cancel_left]
  rw [hc] at h1
  simp only [part, isAgg, Sem.run_bind, run_underlying hu, Result.andThen_ok, Sem.run_pure, h1, if_true]
  rw [h2]
theorem pair_fields : (Tryz.prog.fieldsOf TP).toList.map (fun f => (f.name, f.type, f.offset)) = [("Key", 35, 0), ("Val", 45, 32)] := by kernel_rfl
theorem pair_struct : Tryz.prog.underlying TP = some (.struct (Tryz.prog.fieldsOf TP)) := by kernel_rfl
theorem pair_held : Tryz.prog.stoodInHeld TP = false := by kernel_rfl
theorem infoVal1 : (Tryz.prog.info? 45).map (·.size) = some 16 := by kernel_rfl
theorem bind3 {P : Program} {A B : Sem Value} {C : Value → Value → Sem Bool} {rest : Sem Bool} {w : World} {x y : Value} {r : Result Bool} (ha : A.run P w = .ok x w) (hb : B.run P w = .ok y w) (hc : (C x y).run P w = .ok true w) (hr : rest.run P w = r) :
    (do let a ← A; let b ← B; let r ← C a b; if (!r) = true then pure false else rest : Sem Bool).run P w = r := by
  rw [Sem.run_bind, ha, Result.andThen_ok, Sem.run_bind, hb, Result.andThen_ok, Sem.run_bind, hc, Result.andThen_ok]
  exact hr
theorem run_eqPair {p : Pair9} (h1 : p.1.length = 32) (h2 : p.2.length = 16) (w : World) : (Op.equalIn 10000 TP (.agg (pc p).toArray) (.agg (pc p).toArray)).run Tryz.prog w = .ok true w := by
  rw [run_equalIn_struct w 9999 TP _ _ pair_struct pair_held]
  have hf := pair_fields
  generalize (Tryz.prog.fieldsOf TP).toList = fl at hf ⊢
  obtain ⟨f1, fl1, rfl, g1, g2⟩ := List.map_eq_cons_iff.1 hf
  obtain ⟨f2, fl2, rfl, g3, g4⟩ := List.map_eq_cons_iff.1 g2
  cases List.map_eq_nil_iff.1 g4
  · simp only [Prod.mk.injEq] at g1 g3
    obtain ⟨n1, t1, o1⟩ := g1
    obtain ⟨n2, t2, o2⟩ := g3
    clear hf g2 g4
    have a1 := run_part_arr Tryz.underlying35 infoID (by kernel_rfl) (pc p) 0 w
    have a2 := run_part_arr Tryz.underlying45 infoVal1 (by kernel_rfl) (pc p) 32 w
    have x1 : ((pc p).drop 0).take 32 = bts p.1 := by
      unfold pc
      rw [List.drop_zero]
      exact List.take_left' (by rw [bts_length, h1])
    have x2 : ((pc p).drop 32).take 16 = bts p.2 := by
      unfold pc
      rw [List.drop_left' (by rw [bts_length, h1])]
      exact List.take_of_length_le (by rw [bts_length, h2]; exact Nat.le_refl _)
    rw [x1] at a1
    rw [x2] at a2
    have e1 : (Op.equalIn 9999 35 (.agg (bts p.1).toArray) (.agg (bts p.1).toArray)).run Tryz.prog w = .ok true w := run_eqSame 9997 Tryz.underlying35 h1 w
    have e2 : (Op.equalIn 9999 45 (.agg (bts p.2).toArray) (.agg (bts p.2).toArray)).run Tryz.prog w = .ok true w := run_eqSame 9997 Tryz.underlying45 h2 w
    have m1 : f1.name ≠ "_" := by rw [n1]; decide
    have m2 : f2.name ≠ "_" := by rw [n2]; decide
    unfold Op.eqFields
    rw [if_pos m1, t1, o1]
    unfold Op.eqFields
    rw [if_pos m2, t2, o2]
    unfold Op.eqFields
    exact bind3 a1 a1 e1 (bind3 a2 a2 e2 (by rw [Sem.run_pure]))
theorem run_cells48 {w : World} {b o : Nat} {p : Pair9} (h : w.rangeAt b o (pc p)) (h1 : p.1.length = 32) (h2 : p.2.length = 16) : (loadCells ⟨b, o, none⟩ 48).run Tryz.prog w = .ok (pc p).toArray w := by
  have := run_loadCells_list (P := Tryz.prog) w ⟨b, o, none⟩ (pc p) (fun j v hv => by rw [Addr.add_mid]; exact h j v hv)
  rw [pc_length h1 h2] at this
  exact this
attribute [-go_sem] loadCells storeCells Instr.build Instr.buildSlice Op.eqFields run_equalIn_agg Program.fieldsOf
set_option maxRecDepth 100000 in
set_option maxHeartbeats 4000000 in
/-- Two rows of the same pairs. -/
theorem alike_spec {w : World} {l : List Pair9} (hle : l.length ≤ 1000) (hlen : ∀ p, p ∈ l → p.1.length = 32 ∧ p.2.length = 16) {va vb : Value} (ha : RRd w va 48 (l.map pc)) (hb : RRd w vb 48 (l.map pc)) :
    Calls Tryz.prog 35 #[va, vb] w fun e w' => e = .returned (.bool true) ∧ Upd [] w w' := by
  obtain ⟨aa, ca, rfl⟩ := ha.shape
  obtain ⟨ab, cb, rfl⟩ := hb.shape
  have hlm : (l.map pc).length = l.length := List.length_map _
  rw [hlm]
  rw [hlm] at ha hb
  clear hlm
  have HA := Lib.hid ha
  have HB := Lib.hid hb
  have HL := Lib.hid hlen
  clear ha hb hlen
  have hnb : (((l.length : Nat) : Int) == (l.length : Int)) = true := beq_self_eq_true _
  go_enter Tryz.func35, Tryz.ntmps35
  go_wp2_with fail
  go_loopw [5] (fun i wr => ∃ q : Nat, q ≤ l.length ∧ i = .int .i64 (q : Int) ∧ Upd [] w wr) (fun i _ => l.length - (intOf i).toNat)
  case atStart => exact ⟨0, by omega, rfl, Upd.refl _ _⟩
  case round =>
    obtain ⟨q, hq, rfl, hu⟩ := hrel
    have HU := Lib.hid hu
    rcases Nat.lt_or_ge q l.length with hlt | hge
    · have hqb : decide ((q : Int) < (l.length : Int)) = true := decide_eq_true (by omega)
      have hqi : (q : Int) < (l.length : Int) := by omega
      obtain ⟨p, hp⟩ : ∃ p, l[q]? = some p := ⟨_, List.getElem?_eq_getElem hlt⟩
      obtain ⟨hp1, hp2⟩ := HL.out p (List.mem_of_getElem? hp)
      obtain ⟨ba, oa, rfl, hra⟩ := HA.out.at (i := q) (e := pc p) (by rw [List.getElem?_map, hp]; rfl)
      obtain ⟨bb, ob, rfl, hrb⟩ := HB.out.at (i := q) (e := pc p) (by rw [List.getElem?_map, hp]; rfl)
      have hra' := range_upd hra hu (by simp)
      have hrb' := range_upd hrb hu (by simp)
      have l1 : ∀ n, (loadCells ⟨ba, oa + q * 48, none⟩ 48).run Tryz.prog (wr.drewN n) = .ok (pc p).toArray (wr.drewN n) := fun n => run_cells48 hra' hp1 hp2
      have l2 : ∀ n, (loadCells ⟨bb, ob + q * 48, none⟩ 48).run Tryz.prog (wr.drewN n) = .ok (pc p).toArray (wr.drewN n) := fun n => run_cells48 hrb' hp1 hp2
      have heq : ∀ w, (Op.equalIn 10000 72 (.agg (pc p).toArray) (.agg (pc p).toArray)).run Tryz.prog w = .ok true w := fun w => run_eqPair hp1 hp2 w
      clear hp hra hrb hra' hrb' hu
      go_wp2_with fail
      generalize pc p = PP at *
      go_quiet (fail)
      all_goals
        go_wp2_with fail
        exact ⟨⟨q + 1, by omega, by go_num, HU.out.drewN _⟩, by simp [intOf]; omega⟩
    · obtain rfl : q = l.length := by omega
      have hqb : decide ((l.length : Int) < (l.length : Int)) = false := decide_eq_false (by omega)
      clear hu
      go_wp2_with fail
      go_ret
      exact ⟨rfl, HU.out⟩

end Go.Proofs.YtceakcejchbbjaaGreat
