/-
  pack's pieces: the iterator.
-/
import Derived.Test.YtceakcejchbbjaaGreatRfX
import Derived.Test.YtceakcejchbbjaaGreatPkA
set_option linter.unusedSimpArgs false
set_option linter.unusedVariables false
namespace Go.Proofs.YtceakcejchbbjaaGreat
open Go.RowKit Go.MapKept Go.ChangeMaps
attribute [local go_sem] Oper.semAt_some

/-- The pieces of n bytes from a on: sector, from, to. -/
def pcs (s : Nat) : Nat → Nat → Nat → List (Nat × Nat × Nat)
  | 0, _, _ => []
  | fuel + 1, a, n => if n = 0 then [] else (s + a / 512, a % 512, a % 512 + min (512 - a % 512) n) :: pcs s fuel (a + min (512 - a % 512) n) (n - min (512 - a % 512) n)
def encP (x : Nat × Nat × Nat) : Array Value := #[.agg #[.int .i64 (x.1 : Int), .int .i64 (x.2.1 : Int), .int .i64 (x.2.2 : Int)]]
set_option maxRecDepth 100000 in
set_option maxHeartbeats 2000000 in
theorem pieces_gives {w : World} {b1 b2 b3 : Nat} {a n s : Nat} {u v : Value} (h1 : w.heap[b1]? = some (.cells #[.int .i64 (a : Int)] 3 (0, 0))) (h2 : w.heap[b2]? = some (.cells #[.int .i64 (n : Int)] 3 (0, 0)))
    (h3 : w.heap[b3]? = some (.cells #[.int .i64 (s : Int), u, v] 119 (0, 0))) (hne2 : b1 ≠ b2) (hne3 : b1 ≠ b3) (ha : a + n ≤ 100000) (hs : s ≤ 100000) (m : Nat) :
    Gives Fence.wide m Tryz.prog 172 #[.pointer (some ⟨b1, 0, none⟩), .pointer (some ⟨b2, 0, none⟩), .pointer (some ⟨b3, 0, none⟩)] encP (pcs s n a n) [b1, b2, b3] b1 w := by
  intro l J W hbs hJs hY h0
  have g1 := (hbs b1 (by simp)).trans h1
  have g2 := (hbs b2 (by simp)).trans h2
  have g3 := (hbs b3 (by simp)).trans h3
  refine callsIn_of_wp Tryz.func172 rfl trivial ?_ rfl
  simp only [Tryz.ntmps172, List.size_toArray, List.length_cons, List.length_nil, Nat.reduceAdd, Nat.reduceSub, Array.replicate_succ, Array.replicate_zero, List.push_toArray, List.append_toArray, List.nil_append, List.cons_append]
  have m1 : W.cell? ⟨b1, 0, none⟩ = some (.int .i64 (a : Int)) := by rw [blk_cell g1]; rfl
  have m2 : W.cell? ⟨b2, 0, none⟩ = some (.int .i64 (n : Int)) := by rw [blk_cell g2]; rfl
  obtain ⟨E, hE⟩ : ∃ E, E = a + n := ⟨_, rfl⟩
  have eE : IntKind.i64.wrap ((a : Int) + (n : Int)) = (E : Int) := by rw [IntKind.wrap_i64]; omega
  have HG1 := Lib.hid g1
  have HG2 := Lib.hid g2
  have HG3 := Lib.hid g3
  have HE := Lib.hid hE
  clear g1 g2 g3 hE
  gi_wp2
  gi_loopw [] (fun wr => ∃ q a' n' f : Nat, n' ≤ f ∧ a' + n' = E ∧ q ≤ (pcs s n a n).length ∧ (pcs s n a n).drop q = pcs s f a' n' ∧ wr.heap[b1]? = some (.cells #[.int .i64 (a' : Int)] 3 (0, 0)) ∧ wr.heap[b3]? = some (.cells #[.int .i64 (s : Int), u, v] 119 (0, 0)) ∧ J q wr)
    (fun wr => match wr.cell? ⟨b1, 0, none⟩ with | some (.int _ x) => E - x.toNat | _ => 0)
  case atStart => exact ⟨0, a, n, n, Nat.le_refl _, HE.out.symm, by omega, rfl, HG1.out, HG3.out, h0⟩
  case round =>
    obtain ⟨q, a', n', f, hf, hE', hq, hd, k1, k3, hJ⟩ := hrel
    have c1 : wr.cell? ⟨b1, 0, none⟩ = some (.int .i64 (a' : Int)) := by rw [blk_cell k1]; rfl
    have c3 : wr.cell? ⟨b3, 0, none⟩ = some (.int .i64 (s : Int)) := by rw [blk_cell k3]; rfl
    rcases Nat.eq_zero_or_pos n' with h0' | hpos
    · have hlt : decide ((a' : Int) < (E : Int)) = false := decide_eq_false (by omega)
      have hlt2 : decide (a' < E) = false := decide_eq_false (by omega)
      have hql : q = (pcs s n a n).length := by
        have h9 : (pcs s n a n).drop q = [] := by
          rw [hd, h0']; cases f <;> simp [pcs]
        have := List.drop_eq_nil_iff.1 h9
        omega
      rw [hql] at hJ
      gi_wp2
      go_end0
      exact ⟨⟨_, rfl⟩, hJ⟩
    · have hlt : decide ((a' : Int) < (E : Int)) = true := decide_eq_true (by omega)
      have hlt2 : decide (a' < E) = true := decide_eq_true (by omega)
      obtain ⟨f', rfl⟩ : ∃ f', f = f' + 1 := ⟨f - 1, by omega⟩
      obtain ⟨r, hr⟩ : ∃ r, r = a' % 512 := ⟨_, rfl⟩
      obtain ⟨k, hk⟩ : ∃ k, k = min (512 - r) n' := ⟨_, rfl⟩
      obtain ⟨d, hdv⟩ : ∃ d, d = a' / 512 := ⟨_, rfl⟩
      have hx : (pcs s n a n)[q]? = some (s + d, r, r + k) := by
        have : ((pcs s n a n).drop q)[0]? = some (s + d, r, r + k) := by
          rw [hd, pcs, if_neg (by omega), ← hr, ← hk, ← hdv]; rfl
        rw [List.getElem?_drop] at this; simpa using this
      have hdn : (pcs s n a n).drop (q + 1) = pcs s f' (a' + k) (n' - k) := by
        have : (pcs s n a n).drop (q + 1) = ((pcs s n a n).drop q).drop 1 := by rw [List.drop_drop]
        rw [this, hd, pcs, if_neg (by omega), ← hr, ← hk]; rfl
      have hqlt : q + 1 ≤ (pcs s n a n).length := (List.getElem?_eq_some_iff.1 hx).1
      obtain ⟨fn, tmps, assign, body, hy, hR⟩ := hY q _ wr hx hJ
      obtain ⟨sd, hsd⟩ : ∃ x, x = s + d := ⟨_, rfl⟩
      obtain ⟨rk, hrk⟩ : ∃ x, x = r + k := ⟨_, rfl⟩
      obtain ⟨w5, hw5⟩ : ∃ x, x = 512 - r := ⟨_, rfl⟩
      obtain ⟨ak, hak⟩ : ∃ x, x = a' + k := ⟨_, rfl⟩
      rw [← hsd, ← hrk] at hy
      unfold encP at hy
      dsimp only at hy
      have hEb : E ≤ 100000 := by have := HE.out; omega
      have W1 : Hid (wrap64 (d : Int) = (d : Int)) := Lib.hid (by unfold wrap64; omega)
      have W2 : Hid (wrap64 ((s : Int) + (d : Int)) = (sd : Int)) := Lib.hid (by unfold wrap64; omega)
      have e1 : (a' : Int) % 512 = (r : Int) := by omega
      have e1t : Int.tmod (a' : Int) 512 = (r : Int) := by rw [Int.tmod_eq_emod_of_nonneg (by omega)]; omega
      have e2 : IntKind.i64.wrap (512 - (r : Int)) = (w5 : Int) := by rw [IntKind.wrap_i64]; omega
      have e3 : IntKind.i64.wrap ((E : Int) - (a' : Int)) = (n' : Int) := by rw [IntKind.wrap_i64]; omega
      have e4 : (a' : Int) / 512 = (d : Int) := by omega
      have e4t : Int.tdiv (a' : Int) 512 = (d : Int) := by rw [Int.tdiv_eq_ediv_of_nonneg (by omega)]; omega
      have e5 : IntKind.i64.wrap ((s : Int) + (d : Int)) = (sd : Int) := by rw [IntKind.wrap_i64]; omega
      have e6 : IntKind.i64.wrap ((r : Int) + (k : Int)) = (rk : Int) := by rw [IntKind.wrap_i64]; omega
      have e7 : IntKind.i64.wrap ((a' : Int) + (k : Int)) = (ak : Int) := by rw [IntKind.wrap_i64]; omega
      have e8 : min (w5 : Int) (n' : Int) = (k : Int) := by omega
      have HY := Lib.hid hY
      have HR := Lib.hid hr
      have HK := Lib.hid hk
      have HD := Lib.hid hdn
      have HQL := Lib.hid hqlt
      have HAK := Lib.hid hak
      have HW5 := Lib.hid hw5
      have HEE := Lib.hid hE'
      have HF := Lib.hid hf
      have HPOS := Lib.hid hpos
      have HK1 := Lib.hid k1
      have HK3 := Lib.hid k3
      clear hY hr hk hd hx hdn hqlt hsd hrk hak hw5 hE' hf hpos hdv k1 k3 hq hJ
      have w1 := W1.out
      have w2 := W2.out
      clear hEb
      gi_wp2
      refine ⟨fun h => (by cases h), hR.mono ?_⟩
      rintro e W' ⟨rfl, hJ', hkeep⟩
      have k1 := (hkeep b1 (by simp)).trans HK1.out
      have k3 := (hkeep b3 (by simp)).trans HK3.out
      have c1' : W'.cell? ⟨b1, 0, none⟩ = some (.int .i64 (a' : Int)) := by rw [blk_cell k1]; rfl
      have cf : W'.frozen? ⟨b1, 0, none⟩ = false := blk_free k1 0
      have hset : (W'.setCell ⟨b1, 0, none⟩ (.int .i64 (ak : Int))).heap[b1]? = some (.cells #[.int .i64 (ak : Int)] 3 (0, 0)) := by rw [blk_set k1]; rfl
      have hs3 : (W'.setCell ⟨b1, 0, none⟩ (.int .i64 (ak : Int))).heap[b3]? = some (.cells #[.int .i64 (s : Int), u, v] 119 (0, 0)) := by rw [blk_set_ne 0 _ (Ne.symm hne3)]; exact k3
      have cn : (W'.setCell ⟨b1, 0, none⟩ (.int .i64 (ak : Int))).cell? ⟨b1, 0, none⟩ = some (.int .i64 (ak : Int)) := by rw [blk_cell hset]; rfl
      have hJ2 := hJs (q + 1) W' (.int .i64 (ak : Int)) hJ'
      have HSET := Lib.hid hset
      have HS3 := Lib.hid hs3
      have HCN := Lib.hid cn
      have HJ2 := Lib.hid hJ2
      have HC1 := Lib.hid c1
      clear hset hs3 cn hJ2 hJ' hkeep k1 k3 c1 c3
      gi_wp2
      clear w1 w2 e1 e1t e2 e3 e4 e4t e5 e6 e7 e8 eE
      go_roundw
      case rel =>
        have e1 := HK.out
        have e2 := HAK.out
        have e3 := HEE.out
        have e4 := HF.out
        have e5 := HD.out
        have e6 := HPOS.out
        have e7 := HR.out
        rw [← e2] at e5
        exact ⟨q + 1, ak, n' - k, f', by omega, by omega, HQL.out, e5, HSET.out, HS3.out, HJ2.out⟩
      case measure =>
        rw [HCN.out, HC1.out]
        have e1 := HK.out
        have e2 := HAK.out
        have e3 := HEE.out
        have e4 := HPOS.out
        have e5 := HR.out
        show E - (ak : Int).toNat < E - (a' : Int).toNat
        omega
end Go.Proofs.YtceakcejchbbjaaGreat
