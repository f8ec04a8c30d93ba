/-
  What JournalRound leans on: twice; a store into a row of strings; lists of unlike sectors.
-/
import Derived.Test.YthbgidiblcokhaaLwK
namespace Go.Proofs.Ythbgidiblcokhaa
open Go.RowKit

theorem PutsAt.row {w : World} {a : Option Addr} {n c : Nat} {l : List Put} (h : PutsAt w (.slice a n c) l) : n = l.length ∧ ∀ i, (hi : i < l.length) → ∃ b, a = some ⟨b, 0, none⟩ ∧ w.cell? ⟨b, i * 2, none⟩ = some (.int .i64 l[i].1) := by
  obtain ⟨ps, h1, h2, h3⟩ := h
  rcases h1.2 with ⟨e, h0⟩ | ⟨g, cap, cur, e, hb, hg, hc, _, hs, ht⟩
  · cases e; exact ⟨by omega, fun i hi => by omega⟩
  · cases e
    refine ⟨h2, fun i hi => ⟨g, rfl, ?_⟩⟩
    have hget : ps[i]? = some ps[i] := List.getElem?_eq_getElem (by omega)
    obtain ⟨q, q1, q2, _⟩ := h3 i _ hget
    obtain ⟨c0, _⟩ := putCells_get ps i _ hget
    rw [List.getElem?_eq_getElem hi] at q1
    cases q1
    rw [blk_cell hg, ← q2, ← c0, ← ht, Nat.mul_comm 2 i, List.getElem?_take_of_lt (by omega)]; simp

set_option maxRecDepth 100000 in
set_option maxHeartbeats 1000000 in
theorem twice_no {w : World} {v : Value} {l : List Put} (hp : PutsAt w v l) (at_ : Int) (hl : l.length ≤ 1000000) (hne : ∀ p ∈ l, p.1 ≠ at_) :
    Calls Try.prog 21 #[v, .int .i64 at_] w fun e w' => e = .returned (.bool false) ∧ w = w' := by
  obtain ⟨av, cv, rfl⟩ := hp.shape
  have HP := Lib.hid hp
  have HN := Lib.hid hne
  clear hp hne
  go_enter Try.func21, Try.ntmps21
  go_wp2_with fail
  go_loopw [5] (fun i wr => ∃ k : Nat, k ≤ l.length ∧ i = .int .i64 (k : Int) ∧ wr = w) (fun i _ => l.length - (intOf i).toNat)
  case atStart => exact ⟨0, Nat.zero_le _, rfl, rfl⟩
  case round =>
    obtain ⟨k, hk, rfl, rfl⟩ := hrel
    by_cases hlt : k < l.length
    · have hlt' : decide ((k : Int) < (l.length : Int)) = true := by simpa using hlt
      obtain ⟨b, rfl, hc⟩ := HP.out.row.2 k hlt
      have i0 : (0 : Int) ≤ (k : Int) := by omega
      have i1 : (k : Int) < (l.length : Int) := by omega
      have hq : (l[k].1 == at_) = false := by rw [beq_eq_false_iff_ne]; exact HN.out _ (List.getElem_mem hlt)
      generalize l[k].1 = x at *
      go_wp2_with fail
      exact ⟨⟨k + 1, by omega, by go_num, trivial⟩, by simp [intOf]; omega⟩
    · obtain rfl : k = l.length := by omega
      have hlt' : decide ((l.length : Int) < (l.length : Int)) = false := by simp
      go_wp2_with fail
      go_ret
      exact ⟨rfl, rfl⟩

theorem StrsB.block {w : World} {B : Nat} {v : Value} {ss : List (List UInt8)} (h : StrsB w B v ss) (hne : 0 < ss.length) : ∃ g cap cur, v = .slice (some ⟨g, 0, none⟩) ss.length cap ∧ B ≤ g ∧ w.heap[g]? = some (.cells cur 9 (0, 0)) ∧ ss.length ≤ cap ∧ cap ≤ maxLen ∧ cur.size = cap ∧ cur.toList.take ss.length = ss.map sv := by
  rcases h.2 with ⟨_, h0⟩ | ⟨g, cap, cur, e, hb, hg, hc, hm, hs, ht⟩
  · omega
  · exact ⟨g, cap, cur, e, hb, hg, hc, hm, by omega, by rw [Nat.mul_one] at ht; exact ht⟩
theorem strs_set {w : World} {B g cap : Nat} {cur : Array Value} {ss : List (List UInt8)} (hb : B ≤ g) (hg : w.heap[g]? = some (.cells cur 9 (0, 0))) (hc : ss.length ≤ cap) (hm : cap ≤ maxLen) (hs : cur.size = cap) (ht : cur.toList.take ss.length = ss.map sv) (i : Nat) (s : List UInt8) :
    StrsB (w.setCell ⟨g, i, none⟩ (.string (str s))) B (.slice (some ⟨g, 0, none⟩) ss.length cap) (ss.set i s) := by
  refine ⟨by simp, .inr ⟨g, cap, _, by rw [List.length_set], hb, blk_set hg _ _, by rw [List.length_set]; exact hc, hm, by simp; omega, ?_⟩⟩
  rw [List.length_set, Nat.mul_one, Array.toList_setIfInBounds, List.map_set, ← ht]
  apply List.ext_getElem?
  intro q
  rw [List.getElem?_take, List.getElem?_set, List.getElem?_set, List.getElem?_take, List.length_take]
  have hlen : cur.toList.length = cap := by rw [Array.length_toList]; exact hs
  by_cases e : i = q
  · subst e
    by_cases h2 : i < ss.length
    · rw [if_pos h2, if_pos rfl, if_pos (by omega), if_pos rfl, if_pos (by omega)]; rfl
    · rw [if_neg h2, if_pos rfl, if_neg (by omega)]
  · rw [if_neg e, if_neg e]

/-- A list of unlike sectors may be committed. -/
theorem fitsL_ok {homes : Nat} : ∀ {l : List Put} {seen : List Int}, (∀ p ∈ l, 0 ≤ p.1 ∧ p.1 < (homes : Int) ∧ p.2.length = 512 ∧ p.1 ∉ seen) → (l.map (·.1)).Nodup → fitsL homes seen l = 0
  | [], _, _, _ => rfl
  | (i, b) :: l, seen, h, hn => by
    obtain ⟨a1, a2, a3, a4⟩ := h (i, b) (by simp)
    rw [List.map_cons, List.nodup_cons] at hn
    rw [fitsL_cons, if_neg (by simp only [not_or]; exact ⟨by show ¬ i < 0; simp at a1; omega, by simp at a2; omega, a4⟩), if_neg (by simpa using a3)]
    refine fitsL_ok (fun p hp => ?_) hn.2
    obtain ⟨b1, b2, b3, b4⟩ := h p (by simp [hp])
    refine ⟨b1, b2, b3, fun q => ?_⟩
    rcases List.mem_cons.1 q with q | q
    · exact hn.1 (by show i ∈ _; rw [← q]; exact List.mem_map_of_mem hp)
    · exact b4 q
/-- What the i-th round of JournalRound commits at k. -/
def rat (L i k : Nat) : Nat := (i * 7 + k) % L
def rsec (i k : Nat) : Sec := pad [UInt8.ofNat i, UInt8.ofNat k, 1]
def rl (L i n : Nat) : List Put := (List.range n).map fun (k : Nat) => (((rat L i k : Nat) : Int), rsec i k)
theorem rl_succ (L i n : Nat) : rl L i (n + 1) = rl L i n ++ [(((rat L i n : Nat) : Int), rsec i n)] := by unfold rl; rw [List.range_succ, List.map_append]; rfl
theorem rl_length (L i n : Nat) : (rl L i n).length = n := by simp [rl]
theorem rl_mem {L i n : Nat} {p : Put} (h : p ∈ rl L i n) : ∃ k, k < n ∧ p = (((rat L i k : Nat) : Int), rsec i k) := by
  unfold rl at h
  obtain ⟨k, hk, e⟩ := List.mem_map.1 h
  exact ⟨k, by simpa using hk, e.symm⟩
theorem rat_ne {L i a b : Nat} (h : a < b) (hb : b < L) : rat L i a ≠ rat L i b := by
  unfold rat; exact mod_ne' h (by omega)
theorem rl_nodup {L i : Nat} : ∀ n, n ≤ L → ((rl L i n).map (·.1)).Nodup
  | 0, _ => List.nodup_nil
  | n + 1, h => by
    rw [rl_succ, List.map_append]
    refine List.nodup_append.2 ⟨rl_nodup n (by omega), by simp, fun x hx y hy => ?_⟩
    obtain ⟨p, hp, rfl⟩ := List.mem_map.1 hx
    obtain ⟨k, hk, rfl⟩ := rl_mem hp
    simp at hy; subst hy
    have := rat_ne (L := L) (i := i) hk (by omega)
    show ((rat L i k : Nat) : Int) ≠ ((rat L i n : Nat) : Int)
    omega
theorem rl_fits {nn ring i n : Nat} (h0 : 0 < nn - 2 - ring) (h1 : n ≤ nn - 2 - ring) (h2 : n ≤ 40) (h3 : n < ring) : fitsR nn ring (rl (nn - 2 - ring) i n) = 0 := by
  have e : fitsL (nn - 2 - ring) [] (rl (nn - 2 - ring) i n) = 0 := fitsL_ok (fun p hp => by
    obtain ⟨k, _, rfl⟩ := rl_mem hp
    have : rat (nn - 2 - ring) i k < nn - 2 - ring := Nat.mod_lt _ h0
    exact ⟨by show (0 : Int) ≤ ((rat _ i k : Nat) : Int); omega, by show ((rat _ i k : Nat) : Int) < _; omega, pad_length _, by simp⟩) (rl_nodup n h1)
  unfold fitsR
  rw [e, rl_length, if_neg (by simp), if_neg (by omega)]
theorem putsH_snoc (H : Nat → Sec) (l : List Put) (p : Put) : putsH H (l ++ [p]) = fun i => if i = p.1.toNat then p.2 else putsH H l i := by
  unfold putsH; rw [List.foldl_append]; rfl
theorem hl_set {H : Nat → Sec} {l : List Put} {L k : Nat} {s : Sec} : hl (putsH H (l ++ [(((k : Nat) : Int), s)])) L = (hl (putsH H l) L).set k s := by
  rw [putsH_snoc]
  apply List.ext_getElem?
  intro q
  rw [List.getElem?_set]
  unfold hl
  rw [List.length_map, List.length_range, List.getElem?_map, List.getElem?_map]
  by_cases hq : q < L
  · rw [List.getElem?_range hq]
    by_cases e : k = q
    · subst e; rw [if_pos rfl, if_pos hq]; simp
    · rw [if_neg e]
      simp only [Option.map_some]
      rw [if_neg (by show ¬ q = ((k : Nat) : Int).toNat; omega)]
  · rw [List.getElem?_eq_none (by simp; omega)]
    by_cases e : k = q
    · subst e; rw [if_pos rfl, if_neg hq]; rfl
    · rw [if_neg e]; rfl
theorem run_build_3 (x y : Int) (w : World) : (Instr.buildSlice 36 3 #[(0, .int .u8 x), (1, .int .u8 y), (2, .int .u8 1)]).run Try.prog w = .ok (.slice (some ⟨w.heap.size, 0, none⟩) 3 3) (w.alloc (.cells #[.int .u8 x, .int .u8 y, .int .u8 1] 5)) := by kernel_rfl
theorem byte_val {i : Nat} (h : i < 256) : bv (UInt8.ofNat i) = .int .u8 (i : Int) := by
  unfold bv
  congr 1
  have : (UInt8.ofNat i).toNat = i % 256 := by simp
  rw [this]; omega

end Go.Proofs.Ythbgidiblcokhaa
