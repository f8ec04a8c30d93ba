/-
  Rows of arrays that are one's own, and what is put behind them.
-/
import Derived.Test.YtceakcejchbbjaaGreatTrD
import Derived.Great.BuildSlice
namespace Go.Proofs.YtceakcejchbbjaaGreat
open Go.RowKit Go.MapKept Go.ChangeMaps

/-- A slice literal of one element of more cells. -/
theorem run_build1 {T e : TypeId} {sz : Nat} (hu : Tryz.prog.underlying T = some (.slice e)) (hi : ((Tryz.prog.info? e).map fun i => (i.zero.isSome, i.size)) = some (true, sz)) (h0 : 0 < sz) (h1 : sz ≤ 1000) (cs : List Value) (hc : cs.length = sz) (w : World) :
    (Instr.buildSlice T 1 #[(0, .agg cs.toArray)]).run Tryz.prog w = .ok (.slice (some ⟨w.heap.size, 0, none⟩) 1 1) (w.alloc (.cells cs.toArray e)) := by
  cases hq : Tryz.prog.info? e with
  | none => rw [hq] at hi; simp at hi
  | some i =>
    rw [hq] at hi
    simp at hi
    obtain ⟨hz, hs⟩ := hi
    obtain ⟨z, hz⟩ := Option.isSome_iff_exists.1 hz
    have hd := Great.fill_dense (s := sz) h0 [.agg cs.toArray] 0 ((Array.range (1 * i.size)).map (z.cells[· % z.cells.size]!)) (fun v hv => by simp at hv; subst hv; simp [Value.cells, hc]) (by simp [hs])
    obtain ⟨r, hr, hrs, hrk⟩ := hd
    have he : r = cs.toArray := by
      apply Array.ext_getElem?
      intro k
      rw [hrk k]
      by_cases hk : k < sz
      · rw [if_pos ⟨by omega, by simpa using hk⟩, Nat.div_eq_of_lt hk, Nat.mod_eq_of_lt hk]
        simp [Value.cells]
      · rw [if_neg (by simp; omega), Array.getElem?_eq_none (by simp [hs]; omega), Array.getElem?_eq_none (by simp; omega)]
    rw [he] at hr
    refine run_buildSlice w T e 1 _ cs.toArray i z hu hq hz (by omega) (by omega) ?_
    rw [hs]
    rw [hs] at hr
    exact hr

/-- Something is put behind a row of one's own. -/
theorem row_push {T e : TypeId} {sz bytes : Nat} {z : Value} (hu : Tryz.prog.underlying T = some (.slice e)) (hi : (Tryz.prog.info? e).map (fun i => (i.zero, i.size, i.bytes)) = some (some z, sz, bytes)) (hzs : z.cells.size = sz) (h0 : 0 < sz) (hby : bytes ≤ 1000)
    {w : World} {B n : Nat} {v : Value} {xs : List Value} (hp : w.ownsRow B e sz v n xs) (hl : n ≤ 1000) (hB : B ≤ w.heap.size) (cs : List Value) (hc : cs.length = sz) (h1 : ∀ u ∈ cs, u.oneCell' = true) :
    ∃ a b c' w' S, (∀ ty, (Builtin.append_ #[T, T] ty #[v, .slice (some ⟨w.heap.size, 0, none⟩) 1 1]).run Tryz.prog (w.alloc (.cells cs.toArray e)) = .ok (.slice a b c') w') ∧ w'.ownsRow B e sz (.slice a b c') (n + 1) (xs ++ cs) ∧
      Upd S w w' ∧ (∀ k, k ∈ S → B ≤ k ∧ ∃ c, w.heap[k]? = some (.cells c e (0, 0))) := by
  obtain ⟨i0, hi0, hz0, hz1, hz2⟩ := info_parts hi
  have hp1 : (w.alloc (.cells cs.toArray e)).ownsRow B e sz v n xs := by
    refine ⟨hp.1, ?_⟩
    rcases hp.2 with h | ⟨g, cap, cur, hv, hb, hg, r⟩
    · exact .inl h
    · exact .inr ⟨g, cap, cur, hv, hb, (blk_alloc_ne (blk_lt hg)).trans hg, r⟩
  have hmul : (n + 1) * bytes ≤ 140737488355328 := Nat.le_trans (Nat.mul_le_mul (show n + 1 ≤ 1001 by omega) hby) (by decide)
  obtain ⟨v', w', hrun, hown, hg, _⟩ := run_append_own (P := Tryz.prog) (w.alloc (.cells cs.toArray e)) B T 0 e i0 z sz bytes hu hi0 hz0 hz1 hz2 hzs h0 v n xs hp1 ⟨w.heap.size, 0, none⟩ 1 1 cs (by rw [hc, Nat.one_mul])
    (fun k u hj => by rw [addr_add, blk_cell (blk_alloc _), List.getElem?_toArray, Nat.zero_add]; exact hj) h1 (by unfold maxLen; omega) hmul (by simp; omega)
  have hs : ∃ a c', v' = .slice a (n + 1) c' := by
    rcases hown.2 with ⟨_, h⟩ | ⟨g, cap, cur, h, _⟩
    · omega
    · exact ⟨_, _, h⟩
  obtain ⟨a, c', rfl⟩ := hs
  have hsz := hg.size
  have hos : w'.os = w.os ∧ w'.tape = w.tape ∧ w'.output = w.output := ⟨hg.os, hg.tape, hg.output⟩
  have hsz' : w.heap.size ≤ w'.heap.size := by simp at hsz; omega
  rcases hp.2 with ⟨rfl, _⟩ | ⟨g, cap, cur, rfl, hb, hgb, _⟩
  · refine ⟨a, _, c', w', [], fun _ => hrun, hown, ⟨hos.1, hos.2.1, hos.2.2, hsz', fun k hk _ => ?_⟩, by simp⟩
    rw [hg.block k (by simp; omega) (by simp [Value.ownBlock]), blk_alloc_ne hk]
  · refine ⟨a, _, c', w', [g], fun _ => hrun, hown, ⟨hos.1, hos.2.1, hos.2.2, hsz', fun k hk hS => ?_⟩, by simp; exact ⟨hb, _, hgb⟩⟩
    rw [hg.block k (by simp; omega) (by simp [Value.ownBlock]; rintro rfl; exact hS (by simp)), blk_alloc_ne hk]

theorem own_keep {w w' : World} {B n sz : Nat} {e : TypeId} {v : Value} {xs : List Value} (h : w.ownsRow B e sz v n xs) (hk : ∀ (k : Nat) (c : Array Value), B ≤ k → w.heap[k]? = some (.cells c e (0, 0)) → w'.heap[k]? = w.heap[k]?) : w'.ownsRow B e sz v n xs := by
  refine ⟨h.1, ?_⟩
  rcases h.2 with h | ⟨g, cap, cur, hv, hb, hg, r⟩
  · exact .inl h
  · exact .inr ⟨g, cap, cur, hv, hb, (hk g cur hb hg).trans hg, r⟩
theorem own_upd {w w' : World} {B n sz : Nat} {e : TypeId} {v : Value} {xs : List Value} (h : w.ownsRow B e sz v n xs) {S : List Nat} (hu : Upd S w w') (hS : ∀ (k : Nat) (c : Array Value), k ∈ S → B ≤ k → w.heap[k]? ≠ some (.cells c e (0, 0))) : w'.ownsRow B e sz v n xs :=
  own_keep h fun k c hb e => hu.block _ (blk_lt e) fun q => hS k c q hb e
theorem own_shape {w : World} {B n sz : Nat} {e : TypeId} {v : Value} {xs : List Value} (h : w.ownsRow B e sz v n xs) : ∃ a c, v = .slice a n c := by
  rcases h.2 with ⟨h, h0⟩ | ⟨g, cap, cur, h, _⟩
  · exact ⟨none, 0, by rw [h, h0]⟩
  · exact ⟨_, _, h⟩
theorem flat_get {sz : Nat} : ∀ {es : List (List Value)}, (∀ e, e ∈ es → e.length = sz) → ∀ {i j : Nat} {e : List Value}, es[i]? = some e → j < sz → es.flatten[i * sz + j]? = e[j]?
  | [], _, i, j, e, h, _ => by simp at h
  | x :: es, hl, 0, j, e, h, hj => by
    simp at h; subst h
    rw [List.flatten_cons, List.getElem?_append_left (by rw [hl x (by simp)]; omega)]
    congr 1; omega
  | x :: es, hl, i + 1, j, e, h, hj => by
    have := flat_get (es := es) (fun e he => hl e (by simp [he])) (i := i) (j := j) (by simpa using h) hj
    rw [List.flatten_cons, List.getElem?_append_right (by rw [hl x (by simp), Nat.add_mul]; omega), hl x (by simp), ← this]
    congr 1
    rw [Nat.add_mul]; omega
/-- What one owns, one reads. -/
theorem own_rrd {w : World} {B n sz : Nat} {e : TypeId} {v : Value} {es : List (List Value)} (h : w.ownsRow B e sz v n es.flatten) (hn : n = es.length) (hl : ∀ e, e ∈ es → e.length = sz) : RRd w v sz es := by
  subst hn
  rcases h.2 with ⟨rfl, h0⟩ | ⟨g, cap, cur, rfl, hb, hg, hc, _, hs, ht⟩
  · exact ⟨none, 0, by rw [h0], by omega, fun q => by omega⟩
  · refine ⟨_, cap, rfl, hc, fun hp => ⟨g, 0, rfl, fun i e he j v hv => ?_⟩⟩
    have hel := hl e (List.mem_of_getElem? he)
    have hj : j < sz := by rw [← hel]; exact (List.getElem?_eq_some_iff.1 hv).1
    have hi : i < es.length := (List.getElem?_eq_some_iff.1 he).1
    have hlt : i * sz + j < es.length * sz := by
      have := Nat.mul_le_mul_right sz (show i + 1 ≤ es.length by omega)
      rw [Nat.add_mul] at this; omega
    have hf := flat_get hl he hj
    rw [hv, ← ht, List.getElem?_take_of_lt hlt] at hf
    rw [blk_cell hg, Nat.zero_add]
    simpa using hf

theorem infoKey : (Tryz.prog.info? 35).map (fun i => (i.zero, i.size, i.bytes)) = some (some (.agg (bts (List.replicate 32 0)).toArray), 32, 32) := by kernel_rfl
theorem infoVal : (Tryz.prog.info? 45).map (fun i => (i.zero, i.size, i.bytes)) = some (some (.agg (bts (List.replicate 16 0)).toArray), 16, 16) := by kernel_rfl
theorem infoNum : (Tryz.prog.info? 47).map (fun i => (i.zero, i.size, i.bytes)) = some (some (.int .u32 0), 1, 4) := by kernel_rfl
def KOwn (w : World) (B : Nat) (v : Value) (ks : List Bs) : Prop := w.ownsRow B 35 32 v ks.length (ks.map bts).flatten
def VOwn (w : World) (B : Nat) (v : Value) (vs : List Bs) : Prop := w.ownsRow B 45 16 v vs.length (vs.map bts).flatten
def DOwn (w : World) (B : Nat) (v : Value) (ds : List Nat) : Prop := w.ownsRow B 47 1 v ds.length (ds.map fun d : Nat => Value.int .u32 (d : Int))
theorem KOwn.rd {w : World} {B : Nat} {v : Value} {ks : List Bs} (h : KOwn w B v ks) (hl : ∀ k, k ∈ ks → k.length = 32) : RRd w v 32 (ks.map bts) := own_rrd h (by simp) (fun e he => by obtain ⟨k, hk, rfl⟩ := List.mem_map.1 he; rw [bts_length]; exact hl k hk)
theorem VOwn.rd {w : World} {B : Nat} {v : Value} {vs : List Bs} (h : VOwn w B v vs) (hl : ∀ k, k ∈ vs → k.length = 16) : RRd w v 16 (vs.map bts) := own_rrd h (by simp) (fun e he => by obtain ⟨k, hk, rfl⟩ := List.mem_map.1 he; rw [bts_length]; exact hl k hk)
theorem DOwn.rd {w : World} {B : Nat} {v : Value} {ds : List Nat} (h : DOwn w B v ds) : KRd w v ds := by
  rcases h.2 with ⟨rfl, h0⟩ | ⟨g, cap, cur, rfl, hb, hg, hc, _, hs, ht⟩
  · exact ⟨none, 0, by rw [h0], by omega, fun q => by omega⟩
  · refine ⟨_, cap, rfl, hc, fun hp => ⟨g, 0, rfl, fun i d hd => ?_⟩⟩
    have hi : i < ds.length := (List.getElem?_eq_some_iff.1 hd).1
    have hf : (ds.map fun d : Nat => Value.int .u32 (d : Int))[i]? = some (.int .u32 (d : Int)) := by rw [List.getElem?_map, hd]; rfl
    rw [← ht, List.getElem?_take_of_lt (by omega)] at hf
    rw [blk_cell hg, Nat.zero_add]
    simpa using hf

end Go.Proofs.YtceakcejchbbjaaGreat
