/-
  Lists of strings: homes, alike.
-/
import Derived.Test.YtceakcejchbbjaaGreatGL
import Derived.Lib.SlBytesRow
import Derived.Test.YtceakcejchbbjaaGreatLift
import Derived.Deep.Slices
import Derived.Deep.Strs
namespace Go.Proofs.YtceakcejchbbjaaGreat
open Go.RowKit

/-- Bytes as a string. -/
def str (l : List UInt8) : ByteArray := ⟨l.toArray⟩
theorem str_inj {a b : List UInt8} (h : str a = str b) : a = b := by
  have := congrArg (fun s : ByteArray => s.data.toList) h
  simpa [str] using this
theorem ba_loop (bs : ByteArray) : ∀ (m i : Nat) (r : List UInt8), bs.size - i = m → ByteArray.toList.loop bs i r = r.reverse ++ bs.data.toList.drop i := by
  intro m
  induction m with
  | zero =>
    intro i r h
    rw [ByteArray.toList.loop]
    have hi : ¬ i < bs.size := by omega
    rw [if_neg hi, List.drop_eq_nil_of_le (by simp; omega)]; simp
  | succ m ih =>
    intro i r h
    rw [ByteArray.toList.loop]
    have hi : i < bs.size := by omega
    rw [if_pos hi, ih (i + 1) _ (by omega)]
    have hl : i < bs.data.toList.length := by simpa using hi
    rw [List.drop_eq_getElem_cons hl]
    have e : bs.get! i = bs.data.toList[i] := by simp [ByteArray.get!, hi]
    rw [e]; simp
theorem str_toList (l : List UInt8) : (str l).toList = l := by
  unfold ByteArray.toList
  rw [ba_loop _ (str l).size 0 [] (by omega)]; simp [str]
theorem str_eq {a b : List UInt8} (h : a = b) : ((str a).toList == (str b).toList) = true := by rw [str_toList, str_toList, h]; simp
theorem str_ne {a b : List UInt8} (h : a ≠ b) : ((str a).toList == (str b).toList) = false := by rw [str_toList, str_toList]; simpa using h
def sv (l : List UInt8) : Value := .string (str l)

theorem run_str {w : World} {v : Value} {l : List UInt8} (h : Rd w v l) (hl : 0 < l.length) : (convert 37 9 v).run Tryz.prog w = .ok (.string (str l)) w := by
  obtain ⟨ao, cap, rfl, hc, hh⟩ := h
  obtain ⟨b, off, rfl, hcell⟩ := hh hl
  have hsz : (str l).size = l.length := by simp [str, ByteArray.size]
  have := Lib.run_convert_whole (P := Tryz.prog) w 37 5 9 Tryz.underlying37 Tryz.underlying5 Tryz.underlying9 b off (str l) (fun i hi => by
    rw [hsz] at hi
    rw [hcell i hi]
    rfl) cap
  rw [hsz] at this
  exact this

theorem infoStr : (Tryz.prog.info? 9).map (fun i => (i.zero, i.size, i.bytes)) = some (some (.string ⟨#[]⟩), 1, 16) := by kernel_rfl
/-- A row of strings of the law's own, in a block from B on. -/
def StrsB (w : World) (B : Nat) (v : Value) (ss : List (List UInt8)) : Prop := w.ownsRow B 9 1 v ss.length (ss.map sv)
theorem StrsB.nil (w : World) (B : Nat) : StrsB w B (.slice none 0 0) [] := ⟨by simp, .inl ⟨rfl, rfl⟩⟩
theorem StrsB.keep {w w' : World} {B : Nat} {v : Value} {ss : List (List UInt8)} (h : StrsB w B v ss) (hk : ∀ (k : Nat) (c : Array Value), w.heap[k]? = some (.cells c 9 (0, 0)) → w'.heap[k]? = w.heap[k]?) : StrsB w' B v ss := by
  refine ⟨h.1, ?_⟩
  rcases h.2 with h | ⟨g, cap, cur, e, hb, hg, r⟩
  · exact .inl h
  · exact .inr ⟨g, cap, cur, e, hb, (hk g cur hg).trans hg, r⟩
theorem StrsB.upd {w w' : World} {B : Nat} {v : Value} {ss : List (List UInt8)} (h : StrsB w B v ss) {S : List Nat} (hu : Upd S w w') (hS : ∀ (k : Nat) (c : Array Value), k ∈ S → w.heap[k]? ≠ some (.cells c 9 (0, 0))) : StrsB w' B v ss :=
  h.keep fun k c e => hu.block _ (blk_lt e) fun q => hS k c q e
theorem StrsB.shape {w : World} {B : Nat} {v : Value} {ss : List (List UInt8)} (h : StrsB w B v ss) : ∃ a c, v = .slice a ss.length c := by
  rcases h.2 with ⟨e, h0⟩ | ⟨g, cap, cur, e, _⟩
  · exact ⟨none, 0, by rw [e, h0]⟩
  · exact ⟨_, _, e⟩
theorem StrsB.rd {w : World} {B : Nat} {v : Value} {ss : List (List UInt8)} (h : StrsB w B v ss) : RdL w [] v (ss.map sv) := by
  have : w.ownsRow B 9 1 v (ss.map sv).length (ss.map sv) := by rw [List.length_map]; exact h
  exact RdL.of_row this (by simp)
theorem JrAt.keptT {w w' : World} {j : JG} {J : Jn} {D : Dk} {n ring : Nat} {t m : Int} {H : Nat → Sec} (h : JrAt w j J D n ring t m H) (T : TypeId) (h1 : T ≠ 197) (h2 : T ≠ 234) (h3 : T ≠ 37) (h4 : T ≠ 5)
    (hk : ∀ k, k < w.heap.size → (∀ c, w.heap[k]? ≠ some (.cells c T (0, 0))) → w'.heap[k]? = w.heap[k]?) : JrAt w' j J D n ring t m H := by
  have hb : ∀ k, k ∈ j.all → ∀ c, w.heap[k]? ≠ some (.cells c T (0, 0)) := fun k hk c e => h.at_.kind e h1 h2 h3 hk
  exact h.of (h.at_.world (hk _ h.at_.lt.1 (hb _ (by simp [JG.all]))) (hk _ h.at_.lt.2 (hb _ (by simp [JG.all]))) (hk _ h.at_.disk.lt.1 (hb _ (by simp [JG.all]))) (hk _ h.at_.disk.lt.2.1 (hb _ (by simp [JG.all]))) (hk _ h.at_.disk.lt.2.2 (hb _ (by simp [JG.all])))
    (fun k c _ e => hk _ (blk_lt e) (fun c' e' => by rw [e] at e'; simp at e'; exact h4 e'.2.symm)))

/-- The first k home sectors. -/
def hl (H : Nat → Sec) (k : Nat) : List (List UInt8) := (List.range k).map H
theorem hl_length (H : Nat → Sec) (k : Nat) : (hl H k).length = k := by simp [hl]
theorem hl_succ (H : Nat → Sec) (k : Nat) : hl H (k + 1) = hl H k ++ [H k] := by unfold hl; rw [List.range_succ, List.map_append]; rfl

theorem RdL.cell {w : World} {S : List Nat} {a : Option Addr} {n c : Nat} {cs : List Value} (h : RdL w S (.slice a n c) cs) (i : Nat) (hi : i < cs.length) : ∃ b off, a = some ⟨b, off, none⟩ ∧ w.cell? ⟨b, off + i, none⟩ = some cs[i] := by
  obtain ⟨ao, cap, e, hc, hh⟩ := h
  obtain ⟨b, off, _, hab, hcell⟩ := hh (by omega)
  cases e
  exact ⟨b, off, hab, hcell i hi⟩
theorem RdL.shape {w : World} {S : List Nat} {v : Value} {cs : List Value} (h : RdL w S v cs) : ∃ a c, v = .slice a cs.length c ∧ cs.length ≤ c := by
  obtain ⟨ao, cap, e, hc, _⟩ := h
  exact ⟨ao, cap, e, hc⟩

end Go.Proofs.YtceakcejchbbjaaGreat

namespace Go.Proofs.YtceakcejchbbjaaGreat
open Go.RowKit

set_option maxRecDepth 100000 in
set_option maxHeartbeats 1000000 in
theorem twin_spec (v : Value) (l : List UInt8) (w : World) (hr : Rd w v l) (hl : l.length ≤ 10000) :
    Calls Tryz.prog 39 #[v] w fun e w' => ∃ k c, e = .returned (.slice (some ⟨k, 0, none⟩) l.length c) ∧ Own w' 5 (fun k => w.heap.size ≤ k) (.slice (some ⟨k, 0, none⟩) l.length c) l ∧ Upd [] w w' := by
  obtain ⟨ao, cap, rfl, hcap, hh⟩ := hr
  have hr : Rd w (.slice ao l.length cap) l := ⟨ao, cap, rfl, hcap, hh⟩
  have hmk : (Instr.makeSlice 37 (.int .i64 ((l.length : Int) + 3)) (.int .i64 ((l.length : Int) + 3))).run Tryz.prog w = .ok (.slice (some ⟨w.heap.size, 0, none⟩) (l.length + 3) (l.length + 3)) (w.alloc (.cells (bts (List.replicate (l.length + 3) 0)).toArray 5)) := by
    have := run_make_u8 (l.length + 3) (by omega) w
    rw [show ((l.length + 3 : Nat) : Int) = (l.length : Int) + 3 from by omega] at this
    exact this
  have hcp : ∀ ty, (Builtin.copy_ #[37, 37] ty #[.slice (some ⟨w.heap.size, 0, none⟩) (l.length + 3) (l.length + 3), .slice ao l.length cap]).run Tryz.prog (w.alloc (.cells (bts (List.replicate (l.length + 3) 0)).toArray 5)) = .ok (goInt ((min l.length (l.length + 3) : Nat) : Int)) (w.alloc (.cells (bts (l ++ [0, 0, 0])).toArray 5)) := by
    intro ty
    rw [run_copy_rd (u8 := 5) Tryz.underlying37 sizeU8 w.heap.size 0 (l.length + 3) (l.length + 3) (bts (List.replicate (l.length + 3) 0)) (blk_alloc _) (by rw [bts_length]; simp) (hr.alloc _), setRow_alloc]
    have e : splice (bts (List.replicate (l.length + 3) 0)) 0 (bts (l.take (l.length + 3))) = bts (l ++ [0, 0, 0]) := by
      rw [splice_head, bts_length, List.take_of_length_le (by omega), bts_append]
      congr 1
      show (List.map bv _).drop _ = _
      rw [← List.map_drop, List.drop_replicate, show l.length + 3 - l.length = 3 from by omega]; rfl
    rw [e]
  clear hr hh
  obtain ⟨w1, hw1⟩ : ∃ w1, w1 = w.alloc (.cells (bts (List.replicate (l.length + 3) 0)).toArray 5) := ⟨_, rfl⟩
  obtain ⟨w2, hw2⟩ : ∃ w2, w2 = w.alloc (.cells (bts (l ++ [0, 0, 0])).toArray 5) := ⟨_, rfl⟩
  rw [← hw1] at hmk
  rw [← hw1, ← hw2] at hcp
  have HU2 : Hid (Upd [] w w2) := by show Upd _ _ _; rw [hw2]; exact (Upd.refl _ _).alloc _
  have HB2 : Hid (w2.heap[w.heap.size]? = some (.cells (bts l ++ bts [0, 0, 0]).toArray 5 (0, 0))) := by show _ = _; rw [hw2, ← bts_append]; exact blk_alloc _
  clear hw1 hw2
  obtain ⟨n, hn⟩ : ∃ n, n = l.length := ⟨_, rfl⟩
  rw [← hn] at hmk hcp hl ⊢
  have HN := Lib.hid hn
  clear hn hcap
  go_enter Tryz.func39, Tryz.ntmps39
  go_wp2_with fail
  go_loopw [4] (fun i wr => ∃ k : Nat, k ≤ 3 ∧ i = .int .i64 ((n + k : Nat) : Int) ∧ (∃ r : List Value, r.length = 3 ∧ wr.heap[w.heap.size]? = some (.cells (bts l ++ r).toArray 5 (0, 0))) ∧ Upd [] w wr) (fun i _ => n + 3 - (intOf i).toNat)
  case atStart => exact ⟨0, by omega, rfl, ⟨bts [0, 0, 0], rfl, HB2.out⟩, HU2.out⟩
  case round =>
    obtain ⟨k, hk, rfl, ⟨r, hr3, hb⟩, hu⟩ := hrel
    by_cases hlt : k < 3
    · have hlt' : decide (((n + k : Nat) : Int) < (n : Int) + 3) = true := by simp; omega
      obtain ⟨x0, hx0⟩ : ∃ x, (bts l ++ r).toArray[n + k]? = some x := by
        have : n + k < (bts l ++ r).toArray.size := by have := HN.out; simp; omega
        exact ⟨_, Array.getElem?_eq_getElem this⟩
      have hc : wr.cell? ⟨w.heap.size, n + k, none⟩ = some x0 := (blk_cell hb _).trans hx0
      have hf := blk_free hb (n + k)
      have HB := Lib.hid hb
      have HU := Lib.hid hu
      have i0 : (0 : Int) ≤ ((n + k : Nat) : Int) := by omega
      have i1 : ((n + k : Nat) : Int) < ((n + 3 : Nat) : Int) := by omega
      clear hb hu hx0
      go_wp2_with fail
      refine ⟨⟨k + 1, by omega, by rw [show ((n + (k + 1) : Nat) : Int) = (n : Int) + (k : Int) + 1 from by omega], ⟨r.set k (.int .u8 229), by simp [hr3], ?_⟩, HU.out.set _ (.inr (Nat.le_refl _))⟩, by simp [intOf]; omega⟩
      rw [blk_set HB.out]
      congr 2
      rw [List.setIfInBounds_toArray, HN.out]
      congr 1
      rw [List.set_append_right _ _ (by simp), bts_length, Nat.add_sub_cancel_left]
    · obtain rfl : k = 3 := by omega
      have hlt' : decide (((n + 3 : Nat) : Int) < (n : Int) + 3) = false := by simp
      have HB := Lib.hid hb
      have HU := Lib.hid hu
      clear hb hu
      go_wp2_with fail
      go_ret
      exact ⟨_, _, rfl, ⟨w.heap.size, r, Nat.le_refl _, by rw [hr3, ← HN.out], HB.out⟩, HU.out⟩

/-- One of a law's puts: where, what, whether just that. -/
structure Pz where
  I : Int
  B : List UInt8
  Odd : Bool
def Pz.put (p : Pz) : Put := (p.I, if p.Odd then p.B else pad p.B)
/-- A slice of puts that reads as l. -/
def PzIn (w : World) (v : Value) (l : List Pz) : Prop :=
  ∃ ao cap, v = .slice ao l.length cap ∧ l.length ≤ cap ∧ (0 < l.length → ∃ b off, ao = some ⟨b, off, none⟩ ∧ ∀ i (h : i < l.length), ∃ vb, w.cell? ⟨b, off + i * 3, none⟩ = some (.int .i64 l[i].I) ∧ w.cell? ⟨b, off + i * 3 + 1, none⟩ = some vb ∧ w.cell? ⟨b, off + i * 3 + 2, none⟩ = some (.bool l[i].Odd) ∧ Rd w vb l[i].B)
theorem Rd.upd0 {w w' : World} {v : Value} {l : List UInt8} (h : Rd w v l) (hu : Upd [] w w') : Rd w' v l := h.below hu
theorem PzIn.below {w w' : World} {v : Value} {l : List Pz} (h : PzIn w v l) (hu : Upd [] w w') : PzIn w' v l := by
  obtain ⟨ao, cap, e, hc, hh⟩ := h
  refine ⟨ao, cap, e, hc, fun hp => ?_⟩
  obtain ⟨b, off, hab, hcell⟩ := hh hp
  refine ⟨b, off, hab, fun i hi => ?_⟩
  obtain ⟨vb, c0, c1, c2, hr⟩ := hcell i hi
  have keep : ∀ {o : Nat} {x : Value}, w.cell? ⟨b, o, none⟩ = some x → w'.cell? ⟨b, o, none⟩ = some x := fun hx => by
    rw [World.cell?_of_block (w := w) (hu.block _ (block_lt_of_cell hx) (by simp))]; exact hx
  exact ⟨vb, keep c0, keep c1, keep c2, hr.below hu⟩

end Go.Proofs.YtceakcejchbbjaaGreat

namespace Go.Proofs.YtceakcejchbbjaaGreat
open Go.ChangeShapes Go.WideShapes Go.ChangeAt Go.RowKit Go.Deep

section
variable {H : Type} {enc : TypeId × Value → H} {W : World}

theorem list_of {α : Type} {p : Nat → α → Prop} : ∀ n, (∀ i, i < n → ∃ a, p i a) → ∃ l : List α, l.length = n ∧ ∀ i (h : i < l.length), p i l[i]
  | 0, _ => ⟨[], rfl, fun i h => by simp at h⟩
  | n + 1, h => by
    obtain ⟨l, hl, hp⟩ := list_of n (fun i hi => h i (by omega))
    obtain ⟨a, ha⟩ := h n (by omega)
    refine ⟨l ++ [a], by simp [hl], fun i hi => ?_⟩
    by_cases q : i < l.length
    · rw [List.getElem_append_left q]; exact hp i q
    · have : i = l.length := by simp at hi; omega
      subst this
      rw [List.getElem_append_right (Nat.le_refl _)]
      simp only [Nat.sub_self, List.getElem_cons_zero]
      rw [hl]; exact ha
theorem addr_none {w : World} {a : Addr} {v : Value} (h : w.cell? a = some v) : a = ⟨a.block, a.off, none⟩ := by
  have := World.cell?_spot h
  cases a; simp_all
theorem byte_of {n : Int} (h : (Lit.int .u8 n).wf = true) : ∃ c : UInt8, bv c = .int .u8 n := by
  simp [Lit.wf] at h
  have h0 : (0 : Int) ≤ n := h.1
  have h1 : n ≤ 255 := h.2
  refine ⟨UInt8.ofNat n.toNat, ?_⟩
  unfold bv
  congr 1
  have : (UInt8.ofNat n.toNat).toNat = n.toNat % 256 := by simp
  rw [this]; omega
/-- A slice of one-cell elements, cell by cell. -/
theorem one_cells {t e : TypeId} {fuel : Nat} {v : Value} {x : DataW H × List MemPlace} (ht : Tryz.prog.underlying t = some (.slice e)) (hc : Tryz.prog.cellsOf e = 1) (h : DataW.trod enc Tryz.prog W 0 (fun _ => true) true fuel t [v] = some x) :
    ∃ ao len cap, v = .slice ao len cap ∧ len ≤ cap ∧ (0 < len → ∃ b off, ao = some ⟨b, off, none⟩ ∧ ∀ i, i < len → ∃ u n y, W.cell? ⟨b, off + i, none⟩ = some u ∧ DataW.trod enc Tryz.prog W 0 (fun _ => true) true n e [u] = some y) := by
  rcases open_slice1 ht hc h with ⟨e, _⟩ | ⟨a, len, cap, m, n, V, D, Pl, e, _, hl, _, hm, _, hx⟩
  · cases e; exact ⟨none, 0, 0, rfl, Nat.le_refl _, fun q => by omega⟩
  · cases e
    simp only [if_true] at hm
    subst hm
    refine ⟨some a, len, m, rfl, hl, fun hp => ?_⟩
    have h0 := (hx 0 (by omega)).1
    have hsp : a.spot = none := by
      have := World.cell?_spot h0
      cases a; simpa [Addr.add] using this
    obtain ⟨b, off, spot⟩ := a
    simp at hsp; subst hsp
    refine ⟨b, off, rfl, fun i hi => ?_⟩
    obtain ⟨c1, c2⟩ := hx i (by omega)
    rw [addr_add] at c1
    exact ⟨V i, n, _, c1, c2⟩
theorem rdT_bytes {fuel : Nat} {v : Value} {x : DataW H × List MemPlace} (h : DataW.trod enc Tryz.prog W 0 (fun _ => true) true fuel 37 [v] = some x) : ∃ l, Rd W v l := by
  obtain ⟨ao, len, cap, rfl, hl, hh⟩ := one_cells Tryz.underlying37 (by kernel_rfl) h
  by_cases hp : 0 < len
  · obtain ⟨b, off, rfl, hc⟩ := hh hp
    obtain ⟨l, hlen, hl2⟩ := list_of (p := fun i c => W.cell? ⟨b, off + i, none⟩ = some (bv c)) len (fun i hi => by
      obtain ⟨u, n, y, c1, c2⟩ := hc i hi
      obtain ⟨k, e, _, hw⟩ := DataW.trod_int Tryz.underlying5 c2
      cases e
      obtain ⟨c, hc'⟩ := byte_of hw
      exact ⟨c, by rw [hc']; exact c1⟩)
    exact ⟨l, _, cap, by rw [hlen], by omega, fun _ => ⟨b, off, rfl, hl2⟩⟩
  · obtain rfl : len = 0 := by omega
    exact ⟨[], ao, cap, rfl, by simp, fun q => by simp at q⟩
theorem rdT_ints {fuel : Nat} {v : Value} {x : DataW H × List MemPlace} (h : DataW.trod enc Tryz.prog W 0 (fun _ => true) true fuel 46 [v] = some x) : ∃ l : List Int, RdL W [] v (l.map fun i => .int .i64 i) := by
  obtain ⟨ao, len, cap, rfl, hl, hh⟩ := one_cells Tryz.underlying46 (by kernel_rfl) h
  by_cases hp : 0 < len
  · obtain ⟨b, off, rfl, hc⟩ := hh hp
    obtain ⟨l, hlen, hl2⟩ := list_of (p := fun i (c : Int) => W.cell? ⟨b, off + i, none⟩ = some (.int .i64 c)) len (fun i hi => by
      obtain ⟨u, n, y, c1, c2⟩ := hc i hi
      obtain ⟨k, e, _, _⟩ := DataW.trod_int Tryz.underlying3 c2
      cases e
      exact ⟨k, c1⟩)
    exact ⟨l, _, cap, by rw [List.length_map, hlen], by rw [List.length_map]; omega, fun _ => ⟨b, off, by simp, rfl, fun i hi => by rw [List.getElem_map]; exact hl2 i (by simpa using hi)⟩⟩
  · obtain rfl : len = 0 := by omega
    exact ⟨[], ao, cap, rfl, by simp, fun q => by simp at q⟩
theorem rdT_bools {fuel : Nat} {v : Value} {x : DataW H × List MemPlace} (h : DataW.trod enc Tryz.prog W 0 (fun _ => true) true fuel 62 [v] = some x) : ∃ l : List Bool, RdL W [] v (l.map Value.bool) := by
  obtain ⟨ao, len, cap, rfl, hl, hh⟩ := one_cells Tryz.underlying62 (by kernel_rfl) h
  by_cases hp : 0 < len
  · obtain ⟨b, off, rfl, hc⟩ := hh hp
    obtain ⟨l, hlen, hl2⟩ := list_of (p := fun i (c : Bool) => W.cell? ⟨b, off + i, none⟩ = some (.bool c)) len (fun i hi => by
      obtain ⟨u, n, y, c1, c2⟩ := hc i hi
      obtain ⟨k, e, _⟩ := DataW.trod_bool Tryz.underlying4 c2
      cases e
      exact ⟨k, c1⟩)
    exact ⟨l, _, cap, by rw [List.length_map, hlen], by rw [List.length_map]; omega, fun _ => ⟨b, off, by simp, rfl, fun i hi => by rw [List.getElem_map]; exact hl2 i (by simpa using hi)⟩⟩
  · obtain rfl : len = 0 := by omega
    exact ⟨[], ao, cap, rfl, by simp, fun q => by simp at q⟩

/-- A list of lists of puts. -/
def PzzIn (w : World) (v : Value) (ls : List (List Pz)) : Prop :=
  ∃ ao cap, v = .slice ao ls.length cap ∧ ls.length ≤ cap ∧ (0 < ls.length → ∃ b off, ao = some ⟨b, off, none⟩ ∧ ∀ i (h : i < ls.length), ∃ vb, w.cell? ⟨b, off + i, none⟩ = some vb ∧ PzIn w vb ls[i])
theorem PzzIn.below {w w' : World} {v : Value} {l : List (List Pz)} (h : PzzIn w v l) (hu : Upd [] w w') : PzzIn w' v l := by
  obtain ⟨ao, cap, e, hc, hh⟩ := h
  refine ⟨ao, cap, e, hc, fun hp => ?_⟩
  obtain ⟨b, off, hab, hcell⟩ := hh hp
  refine ⟨b, off, hab, fun i hi => ?_⟩
  obtain ⟨vb, c0, hr⟩ := hcell i hi
  exact ⟨vb, by rw [World.cell?_of_block (w := w) (hu.block _ (block_lt_of_cell c0) (by simp))]; exact c0, hr.below hu⟩
set_option maxRecDepth 100000 in
theorem slice_cells {r : Reach} {b0 : Nat} {t e : TypeId} {v : Value} {d : DataW H} {ps : List MemPlace} (ht : Tryz.prog.underlying t = some (.slice e)) (hval : Value.okWide Tryz.prog W r b0 t v) (hd : DataW.Trod enc Tryz.prog W 0 (fun _ => true) true t v d ps) : ∃ fuel, DataW.trod enc Tryz.prog W 0 (fun _ => true) true fuel t [v] = some (d, ps) := by
  obtain ⟨a, len, cap, rfl⟩ := okWide_slice ht hval
  obtain ⟨fuel, hf⟩ := hd
  exact ⟨fuel, hf⟩
set_option maxRecDepth 100000 in
theorem rd_bytes {r : Reach} {b0 : Nat} {v : Value} {d : DataW H} {ps : List MemPlace} (hval : Value.okWide Tryz.prog W r b0 37 v) (hd : DataW.Trod enc Tryz.prog W 0 (fun _ => true) true 37 v d ps) : ∃ l, Rd W v l := by
  obtain ⟨fuel, h⟩ := slice_cells Tryz.underlying37 hval hd
  exact rdT_bytes h
set_option maxRecDepth 100000 in
theorem rd_ints {r : Reach} {b0 : Nat} {v : Value} {d : DataW H} {ps : List MemPlace} (hval : Value.okWide Tryz.prog W r b0 46 v) (hd : DataW.Trod enc Tryz.prog W 0 (fun _ => true) true 46 v d ps) : ∃ l : List Int, RdL W [] v (l.map fun i => .int .i64 i) := by
  obtain ⟨fuel, h⟩ := slice_cells Tryz.underlying46 hval hd
  exact rdT_ints h
set_option maxRecDepth 100000 in
theorem rd_bools {r : Reach} {b0 : Nat} {v : Value} {d : DataW H} {ps : List MemPlace} (hval : Value.okWide Tryz.prog W r b0 62 v) (hd : DataW.Trod enc Tryz.prog W 0 (fun _ => true) true 62 v d ps) : ∃ l : List Bool, RdL W [] v (l.map Value.bool) := by
  obtain ⟨fuel, h⟩ := slice_cells Tryz.underlying62 hval hd
  exact rdT_bools h
end

end Go.Proofs.YtceakcejchbbjaaGreat

