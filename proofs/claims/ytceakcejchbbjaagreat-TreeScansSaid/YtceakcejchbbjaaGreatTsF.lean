/-
  Where a walk over leaves goes. No program in sight. tree.walk.
-/
import Derived.Test.YtceakcejchbbjaaGreatTrY
import Derived.Test.YtceakcejchbbjaaGreatTrV
import Derived.Test.YtceakcejchbbjaaGreatTrRa
section
namespace Go.Proofs.YtceakcejchbbjaaGreat
open Go.RowKit

/-- The children from a key's on: what lies ahead of them lies ahead of the key. -/
theorem Kids.from {P : Nat → List Pair9 → List Nat → Prop} {key : Bs} : ∀ {ks : List Bs} {ds : List Nat} {l : List Pair9} {S : List Nat}, Kids P ks ds l S → ks.Pairwise (fun x y => ltB x y = true) →
    ∃ la l2 S1 S2, l = la ++ l2 ∧ S = S1 ++ S2 ∧ (∀ p, p ∈ la → ltB p.1 key = true) ∧ Kids P (ks.drop (chK ks key)) (ds.drop (chK ks key)) l2 S2 ∧ (∀ x, x ∈ ks.drop (chK ks key) → ltB key x = true)
  | _, _, l, S, .one h, _ => ⟨[], l, [], S, rfl, rfl, by simp, by rw [chK_nil]; exact .one h, by simp⟩
  | _, _, _, _, .more (l := l) (S := S) (key := x) (ks := ks) (ds := ds) (l2 := l2) (S2 := S2) h h1 h2 hk, hp => by
    have hp2 := (List.pairwise_cons.1 hp).2
    have hp1 := (List.pairwise_cons.1 hp).1
    rw [chK_cons]
    cases hx : ltB x key
    · by_cases e : x = key
      · rw [if_pos e]
        subst e
        exact ⟨l, l2, S, S2, rfl, rfl, h1, hk, fun y hy => hp1 y hy⟩
      · rw [if_neg e]
        have hlt : ltB key x = true := by
          cases q : ltB key x
          · exact absurd (ltB_total hx q) e
          · rfl
        refine ⟨[], l ++ l2, [], S ++ S2, rfl, rfl, by simp, .more h h1 h2 hk, fun y hy => ?_⟩
        rcases List.mem_cons.1 hy with rfl | hy
        · exact hlt
        · exact ltB_trans hlt (hp1 y hy)
    · simp only [if_true]
      obtain ⟨la, l3, S1, S3, rfl, rfl, q1, q2, q3⟩ := Kids.from (key := key) hk hp2
      refine ⟨l ++ la, l3, S ++ S1, S3, by simp, by simp, fun p hq => ?_, q2, q3⟩
      rcases List.mem_append.1 hq with q | q
      · exact ltB_trans (h1 p q) hx
      · exact q1 p q
/-- The first of some children, and the others: these have no pair ahead of the key. -/
theorem Kids.step {P : Nat → List Pair9 → List Nat → Prop} {key : Bs} {ks : List Bs} {ds : List Nat} {l : List Pair9} {S : List Nat} (h : Kids P ks ds l S) (hk : ∀ x, x ∈ ks → ltB key x = true) :
    ∃ kid l1 l2 S1 S2, ds[0]? = some kid ∧ P kid l1 S1 ∧ l = l1 ++ l2 ∧ S = S1 ++ S2 ∧ (∀ p, p ∈ l2 → ltB key p.1 = true) ∧ (ds.length = 1 ∧ l2 = [] ∧ S2 = [] ∨ 1 < ds.length ∧ Kids P (ks.drop 1) (ds.drop 1) l2 S2) := by
  cases h with
  | one h => exact ⟨_, _, [], _, [], rfl, h, by simp, by simp, by simp, .inl ⟨rfl, rfl, rfl⟩⟩
  | more h h1 h2 hkk =>
    rename_i k l x ks ds l2 S2
    refine ⟨_, _, _, _, _, rfl, h, rfl, rfl, fun p hp => ?_, .inr ⟨?_, hkk⟩⟩
    · have hx := hk _ (List.mem_cons_self)
      cases q : ltB key p.1
      · have := ltB_of_ge (a := p.1) q hx
        rw [h2 p hp] at this; simp at this
      · rfl
    · cases hkk <;> simp
theorem Kids.len {P : Nat → List Pair9 → List Nat → Prop} {ks : List Bs} {ds : List Nat} {l : List Pair9} {S : List Nat} (h : Kids P ks ds l S) : ds.length = ks.length + 1 := by
  induction h with
  | one _ => rfl
  | more _ _ _ _ ih => simp [ih]

/-- What is told of pairs, piece by piece: how it goes on. -/
structure Tells (α : Type) where
  F : α → List Pair9 → α × Bool
  go : ∀ a l1 l2, (F a l1).2 = true → F a (l1 ++ l2) = F (F a l1).1 l2
  stop : ∀ a l1 l2, (F a l1).2 = false → F a (l1 ++ l2) = ((F a l1).1, false)
  nil : ∀ a, F a [] = (a, true)
  wt : α → Nat
  grow : ∀ a l, wt (F a l).1 ≤ wt a + l.length

/-- Only these blocks, and blocks of one type from B on, have turned. -/
def WFr (U : List Nat) (B : Nat) (T : TypeId) (w w' : World) : Prop := ∃ S, Upd S w w' ∧ ∀ k, k ∈ S → k ∈ U ∨ (B ≤ k ∧ ∃ c, w.heap[k]? = some (.cells c T (0, 0)))
section
variable {U : List Nat} {B : Nat} {T : TypeId} {a b c : World}
theorem WFr.of {S : List Nat} (h : Upd S a b) (hS : ∀ k, k ∈ S → k ∈ U) : WFr U B T a b := ⟨S, h, fun k hk => .inl (hS k hk)⟩
theorem WFr.size (h : WFr U B T a b) : a.heap.size ≤ b.heap.size := by obtain ⟨S, hu, _⟩ := h; exact hu.size
theorem WFr.mono {U' : List Nat} (h : WFr U B T a b) (hU : ∀ k, k ∈ U → k ∈ U') : WFr U' B T a b := by
  obtain ⟨S, hu, hS⟩ := h
  exact ⟨S, hu, fun k hk => (hS k hk).imp (hU k) id⟩
theorem WFr.blk (h : WFr U B T a b) {k : Nat} {cs : Array Value} {T2 : TypeId} {fr : Nat × Nat} (hk : a.heap[k]? = some (.cells cs T2 fr)) (hU : k ∉ U) (hn : T2 ≠ T ∨ k < B) : b.heap[k]? = some (.cells cs T2 fr) := by
  obtain ⟨S, hu, hS⟩ := h
  refine (hu.block _ (blk_lt hk) (fun q => ?_)).trans hk
  rcases hS k q with r | ⟨r1, c, r2⟩
  · exact hU r
  · rcases hn with hn | hn
    · rw [hk] at r2; simp at r2; exact hn r2.2.1
    · omega
theorem WFr.trans (h : WFr U B T a b) (k : WFr U B T b c) : WFr U B T a c := by
  obtain ⟨S, hu, hS⟩ := h
  obtain ⟨S2, hu2, hS2⟩ := k
  refine ⟨S ++ S2.filter (fun i => decide (i < a.heap.size)), ⟨hu2.os.trans hu.os, hu2.tape.trans hu.tape, hu2.output.trans hu.output, Nat.le_trans hu.size hu2.size, fun i hi hs => ?_⟩, fun i hi => ?_⟩
  · simp only [List.mem_append, List.mem_filter, decide_eq_true_eq, not_or, not_and] at hs
    exact (hu2.block i (Nat.lt_of_lt_of_le hi hu.size) (fun q => hs.2 q hi)).trans (hu.block i hi hs.1)
  · rcases List.mem_append.1 hi with q | q
    · exact hS i q
    · simp only [List.mem_filter, decide_eq_true_eq] at q
      by_cases hs : i ∈ S
      · exact hS i hs
      · rcases hS2 i q.1 with r | ⟨r1, c, r2⟩
        · exact .inl r
        · exact .inr ⟨r1, c, (hu.block i q.2 hs).symm.trans r2⟩
end

end Go.Proofs.YtceakcejchbbjaaGreat
end

section
namespace Go.Proofs.YtceakcejchbbjaaGreat
open Go.RowKit Go.MapKept Go.ChangeMaps

abbrev TP : TypeId := 72
/-- What is told of a leaf. -/
def Told {α : Type} (t : Tells α) (g : Sg) (M : Nat → Option Sec) (fid : Nat) (caps : Array Value) (U : List Nat) (B : Nat) (Inv : α → World → Prop) : Prop :=
  ∀ (a : α) (w : World) (l : List Pair9) (vk vv : Value) (Bk : Nat), Inv a w → SpAt w g M → l ≠ [] → t.wt a + l.length ≤ 1000 → LeafOk (l.map (·.1)) (l.map (·.2)) → KOwn w Bk vk (l.map (·.1)) → VOwn w Bk vv (l.map (·.2)) → (∀ k, k ∈ U → k < Bk) →
    Calls Tryz.prog fid (#[.agg #[.int .i64 1, vk, vv, .slice none 0 0]] ++ caps) w fun e w' => e = .returned (.bool (t.F a l).2) ∧ Inv (t.F a l).1 w' ∧ SpAt w' g M ∧ WFr U B TP w w'
theorem SpAt.turnedI {w w' : World} {g : Sg} {M : Nat → Option Sec} (h : SpAt w g M) {S : List Nat} (hb : ∀ b, b ∈ S → ∃ c fr, w.heap[b]? = some (.cells c 3 fr)) (hu : Upd S w w') : SpAt w' g M := by
  refine ⟨h.jr.own hu (fun k hk => ?_), h.tx.upd hu (fun hk => ?_) (fun hk => ?_) (fun k c hk e => ?_), h.ne, h.ok, h.len⟩
  · obtain ⟨c, fr, hb⟩ := hb k hk
    exact ⟨_, _, _, hb, by decide, by decide, by decide, by decide⟩
  · obtain ⟨c, fr, hb⟩ := hb _ hk
    have := h.tx.st; rw [hb] at this
    simp at this
  · obtain ⟨c, fr, hb⟩ := hb _ hk
    exact h.tx.map hb
  · obtain ⟨c2, fr, hb⟩ := hb _ hk
    rw [hb] at e; simp at e
attribute [-go_sem] loadCells storeCells
theorem own_cell {w w' : World} {B n sz : Nat} {e : TypeId} {v : Value} {xs : List Value} (h : w.ownsRow B e sz v n xs) {b : Nat} {c : Array Value} {T : TypeId} {fr : Nat × Nat} (hb : w.heap[b]? = some (.cells c T fr)) (hu : Upd [b] w w') (hT : e ≠ T) : w'.ownsRow B e sz v n xs :=
  own_upd h hu (fun k c' hk _ e' => by simp at hk; subst hk; rw [hb] at e'; simp at e'; exact hT e'.2.1.symm)
theorem WFr.own {U : List Nat} {Bf : Nat} {T : TypeId} {w w' : World} (h : WFr U Bf T w w') {B n sz : Nat} {e : TypeId} {v : Value} {xs : List Value} (ho : w.ownsRow B e sz v n xs) (hne : e ≠ T) (hU : ∀ k, k ∈ U → k < B) : w'.ownsRow B e sz v n xs := by
  refine ⟨ho.1, ?_⟩
  rcases ho.2 with h0 | ⟨g, cap, cur, e1, hb, hg, r⟩
  · exact .inl h0
  · exact .inr ⟨g, cap, cur, e1, hb, h.blk hg (fun q => by have := hU g q; omega) (.inl hne), r⟩
set_option maxRecDepth 100000 in
set_option maxHeartbeats 4000000 in
theorem walk_leaf {α : Type} {t : Tells α} {g : Sg} {M : Nat → Option Sec} {fid lb : Nat} {caps : Array Value} {U : List Nat} {B : Nat} {Inv : α → World → Prop}
    (hTold : Told t g M fid caps U B Inv) (hInv : ∀ a w w', Inv a w → Upd [g.j.jb] w w' → Inv a w') (hInv2 : ∀ a w w', Inv a w → Upd [lb] w w' → Inv a w')
    {w : World} (h : SpAt w g M) {root : Bool} {at_ : Nat} {l : List Pair9} {S : List Nat} (hs : Shape (g.cur M) root 0 at_ l S) (hS : ∀ s, s ∈ S → 4 ≤ s ∧ s < g.h) (from_ : Bs) (deep : Int) (hd : 1 ≤ deep) {x : Int} (hx : (S.length : Int) ≤ x) (hx2 : x ≤ 100000)
    (hlb : w.heap[lb]? = some (.cells #[.int .i64 x] 3 (0, 0))) (a : α) (hI : Inv a w) (hU : ∀ k, k ∈ U → k < w.heap.size) (hlU : lb ∉ U) (hent : ∀ args w, (callFunc fid args).run Tryz.prog w = .ok (.enter fid args) w) (hwt : t.wt a + l.length ≤ 1000) :
    Calls Tryz.prog 77 #[.pointer (some ⟨g.x.tb, 0, none⟩), .int .u32 (at_ : Int), arr from_, .int .i64 deep, .pointer (some ⟨lb, 0, none⟩), .func (.func fid) #[] caps] w fun e w' => e = .returned (.tuple #[.bool (t.F a l).2, .int .i64 0]) ∧ Inv (t.F a l).1 w' ∧ SpAt w' g M ∧ w'.heap[lb]? = some (.cells #[.int .i64 (x - 1)] 3 (0, 0)) ∧ WFr (lb :: g.j.jb :: U) B TP w w' := by
  have hlow := hS at_ hs.mem.1
  have hlt4 := hs.mem.2
  have hdb : (deep == 0) = false := by rw [beq_eq_false_iff_ne]; omega
  have hxw : IntKind.i64.wrap (x - 1) = x - 1 := by rw [IntKind.wrap_i64]; have hl1 : (1 : Int) ≤ (S.length : Int) := by rw [hs.1]; simp
                                                    omega
  have hx0 : decide (x - 1 < 0) = false := decide_eq_false (by have hl1 : (1 : Int) ≤ (S.length : Int) := by rw [hs.1]; simp
                                                               omega)
  obtain ⟨wA, hwA⟩ : ∃ wA, wA = w.alloc (.cells (bts from_).toArray 35) := ⟨_, rfl⟩
  have huA : Upd [] w wA := by rw [hwA]; exact (Upd.refl _ _).alloc _
  have hA := h.below huA
  have hR := read_leaf hA at_ hlow.2 hlt4 hs.2.2.1 hs.2.2.2.1
  have HR := Lib.hid hR
  have HLB := Lib.hid ((huA.block _ (blk_lt hlb) (by simp)).trans hlb)
  have HA := Lib.hid hA
  have HUA := Lib.hid huA
  have HW := Lib.hid hwA
  have HSH := Lib.hid hs
  have HI := Lib.hid hI
  have HU := Lib.hid hU
  have HTD := Lib.hid hTold
  have HIV := Lib.hid hInv
  have HIV2 := Lib.hid hInv2
  clear h hs hS hlb hI hU hA hR huA hwA hTold hInv hInv2
  unfold arr
  go_enter Tryz.func77, Tryz.ntmps77
  go_wp2_with fail
  have hwA := HW.out
  rw [← hwA]
  clear hwA
  refine HR.out.mono ?_
  rintro e w2 ⟨vk, vv, rfl, hK, hV, h2, hu2⟩
  obtain ⟨ak, ck, rfl⟩ := own_shape hK
  obtain ⟨av, cv, rfl⟩ := own_shape hV
  have hlk : (l.map (·.1)).length = l.length := List.length_map _
  have hlv : (l.map (·.2)).length = l.length := List.length_map _
  rw [hlk, hlv]
  rw [hlk] at hK
  rw [hlv] at hV
  clear hlk hlv
  obtain ⟨b14, hb14⟩ : ∃ b, b = w2.heap.size := ⟨_, rfl⟩
  obtain ⟨w3, hw3⟩ : ∃ w3, w3 = w2.alloc (.cells #[.int .i64 1, .slice ak l.length ck, .slice av l.length cv, .slice none 0 0] 145) := ⟨_, rfl⟩
  have st14 := store4_run w2 ak av none 1 l.length ck l.length cv 0 0
  rw [← hw3] at st14
  have hu3 : Upd [] w2 w3 := by rw [hw3]; exact (Upd.refl _ _).alloc _
  have c14 : w3.heap[b14]? = some (.cells #[.int .i64 1, .slice ak l.length ck, .slice av l.length cv, .slice none 0 0] 145 (0, 0)) := by rw [hw3, hb14]; exact blk_alloc _
  have lbj : lb ∉ [g.j.jb] := by
    have := HA.out.jr.at_.kind HLB.out (by decide) (by decide) (by decide)
    simp only [List.mem_singleton]
    rintro rfl
    exact this (by simp [JG.all])
  have lb3 := (hu3.block _ (blk_lt ((hu2.block _ (blk_lt HLB.out) lbj).trans HLB.out)) (by simp)).trans ((hu2.block _ (blk_lt HLB.out) lbj).trans HLB.out)
  have mlb : w3.cell? ⟨lb, 0, none⟩ = some (.int .i64 x) := blk_cell lb3 0
  obtain ⟨w4, hw4⟩ : ∃ w4, w4 = w3.setCell ⟨lb, 0, none⟩ (.int .i64 (x - 1)) := ⟨_, rfl⟩
  have stl := store_c lb3 0 (v := .int .i64 (x - 1)) (by simp) rfl
  rw [← hw4] at stl
  have hu4 : Upd [lb] w3 w4 := by rw [hw4]; exact (Upd.refl _ _).set _ (.inl (by simp))
  have lb4 : w4.heap[lb]? = some (.cells #[.int .i64 (x - 1)] 3 (0, 0)) := by rw [hw4]; exact blk_set lb3 0 _
  have hne : b14 ≠ lb := by rintro rfl; rw [c14] at lb3; simp at lb3
  have c144 := (hu4.block _ (blk_lt c14) (by simpa using hne)).trans c14
  have l14 := run_cells_blk (n := 4) (cs := [.int .i64 1, .slice ak l.length ck, .slice av l.length cv, .slice none 0 0]) c144 rfl
  have m14 := blk_cell c144 0
  have mlb4 := blk_cell lb4 0
  rw [hb14] at l14 m14
  have hK4 := own_cell (own_upd (S := []) hK hu3 (by simp)) lb3 hu4 (by decide)
  have hV4 := own_cell (own_upd (S := []) hV hu3 (by simp)) lb3 hu4 (by decide)
  have HTC : Hid (Inv a w4 → SpAt w4 g M → Calls Tryz.prog fid (#[.agg #[.int .i64 1, .slice ak l.length ck, .slice av l.length cv, .slice none 0 0]] ++ caps) w4 fun e w' => e = .returned (.bool (t.F a l).2) ∧ Inv (t.F a l).1 w' ∧ SpAt w' g M ∧ WFr U B TP w4 w') := by
    show _ → _ → _
    exact fun i h => HTD.out a w4 l _ _ wA.heap.size i h HSH.out.ne hwt HSH.out.2.2.1 hK4 hV4 (fun k hk => Nat.lt_of_lt_of_le (HU.out k hk) HUA.out.size)
  have HI4 : Hid (Inv a w4) := Lib.hid (HIV2.out _ _ _ (HIV.out _ _ _ (HIV.out _ _ _ (HIV.out _ _ _ HI.out (HUA.out.mono (by simp))) hu2) (hu3.mono (by simp))) hu4)
  have HS4 : Hid (SpAt w4 g M) := by
    show SpAt _ _ _
    exact (h2.below hu3).turnedI (fun b hb => by simp at hb; subst hb; exact ⟨_, _, lb3⟩) hu4
  have HU4 : Hid (WFr (lb :: g.j.jb :: U) B TP w w4) := by
    show WFr _ _ _ _ _
    exact (((WFr.of (HUA.out) (by simp)).trans (WFr.of hu2 (by simp))).trans (WFr.of hu3 (by simp))).trans (WFr.of hu4 (by simp))
  have HLB4 := Lib.hid lb4
  clear hK hV hw3 hu3 c14 lb3 hw4 hu4 lb4 hne c144 hK4 hV4 h2 hu2 lbj hb14
  go_wp2_with fail
  refine (HTC.out HI4.out HS4.out).mono ?_
  rintro e w5 ⟨rfl, hi5, h5, hf5⟩
  have HI5 := Lib.hid hi5
  have H5 := Lib.hid h5
  have HF5 := Lib.hid hf5
  clear hi5 h5 hf5
  go_wp2_with fail
  go_ret2
  exact ⟨rfl, HI5.out, H5.out, HF5.out.blk HLB4.out hlU (.inl (by decide)), HU4.out.trans (HF5.out.mono (by intro k hk; simp [hk]))⟩

theorem DOwn.at {w : World} {B gd n c : Nat} {ds : List Nat} (h : DOwn w B (.slice (some ⟨gd, 0, none⟩) n c) ds) {i d : Nat} (hd : ds[i]? = some d) : w.cell? ⟨gd, i, none⟩ = some (.int .u32 (d : Int)) := by
  have hi := (List.getElem?_eq_some_iff.1 hd).1
  obtain ⟨_, _, e, _, hc⟩ := h.cell (by omega)
  cases e
  exact hc i d hd
/-- What tree.walk answers. -/
def WalkPost {α : Type} (t : Tells α) (g : Sg) (M : Nat → Option Sec) (lb : Nat) (U : List Nat) (B : Nat) (Inv : α → World → Prop) (from_ : Bs) (l : List Pair9) (n : Nat) (x : Int) (a : α) (w : World) (e : Ending) (w' : World) : Prop :=
  ∃ (la lv : List Pair9) (y : Int), l = la ++ lv ∧ (∀ p, p ∈ la → ltB p.1 from_ = true) ∧ e = .returned (.tuple #[.bool (t.F a lv).2, .int .i64 0]) ∧ Inv (t.F a lv).1 w' ∧ SpAt w' g M ∧ w'.heap[lb]? = some (.cells #[.int .i64 y] 3 (0, 0)) ∧ x - n ≤ y ∧ y ≤ x ∧ WFr (lb :: g.j.jb :: U) B TP w w'
set_option maxRecDepth 100000 in
set_option maxHeartbeats 8000000 in
theorem walk_inner {α : Type} {t : Tells α} {g : Sg} {M : Nat → Option Sec} {fid lb : Nat} {caps : Array Value} {U : List Nat} {B : Nat} {Inv : α → World → Prop}
    (hInv : ∀ a w w', Inv a w → Upd [g.j.jb] w w' → Inv a w') (hInv2 : ∀ a w w', Inv a w → Upd [lb] w w' → Inv a w') (hlU : lb ∉ U) {d : Nat} {S : List Nat} {from_ : Bs} (hfrom : from_.length = 32) {deep : Int}
    (ih : ∀ (w' : World) (kid : Nat) (lc : List Pair9) (Sc : List Nat) (x' : Int) (a' : α), SpAt w' g M → Shape (g.cur M) false d kid lc Sc → (∀ s, s ∈ Sc → s ∈ S) → (Sc.length : Int) ≤ x' → x' ≤ 100000 → w'.heap[lb]? = some (.cells #[.int .i64 x'] 3 (0, 0)) → Inv a' w' → (∀ k, k ∈ U → k < w'.heap.size) → t.wt a' + lc.length ≤ 1000 →
      Calls Tryz.prog 77 #[.pointer (some ⟨g.x.tb, 0, none⟩), .int .u32 (kid : Int), .agg (bts from_).toArray, .int .i64 (deep - 1), .pointer (some ⟨lb, 0, none⟩), .func (.func fid) #[] caps] w' (WalkPost t g M lb U B Inv from_ lc Sc.length x' a' w'))
    {w : World} (h : SpAt w g M) {root : Bool} {at_ : Nat} {l : List Pair9} (hs : Shape (g.cur M) root (d + 1) at_ l S) (hS : ∀ s, s ∈ S → 4 ≤ s ∧ s < g.h) (hd : 1 ≤ deep) (hd2 : deep ≤ 16) {x : Int} (hx : (S.length : Int) ≤ x) (hx2 : x ≤ 100000)
    (hlb : w.heap[lb]? = some (.cells #[.int .i64 x] 3 (0, 0))) (a : α) (hI : Inv a w) (hU : ∀ k, k ∈ U → k < w.heap.size) (hwt : t.wt a + l.length ≤ 1000) :
    Calls Tryz.prog 77 #[.pointer (some ⟨g.x.tb, 0, none⟩), .int .u32 (at_ : Int), arr from_, .int .i64 deep, .pointer (some ⟨lb, 0, none⟩), .func (.func fid) #[] caps] w (WalkPost t g M lb U B Inv from_ l S.length x a w) := by
  have hlow := hS at_ hs.mem.1
  have hlt4 := hs.mem.2
  obtain ⟨_, ks, ds, S', rfl, hok, hc, _, hp, hkids⟩ := hs
  obtain ⟨la0, l20, S10, S20, el, eS, hla0, hk0, hkk0⟩ := hkids.from (key := from_) hp
  obtain ⟨I, hI0⟩ : ∃ I, chK ks from_ = I := ⟨_, rfl⟩
  rw [hI0] at hk0 hkk0
  have hIl : I ≤ ks.length := by rw [← hI0]; exact chK_le _ _
  have hdl : ds.length = ks.length + 1 := hok.n
  have hdb : (deep == 0) = false := by rw [beq_eq_false_iff_ne]; omega
  have hdw : IntKind.i64.wrap (deep - 1) = deep - 1 := by rw [IntKind.wrap_i64]; omega
  have hxw : IntKind.i64.wrap (x - 1) = x - 1 := by rw [IntKind.wrap_i64]; simp only [List.length_cons] at hx; omega
  have hx0 : decide (x - 1 < 0) = false := decide_eq_false (by simp only [List.length_cons] at hx; omega)
  obtain ⟨wA, hwA⟩ : ∃ wA, wA = w.alloc (.cells (bts from_).toArray 35) := ⟨_, rfl⟩
  have huA : Upd [] w wA := by rw [hwA]; exact (Upd.refl _ _).alloc _
  obtain ⟨b8, hb8⟩ : ∃ b, b = w.heap.size := ⟨_, rfl⟩
  have c8A : wA.heap[b8]? = some (.cells (bts from_).toArray 35 (0, 0)) := by rw [hwA, hb8]; exact blk_alloc _
  have hA := h.below huA
  have hR := read_inner hA at_ hlow.2 hlt4 hok hc
  have HR := Lib.hid hR
  have HLB := Lib.hid ((huA.block _ (blk_lt hlb) (by simp)).trans hlb)
  have HC8 := Lib.hid c8A
  have HA := Lib.hid hA
  have HUA := Lib.hid huA
  have HW := Lib.hid hwA
  have HI := Lib.hid hI
  have HU := Lib.hid hU
  have HIV := Lib.hid hInv
  have HIV2 := Lib.hid hInv2
  have HIH := Lib.hid ih
  have HOK := Lib.hid hok
  have HK0 : Hid (l = la0 ++ l20 ∧ S' = S10 ++ S20 ∧ (∀ p, p ∈ la0 → ltB p.1 from_ = true) ∧ Kids (fun k l S => Shape (g.cur M) false d k l S) (ks.drop I) (ds.drop I) l20 S20 ∧ (∀ y, y ∈ ks.drop I → ltB from_ y = true)) := Lib.hid ⟨el, eS, hla0, hk0, hkk0⟩
  have HX : Hid ((S'.length : Int) + 1 ≤ x ∧ x ≤ 100000) := by show _ ∧ _; simp only [List.length_cons] at hx; exact ⟨by omega, hx2⟩
  have HI0 := Lib.hid hI0
  have HB8 := Lib.hid hb8
  clear h hS hlb hI hU hA hR huA hwA hInv hInv2 ih hok hc hkids el eS hla0 hk0 hkk0 hp hx c8A hI0 hx2 hb8
  unfold arr
  go_enter Tryz.func77, Tryz.ntmps77
  go_wp2_with fail
  have hwA := HW.out
  have hb8 := HB8.out
  rw [← hwA, ← hb8]
  clear hwA hb8
  refine HR.out.mono ?_
  rintro e w2 ⟨vk, vd, rfl, hK, hD, h2, hu2⟩
  obtain ⟨ak, ck, rfl⟩ := own_shape hK
  obtain ⟨gd, cd, ed, _⟩ := hD.cell (by omega)
  subst ed
  have HDL := Lib.hid hdl
  clear hdl
  obtain ⟨b14, hb14⟩ : ∃ b, b = w2.heap.size := ⟨_, rfl⟩
  obtain ⟨w3, hw3⟩ : ∃ w3, w3 = w2.alloc (.cells #[.int .i64 2, .slice ak ks.length ck, .slice none 0 0, .slice (some ⟨gd, 0, none⟩) ds.length cd] 145) := ⟨_, rfl⟩
  have st14 := store4_run w2 ak none (some ⟨gd, 0, none⟩) 2 ks.length ck 0 0 ds.length cd
  rw [← hw3] at st14
  have hu3 : Upd [] w2 w3 := by rw [hw3]; exact (Upd.refl _ _).alloc _
  have c14 : w3.heap[b14]? = some (.cells #[.int .i64 2, .slice ak ks.length ck, .slice none 0 0, .slice (some ⟨gd, 0, none⟩) ds.length cd] 145 (0, 0)) := by rw [hw3, hb14]; exact blk_alloc _
  have lbj : lb ∉ [g.j.jb] := by
    have := HA.out.jr.at_.kind HLB.out (by decide) (by decide) (by decide)
    simp only [List.mem_singleton]
    rintro rfl
    exact this (by simp [JG.all])
  have b8j : b8 ∉ [g.j.jb] := by
    have := HA.out.jr.at_.kind HC8.out (by decide) (by decide) (by decide)
    simp only [List.mem_singleton]
    rintro rfl
    exact this (by simp [JG.all])
  have lb2 := (hu2.block _ (blk_lt HLB.out) lbj).trans HLB.out
  have lb3 := (hu3.block _ (blk_lt lb2) (by simp)).trans lb2
  have c82 := (hu2.block _ (blk_lt HC8.out) b8j).trans HC8.out
  have c83 := (hu3.block _ (blk_lt c82) (by simp)).trans c82
  have mlb : w3.cell? ⟨lb, 0, none⟩ = some (.int .i64 x) := blk_cell lb3 0
  obtain ⟨w4, hw4⟩ : ∃ w4, w4 = w3.setCell ⟨lb, 0, none⟩ (.int .i64 (x - 1)) := ⟨_, rfl⟩
  have stl := store_c lb3 0 (v := .int .i64 (x - 1)) (by simp) rfl
  rw [← hw4] at stl
  have hu4 : Upd [lb] w3 w4 := by rw [hw4]; exact (Upd.refl _ _).set _ (.inl (by simp))
  have lb4 : w4.heap[lb]? = some (.cells #[.int .i64 (x - 1)] 3 (0, 0)) := by rw [hw4]; exact blk_set lb3 0 _
  have hne : b14 ≠ lb := by rintro rfl; rw [c14] at lb3; simp at lb3
  have hne8 : b8 ≠ lb := by rintro rfl; rw [c83] at lb3; simp at lb3
  have hjj := (h2.below hu3).jr.at_.kind c14 (by decide) (by decide) (by decide)
  have hjA := HA.out.jr.at_.lt
  have hN14 : b14 ∉ lb :: g.j.jb :: U := by
    intro q
    rcases List.mem_cons.1 q with q | q
    · exact hne q
    rcases List.mem_cons.1 q with q | q
    · exact hjj (by rw [q]; simp [JG.all])
    · have := HU.out _ q; have := hu2.size; have := HUA.out.size; omega
  have hN8 : b8 ∉ lb :: g.j.jb :: U := by
    intro q
    rcases List.mem_cons.1 q with q | q
    · exact hne8 q
    rcases List.mem_cons.1 q with q | q
    · exact b8j (by simp [q])
    · have := HU.out _ q; have := HB8.out; omega
  have hNU : ∀ k, k ∈ lb :: g.j.jb :: U → k < wA.heap.size := by
    intro k q
    rcases List.mem_cons.1 q with q | q
    · rw [q]; exact blk_lt HLB.out
    rcases List.mem_cons.1 q with q | q
    · rw [q]; exact hjA.1
    · have := HU.out _ q; have := HUA.out.size; omega
  have HN14 := Lib.hid hN14
  have HN8 := Lib.hid hN8
  have HNU := Lib.hid hNU
  clear hjj hjA hN14 hN8 hNU
  have c144 := (hu4.block _ (blk_lt c14) (by simpa using hne)).trans c14
  have c84 := (hu4.block _ (blk_lt c83) (by simpa using hne8)).trans c83
  have l14 := run_cells_blk (n := 4) (cs := [.int .i64 2, .slice ak ks.length ck, .slice none 0 0, .slice (some ⟨gd, 0, none⟩) ds.length cd]) c144 rfl
  have l8 := run_cells_blk (n := 32) c84 (by rw [bts_length, hfrom])
  have m14 := blk_cell c144 0
  have mlb4 := blk_cell lb4 0
  rw [hb14] at l14 m14
  have hK4 := own_cell (own_upd (S := []) hK hu3 (by simp)) lb3 hu4 (by decide)
  have hD4 := own_cell (own_upd (S := []) hD hu3 (by simp)) lb3 hu4 (by decide)
  have hC := child_spec (w := w4) (vv := .slice none 0 0) (vd := .slice (some ⟨gd, 0, none⟩) ds.length cd) 2 (KOwn.rd hK4 HOK.out.k) HOK.out.k (by have := HOK.out.most; omega) from_ hfrom
  rw [HI0.out] at hC
  have HC := Lib.hid hC
  have HD4 := Lib.hid hD4
  have HI4 : Hid (Inv a w4) := Lib.hid (HIV2.out _ _ _ (HIV.out _ _ _ (HIV.out _ _ _ (HIV.out _ _ _ HI.out (HUA.out.mono (by simp))) hu2) (hu3.mono (by simp))) hu4)
  have HS4 : Hid (SpAt w4 g M) := by
    show SpAt _ _ _
    exact (h2.below hu3).turnedI (fun b hb => by simp at hb; subst hb; exact ⟨_, _, lb3⟩) hu4
  have HU4 : Hid (WFr (lb :: g.j.jb :: U) B TP w w4) := by
    show WFr _ _ _ _ _
    exact (((WFr.of (HUA.out) (by simp)).trans (WFr.of hu2 (by simp))).trans (WFr.of hu3 (by simp))).trans (WFr.of hu4 (by simp))
  have HLB4 := Lib.hid lb4
  have HC14 := Lib.hid c144
  have HC84 := Lib.hid c84
  have HB14 := Lib.hid hb14
  clear hK hD hw3 hu3 c14 lb3 hw4 hu4 lb4 hne c144 hK4 hD4 h2 hu2 lbj hb14 hC c83 c82 lb2 c84 b8j hne8
  unfold arr at HC
  go_wp2_with fail
  refine HC.out.mono ?_
  rintro e w5 ⟨rfl, hu5⟩
  have hb14 := HB14.out
  rw [← hb14]
  clear hb14
  have HU5 := Lib.hid hu5
  clear hu5
  go_wp2_with fail
  have hwA8 : w.heap.size ≤ wA.heap.size := HUA.out.size
  go_loopw [16] (fun i wr => ∃ (q : Nat) (la ldone l2 : List Pair9) (S2 : List Nat) (y : Int), q ≤ ds.length ∧ i = .int .i64 (q : Int) ∧ l = la ++ (ldone ++ l2) ∧ (∀ p, p ∈ la → ltB p.1 from_ = true) ∧ (t.F a ldone).2 = true ∧ Inv (t.F a ldone).1 wr ∧ SpAt wr g M ∧
      (q < ds.length ∧ Kids (fun k l S => Shape (g.cur M) false d k l S) (ks.drop q) (ds.drop q) l2 S2 ∧ (∀ z, z ∈ ks.drop q → ltB from_ z = true) ∧ (∀ s, s ∈ S2 → s ∈ S') ∨ q = ds.length ∧ l2 = [] ∧ S2 = []) ∧ (ldone = [] ∨ ∀ p, p ∈ l2 → ltB from_ p.1 = true) ∧
      wr.heap[lb]? = some (.cells #[.int .i64 y] 3 (0, 0)) ∧ (S2.length : Int) ≤ y ∧ x - (S'.length + 1) ≤ y - S2.length ∧ y ≤ x ∧
      wr.heap[b14]? = some (.cells #[.int .i64 2, .slice ak ks.length ck, .slice none 0 0, .slice (some ⟨gd, 0, none⟩) ds.length cd] 145 (0, 0)) ∧ wr.heap[b8]? = some (.cells (bts from_).toArray 35 (0, 0)) ∧ DOwn wr wA.heap.size (.slice (some ⟨gd, 0, none⟩) ds.length cd) ds ∧ WFr (lb :: g.j.jb :: U) B TP w wr ∧ w5.heap.size ≤ wr.heap.size) (fun i _ => ds.length - (intOf i).toNat)
  case atStart =>
    obtain ⟨e1, e2, e3, e4, e5⟩ := HK0.out
    have hd := HDL.out
    refine ⟨I, la0, [], l20, S20, x - 1, by omega, rfl, by simpa using e1, e3, by rw [t.nil], ?_, HS4.out.below HU5.out, .inl ⟨by omega, e4, e5, fun s hs => by rw [e2]; simp [hs]⟩, .inl rfl, (HU5.out.block _ (blk_lt HLB4.out) (by simp)).trans HLB4.out, ?_, ?_, by omega, (HU5.out.block _ (blk_lt HC14.out) (by simp)).trans HC14.out, (HU5.out.block _ (blk_lt HC84.out) (by simp)).trans HC84.out, own_upd (S := []) HD4.out HU5.out (by simp), HU4.out.trans (WFr.of HU5.out (by simp)), Nat.le_refl _⟩
    · rw [t.nil]; exact HIV.out _ _ _ HI4.out (HU5.out.mono (by simp))
    · have := HX.out.1; rw [e2, List.length_append] at this; omega
    · have := HX.out.1; rw [e2, List.length_append] at this ⊢; omega
  case round =>
    obtain ⟨q, la, ldone, l2, S2, y, hq, rfl, el, hla, hgo, hinv, hsp, hkd, hfl, hlb, hy1, hy2, hy3, c14, c8, hD, hfr, hsz⟩ := hrel
    have m3 := blk_cell c14 3
    rcases hkd with ⟨hlt, hk, hkk, hsub⟩ | ⟨rfl, rfl, rfl⟩
    · obtain ⟨kid, l1, l2', S1, S2', hk0, hsh, rfl, rfl, hgt, hrest⟩ := hk.step hkk
      rw [List.getElem?_drop, Nat.add_zero] at hk0
      obtain ⟨_, _, e, _, hcell⟩ := hD.cell (by omega)
      cases e
      have kc := hcell q kid hk0
      have r8 : wr.rangeAt b8 0 (bts from_) := fun j u hj => by rw [blk_cell c8, ← hj]; simp
      have hqb : decide ((q : Int) < (ds.length : Int)) = true := decide_eq_true (by omega)
      have hqi : (q : Int) < (ds.length : Int) := by omega
      have hq0 : (0 : Int) ≤ (q : Int) := by omega
      have hud := Tryz.underlying35
      have hi35 : (Tryz.prog.info? 35).map (·.size) = some (bts from_).length := by rw [bts_length, hfrom]; exact infoID
      have HWK : Hid (Calls Tryz.prog 77 #[.pointer (some ⟨g.x.tb, 0, none⟩), .int .u32 (kid : Int), .agg (bts from_).toArray, .int .i64 (deep - 1), .pointer (some ⟨lb, 0, none⟩), .func (.func fid) #[] caps] wr.drew (WalkPost t g M lb U B Inv from_ l1 S1.length y (t.F a ldone).1 wr.drew)) := by
        refine HIH.out wr.drew kid l1 S1 y _ (hsp.below (Upd.refl [] _).drew) hsh (fun s hs => List.mem_cons_of_mem _ (hsub s (by simp [hs]))) ?_ ?_ hlb ?_ ?_ ?_
        · rw [List.length_append] at hy1; omega
        · have := HX.out.2; omega
        · exact HIV.out _ _ _ hinv ((Upd.refl _ _).drew)
        · exact fun k hk => Nat.lt_of_lt_of_le (HU.out k hk) hfr.size
        · have h1 := t.grow a ldone
          have h2 : l.length = la.length + (ldone.length + (l1.length + l2'.length)) := by rw [el]; simp
          omega
      have HEL := Lib.hid el
      have HKD0 := Lib.hid hk0
      have HLA := Lib.hid hla
      have HGO := Lib.hid hgo
      have HFL := Lib.hid hfl
      have HGT := Lib.hid hgt
      have HRS := Lib.hid hrest
      have HKK := Lib.hid hkk
      have HSB := Lib.hid hsub
      have HY : Hid (((S1 ++ S2').length : Int) ≤ y ∧ x - (S'.length + 1) ≤ y - (S1 ++ S2').length ∧ y ≤ x) := Lib.hid ⟨hy1, hy2, hy3⟩
      have HC14r := Lib.hid c14
      have HC8r := Lib.hid c8
      have HDr := Lib.hid hD
      have HFr := Lib.hid hfr
      have HSZ := Lib.hid hsz
      clear el hla hgo hinv hsp hfl hlb hy1 hy2 hy3 c14 c8 hD hfr hk hkk hsub hsh hgt hrest hk0 hcell hsz
      go_wp2_with fail
      go_region_held3 (fun w' => w'.cell? ⟨b14, 3, none⟩ = some (.slice (some ⟨gd, 0, none⟩) ds.length cd) ∧ w'.cell? ⟨gd, q, none⟩ = some (.int .u32 (kid : Int)) ∧ w'.rangeAt b8 0 (bts from_)) (refine ⟨?_, ?_, ?_⟩ <;> first | assumption | (exact cell_upd (by assumption) ((Upd.refl [] _).drew) (by simp)) | (exact range_upd (by assumption) ((Upd.refl [] _).drew) (by simp)))
        (first | (go_at_call 77; (with_reducible refine HWK.out.mono ?_); rintro e w6 ⟨la1, lv1, y1, el1, hla1, rfl, hi6, h6, hlb6, hy61, hy62, hf6⟩; have c146 := hf6.blk (HC14r.out : wr.drew.heap[b14]? = _) HN14.out (.inl (by decide)); have c86 := hf6.blk (HC8r.out : wr.drew.heap[b8]? = _) HN8.out (.inl (by decide)); have hD6 := hf6.own (own_upd (S := []) HDr.out (Upd.refl [] _).drew (by simp)) (by decide) HNU.out; have m36 := blk_cell c146 3; have kc6 := DOwn.at hD6 HKD0.out; have r86 : w6.rangeAt b8 0 (bts from_) := (fun j u hj => by rw [blk_cell c86, ← hj]; simp)))
      have hgoF : t.F a (ldone ++ lv1) = t.F (t.F a ldone).1 lv1 := t.go _ _ _ HGO.out
      rw [← hgoF] at hi6 ⊢
      have hcomm : ldone ++ la1 = la1 ++ ldone := by
        rcases HFL.out with rfl | h0
        · simp
        · cases la1 with
          | nil => simp
          | cons p la1 =>
            have h1 := hla1 p (by simp)
            have h2 := h0 p (by rw [el1]; simp)
            rw [ltB_asymm h1] at h2
            simp at h2
      have hl : l = (la ++ la1) ++ ((ldone ++ lv1) ++ l2') := by
        rw [HEL.out, el1]
        have : ldone ++ ((la1 ++ lv1) ++ l2') = (ldone ++ la1) ++ (lv1 ++ l2') := by simp
        rw [this, hcomm]
        simp
      have hla : ∀ p, p ∈ la ++ la1 → ltB p.1 from_ = true := fun p hp => by
        rcases List.mem_append.1 hp with x | x
        · exact HLA.out p x
        · exact hla1 p x
      have hfr6 : WFr (lb :: g.j.jb :: U) B TP w w6 := (HFr.out.trans (WFr.of ((Upd.refl [] _).drew) (by simp))).trans hf6
      have HL := Lib.hid hl
      have HLA6 := Lib.hid hla
      have HI6 := Lib.hid hi6
      have H6 := Lib.hid h6
      have HLB6 := Lib.hid hlb6
      have HF6 := Lib.hid hfr6
      have HC146 := Lib.hid c146
      have HC86 := Lib.hid c86
      have HD6 := Lib.hid hD6
      have HY6 : Hid (y - S1.length ≤ y1 ∧ y1 ≤ y) := Lib.hid ⟨hy61, hy62⟩
      have HSZ6 := Lib.hid hf6.size
      clear hgoF hcomm hl hla hi6 h6 hlb6 hfr6 hf6 c146 c86 hD6 hy61 hy62 el1 hla1 m36 kc6 r86
      have hd14 : ds.length ≤ 14 := by have := HDL.out; have := HOK.out.most; omega
      cases hb : (t.F a (ldone ++ lv1)).2
      · as_aux_lemma =>
          go_wp2_with fail
          go_ret2
          have hst := t.stop a (ldone ++ lv1) l2' hb
          have hyy := HY.out
          rw [List.length_append] at hyy
          have hy6 := HY6.out
          exact ⟨la ++ la1, (ldone ++ lv1) ++ l2', y1, HL.out, HLA6.out, by rw [hst]; rfl, by rw [hst]; exact HI6.out, H6.out, HLB6.out, by omega, by omega, HF6.out⟩
      · as_aux_lemma =>
          have hrs := HRS.out
          have HLT := Lib.hid hlt
          go_wp2_with fail
          have hyy := HY.out
          rw [List.length_append] at hyy
          have hy6 := HY6.out
          have hlt := HLT.out
          refine ⟨⟨q + 1, la ++ la1, ldone ++ lv1, l2', S2', y1, by omega, by go_num, HL.out, HLA6.out, hb, HI6.out, H6.out, ?_, .inr HGT.out, HLB6.out, by omega, by omega, by omega, HC146.out, HC86.out, HD6.out, HF6.out, Nat.le_trans HSZ.out (Nat.le_trans (Nat.le_refl _) HSZ6.out)⟩, by simp [intOf]; omega⟩
          have hkl := HOK.out.n
          rcases hrs with ⟨h1, h2, hS2⟩ | ⟨h1, h2⟩
          · rw [List.length_drop] at h1
            exact .inr ⟨by omega, h2, hS2⟩
          · rw [List.length_drop] at h1
            rw [List.drop_drop, List.drop_drop] at h2
            exact .inl ⟨by omega, h2, fun z hz => HKK.out z (by
              have : z ∈ (ks.drop q).drop 1 := by rw [List.drop_drop]; exact hz
              exact List.mem_of_mem_drop this), fun s hs => HSB.out s (by simp [hs])⟩
    · as_aux_lemma =>
        have hqb : decide ((ds.length : Int) < (ds.length : Int)) = false := decide_eq_false (by omega)
        have HEL := Lib.hid el
        have HLA := Lib.hid hla
        have HGO := Lib.hid hgo
        have HIr := Lib.hid hinv
        have HSr := Lib.hid hsp
        have HLBr := Lib.hid hlb
        have HFr := Lib.hid hfr
        have HY : Hid (x - (S'.length + 1) ≤ y - (([] : List Nat).length : Int) ∧ y ≤ x) := Lib.hid ⟨hy2, hy3⟩
        clear el hla hgo hinv hsp hfl hlb hy1 hy2 hy3 c14 c8 hD hfr hsz
        go_wp2_with fail
        go_ret2
        have hyy := HY.out
        simp only [List.length_nil] at hyy
        exact ⟨la, ldone, y, by rw [HEL.out]; simp, HLA.out, by rw [HGO.out]; rfl, HIr.out, HSr.out, HLBr.out, by omega, by omega, HFr.out⟩

/-- tree.walk. -/
theorem walk_spec {α : Type} {t : Tells α} {g : Sg} {M : Nat → Option Sec} {fid lb : Nat} {caps : Array Value} {U : List Nat} {B : Nat} {Inv : α → World → Prop}
    (hTold : Told t g M fid caps U B Inv) (hInv : ∀ a w w', Inv a w → Upd [g.j.jb] w w' → Inv a w') (hInv2 : ∀ a w w', Inv a w → Upd [lb] w w' → Inv a w') (hent : ∀ args w, (callFunc fid args).run Tryz.prog w = .ok (.enter fid args) w) (hlU : lb ∉ U) {from_ : Bs} (hfrom : from_.length = 32) :
    ∀ (d : Nat) {w : World} (_ : SpAt w g M) {root : Bool} {at_ : Nat} {l : List Pair9} {S : List Nat} (_ : Shape (g.cur M) root d at_ l S) (_ : ∀ s, s ∈ S → 4 ≤ s ∧ s < g.h) {deep : Int} (_ : (d : Int) + 1 ≤ deep) (_ : deep ≤ 16) {x : Int} (_ : (S.length : Int) ≤ x) (_ : x ≤ 100000)
      (_ : w.heap[lb]? = some (.cells #[.int .i64 x] 3 (0, 0))) (a : α) (_ : Inv a w) (_ : ∀ k, k ∈ U → k < w.heap.size) (_ : t.wt a + l.length ≤ 1000),
      Calls Tryz.prog 77 #[.pointer (some ⟨g.x.tb, 0, none⟩), .int .u32 (at_ : Int), arr from_, .int .i64 deep, .pointer (some ⟨lb, 0, none⟩), .func (.func fid) #[] caps] w (WalkPost t g M lb U B Inv from_ l S.length x a w)
  | 0, w, h, root, at_, l, S, hs, hS, deep, hd, hd2, x, hx, hx2, hlb, a, hI, hU, hwt => by
    refine (walk_leaf hTold hInv hInv2 h hs hS from_ deep (by omega) hx hx2 hlb a hI hU hlU hent hwt).mono ?_
    rintro e w' ⟨e1, e2, e3, e4, e5⟩
    have hS1 : S.length = 1 := by rw [hs.1]; rfl
    exact ⟨[], l, x - 1, rfl, by simp, e1, e2, e3, e4, by omega, by omega, e5⟩
  | d + 1, w, h, root, at_, l, S, hs, hS, deep, hd, hd2, x, hx, hx2, hlb, a, hI, hU, hwt => by
    refine walk_inner hInv hInv2 hlU hfrom (fun w' kid lc Sc x' a' h' hs' hsub hx' hx2' hlb' hI' hU' hwt' => ?_) h hs hS (by omega) hd2 hx hx2 hlb a hI hU hwt
    exact walk_spec hTold hInv hInv2 hent hlU hfrom d h' hs' (fun s q => hS s (hsub s q)) (by omega) (by omega) hx' hx2' hlb' a' hI' hU' hwt'

end Go.Proofs.YtceakcejchbbjaaGreat
end
