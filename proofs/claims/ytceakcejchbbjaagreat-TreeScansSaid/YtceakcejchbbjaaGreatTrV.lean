/-
  Rows of one's own: their cells; a clone of a part.
-/
import Derived.Test.YtceakcejchbbjaaGreatTrQ
import Derived.Test.YtceakcejchbbjaaGreatTrU
import Derived.Test.YtceakcejchbbjaaGreatOrdX
namespace Go.Proofs.YtceakcejchbbjaaGreat
open Go.RowKit Go.MapKept Go.ChangeMaps

theorem own_cells {w : World} {B n sz : Nat} {e : TypeId} {v : Value} {xs : List Value} (h : w.ownsRow B e sz v n xs) (hn : 0 < n) : ∃ g cap, v = .slice (some ⟨g, 0, none⟩) n cap ∧ B ≤ g ∧ n ≤ cap ∧ (∀ (j : Nat) (u : Value), xs[j]? = some u → w.cell? ⟨g, j, none⟩ = some u) ∧ (∃ c, w.heap[g]? = some (.cells c e (0, 0))) := by
  rcases h.2 with ⟨_, h0⟩ | ⟨g, cap, cur, rfl, hb, hg, hc, hm, hs, ht⟩
  · omega
  · refine ⟨g, cap, rfl, hb, hc, fun j u hj => ?_, _, hg⟩
    rw [← ht, List.getElem?_take] at hj
    split at hj
    · rw [blk_cell hg, ← Array.getElem?_toList]; exact hj
    · simp at hj
theorem own_base {w : World} {B B' n sz : Nat} {e : TypeId} {v : Value} {xs : List Value} (h : w.ownsRow B e sz v n xs) (hb : B' ≤ B) : w.ownsRow B' e sz v n xs := by
  refine ⟨h.1, h.2.imp id ?_⟩
  rintro ⟨g, cap, cur, e1, e2, e3⟩
  exact ⟨g, cap, cur, e1, Nat.le_trans hb e2, e3⟩
theorem cloK_call {w : World} {B B' n gk ck : Nat} {K : List Bs} (h : KOwn w B (.slice (some ⟨gk, 0, none⟩) n ck) K) (hl : ∀ x, x ∈ K → x.length = 32) (i m o cap : Nat) (hm : i + m = K.length) (ho : o = i * 32) (h0 : 0 < m) (hn : n ≤ 100) (hB : B' ≤ w.heap.size) :
    Calls Tryz.prog 125 #[.slice (some ⟨gk, o, none⟩) m cap] w fun e w' => ∃ a c, e = .returned (.slice a m c) ∧ KOwn w' B' (.slice a m c) (K.drop i) ∧ Upd [] w w' := by
  subst ho
  obtain ⟨g, cap', e, hb, hc, hcell, _⟩ := own_cells h (by omega)
  injection e with e1 e2 e3
  injection e1 with e1; injection e1 with e1; subst e1
  have hxl : ((K.drop i).map bts).flatten.length = m * 32 := by rw [flat_len (map_len (n := 32) (fun x q => hl x (List.mem_of_mem_drop q))), List.length_map, List.length_drop]; congr 1; omega
  refine (cloK (b := gk) (off := i * 32) (n := m) (cap := cap) (xs := ((K.drop i).map bts).flatten) h0 (by omega) hxl (flat_one _) (fun j u hj => hcell (i * 32 + j) u ?_)).mono fun e w' hp => ?_
  · rw [List.map_drop, flat_drop i (map_len hl), List.getElem?_drop] at hj; exact hj
  · obtain ⟨a, c, e1, e2, e3⟩ := hp
    refine ⟨a, c, e1, ?_, e3⟩
    unfold KOwn
    rw [List.length_drop, show K.length - i = m by omega]
    exact own_base e2 hB
theorem cloV_call {w : World} {B B' n gk ck : Nat} {K : List Bs} (h : VOwn w B (.slice (some ⟨gk, 0, none⟩) n ck) K) (hl : ∀ x, x ∈ K → x.length = 16) (i m o cap : Nat) (hm : i + m = K.length) (ho : o = i * 16) (h0 : 0 < m) (hn : n ≤ 100) (hB : B' ≤ w.heap.size) :
    Calls Tryz.prog 126 #[.slice (some ⟨gk, o, none⟩) m cap] w fun e w' => ∃ a c, e = .returned (.slice a m c) ∧ VOwn w' B' (.slice a m c) (K.drop i) ∧ Upd [] w w' := by
  subst ho
  obtain ⟨g, cap', e, hb, hc, hcell, _⟩ := own_cells h (by omega)
  injection e with e1 e2 e3
  injection e1 with e1; injection e1 with e1; subst e1
  have hxl : ((K.drop i).map bts).flatten.length = m * 16 := by rw [flat_len (map_len (n := 16) (fun x q => hl x (List.mem_of_mem_drop q))), List.length_map, List.length_drop]; congr 1; omega
  refine (cloV (b := gk) (off := i * 16) (n := m) (cap := cap) (xs := ((K.drop i).map bts).flatten) h0 (by omega) hxl (flat_one _) (fun j u hj => hcell (i * 16 + j) u ?_)).mono fun e w' hp => ?_
  · rw [List.map_drop, flat_drop i (map_len hl), List.getElem?_drop] at hj; exact hj
  · obtain ⟨a, c, e1, e2, e3⟩ := hp
    refine ⟨a, c, e1, ?_, e3⟩
    unfold VOwn
    rw [List.length_drop, show K.length - i = m by omega]
    exact own_base e2 hB
theorem cloD_call {w : World} {B B' n gk ck : Nat} {D : List Nat} (h : DOwn w B (.slice (some ⟨gk, 0, none⟩) n ck) D) (i m cap : Nat) (hm : i + m = D.length) (h0 : 0 < m) (hn : n ≤ 100) (hB : B' ≤ w.heap.size) :
    Calls Tryz.prog 129 #[.slice (some ⟨gk, i, none⟩) m cap] w fun e w' => ∃ a c, e = .returned (.slice a m c) ∧ DOwn w' B' (.slice a m c) (D.drop i) ∧ Upd [] w w' := by
  obtain ⟨g, cap', e, hb, hc, hcell, _⟩ := own_cells h (by omega)
  injection e with e1 e2 e3
  injection e1 with e1; injection e1 with e1; subst e1
  refine (cloD (b := gk) (off := i) (n := m) (cap := cap) (xs := (D.drop i).map fun d : Nat => Value.int .u32 (d : Int)) h0 (by omega) (by rw [List.length_map, List.length_drop]; omega) (by intro u q; obtain ⟨d, _, rfl⟩ := List.mem_map.1 q; rfl) (fun j u hj => hcell (i + j) u ?_)).mono fun e w' hp => ?_
  · rw [List.map_drop, List.getElem?_drop] at hj; exact hj
  · obtain ⟨a, c, e1, e2, e3⟩ := hp
    refine ⟨a, c, e1, ?_, e3⟩
    unfold DOwn
    rw [List.length_drop, show D.length - i = m by omega]
    exact own_base e2 hB

/-- What stands of a node that is to be parted: its rows, all else as it was. -/
structure MidW (g : Sg) (M : Nat → Option Sec) (wA : World) (b10 b12 : Nat) (X : Array Value) (k : Value) (K : List Bs) (R : World → Prop) (w : World) : Prop where
  c12 : w.heap[b12]? = some (.cells X 145 (0, 0))
  k : KOwn w wA.heap.size k K
  r : R w
  sp : SpAt w g M
  upd : Upd g.S wA w
  c10 : w.heap[b10]? = some (.cells (splC none).toArray 149 (0, 0))
theorem MidW.below {g : Sg} {M : Nat → Option Sec} {wA : World} {b10 b12 : Nat} {X : Array Value} {k : Value} {K : List Bs} {R : World → Prop} {w w' : World} (h : MidW g M wA b10 b12 X k K R w) (hR : ∀ {w w'}, R w → Upd [] w w' → R w') (hu : Upd [] w w') : MidW g M wA b10 b12 X k K R w' :=
  ⟨(hu.block _ (blk_lt h.c12) (by simp)).trans h.c12, own_upd (S := []) h.k hu (by simp), hR h.r hu, h.sp.below hu, h.upd.trans (hu.mono (by simp)), (hu.block _ (blk_lt h.c10) (by simp)).trans h.c10⟩
theorem VOwn.below {w w' : World} {B : Nat} {v : Value} {V : List Bs} (h : VOwn w B v V) (hu : Upd [] w w') : VOwn w' B v V := own_upd (S := []) h hu (by simp)
theorem DOwn.below {w w' : World} {B : Nat} {v : Value} {V : List Nat} (h : DOwn w B v V) (hu : Upd [] w w') : DOwn w' B v V := own_upd (S := []) h hu (by simp)
theorem KOwn.below {w w' : World} {B : Nat} {v : Value} {V : List Bs} (h : KOwn w B v V) (hu : Upd [] w w') : KOwn w' B v V := own_upd (S := []) h hu (by simp)

/-- It lasts when a node is written. -/
def NodeKeeps (R : World → Prop) : Prop := ∀ (w w' : World) (b : Nat) (c : Array Value), R w → w.heap[b]? = some (.cells c 145 (0, 0)) → Upd [b] w w' → R w'
theorem VOwn.node {B : Nat} {v : Value} {V : List Bs} : NodeKeeps (fun w => VOwn w B v V) := fun w w' b c h hb hu => own_upd (S := [b]) h hu (fun k c' hk _ e => by simp at hk; subst hk; rw [hb] at e; simp at e)
theorem DOwn.node {B : Nat} {v : Value} {V : List Nat} : NodeKeeps (fun w => DOwn w B v V) := fun w w' b c h hb hu => own_upd (S := [b]) h hu (fun k c' hk _ e => by simp at hk; subst hk; rw [hb] at e; simp at e)
theorem KOwn.node {B : Nat} {v : Value} {V : List Bs} : NodeKeeps (fun w => KOwn w B v V) := fun w w' b c h hb hu => own_upd (S := [b]) h hu (fun k c' hk _ e => by simp at hk; subst hk; rw [hb] at e; simp at e)
theorem MidW.node {g : Sg} {M : Nat → Option Sec} {wA : World} {b10 b12 : Nat} {X : Array Value} {k : Value} {K : List Bs} {R : World → Prop} {w w' : World} (h : MidW g M wA b10 b12 X k K R w) (hR : NodeKeeps R) {b : Nat} {c : Array Value} (hb : w.heap[b]? = some (.cells c 145 (0, 0))) (hne : b12 ≠ b) (hB : wA.heap.size ≤ b) (hu : Upd [b] w w') : MidW g M wA b10 b12 X k K R w' := by
  have h10 : b10 ≠ b := by
    rintro rfl
    have := h.c10
    rw [hb] at this; simp at this
  exact ⟨(hu.block _ (blk_lt h.c12) (by simpa using hne)).trans h.c12, KOwn.node _ _ _ _ h.k hb hu, hR _ _ _ _ h.r hb hu, h.sp.turned9 (fun x hx => by simp at hx; subst hx; exact ⟨_, _, _, hb, .inr (.inl rfl)⟩) hu, h.upd.late hu (fun x hx => .inr (by simp at hx; subst hx; exact hB)), (hu.block _ (blk_lt h.c10) (by simpa using h10)).trans h.c10⟩
/-- A node that is to be parted, and the new one behind it. -/
def MidY (g : Sg) (M : Nat → Option Sec) (wA : World) (b10 b12 : Nat) (X : Array Value) (k : Value) (K : List Bs) (R : World → Prop) (Y : Option Addr → Nat → Option Addr → Nat → List Value) (n2 : Nat) (K2 : List Bs) (R2 : Option Addr → Nat → World → Prop) (s16 : Value) (w : World) : Prop :=
  ∃ b16 a4 c4 a5 c5, s16 = .pointer (some ⟨b16, 0, none⟩) ∧ b12 < b16 ∧ wA.heap.size ≤ b16 ∧ w.heap[b16]? = some (.cells (Y a4 c4 a5 c5).toArray 145 (0, 0)) ∧ KOwn w wA.heap.size (.slice a4 n2 c4) K2 ∧ R2 a5 c5 w ∧ MidW g M wA b10 b12 X k K R w
section
variable {g : Sg} {M : Nat → Option Sec} {wA : World} {b10 b12 : Nat} {X : Array Value} {k : Value} {K : List Bs} {R : World → Prop} {Y : Option Addr → Nat → Option Addr → Nat → List Value} {n2 : Nat} {K2 : List Bs} {R2 : Option Addr → Nat → World → Prop} {w : World} {a4 a5 : Option Addr} {c4 c5 : Nat}
theorem midY_row (hM : MidW g M wA b10 b12 X k K R w) (hk4 : KOwn w wA.heap.size (.slice a4 n2 c4) K2) (hk5 : R2 a5 c5 w) (hR : NodeKeeps R) (hR2 : NodeKeeps (R2 a5 c5)) {b16 : Nat} {Z : Array Value} (h16 : w.heap[b16]? = some (.cells Z 145 (0, 0))) (hlt : b12 < b16) (hB : wA.heap.size ≤ b16) : MidY g M wA b10 b12 X k K R Y n2 K2 R2 (.pointer (some ⟨b16, 0, none⟩)) (w.setRow b16 (Y a4 c4 a5 c5).toArray) := by
  have hu : Upd [b16] w (w.setRow b16 (Y a4 c4 a5 c5).toArray) := upd_row (Upd.refl _ _) _ (.inl (by simp))
  exact ⟨b16, a4, c4, a5, c5, rfl, hlt, hB, setRow_heap _ _ _ _ _ _ h16, KOwn.node _ _ _ _ hk4 h16 hu, hR2 _ _ _ _ hk5 h16 hu, hM.node hR h16 (by omega) hB hu⟩
theorem midY_new (hM : MidW g M wA b10 b12 X k K R w) (hk4 : KOwn w wA.heap.size (.slice a4 n2 c4) K2) (hk5 : R2 a5 c5 w) (hR : ∀ {w w'}, R w → Upd [] w w' → R w') (hR2 : ∀ {w w'}, R2 a5 c5 w → Upd [] w w' → R2 a5 c5 w') : MidY g M wA b10 b12 X k K R Y n2 K2 R2 (.pointer (some ⟨w.heap.size, 0, none⟩)) (w.alloc (.cells (Y a4 c4 a5 c5).toArray 145)) := by
  have hu : Upd [] w (w.alloc (.cells (Y a4 c4 a5 c5).toArray 145)) := (Upd.refl _ _).alloc _
  exact ⟨w.heap.size, a4, c4, a5, c5, rfl, blk_lt hM.c12, hM.upd.size, blk_alloc _, hk4.below hu, hR2 hk5 hu, hM.below hR hu⟩
end

theorem mok_put {M : Nat → Option Sec} {h a : Nat} {x : Sec} (ho : MOk M h) (ha : a < h) (hx : x.length = 512) : MOk (putS M a x) h := by
  intro i s e
  unfold putS at e
  split at e
  · next q => cases e; exact ⟨by omega, hx⟩
  · exact ho i s e
theorem mok_tak {w : World} {g : Sg} {M : Nat → Option Sec} (h : SpAt w g M) (s : Nat) (h1 : 1 < g.h) : MOk (takM g M s) g.h := by
  intro i x e
  unfold takM put1 at e
  split at e
  · next q => cases e; exact ⟨by omega, by rw [setR_length, fixB_length]; exact h.cur_len 1⟩
  · exact h.ok i x e
theorem RRd.take {w : World} {ao : Option Addr} {n c sz : Nat} {es : List (List Value)} (h : RRd w (.slice ao n c) sz es) {i : Nat} (hi : i ≤ es.length) : RRd w (.slice ao i c) sz (es.take i) := by
  obtain ⟨ao', cap, e, hc, hh⟩ := h
  injection e with e1 e2 e3
  subst e1 e3
  refine ⟨ao, c, by rw [List.length_take, Nat.min_eq_left hi], by rw [List.length_take]; omega, fun hp => ?_⟩
  rw [List.length_take] at hp
  obtain ⟨b, off, e, hr⟩ := hh (by omega)
  refine ⟨b, off, e, fun j x hj => hr j x ?_⟩
  rw [List.getElem?_take] at hj
  split at hj
  · exact hj
  · simp at hj
theorem KRd.take {w : World} {ao : Option Addr} {n c : Nat} {ds : List Nat} (h : KRd w (.slice ao n c) ds) {i : Nat} (hi : i ≤ ds.length) : KRd w (.slice ao i c) (ds.take i) := by
  obtain ⟨ao', cap, e, hc, hh⟩ := h
  injection e with e1 e2 e3
  subst e1 e3
  refine ⟨ao, c, by rw [List.length_take, Nat.min_eq_left hi], by rw [List.length_take]; omega, fun hp => ?_⟩
  rw [List.length_take] at hp
  obtain ⟨b, off, e, hr⟩ := hh (by omega)
  refine ⟨b, off, e, fun j x hj => hr j x ?_⟩
  rw [List.getElem?_take] at hj
  split at hj
  · exact hj
  · simp at hj

end Go.Proofs.YtceakcejchbbjaaGreat
