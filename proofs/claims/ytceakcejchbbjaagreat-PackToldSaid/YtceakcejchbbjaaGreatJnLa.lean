/-
  What Journal.Commit's main way leans on: lists of its own, the header's copy, the loop's relation.
-/
import Derived.Test.YtceakcejchbbjaaGreatGE
namespace Go.Proofs.YtceakcejchbbjaaGreat
open Go.RowKit

/-- Behind the checks and the checkpoint: what stands, and what is still to be done. -/
def ComMid (w : World) (F : Nat → Prop) (j : JG) (J : Jn) (D : Dk) (v : Value) (l : List Put) (wx : World) : Prop :=
  ∃ J' D', JnAt wx (Gr F w.heap.size) j J' D' ∧ PutsAt wx v l ∧ Upd j.all w wx ∧ J.comD D l = J'.putD D' l ∧ J.com D l = J'.put D' l ∧ J'.turn = J.turn ∧ J'.used ≤ 5000 ∧ J'.last.ring = J.last.ring ∧ D'.n = D.n

theorem JnAt.cell8 {w : World} {F : Nat → Prop} {j : JG} {J : Jn} {D : Dk} (h : JnAt w F j J D) : w.cell? ⟨j.jb, 8, none⟩ = some (.int .i64 (J.place : Int)) := by rw [blk_cell h.st]; simp
theorem fitsL_in {homes : Nat} : ∀ {l : List Put} {seen : List Int}, fitsL homes seen l = 0 → ∀ p ∈ l, 0 ≤ p.1 ∧ p.1 < (homes : Int) ∧ p.2.length = 512
  | [], _, _, _, hp => by simp at hp
  | (i, b) :: l, seen, h, p, hp => by
    unfold fitsL at h
    split at h
    · simp at h
    · rename_i h1
      split at h
      · simp at h
      · rename_i h2
        rcases List.mem_cons.1 hp with rfl | hp
        · exact ⟨by show 0 ≤ i; omega, by show i < _; omega, by simpa using h2⟩
        · exact fitsL_in h p hp
theorem fits_in {J : Jn} {n : Nat} {l : List Put} (h : J.fits n l = 0) : ∀ p ∈ l, 0 ≤ p.1 ∧ p.1 < (J.homes n : Int) ∧ p.2.length = 512 := by
  unfold Jn.fits at h
  split at h
  · rename_i q; exact absurd h q
  · rename_i q; exact fitsL_in (by simpa using q)
theorem lay_specI (ia : Int) (bk len cp a n : Nat) (hia : ia = (a : Int)) (v : Int) (l : List UInt8) (w : World) (hb : w.heap[bk]? = some (.cells (bts l).toArray 5 (0, 0))) (hv : 0 ≤ v) (hlen : l.length = len) (h8 : n ≤ 8) (hl : a + n ≤ len) (hll : len ≤ 1000000) :
    Calls Tryz.prog 118 #[.slice (some ⟨bk, 0, none⟩) len cp, .int .i64 ia, .int .u64 v, .int .i64 (n : Int)] w fun e w' => e = .returned (.tuple #[]) ∧ w'.heap[bk]? = some (.cells (bts (put l a n v.toNat)).toArray 5 (0, 0)) ∧ Upd [bk] w w' := by
  subst hia
  have := lay_spec bk len cp a n v l [] w (by simpa using hb) hv hlen h8 hl hll
  simpa using this

/-- As PutsOwn, in blocks from B on. -/
def PutsOwnB (w : World) (B : Nat) (F : Nat → Prop) (v : Value) (l : List Put) : Prop :=
  ∃ ps : List (Int × Value), w.ownsRow B 137 2 v ps.length (putCells ps) ∧ ps.length = l.length ∧ ∀ (k : Nat) (p : Int × Value), ps[k]? = some p → ∃ q : Put, l[k]? = some q ∧ p.1 = q.1 ∧ Own w 5 F p.2 q.2
theorem PutsOwnB.own {w : World} {B : Nat} {F : Nat → Prop} {v : Value} {l : List Put} (h : PutsOwnB w B F v l) : PutsOwn w F v l := by
  obtain ⟨ps, h1, h2, h3⟩ := h
  refine ⟨ps, ⟨h1.1, ?_⟩, h2, h3⟩
  rcases h1.2 with h | ⟨g, cap, cur, e, hb, r⟩
  · exact .inl h
  · exact .inr ⟨g, cap, cur, e, Nat.zero_le _, r⟩
theorem PutsOwnB.keep {w w' : World} {B : Nat} {G : Nat → Prop} {v : Value} {l : List Put} (hp : PutsOwnB w B G v l) (h1 : ∀ (k : Nat) (c : Array Value), w.heap[k]? = some (.cells c 137 (0, 0)) → w'.heap[k]? = w.heap[k]?) (h2 : ∀ (k : Nat) (c : Array Value), G k → w.heap[k]? = some (.cells c 5 (0, 0)) → w'.heap[k]? = w.heap[k]?) : PutsOwnB w' B G v l := by
  obtain ⟨ps, g1, g2, g3⟩ := hp
  refine ⟨ps, ⟨g1.1, ?_⟩, g2, fun k p hp => ?_⟩
  · rcases g1.2 with h | ⟨g, cap, cur, e, hb, hg, r⟩
    · exact .inl h
    · exact .inr ⟨g, cap, cur, e, hb, (h1 g cur hg).trans hg, r⟩
  · obtain ⟨q, a, b, c⟩ := g3 k p hp
    exact ⟨q, a, b, c.world h2⟩
theorem PutsOwnB.upd {w w' : World} {B : Nat} {G : Nat → Prop} {v : Value} {l : List Put} (hp : PutsOwnB w B G v l) {S : List Nat} (hu : Upd S w w') (h1 : ∀ (k : Nat) (c : Array Value), k ∈ S → w.heap[k]? ≠ some (.cells c 137 (0, 0))) (h2 : ∀ (k : Nat) (c : Array Value), k ∈ S → G k → w.heap[k]? ≠ some (.cells c 5 (0, 0))) : PutsOwnB w' B G v l :=
  hp.keep (fun k c hk => hu.block _ (blk_lt hk) (fun q => h1 k c q hk)) (fun k c hG hk => hu.block _ (blk_lt hk) (fun q => h2 k c q hG hk))
theorem PutsOwnB.jn {w w' : World} {B : Nat} {F G : Nat → Prop} {j : JG} {J : Jn} {D : Dk} (h : JnAt w F j J D) {v : Value} {l : List Put} (hp : PutsOwnB w B G v l) {S : List Nat} (hu : Upd S w w') (hS : ∀ k, k ∈ S → k ∈ j.all) : PutsOwnB w' B G v l :=
  hp.upd hu (fun _ _ hk e => h.kind e (by decide) (by decide) (by decide) (hS _ hk)) (fun _ _ hk _ e => h.kind e (by decide) (by decide) (by decide) (hS _ hk))
theorem PutsOwnB.mono {w : World} {B : Nat} {F G : Nat → Prop} {v : Value} {l : List Put} (h : PutsOwnB w B F v l) (hFG : ∀ k, F k → G k) : PutsOwnB w B G v l := by
  obtain ⟨ps, h1, h2, h3⟩ := h
  refine ⟨ps, h1, h2, fun k p hp => ?_⟩
  obtain ⟨q, a, b, c⟩ := h3 k p hp
  exact ⟨q, a, b, c.mono hFG⟩
theorem PutsOwnB.tight {w : World} {B : Nat} {F : Nat → Prop} {v : Value} {l : List Put} (h : PutsOwnB w B F v l) : PutsOwnB w B (fun k => F k ∧ k < w.heap.size) v l := by
  obtain ⟨ps, h1, h2, h3⟩ := h
  refine ⟨ps, h1, h2, fun k p hp => ?_⟩
  obtain ⟨q, a, b, c⟩ := h3 k p hp
  exact ⟨q, a, b, c.tight⟩
theorem PutsOwnB.append {w : World} {B : Nat} {G : Nat → Prop} {v : Value} {l : List Put} (hp : PutsOwnB w B G v l) (hl : l.length ≤ 100000) (hB : B ≤ w.heap.size) (nb : Nat) (i : Int) (d : Value) (s : List UInt8) (hnb : w.heap[nb]? = some (.cells #[.int .i64 i, d] 137 (0, 0))) (hd : Own w 5 G d s) (hone : d.oneCell' = true) :
    ∃ v' w', (∀ ty, (Builtin.append_ #[131, 131] ty #[v, .slice (some ⟨nb, 0, none⟩) 1 1]).run Tryz.prog w = .ok v' w') ∧ PutsOwnB w' B G v' (l ++ [(i, s)]) ∧ (∀ k, k < w.heap.size → (∀ c, w.heap[k]? ≠ some (.cells c 137 (0, 0))) → w'.heap[k]? = w.heap[k]?) ∧ (∀ k, k < B → k < w.heap.size → w'.heap[k]? = w.heap[k]?) ∧ w.grownBy w' v.ownBlock := by
  obtain ⟨ps, g1, g2, g3⟩ := hp
  obtain ⟨i0, hi, hz0, hz1, hz2⟩ := info_parts infoPut
  obtain ⟨v', w', hrun, hown, hg, _⟩ := run_append_own (P := Tryz.prog) w B 131 0 137 i0 _ 2 32 Tryz.underlying131 hi hz0 hz1 hz2 rfl (by decide) v ps.length (putCells ps) g1 ⟨nb, 0, none⟩ 1 1 [.int .i64 i, d] rfl
    (fun j u hj => by
      rw [addr_add, blk_cell hnb]
      match j, hj with
      | 0, hj => simpa using hj
      | 1, hj => simpa using hj
      | j + 2, hj => simp at hj)
    (fun u hu => by simp at hu; rcases hu with rfl | rfl; rfl; exact hone) (by unfold maxLen; omega) (by omega) hB
  have hkeep : ∀ k, k < w.heap.size → (∀ c, w.heap[k]? ≠ some (.cells c 137 (0, 0))) → w'.heap[k]? = w.heap[k]? := by
    intro k hk ht
    refine hg.block k hk fun e => ?_
    rcases g1.2 with ⟨rfl, _⟩ | ⟨g, cap, cur, rfl, _, hgb, _⟩
    · simp [Value.ownBlock] at e
    · simp [Value.ownBlock] at e; subst e; exact ht _ hgb
  have hlow : ∀ k, k < B → k < w.heap.size → w'.heap[k]? = w.heap[k]? := by
    intro k hkB hk
    refine hg.block k hk fun e => ?_
    rcases g1.2 with ⟨rfl, _⟩ | ⟨g, cap, cur, rfl, hb, hgb, _⟩
    · simp [Value.ownBlock] at e
    · simp [Value.ownBlock] at e; subst e; omega
  have hk2 : ∀ (k : Nat) (c : Array Value), w.heap[k]? = some (.cells c 5 (0, 0)) → w'.heap[k]? = w.heap[k]? := fun k c hk => hkeep k (blk_lt hk) (fun c' e => by rw [hk] at e; simp at e)
  refine ⟨v', w', fun _ => hrun, ⟨ps ++ [(i, d)], ?_, by simp [g2], ?_⟩, hkeep, hlow, hg⟩
  · rw [putCells_append, List.length_append]; exact hown
  · intro k p hk
    rw [List.getElem?_append] at hk
    split at hk
    · rename_i hlt
      obtain ⟨q, a, b, c⟩ := g3 k p hk
      exact ⟨q, by rw [List.getElem?_append_left (by omega)]; exact a, b, c.world fun bb cc _ hc => hk2 bb cc hc⟩
    · rename_i hge
      have hk0 : k - ps.length = 0 := by
        have := (List.getElem?_eq_some_iff.1 hk).1
        simp at this; omega
      rw [hk0] at hk
      simp at hk
      subst hk
      exact ⟨(i, s), by rw [List.getElem?_append_right (by omega), ← g2, hk0]; rfl, rfl, hd.world fun bb cc _ hc => hk2 bb cc hc⟩
theorem JnAt.kept {w w' : World} {F : Nat → Prop} {j : JG} {J : Jn} {D : Dk} (h : JnAt w F j J D) (hk : ∀ k, k < w.heap.size → (∀ c, w.heap[k]? ≠ some (.cells c 137 (0, 0))) → w'.heap[k]? = w.heap[k]?) : JnAt w' F j J D := by
  have hb : ∀ k, k ∈ j.all → ∀ c, w.heap[k]? ≠ some (.cells c 137 (0, 0)) := fun k hk c e => h.kind e (by decide) (by decide) (by decide) hk
  exact h.world (hk _ h.lt.1 (hb _ (by simp [JG.all]))) (hk _ h.lt.2 (hb _ (by simp [JG.all]))) (hk _ h.disk.lt.1 (hb _ (by simp [JG.all]))) (hk _ h.disk.lt.2.1 (hb _ (by simp [JG.all]))) (hk _ h.disk.lt.2.2 (hb _ (by simp [JG.all])))
    (fun k c _ hc => hk k (blk_lt hc) (fun c' e => by rw [hc] at e; simp at e))
theorem Rd.jn {w w' : World} {F : Nat → Prop} {j : JG} {J : Jn} {D : Dk} (h : JnAt w F j J D) {v : Value} {l : List UInt8} (hr : Rd w v l) {S : List Nat} (hu : Upd S w w') (hS : ∀ k, k ∈ S → k ∈ j.all) : Rd w' v l :=
  hr.of_block fun b _ _ hc => hu.block b (block_lt_of_cell hc) (fun q => h.cellB hc (hS _ q))
theorem PutsAt.getB {w : World} {v : Value} {l : List Put} (h : PutsAt w v l) (k : Nat) (hk : k < l.length) :
    ∃ g cap cur da dc, v = .slice (some ⟨g, 0, none⟩) l.length cap ∧ w.heap[g]? = some (.cells cur 137 (0, 0)) ∧ cur[k * 2]? = some (.int .i64 l[k].1) ∧ cur[k * 2 + 1]? = some (.slice da l[k].2.length dc) ∧ Rd w (.slice da l[k].2.length dc) l[k].2 := by
  obtain ⟨g, cap, da, dc, e, c1, c2, c3⟩ := h.get k hk
  obtain ⟨ps, h1, h2, h3⟩ := h
  rcases h1.2 with ⟨rfl, _⟩ | ⟨g', cap', cur, e', _, hg, _⟩
  · simp at e
  · have hgg : g' = g := by rw [e'] at e; simp at e; exact e.1
    subst hgg
    rw [blk_cell hg] at c1 c2
    exact ⟨g', cap, cur, da, dc, e, hg, c1, c2, c3⟩
theorem hdr_copy {W : World} {hb k : Nat} {h s : Sec} {ad : Addr} {dc : Nat} (hh : W.heap[hb]? = some (.cells (bts h).toArray 5 (0, 0))) (hl : h.length = 512) (hk : k < 40) (hr : Rd W (.slice (some ad) 512 dc) s) (hs : s.length = 512) (n : Nat) (hn : n = 492 - 12 * k) :
    ∃ W9, (∀ ty, (Builtin.copy_ #[37, 37] ty #[.slice (some ⟨hb, 16 + 12 * k + 4, none⟩) n n, .slice (some ad) 8 dc]).run Tryz.prog W = .ok (goInt ((min (s.take 8).length n : Nat) : Int)) W9) ∧
      W9.heap[hb]? = some (.cells (bts (over h (20 + 12 * k) (s.take 8))).toArray 5 (0, 0)) ∧ Upd [hb] W W9 := by
  have h8 : (s.take 8).length = 8 := by rw [List.length_take]; omega
  have hrun := fun ty => run_copy_rd (P := Tryz.prog) (dT := 37) (sT := 37) (ty := ty) (u8 := 5) Tryz.underlying37 sizeU8 hb (16 + 12 * k + 4) n n (bts h) hh (by rw [bts_length, hl]; omega) (hr.take 8 (by omega))
  refine ⟨_, hrun, ?_, ?_⟩
  · rw [setRow_heap _ _ _ _ _ _ hh]
    have e1 : (s.take 8).take n = s.take 8 := List.take_of_length_le (by omega)
    rw [e1]
    congr 2
    have e2 : 16 + 12 * k + 4 = 20 + 12 * k := by omega
    rw [e2]
    unfold over splice
    simp [bts, List.map_drop, List.map_take]
  · exact ⟨rfl, rfl, rfl, by simp, fun q _ hq => by rw [setRow_other _ _ _ _ (by simpa using hq)]⟩

theorem PutsOwnB.shape3 {w : World} {B : Nat} {F : Nat → Prop} {v : Value} {l : List Put} (h : PutsOwnB w B F v l) : ∃ a b c, v = .slice a b c := by
  obtain ⟨ao, cap, e⟩ := h.own.at.shape
  exact ⟨_, _, _, e⟩
theorem PutsOwnB.ownlt {w : World} {B : Nat} {F : Nat → Prop} {v : Value} {l : List Put} (h : PutsOwnB w B F v l) {q : Nat} (e : v.ownBlock = some q) : q < w.heap.size := by
  obtain ⟨ps, h1, _⟩ := h
  rcases h1.2 with ⟨rfl, _⟩ | ⟨g, cap, cur, rfl, _, hgb, _⟩
  · simp [Value.ownBlock] at e
  · simp [Value.ownBlock] at e; subst e; exact blk_lt hgb
theorem Upd.low {S : List Nat} {a w w' : World} (h : Upd S a w) (hl : ∀ k, k < a.heap.size → w'.heap[k]? = w.heap[k]?) (hr : w.heap.size ≤ w'.heap.size ∧ w'.os = w.os ∧ w'.tape = w.tape ∧ w'.output = w.output) : Upd S a w' :=
  ⟨hr.2.1.trans h.os, hr.2.2.1.trans h.tape, hr.2.2.2.trans h.output, Nat.le_trans h.size hr.1, fun k hk hS => (hl k hk).trans (h.block k hk hS)⟩
/-- The element is cloned, built and appended. -/
theorem app_step {w10 w12 : World} {B n0 hb bb : Nat} {F : Nat → Prop} {v : Value} {l : List Put} (hm : PutsOwnB w10 B (fun x => (Gr F n0 x ∧ x ≠ hb) ∧ x ≠ bb) v l) (hl : l.length ≤ 100000) (hB : B ≤ w10.heap.size) (hu : Upd [] w10.drew w12) (i : Int) {cb : Nat} {rest2 : List Value} {sd : Sec} (hcb : Own w12 5 (fun k => w10.drew.heap.size ≤ k) (.slice (some ⟨cb, 0, none⟩) sd.length (sd.length + rest2.length)) sd) (hn0 : n0 ≤ w10.heap.size) (hhb : hb < w10.heap.size) (hbb : bb < w10.heap.size) :
    ∃ v' w14, (∀ ty, (Builtin.append_ #[131, 131] ty #[v, .slice (some ⟨w12.heap.size, 0, none⟩) 1 1]).run Tryz.prog (w12.alloc (.cells #[.int .i64 i, .slice (some ⟨cb, 0, none⟩) sd.length (sd.length + rest2.length)] 137)) = .ok v' w14) ∧ PutsOwnB w14 B (fun x => (Gr F n0 x ∧ x ≠ hb) ∧ x ≠ bb) v' (l ++ [(i, sd)]) ∧
      (∀ k, k < w10.heap.size → (∀ c, w10.heap[k]? ≠ some (.cells c 137 (0, 0))) → w14.heap[k]? = w10.heap[k]?) ∧ (∀ k, k < B → w14.heap[k]? = w10.heap[k]?) ∧ (∀ k, k < w10.heap.size → v.ownBlock ≠ some k → w14.heap[k]? = w10.heap[k]?) ∧ w10.heap.size ≤ w14.heap.size ∧ w14.os = w10.os ∧ w14.tape = w10.tape ∧ w14.output = w10.output := by
  have hsz : w10.heap.size ≤ w12.heap.size := hu.size
  have hua : Upd [] w10.drew (w12.alloc (.cells #[.int .i64 i, .slice (some ⟨cb, 0, none⟩) sd.length (sd.length + rest2.length)] 137)) := hu.alloc _
  have hm2 : PutsOwnB (w12.alloc (.cells #[.int .i64 i, .slice (some ⟨cb, 0, none⟩) sd.length (sd.length + rest2.length)] 137)) B (fun x => (Gr F n0 x ∧ x ≠ hb) ∧ x ≠ bb) v l :=
    hm.keep (fun k c hk => hua.block _ (blk_lt hk) (by simp)) (fun k c _ hk => hua.block _ (blk_lt hk) (by simp))
  have hcb2 : Own (w12.alloc (.cells #[.int .i64 i, .slice (some ⟨cb, 0, none⟩) sd.length (sd.length + rest2.length)] 137)) 5 (fun x => (Gr F n0 x ∧ x ≠ hb) ∧ x ≠ bb) (.slice (some ⟨cb, 0, none⟩) sd.length (sd.length + rest2.length)) sd :=
    (hcb.world (fun k c _ hk => blk_alloc_ne (blk_lt hk))).mono (fun x (hx : w10.heap.size ≤ x) => ⟨⟨.inr (by omega), by omega⟩, by omega⟩)
  obtain ⟨v', w14, hrun, h1, h2, h3, h4⟩ := hm2.append hl (by simp; omega) w12.heap.size i _ sd (blk_alloc _) hcb2 rfl
  have e10 : ∀ k, k < w10.heap.size → (w12.alloc (.cells #[.int .i64 i, .slice (some ⟨cb, 0, none⟩) sd.length (sd.length + rest2.length)] 137)).heap[k]? = w10.heap[k]? := fun k hk => hua.block k hk (by simp)
  refine ⟨v', w14, hrun, h1, fun k hk hc => ?_, fun k hk => ?_, fun k hk hv => ?_, ?_, h4.os.trans hua.os, h4.tape.trans hua.tape, h4.output.trans hua.output⟩
  · rw [h2 k (by simp; omega) (by rw [e10 k hk]; exact hc), e10 k hk]
  · rw [h3 k hk (by simp; omega), e10 k (by omega)]
  · rw [h4.block k (by simp; omega) (fun e => hv e.symm), e10 k hk]
  · have := h4.size; simp at this; omega

theorem atP_specI {w : World} {F : Nat → Prop} {j : JG} {J : Jn} {D : Dk} (h : JnAt w F j J D) (ip : Int) (p : Nat) (hip : ip = (p : Int)) (hp : p ≤ 100000) :
    Calls Tryz.prog 116 #[.pointer (some ⟨j.jb, 0, none⟩), .int .i64 ip] w fun e w' => e = .returned (.int .i64 (J.at p : Int)) ∧ w = w' := by
  subst hip; exact atP_spec h p hp
/-- The loop of Commit. -/
def ComRel (F : Nat → Prop) (n0 : Nat) (wy : World) (j : JG) (J : Jn) (D1 : Dk) (l : List Put) (k : Nat) (m : Value) (wr : World) : Prop :=
  ∃ Dc, JnAt wr (fun x => Gr F n0 x ∧ x ≠ wy.heap.size) j J Dc ∧ wr.heap[wy.heap.size]? = some (.cells (bts (hdrK J.turn l k)).toArray 5 (0, 0)) ∧ PutsOwnB wr wy.heap.size (fun x => Gr F n0 x ∧ x ≠ wy.heap.size) m (l.take k) ∧ comL J 0 D1 l = comL J k Dc (l.drop k) ∧ Upd j.all wy wr

theorem JnAt.cell7 {w : World} {F : Nat → Prop} {j : JG} {J : Jn} {D : Dk} (h : JnAt w F j J D) : w.cell? ⟨j.jb, 7, none⟩ = some (.int .u64 J.turn) := by rw [blk_cell h.st]; simp
theorem hear_zero (J : Jn) : J.hear 0 = J := by
  have : (J.done || ((0 : Int) != 0)) = J.done := by rw [show ((0 : Int) != 0) = false from rfl, Bool.or_false]
  unfold Jn.hear; rw [this]
theorem settleD_n (J : Jn) (D : Dk) : (J.settleD D).1.n = D.n := by
  unfold Jn.settleD
  repeat' split
  · exact homeL_n J _ D
  · rw [Dk.flush_n]; exact homeL_n J _ D
  · rw [Dk.write_n, Dk.flush_n]; exact homeL_n J _ D
  · rw [Dk.flush_n, Dk.write_n, Dk.flush_n]; exact homeL_n J _ D
theorem ckD_n (J : Jn) (D : Dk) : (J.ckD D).1.n = D.n := by
  unfold Jn.ckD
  repeat' split
  · rfl
  · rfl
  · rfl
  · exact settleD_n J D

end Go.Proofs.YtceakcejchbbjaaGreat

