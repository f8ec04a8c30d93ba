/-
  What stands between the rounds of the laws of packs; cofferref10.Size. A law's record is added: what the slots of that region hold.
-/
import Derived.Test.YtceakcejchbbjaaGreatPkR
import Derived.Test.YtceakcejchbbjaaGreatOrdN
section
set_option linter.unusedSimpArgs false
set_option linter.unusedVariables false
namespace Go.Proofs.YtceakcejchbbjaaGreat
open Go.RowKit Go.MapKept Go.ChangeMaps

theorem sizeR_spec (n : Nat) (hn : n ≤ 4200) (w : World) : Calls Tryz.prog 15 #[.int .i64 (n : Int)] w fun e w' => e = .returned (.int .i64 (46 + (n : Int))) ∧ w = w' := by
  have t0 : decide ((n : Int) < 0) = false := decide_eq_false (by omega)
  have t1 : decide ((4200 : Int) < (n : Int)) = false := decide_eq_false (by omega)
  have t1' : decide (4200 < n) = false := decide_eq_false (by omega)
  go_enter Tryz.func15, Tryz.ntmps15
  go_wp2_with fail
  go_ret
  exact ⟨rfl, rfl⟩
theorem keep_alloc {w : World} {k : Nat} {o o' : Obj} (h : w.heap[k]? = some o) : (w.alloc o').heap[k]? = some o := (((Upd.refl [] w).alloc o').block _ (Array.getElem?_eq_some_iff.1 h).1 (by simp)).trans h
theorem keep_drew {w : World} {k : Nat} {o : Obj} (h : w.heap[k]? = some o) : w.drew.heap[k]? = some o := h
theorem keep_upd {w w' : World} {k : Nat} {o : Obj} (hu : Upd [] w w') (h : w.heap[k]? = some o) : w'.heap[k]? = some o := (hu.block _ (Array.getElem?_eq_some_iff.1 h).1 (by simp)).trans h
/-- What stands between the rounds: a transaction that has written nothing, on a journal at rest; packs. -/
structure PkAt (w W : World) (j : JG) (n ring : Nat) (b : Int) (g : Sg) (K : Nat → Option Pk) : Prop where
  tx : ∃ w0, TxP w0 j n ring b g.H g ∧ w.heap.size ≤ w0.heap.size
  sp : SpAt W g fun _ => none
  pk : PksAt (g.cur fun _ => none) g.h (g.T fun _ => none) K
  upd : Upd [] w W
theorem PkAt.S {w W : World} {j : JG} {n ring : Nat} {b : Int} {g : Sg} {K : Nat → Option Pk} (h : PkAt w W j n ring b g K) (hj : ∀ k, k ∈ j.all → w.heap.size ≤ k) : (∀ k, k ∈ g.S → w.heap.size ≤ k) ∧ w.heap.size ≤ g.x.tb := by
  obtain ⟨w0, ht, hw⟩ := h.tx
  refine ⟨fun k hk => ?_, Nat.le_trans hw ht.tb⟩
  rcases ht.S k hk with q | q
  · exact hj k q
  · omega
theorem PkAt.h {w W : World} {j : JG} {n ring : Nat} {b : Int} {g : Sg} {K : Nat → Option Pk} (h : PkAt w W j n ring b g K) : g.h = n - 2 - ring := by
  obtain ⟨w0, ht, hw⟩ := h.tx
  exact ht.h
theorem BgAt.pkAt {w w' : World} {g : Sg} {n ring : Nat} (h : BgAt w w' g n ring) (hu : Upd [] w w') : PkAt w w' g.j n ring 2 g (fun _ => Option.none) :=
  ⟨⟨w, h.js, Nat.le_refl _⟩, h.sp, h.packs, hu⟩
theorem PkAt.below {w W W' : World} {j : JG} {n ring : Nat} {b : Int} {g : Sg} {K : Nat → Option Pk} (h : PkAt w W j n ring b g K) (hu : Upd [] W W') : PkAt w W' j n ring b g K := ⟨h.tx, h.sp.below hu, h.pk, h.upd.trans hu⟩
/-- Commit, then Begin. -/
theorem PkAt.commit {w W W1 : World} {j : JG} {n ring : Nat} {b : Int} {g : Sg} {K : Nat → Option Pk} (h : PkAt w W j n ring b g K) {M : Nat → Option Sec} (h1 : SpAt W1 g M) (hn : n ≤ 5000) (hb : b < 900000) (hc : cntM M g.h ≤ 40) (hr : 41 ≤ ring) :
    Calls Tryz.prog 19 #[.pointer (some ⟨g.x.tb, 0, none⟩)] W1 fun e w' => e = .returned (.int .i64 0) ∧ JsAt w' j n ring (b + 1) (g.cur M) ∧ Upd (g.x.tb :: j.all) W1 w' := by
  obtain ⟨w0, ht, hw⟩ := h.tx
  exact commit_js ht h1 hn hb hc (by omega)
theorem JsAt.begin {w W : World} {j : JG} {n ring : Nat} {b : Int} {H : Nat → Sec} {K : Nat → Option Pk} {T : Nat → Bool} (h : JsAt W j n ring b H) (hj : ∀ k, k ∈ j.all → w.heap.size ≤ k) (hu : Upd [] w W) (hT : ∀ i, T i = bitB (fixB (H 1)) i) (hk : PksAt H (n - 2 - ring) T K) :
    Calls Tryz.prog 20 #[.pointer (some ⟨j.jb, 0, none⟩)] W fun e w' => ∃ g : Sg, e = .returned (.tuple #[.pointer (some ⟨g.x.tb, 0, none⟩), .int .i64 0]) ∧ PkAt w w' j n ring b g K ∧ (g.T fun _ => none) = T := by
  refine (begin_js h).mono ?_
  rintro e w' ⟨g, rfl, ht, hsp, hu2⟩
  have hgT : (g.T fun _ => none) = T := by
    funext i
    rw [hT]
    show bitB (fixB ((g.cur fun _ => none) 1)) i = _
    unfold Sg.cur
    rw [ht.H]; rfl
  have hH : (g.cur fun _ => none) = H := by
    funext i
    unfold Sg.cur
    rw [ht.H]; rfl
  refine ⟨g, rfl, ⟨⟨W, by rw [ht.H]; exact ht, hu.size⟩, hsp, ?_, late_all hu hu2 hj⟩, hgT⟩
  rw [hH, hgT, ht.h]
  exact hk
end Go.Proofs.YtceakcejchbbjaaGreat
end

section
set_option linter.unusedSimpArgs false
set_option linter.unusedVariables false
namespace Go.Proofs.YtceakcejchbbjaaGreat
open Go.RowKit Go.MapKept Go.ChangeMaps

/-- o: which operation is what: 0 the transaction, 1 the number, 2 its byte, 3 the key, 4 the bytes, 5 Add, 6 its move, 7 the place, 8 the error, 9 the block, 10 the store, 11 the error told. -/
def adPr (w0 : World) (tb : Nat) (I cI : Int) (key b : List UInt8) (P : Nat × Nat × Nat) (er : Nat) (ex : Nat → Value) (cAdd cSt : Nat) (L : Nat → Bool) (o : Nat) (w : World) (v : Value) : Prop := match o with
  | 0 => v = .pointer (some ⟨tb, 0, none⟩)
  | 1 => v = .int .i64 I
  | 2 => v = .int .u8 cI
  | 3 => v = .agg (bts key).toArray
  | 4 => L cAdd = false → Rd w v b
  | 5 => v = .tuple #[plV P, .int .i64 (er : Int)]
  | 6 => v = .tuple #[plV P, .int .i64 (er : Int)]
  | 7 => v = plV P
  | 8 => v = .int .i64 (er : Int)
  | 9 => ∃ pb, v = .pointer (some ⟨pb, 0, none⟩) ∧ w0.heap.size ≤ pb ∧ w.heap[pb]? = some (.cells (if L cSt then #[.int .i64 (P.1 : Int), .int .i64 (P.2.1 : Int), .int .i64 (P.2.2 : Int)] else #[.int .i64 0, .int .i64 0, .int .i64 0]) 30 (0, 0))
  | o => v = ex o
theorem adPr_upd {w0 : World} {tb : Nat} {I cI : Int} {key b : List UInt8} {P : Nat × Nat × Nat} {er : Nat} {ex : Nat → Value} {cAdd cSt : Nat} {L : Nat → Bool} {i : Nat} (hi : cSt ≠ i) {w w' : World} {S : List Nat} (hu : Upd S w w') (hS : ∀ k, k ∈ S → k < w0.heap.size)
    (h5 : upL L i cAdd = false → L cAdd = false ∧ Upd [] w w') : ∀ o x, adPr w0 tb I cI key b P er ex cAdd cSt L o w x → adPr w0 tb I cI key b P er ex cAdd cSt (upL L i) o w' x := by
  intro o x h
  unfold adPr at h ⊢
  split at h <;> try exact h
  · intro q
    obtain ⟨q1, q2⟩ := h5 q
    exact (h q1).below q2
  · obtain ⟨pb, e, h1, h2⟩ := h
    rw [upL_ne _ hi]
    exact ⟨pb, e, h1, (hu.block _ (blk_lt h2) (fun q => by have := hS pb q; omega)).trans h2⟩
def adG (w0 : World) (S : List Nat) (Pay : World → Prop) (cAdd cSt cBl : Nat) (L : Nat → Bool) (w : World) : Prop := Upd S w0 w ∧ (L cAdd = false → Upd [] w0 w) ∧ (L cAdd = true → Pay w) ∧ (L cSt = true → L cBl = true)
theorem up_imp {L : Nat → Bool} {i c d : Nat} (hc : c ≠ i) (h : L c = true → L d = true) : upL L i c = true → upL L i d = true := by
  intro q
  rw [upL_ne _ hc] at q
  by_cases e : d = i
  · rw [e, upL_same]
  · rw [upL_ne _ e]; exact h q
theorem adG.quiet {w0 : World} {S : List Nat} {Pay : World → Prop} {cAdd cSt cBl : Nat} {L : Nat → Bool} {w w' : World} (h : adG w0 S Pay cAdd cSt cBl L w) {i : Nat} (hi : cAdd ≠ i) (hi2 : cSt ≠ i) (hu : Upd [] w w') (hp : Pay w → Pay w') : adG w0 S Pay cAdd cSt cBl (upL L i) w' := by
  refine ⟨h.1.trans (hu.mono (by simp)), fun q => ?_, fun q => ?_, up_imp hi2 h.2.2.2⟩
  · rw [upL_ne _ hi] at q; exact (h.2.1 q).trans hu
  · rw [upL_ne _ hi] at q; exact hp (h.2.2.1 q)
theorem adG.notyet {w0 : World} {S : List Nat} {Pay : World → Prop} {cAdd cSt cBl : Nat} {L : Nat → Bool} {w : World} (h : adG w0 S Pay cAdd cSt cBl L w) (hb : L cBl = false) : L cSt = false := by
  cases e : L cSt with
  | false => rfl
  | true => rw [h.2.2.2 e] at hb; cases hb
theorem adPr_store {w0 : World} {tb : Nat} {I cI : Int} {key b : List UInt8} {P : Nat × Nat × Nat} {er : Nat} {ex : Nat → Value} {cAdd cSt : Nat} {L : Nat → Bool} (hne : cAdd ≠ cSt) (hA : L cAdd = true) {w : World} {pb : Nat} {c : Array Value} (hpb : w0.heap.size ≤ pb) (hb : w.heap[pb]? = some (.cells #[.int .i64 0, .int .i64 0, .int .i64 0] 30 (0, 0))) :
    ∀ o x, (o = 9 → x = .pointer (some ⟨pb, 0, none⟩)) → adPr w0 tb I cI key b P er ex cAdd cSt L o w x → adPr w0 tb I cI key b P er ex cAdd cSt (upL L cSt) o (((w.setCell ⟨pb, 0, none⟩ (.int .i64 (P.1 : Int))).setCell ⟨pb, 1, none⟩ (.int .i64 (P.2.1 : Int))).setCell ⟨pb, 2, none⟩ (.int .i64 (P.2.2 : Int))) x := by
  intro o x hx h
  unfold adPr at h ⊢
  split at h <;> try exact h
  · intro q
    rw [upL_ne _ hne, hA] at q
    cases q
  · rw [upL_same, if_pos rfl]
    exact ⟨pb, hx rfl, hpb, blk_set (blk_set (blk_set hb 0 _) 1 _) 2 _⟩
theorem adG.store {w0 : World} {S : List Nat} {Pay : World → Prop} {cAdd cSt cBl : Nat} {L : Nat → Bool} {w w' : World} (hne : cAdd ≠ cSt) (hA : L cAdd = true) (hB : L cBl = true) (h : adG w0 S Pay cAdd cSt cBl L w) {pb : Nat} (hpb : w0.heap.size ≤ pb) (hu : Upd [pb] w w') (hp : Pay w → Pay w') : adG w0 S Pay cAdd cSt cBl (upL L cSt) w' := by
  refine ⟨h.1.late hu (fun i hi => .inr (by simp at hi; omega)), fun q => ?_, fun _ => hp (h.2.2.1 hA), fun _ => ?_⟩
  · rw [upL_ne _ hne, hA] at q; cases q
  · by_cases e : cBl = cSt
    · rw [e, upL_same]
    · rw [upL_ne _ e]; exact hB
theorem up_false {L : Nat → Bool} {i c : Nat} (h : upL L i c = false) : L c = false := by
  by_cases e : c = i
  · subst e; rw [upL_same] at h; cases h
  · rwa [upL_ne _ e] at h
/-! ## the round of PackFull -/
def fuP (q r fl : Nat) (full : Bool) : Nat × Nat × Nat := if full = true then (0, 0, 0) else (q, r * fl, fl)
def fuE (full : Bool) : Nat := if full = true then 7 else 0
def FullOut (g : Sg) (fl eN q r : Nat) (full : Bool) (w : World) : Prop :=
  ∃ M' K', SpAt w g M' ∧ PksAt (g.cur M') g.h (g.T M') K' ∧ cntM M' g.h ≤ 18 ∧ (if full = true then K' q = Option.none else if r + 1 = eN then Even fl eN (q + 1) 0 K' (g.T M') else Even fl eN q (r + 1) K' (g.T M'))
theorem FullOut.below {g : Sg} {fl eN q r : Nat} {full : Bool} {w w' : World} (h : FullOut g fl eN q r full w) (hu : Upd [] w w') : FullOut g fl eN q r full w' := by
  obtain ⟨M', K', h1, h2, h3, h4⟩ := h
  exact ⟨M', K', h1.below hu, h2, h3, h4⟩
theorem FullOut.res {g : Sg} {fl eN q r : Nat} {full : Bool} {w0 w w' : World} (h0 : (∀ k, k ∈ g.S → k < w0.heap.size) ∧ g.x.tb < w0.heap.size) (h : FullOut g fl eN q r full w) {b : Nat} (hb : w0.heap.size ≤ b) {c : Array Value} {fr : Nat × Nat} (he : w.heap[b]? = some (.cells c 30 fr)) (hu : Upd [b] w w') : FullOut g fl eN q r full w' := by
  obtain ⟨M', K', h1, h2, h3, h4⟩ := h
  exact ⟨M', K', h1.res h0 hb he (by decide) hu, h2, h3, h4⟩
theorem rd_zeros (n : Nat) (w : World) : Rd (w.alloc (.cells (bts (List.replicate n 0)).toArray 5)) (.slice (some ⟨w.heap.size, 0, none⟩) n n) (List.replicate n 0) := rd_blk (blk_alloc _) (by simp)
theorem full_add {w wr W : World} {j : JG} {n : Nat} {b : Int} {g : Sg} {K : Nat → Option Pk} {q r fl eN pk : Nat} {full : Bool} (h : PkAt w wr j n 60 b g K) (ev : Even fl eN q r K (g.T fun _ => none)) (hn : 100 ≤ n) (hn2 : n < 160) (hpk : pk = (n - 66) / 16) (hq : full = true → q = pk ∧ r = 0) (hq2 : full = false → q < pk) (hel : fl * eN ≤ 8192) (heg : 8192 < fl * eN + fl) (hu : Upd [] wr W) (key bb : List UInt8) (vb : Value) (hr : Rd W vb bb) (hkl : key.length = 32) (hbl : 46 + bb.length = fl) (hfl : fl ≤ 4246) :
    Calls Tryz.prog 16 #[.pointer (some ⟨g.x.tb, 0, none⟩), .agg (bts key).toArray, vb] W fun e w' => e = .returned (.tuple #[plV (fuP q r fl full), .int .i64 (fuE full : Int)]) ∧ FullOut g fl eN q r full w' ∧ Upd g.S W w' := by
  have hgh := h.h
  have hfr : (frameB key bb).length = fl := by rw [frameB_length hkl]; exact hbl
  refine (add_pk (h.sp.below hu) h.pk (by omega) (by omega) (by rw [cntM_none]; omega) key bb vb hr hkl (by omega)).mono ?_
  rintro e w' ⟨M', K', o, rfl, h1, h2, h3, h4, h5⟩
  rw [cntM_none] at h4
  cases full with
  | true =>
    obtain ⟨rfl, rfl⟩ := hq rfl
    obtain ⟨rfl, hK⟩ := ev.stop hfr heg (by omega) h3
    exact ⟨rfl, ⟨M', K', h1, h2, by omega, by rw [if_pos rfl]; exact hK⟩, h5⟩
  | false =>
    have hlt := hq2 rfl
    obtain ⟨rfl, hE⟩ := ev.add hfr heg hel (by omega) (by omega) h3
    refine ⟨?_, ⟨M', K', h1, h2, by omega, by rw [if_neg (fun q => by cases q)]; exact hE⟩, h5⟩
    rw [hbl]; rfl
end Go.Proofs.YtceakcejchbbjaaGreat
end
