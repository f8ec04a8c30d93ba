/-
  tree.Len.
-/
import Derived.Test.YtceakcejchbbjaaGreatTsF
import Derived.Test.YtceakcejchbbjaaGreatTrY
set_option linter.unusedSimpArgs false
set_option linter.unusedVariables false
namespace Go.Proofs.YtceakcejchbbjaaGreat
open Go.RowKit Go.MapKept Go.ChangeMaps

theorem ltB_zero : ∀ (n : Nat) (a : Bs), a.length = n → ltB a (List.replicate n 0) = false
  | 0, [], _ => rfl
  | n + 1, x :: a, h => by
    have ih := ltB_zero n a (by simpa using h)
    rw [List.replicate_succ]
    unfold ltB
    rw [ih]
    simp
theorem Kids.all {P : Nat → List Pair9 → List Nat → Prop} {Q : Pair9 → Prop} (hP : ∀ k l S, P k l S → ∀ p, p ∈ l → Q p) {ks : List Bs} {ds : List Nat} {l : List Pair9} {S : List Nat} (h : Kids P ks ds l S) : ∀ p, p ∈ l → Q p := by
  induction h with
  | one h => exact hP _ _ _ h
  | more h _ _ _ ih => exact fun p hp => (List.mem_append.1 hp).elim (hP _ _ _ h p) (ih p)
theorem Shape.pairs {C : Nat → Sec} : ∀ {d : Nat} {root : Bool} {a : Nat} {l : List Pair9} {S : List Nat}, Shape C root d a l S → ∀ p, p ∈ l → p.1.length = 32 ∧ p.2.length = 16
  | 0, _, _, _, _, h => h.2.2.1.pairs
  | d + 1, _, _, _, _, h => by
    obtain ⟨_, ks, ds, S', _, _, _, _, _, hk⟩ := h
    exact hk.all fun k l S h => Shape.pairs (d := d) h
/-- Pairs are counted. -/
def lenTells : Tells Int where
  F n c := (if c = [] then n else wrap64 (n + c.length), true)
  go := fun a l1 l2 _ => by
    by_cases h1 : l1 = []
    · subst h1; simp
    · by_cases h2 : l2 = []
      · subst h2; simp
      · have h3 : ¬ (l1 ++ l2 = []) := by simp [h1]
        simp only [h1, h2, h3, if_false]
        congr 1
        unfold wrap64; rw [List.length_append]
        omega
  stop := fun a l1 l2 h => by simp at h
  nil := fun a => by simp
  wt := fun _ => 0
  grow := fun _ _ => by simp
def LenInv (nb : Nat) (n : Int) (w : World) : Prop := w.heap[nb]? = some (.cells #[.int .i64 n] 3 (0, 0)) ∧ wrap64 n = n
attribute [-go_sem] loadCells storeCells
set_option maxRecDepth 100000 in
set_option maxHeartbeats 4000000 in
theorem len_told {g : Sg} {M : Nat → Option Sec} {nb B : Nat} : Told lenTells g M 78 #[.pointer (some ⟨nb, 0, none⟩)] [nb] B (LenInv nb) := by
  intro n w l vk vv Bk hI h _ _ hok hK hV hU
  obtain ⟨hb, hwn⟩ := hI
  obtain ⟨ak, ck, rfl⟩ := own_shape hK
  obtain ⟨av, cv, rfl⟩ := own_shape hV
  have hlk : (l.map (·.1)).length = l.length := List.length_map _
  have hlv : (l.map (·.2)).length = l.length := List.length_map _
  rw [hlk, hlv]
  clear hlk hlv hK hV
  obtain ⟨w1, hw1⟩ : ∃ w1, w1 = w.alloc (.cells #[.int .i64 1, .slice ak l.length ck, .slice av l.length cv, .slice none 0 0] 145) := ⟨_, rfl⟩
  have hu1 : Upd [] w w1 := by rw [hw1]; exact (Upd.refl _ _).alloc _
  have b1 := (hu1.block _ (blk_lt hb) (by simp)).trans hb
  have c2 : w1.heap[w.heap.size]? = some (.cells #[.int .i64 1, .slice ak l.length ck, .slice av l.length cv, .slice none 0 0] 145 (0, 0)) := by rw [hw1]; exact blk_alloc _
  have m1 := blk_cell b1 0
  have m2 := blk_cell c2 1
  obtain ⟨w2, hw2⟩ : ∃ w2, w2 = w1.setCell ⟨nb, 0, none⟩ (.int .i64 (wrap64 (n + l.length))) := ⟨_, rfl⟩
  have st := store_c b1 0 (v := .int .i64 (wrap64 (n + l.length))) (by simp) rfl
  rw [← hw2] at st
  have hu2 : Upd [nb] w1 w2 := by rw [hw2]; exact (Upd.refl _ _).set _ (.inl (by simp))
  have b2 : w2.heap[nb]? = some (.cells #[.int .i64 (wrap64 (n + l.length))] 3 (0, 0)) := by rw [hw2]; exact blk_set b1 0 _
  have hres : LenInv nb (lenTells.F n l).1 w2 := by
    show LenInv nb (if l = [] then n else wrap64 (n + l.length)) w2
    by_cases h0 : l = []
    · subst h0
      rw [if_pos rfl]
      simp only [List.length_nil] at b2
      rw [show n + ((0 : Nat) : Int) = n by omega, hwn] at b2
      exact ⟨b2, hwn⟩
    · rw [if_neg h0]
      exact ⟨b2, by unfold wrap64; omega⟩
  have HR := Lib.hid hres
  have HS := Lib.hid ((h.below hu1).turnedI (fun b hb => by simp at hb; subst hb; exact ⟨_, _, b1⟩) hu2)
  have HF : Hid (WFr [nb] B TP w w2) := Lib.hid ((WFr.of hu1 (by simp)).trans (WFr.of hu2 (by simp)))
  rw [hw1] at m1 m2 st
  clear hres h hok hb b1 c2 hw2 hu1 hu2 b2 hw1 hU hwn
  go_enter Tryz.func78, Tryz.ntmps78
  go_wp2_with fail
  go_ret
  exact ⟨rfl, HR.out, HS.out, HF.out⟩
theorem build_id0 (w : World) : (Instr.build 35 #[]).run Tryz.prog w = .ok (.agg (bts z32).toArray) w := run_build w _ _ _ (by kernel_rfl)
theorem ent78 (args : Array Value) (w : World) : (callFunc 78 args).run Tryz.prog w = .ok (.enter 78 args) w := by
  have := Tryz.func78
  simp [callFunc, this, Tryz.f78]
attribute [-go_sem] Instr.build
set_option maxRecDepth 100000 in
set_option maxHeartbeats 4000000 in
theorem len9_spec {w : World} {g : Sg} {M : Nat → Option Sec} (h : SpAt w g M) (hh1 : 1 < g.h) (hh2 : g.h ≤ 4096) {r : Nat} {l : List Pair9} {S : List Nat} (ht : TreeOn (g.cur M) g.h r l S) (hl : l.length < 490) :
    Calls Tryz.prog 28 #[.pointer (some ⟨g.x.tb, 0, none⟩), .int .u32 (r : Int)] w fun e w' => e = .returned (.tuple #[.int .i64 (l.length : Int), .int .i64 0]) ∧ SpAt w' g M ∧ Upd [g.j.jb] w w' := by
  have hb : ((g.h : Int) == 0) = false := by rw [beq_eq_false_iff_ne]; omega
  have HO := Lib.hid (homesS h)
  have HH := Lib.hid h
  rcases ht.at_ with ⟨rfl, rfl, rfl⟩ | ⟨hr, d, hs⟩
  · clear h ht
    go_enter Tryz.func28, Tryz.ntmps28
    go_wp2_with fail
    refine HO.out.mono ?_
    rintro e w1 ⟨rfl, n1, hn1⟩
    have HU1 : Hid (Upd [] w w1) := by show Upd _ _ _; rw [hn1]; exact (Upd.refl _ _).drewN _
    clear hn1
    go_wp2_with fail
    go_ret2
    exact ⟨rfl, HH.out.below HU1.out, HU1.out.mono (by simp)⟩
  · have hrb : ((r : Int) == 0) = false := by rw [beq_eq_false_iff_ne]; omega
    have hd := hs.flat hl
    have hlf := ht.left
    have HS := Lib.hid hs
    have HL := Lib.hid ht.low
    have HSL : Hid ((S.length : Int) ≤ (g.h : Int)) := by show _ ≤ _; omega
    clear h ht hs hlf
    go_enter Tryz.func28, Tryz.ntmps28
    go_wp2_with fail
    refine HO.out.mono ?_
    rintro e w1 ⟨rfl, n1, hn1⟩
    have HU1 : Hid (Upd [] w w1) := by show Upd _ _ _; rw [hn1]; exact (Upd.refl _ _).drewN _
    have HO1 := Lib.hid (homesS (HH.out.below HU1.out))
    clear hn1
    go_wp2_with fail
    refine HO1.out.mono ?_
    rintro e w2 ⟨rfl, n2, hn2⟩
    have HU2 : Hid (Upd [] w w2) := by show Upd _ _ _; rw [hn2]; exact HU1.out.drewN _
    clear hn2
    have h2 := HH.out.below HU2.out
    have hjlt := h2.jr.at_.lt
    obtain ⟨w3, hw3⟩ : ∃ w3, w3 = (w2.alloc (.cells #[.int .i64 0] 3)).alloc (.cells #[.int .i64 0] 3) := ⟨_, rfl⟩
    have hu3 : Upd [] w2 w3 := by rw [hw3]; exact ((Upd.refl _ _).alloc _).alloc _
    have n3 : w3.heap[w2.heap.size]? = some (.cells #[.int .i64 0] 3 (0, 0)) := by rw [hw3, blk_alloc_ne (by simp)]; exact blk_alloc _
    have l3 : w3.heap[w2.heap.size + 1]? = some (.cells #[.int .i64 0] 3 (0, 0)) := by rw [hw3]; have := blk_alloc (w := w2.alloc (.cells #[.int .i64 0] 3)) (.cells #[.int .i64 0] 3); simpa using this
    obtain ⟨w4, hw4⟩ : ∃ w4, w4 = w3.setCell ⟨w2.heap.size, 0, none⟩ (.int .i64 0) := ⟨_, rfl⟩
    have st4 := store_c n3 0 (v := .int .i64 0) (by simp) rfl
    rw [← hw4] at st4
    have hu4 : Upd [w2.heap.size] w3 w4 := by rw [hw4]; exact (Upd.refl _ _).set _ (.inl (by simp))
    have n4 : w4.heap[w2.heap.size]? = some (.cells #[.int .i64 0] 3 (0, 0)) := by rw [hw4]; exact blk_set n3 0 _
    have l4 := (hu4.block _ (blk_lt l3) (by simp)).trans l3
    obtain ⟨w5, hw5⟩ : ∃ w5, w5 = w4.setCell ⟨w2.heap.size + 1, 0, none⟩ (.int .i64 (g.h : Int)) := ⟨_, rfl⟩
    have st5 := store_c l4 0 (v := .int .i64 (g.h : Int)) (by simp) rfl
    rw [← hw5] at st5
    have hu5 : Upd [w2.heap.size + 1] w4 w5 := by rw [hw5]; exact (Upd.refl _ _).set _ (.inl (by simp))
    have l5 : w5.heap[w2.heap.size + 1]? = some (.cells #[.int .i64 (g.h : Int)] 3 (0, 0)) := by rw [hw5]; exact blk_set l4 0 _
    have n5 := (hu5.block _ (blk_lt n4) (by simp)).trans n4
    have h5 : SpAt w5 g M := ((h2.below hu3).turnedI (fun b hb => by simp at hb; subst hb; exact ⟨_, _, n3⟩) hu4).turnedI (fun b hb => by simp at hb; subst hb; exact ⟨_, _, l4⟩) hu5
    have hW := walk_spec (t := lenTells) (U := [w2.heap.size]) (B := w.heap.size) (Inv := LenInv w2.heap.size) (lb := w2.heap.size + 1) (from_ := z32) (g := g) (M := M) len_told
      (fun a v v' hi hu => ⟨(hu.block _ (blk_lt hi.1) (by simp; omega)).trans hi.1, hi.2⟩) (fun a v v' hi hu => ⟨(hu.block _ (blk_lt hi.1) (by simp)).trans hi.1, hi.2⟩) ent78 (by simp) z32_length d h5 HS.out HL.out (deep := 16) (by omega) (by omega) HSL.out (by omega) l5 0 ⟨n5, by unfold wrap64; omega⟩ (fun k hk => by simp at hk; subst hk; exact blk_lt n5) (by show 0 + l.length ≤ 1000; omega)
    unfold arr at hW
    have HWK := Lib.hid hW
    have HU5 : Hid (Upd [] w w5) := by
      show Upd _ _ _
      have a3 := HU2.out.trans hu3
      have hsz := HU2.out.size
      exact (a3.late hu4 (fun k hk => by simp at hk; subst hk; exact .inr hsz)).late hu5 (fun k hk => by simp at hk; subst hk; exact .inr (by omega))
    have HSZ := Lib.hid HU2.out.size
    rw [hw3] at st4
    have bi := build_id0
    clear h2 hjlt hw3 hu3 n3 l3 hw4 hu4 n4 l4 hw5 hu5 l5 n5 h5 hW
    go_wp2_with fail
    refine HWK.out.mono ?_
    rintro e w6 ⟨la, lv, y, el, hla, rfl, hi, h6, _, _, _, hf⟩
    have hla0 : la = [] := by
      cases la with
      | nil => rfl
      | cons p la =>
        have h1 := hla p (by simp)
        have h2 := HS.out.pairs p (by rw [el]; simp)
        have h3 := ltB_zero 32 p.1 h2.1
        unfold z32 at h1
        rw [h3] at h1; simp at h1
    subst hla0
    rw [List.nil_append] at el
    subst el
    have hF : (lenTells.F 0 l).1 = (l.length : Int) := by
      show (if l = [] then (0 : Int) else wrap64 (0 + l.length)) = _
      by_cases h0 : l = []
      · subst h0; simp
      · rw [if_neg h0]; unfold wrap64; omega
    rw [hF] at hi
    have m6 := blk_cell hi.1 0
    have H6 := Lib.hid h6
    have HU6 : Hid (Upd [g.j.jb] w w6) := by
      show Upd _ _ _
      obtain ⟨S', hu, hS'⟩ := hf
      refine (HU5.out.mono (T := [g.j.jb]) (by simp)).late hu (fun k hk => ?_)
      have hsz := HSZ.out
      rcases hS' k hk with q | ⟨q, _⟩
      · simp only [List.mem_cons, List.not_mem_nil, or_false] at q
        rcases q with rfl | rfl | rfl
        · exact .inr (by omega)
        · exact .inl (by simp)
        · exact .inr hsz
      · exact .inr q
    clear hi hF h6 hf hla
    go_wp2_with fail
    go_ret2
    exact ⟨rfl, H6.out, HU6.out⟩

end Go.Proofs.YtceakcejchbbjaaGreat
