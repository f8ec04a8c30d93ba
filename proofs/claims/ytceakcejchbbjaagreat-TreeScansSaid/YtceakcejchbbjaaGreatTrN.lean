/-
  tree.Depth.
-/
import Derived.Test.YtceakcejchbbjaaGreatTrM
namespace Go.Proofs.YtceakcejchbbjaaGreat
open Go.RowKit Go.MapKept Go.ChangeMaps

attribute [-go_sem] loadCells
theorem DOwn.cell {w : World} {B : Nat} {v : Value} {ds : List Nat} (h : DOwn w B v ds) (hp : 0 < ds.length) : ∃ gd cap, v = .slice (some ⟨gd, 0, none⟩) ds.length cap ∧ B ≤ gd ∧ ∀ (i d : Nat), ds[i]? = some d → w.cell? ⟨gd, i, none⟩ = some (.int .u32 (d : Int)) := by
  rcases h.2 with ⟨rfl, h0⟩ | ⟨g, cap, cur, rfl, hb, hg, hc, _, hs, ht⟩
  · omega
  · refine ⟨g, cap, rfl, hb, fun i d hd => ?_⟩
    have hi : i < ds.length := (List.getElem?_eq_some_iff.1 hd).1
    have hf : (ds.map fun d : Nat => Value.int .u32 (d : Int))[i]? = some (.int .u32 (d : Int)) := by rw [List.getElem?_map, hd]; rfl
    rw [← ht, List.getElem?_take_of_lt (by omega)] at hf
    rw [blk_cell hg]
    simpa using hf
theorem Kids.first {P : Nat → List Pair9 → List Nat → Prop} {ks : List Bs} {ds : List Nat} {l : List Pair9} {S : List Nat} (h : Kids P ks ds l S) : ∃ k l1 S1, ds[0]? = some k ∧ P k l1 S1 ∧ ∀ s, s ∈ S1 → s ∈ S := by
  cases h with
  | one h => exact ⟨_, _, _, rfl, h, fun _ q => q⟩
  | more h _ _ _ => exact ⟨_, _, _, rfl, h, fun s q => List.mem_append_left _ q⟩

set_option maxRecDepth 100000 in
set_option maxHeartbeats 2000000 in
theorem depth_spec {w : World} {g : Sg} {M : Nat → Option Sec} (h : SpAt w g M) {d a : Nat} {l : List Pair9} {S : List Nat} (hs : Shape (g.cur M) true d a l S) (hS : ∀ s, s ∈ S → 4 ≤ s ∧ s < g.h) (hd : d < 16) :
    Calls Tryz.prog 29 #[.pointer (some ⟨g.x.tb, 0, none⟩), .int .u32 (a : Int)] w fun e w' => e = .returned (.tuple #[.int .i64 ((d + 1 : Nat) : Int), .int .i64 0]) ∧ SpAt w' g M ∧ Upd [g.j.jb] w w' := by
  have hm := hS a hs.mem.1
  have HO := Lib.hid (homesS h)
  have hb : ((g.h : Int) == 0) = false := by rw [beq_eq_false_iff_ne]; omega
  have ha : ((a : Int) == 0) = false := by rw [beq_eq_false_iff_ne]; omega
  have HH := Lib.hid h
  have HSH := Lib.hid hs
  have HSS := Lib.hid hS
  clear h hs hS hm
  go_enter Tryz.func29, Tryz.ntmps29
  go_wp2_with fail
  refine HO.out.mono ?_
  rintro e w1 ⟨rfl, n1, hn1⟩
  have HU1 : Hid (Upd [] w w1) := by show Upd _ _ _; rw [hn1]; exact (Upd.refl _ _).drewN _
  clear hn1
  go_wp2_with fail
  go_loopw [6, 1] (fun n r wr => ∃ (q : Nat) (b : Bool) (d' a' : Nat) (l' : List Pair9) (S' : List Nat), q + d' = d ∧ n = .int .i64 ((q + 1 : Nat) : Int) ∧ r = .int .u32 (a' : Int) ∧ Shape (g.cur M) b d' a' l' S' ∧ (∀ s, s ∈ S' → s ∈ S) ∧ SpAt wr g M ∧ Upd [g.j.jb] w wr) (fun n _ _ => 17 - (intOf n).toNat)
  case atStart => exact ⟨0, true, d, a, l, S, by omega, rfl, rfl, HSH.out, fun _ q => q, HH.out.below HU1.out, HU1.out.mono (by simp)⟩
  case round =>
    obtain ⟨q, b, d', a', l', S', hq, rfl, rfl, hsh, hsub, hsp, hu⟩ := hrel
    have hlt : decide (((q + 1 : Nat) : Int) ≤ 16) = true := decide_eq_true (by omega)
    obtain ⟨Q, hQ⟩ : ∃ Q : Int, Q = ((q + 1 : Nat) : Int) := ⟨_, rfl⟩
    rw [← hQ] at hlt ⊢
    have hQ0 : 0 ≤ Q := by omega
    have hQ1 : Q ≤ 16 := by omega
    have HQ := Lib.hid hQ
    have ham := HSS.out a' (hsub a' hsh.mem.1)
    have ha4 := hsh.mem.2
    cases d' with
    | zero =>
      have hr := read_leaf hsp a' ham.2 ha4 hsh.2.2.1 hsh.2.2.2.1
      have HR := Lib.hid hr
      have HUr := Lib.hid hu
      clear hr hsh hsub hsp hu hQ
      go_wp2_with fail
      refine HR.out.mono ?_
      rintro e w2 ⟨vk, vv, rfl, hK, hV, h2, hu2⟩
      obtain ⟨ak, ck, rfl⟩ := own_shape hK
      obtain ⟨av, cv, rfl⟩ := own_shape hV
      have H2 := Lib.hid h2
      have HU2 := Lib.hid (HUr.out.trans hu2)
      clear h2 hu2 hK hV
      go_wp2_with fail
      go_ret2
      refine ⟨by rw [HQ.out, show q + 1 = d + 1 from by omega]; rfl, H2.out.below ((Upd.refl _ _).alloc _), HU2.out.alloc _⟩
    | succ d' =>
      obtain ⟨_, ks, ds, S2, e1, hok, hc, _, _, hk⟩ := hsh
      obtain ⟨k, l1, S1, hk0, hks, hsub1⟩ := hk.first
      have hr := read_inner hsp a' ham.2 ha4 hok hc
      have HR := Lib.hid hr
      have HUr := Lib.hid hu
      have HOK := Lib.hid hok
      have HK0 := Lib.hid hk0
      have HKS := Lib.hid hks
      have HSB : Hid (∀ s, s ∈ S1 → s ∈ S) := by show ∀ s, _; exact fun s hs => hsub s (by rw [e1]; exact List.mem_cons_of_mem _ (hsub1 s hs))
      clear hr hsub hsp hu hQ hok hc hk hk0 hks e1
      go_wp2_with fail
      refine HR.out.mono ?_
      rintro e w2 ⟨vk, vd, rfl, hK, hD, h2, hu2⟩
      obtain ⟨ak, ck, rfl⟩ := own_shape hK
      obtain ⟨gd, cap, rfl, _, hcell⟩ := hD.cell (by rw [HOK.out.n]; omega)
      have kc := cell_upd (w' := w2.alloc (.cells #[.int .i64 2, .slice ak ks.length ck, .slice none 0 0, .slice (some ⟨gd, 0, none⟩) ds.length cap] 145)) (hcell 0 k HK0.out) ((Upd.refl [] _).alloc _) (by simp)
      have i9 : (0 : Int) < (ds.length : Int) := by have := HOK.out.n; omega
      have H2 := Lib.hid h2
      have HU2 := Lib.hid (HUr.out.trans hu2)
      clear h2 hu2 hD hcell hK
      go_wp2_with fail
      exact ⟨⟨q + 1, false, d', k, l1, S1, by omega, by have := HQ.out; congr 1; omega, rfl, HKS.out, HSB.out, H2.out.below ((Upd.refl _ _).alloc _), HU2.out.alloc _⟩, by have := HQ.out; simp [intOf]; omega⟩

end Go.Proofs.YtceakcejchbbjaaGreat
