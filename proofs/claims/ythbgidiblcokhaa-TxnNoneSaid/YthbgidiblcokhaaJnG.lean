/-
  Journal.note.
-/
import Derived.Test.YthbgidiblcokhaaJnF
namespace Go.Proofs.Ythbgidiblcokhaa
open Go.RowKit

/-- A slice of api.Put whose sectors are rows of the program's own, in blocks of F. -/
def PutsOwn (w : World) (F : Nat → Prop) (v : Value) (l : List Put) : Prop :=
  ∃ ps : List (Int × Value), w.ownsRow 0 40 2 v ps.length (putCells ps) ∧ ps.length = l.length ∧ ∀ (k : Nat) (p : Int × Value), ps[k]? = some p → ∃ q : Put, l[k]? = some q ∧ p.1 = q.1 ∧ Own w 5 F p.2 q.2

theorem PutsOwn.at {w : World} {F : Nat → Prop} {v : Value} {l : List Put} (h : PutsOwn w F v l) : PutsAt w v l := by
  obtain ⟨ps, h1, h2, h3⟩ := h
  refine ⟨ps, h1, h2, fun k p hp => ?_⟩
  obtain ⟨q, a, b, c⟩ := h3 k p hp
  exact ⟨q, a, b, c.rd⟩
theorem PutsOwn.world {w w' : World} {F : Nat → Prop} {v : Value} {l : List Put} (h : PutsOwn w F v l) {S : List Nat} (hu : Upd S w w') (hS : ∀ (k : Nat) (c : Array Value), k ∈ S → w.heap[k]? ≠ some (.cells c 40 (0, 0))) (hR : ∀ (b : Nat) (c : Array Value), b ∈ S → w.heap[b]? ≠ some (.cells c 5 (0, 0))) : PutsOwn w' F v l := by
  obtain ⟨ps, h1, h2, h3⟩ := h
  refine ⟨ps, ⟨h1.1, ?_⟩, h2, fun k p hp => ?_⟩
  · rcases h1.2 with h | ⟨g, cap, cur, e, hb, hg, r⟩
    · exact .inl h
    · exact .inr ⟨g, cap, cur, e, hb, (hu.block _ (blk_lt hg) (fun q => hS g cur q hg)).trans hg, r⟩
  · obtain ⟨q, a, b, c⟩ := h3 k p hp
    exact ⟨q, a, b, c.world fun bb cc _ hc => hu.block _ (blk_lt hc) (fun q => hR bb cc q hc)⟩
theorem PutsOwn.mono {w : World} {F G : Nat → Prop} {v : Value} {l : List Put} (h : PutsOwn w F v l) (hFG : ∀ k, F k → G k) : PutsOwn w G v l := by
  obtain ⟨ps, h1, h2, h3⟩ := h
  refine ⟨ps, h1, h2, fun k p hp => ?_⟩
  obtain ⟨q, a, b, c⟩ := h3 k p hp
  exact ⟨q, a, b, c.mono hFG⟩
theorem PutsOwn.get {w : World} {F : Nat → Prop} {v : Value} {l : List Put} (h : PutsOwn w F v l) (k : Nat) (hk : k < l.length) :
    ∃ g cap kb dc, v = .slice (some ⟨g, 0, none⟩) l.length cap ∧ w.cell? ⟨g, k * 2, none⟩ = some (.int .i64 l[k].1) ∧ w.cell? ⟨g, k * 2 + 1, none⟩ = some (.slice (some ⟨kb, 0, none⟩) l[k].2.length dc) ∧ Own w 5 F (.slice (some ⟨kb, 0, none⟩) l[k].2.length dc) l[k].2 := by
  obtain ⟨g, cap, da, dc, e, c1, c2, _⟩ := h.at.get k hk
  obtain ⟨ps, h1, h2, h3⟩ := h
  obtain ⟨p, hp⟩ : ∃ p, ps[k]? = some p := ⟨_, List.getElem?_eq_getElem (by omega)⟩
  obtain ⟨q, a, b, c⟩ := h3 k p hp
  have hq : q = l[k] := by rw [List.getElem?_eq_getElem hk] at a; exact (Option.some.inj a).symm
  subst hq
  rcases h1.2 with ⟨_, h0⟩ | ⟨g', cap', cur, e', _, hg, _, _, _, ht⟩
  · omega
  · have hgg : g' = g := by rw [e'] at e; simp at e; exact e.1
    subst hgg
    have hcur : (putCells ps)[2 * k + 1]? = cur[2 * k + 1]? := by
      rw [← ht, List.getElem?_take, if_pos (by have := (List.getElem?_eq_some_iff.1 hp).1; omega)]; simp
    have hc2 := (putCells_get ps k p hp).2
    rw [hcur, Nat.mul_comm 2 k, ← blk_cell hg, c2] at hc2
    have hp2 : p.2 = .slice da l[k].2.length dc := (Option.some.inj hc2).symm
    rw [hp2] at c
    obtain ⟨kb, rest, hF, e2, hb2⟩ := id c
    simp only [Value.slice.injEq] at e2
    obtain ⟨rfl, _, rfl⟩ := e2
    exact ⟨g', cap, kb, _, e, c1, c2, c⟩

/-- What is away behind a list. -/
def awayL (aw : Nat → Option Sec) (l : List Put) : Nat → Option Sec := l.foldl (fun aw p i => if i = p.1.toNat then some p.2 else aw i) aw
theorem awayL_snoc {aw : Nat → Option Sec} {l : List Put} {k : Nat} (hk : k < l.length) : awayL aw (l.take (k + 1)) = fun i => if i = l[k].1.toNat then some l[k].2 else awayL aw (l.take k) i := by
  rw [List.take_succ_eq_append_getElem hk]; unfold awayL; rw [List.foldl_append]; rfl
theorem awayL_cases {aw : Nat → Option Sec} : ∀ {l : List Put} {i : Nat} {s : Sec}, awayL aw l i = some s → aw i = some s ∨ ∃ p ∈ l, p.1.toNat = i ∧ p.2 = s := by
  intro l
  unfold awayL
  induction l generalizing aw with
  | nil => intro i s h; exact .inl h
  | cons p l ih =>
    intro i s h
    rw [List.foldl_cons] at h
    rcases ih h with h1 | ⟨q, hq, e⟩
    · split at h1
      · rename_i e; cases h1; exact .inr ⟨p, by simp, e.symm, rfl⟩
      · exact .inl h1
    · exact .inr ⟨q, by simp [hq], e⟩

def Jn.note (J : Jn) (l : List Put) : Jn := { J with away := awayL J.away l, turn := J.turn + 1, place := (J.place + 1 + l.length) % J.last.ring, used := J.used + (1 + l.length) }

theorem WaitM.update {w : World} {F : Nat → Prop} {mb : Nat} {wt : Nat → Option Sec} (h : WaitM w F mb wt) (i : Int) (h0 : 0 ≤ i) (v : Value) (s : Sec) (ho : Own w 5 F v s) :
    ∃ o, (Instr.mapUpdate 49 (.map (some mb)) (.int .i64 i) v).run Try.prog w = .ok () (ChangeMaps.setBlock w mb o) ∧ WaitM (ChangeMaps.setBlock w mb o) F mb (fun j => if j = i.toNat then some s else wt j) := by
  obtain ⟨f, hf, hf1, hf2⟩ := h
  obtain ⟨o, hrun, hmap⟩ := hf.update (P := Try.prog) (T := 49) Try.underlying49 Try.underlying3 i v
  have ha : ∀ k c, F k → w.heap[k]? = some (.cells c 5 (0, 0)) → (ChangeMaps.setBlock w mb o).heap[k]? = w.heap[k]? := fun k c _ hk => setBlock_ne _ (hf.not_cells hk)
  refine ⟨o, hrun, _, hmap, fun k u hk => ?_, fun k u hk => ?_⟩
  · by_cases e : k = i
    · rw [if_pos e] at hk; cases hk
      exact ⟨by omega, s, by show (if k.toNat = i.toNat then some s else wt k.toNat) = _; rw [if_pos (by omega)], ho.world ha⟩
    · rw [if_neg e] at hk
      obtain ⟨k0, s', e1, o1⟩ := hf1 k u hk
      exact ⟨k0, s', by show (if k.toNat = i.toNat then some s else wt k.toNat) = _; rw [if_neg (by omega)]; exact e1, o1.world ha⟩
  · by_cases e : (k : Int) = i
    · exact ⟨_, if_pos e⟩
    · replace hk : (if k = i.toNat then some s else wt k) = some u := hk
      rw [if_neg (by omega)] at hk
      obtain ⟨u', hu'⟩ := hf2 k u hk
      exact ⟨u', by rw [if_neg e]; exact hu'⟩

set_option maxHeartbeats 1000000 in
theorem note_spec {w : World} {F : Nat → Prop} {j : JG} {J : Jn} {D : Dk} (h : JnAt w F j J D) (v : Value) (l : List Put) (hp : PutsOwn w F v l) (hl : l.length ≤ 1000)
    (hin : ∀ p ∈ l, 0 ≤ p.1 ∧ p.1 < (J.homes D.n : Int) ∧ p.2.length = 512) (ht : J.turn + 1 < 4611686018427389000) (hus : J.used + 1000 < 100000000) :
    Calls Try.prog 54 #[.pointer (some ⟨j.jb, 0, none⟩), v] w fun e w' => e = .returned (.tuple #[]) ∧ JnAt w' F j (J.note l) D ∧ Upd [j.jb, j.ab] w w' := by
  have H := Lib.hid h
  have HP := Lib.hid hp
  have HIN := Lib.hid hin
  obtain ⟨ao, cap, rfl⟩ := hp.at.shape
  have hr0 := h.ok.ring0
  have hr1 := h.ok.ring1
  have hpl := h.ok.place
  have ht0 := h.ok.turn0
  have hw := u64_wrap_in (J.turn + 1) (by omega) (by omega)
  have HT := Lib.hid ht
  clear h hp hin ht
  have hne : j.ab ≠ j.jb := by obtain ⟨f, hf, _⟩ := H.out.away; exact Ne.symm (hf.not_cells H.out.st)
  have HNE := Lib.hid hne
  clear hne
  go_enter Try.func54, Try.ntmps54
  go_wp2_with fail
  go_loopw [8] (fun i wr => ∃ k : Nat, k ≤ l.length ∧ i = .int .i64 (k : Int) ∧ WaitM wr F j.ab (awayL J.away (l.take k)) ∧ Upd [j.ab] w wr) (fun i _ => l.length - (intOf i).toNat)
  case atStart => exact ⟨0, Nat.zero_le _, rfl, H.out.away, Upd.refl _ _⟩
  case round =>
    obtain ⟨k, hk, rfl, hwm, hu⟩ := hrel
    have hjb : wr.heap[j.jb]? = _ := (hu.block _ H.out.lt.1 (by simpa using Ne.symm HNE.out)).trans H.out.st
    have hmapab : ∀ (c : Array Value) (t : TypeId), w.heap[j.ab]? ≠ some (.cells c t (0, 0)) := by
      intro c t e
      obtain ⟨f, hf, _⟩ := H.out.away
      exact hf.not_cells e rfl
    by_cases hlt : k < l.length
    · have hpw := HP.out.world hu (fun k c hk => by simp at hk; subst hk; exact hmapab c _) (fun k c hk => by simp at hk; subst hk; exact hmapab c _)
      obtain ⟨g, cap', kb, dc, e, hc1, hc2, hown⟩ := hpw.get k hlt
      obtain ⟨rfl, _, rfl⟩ : ao = some ⟨g, 0, none⟩ ∧ l.length = l.length ∧ cap = cap' := by simpa using e
      have hrng := HIN.out l[k] (List.getElem_mem hlt)
      have hsn := awayL_snoc (aw := J.away) hlt
      obtain ⟨i, hi⟩ : ∃ i, i = l[k].1 := ⟨_, rfl⟩
      obtain ⟨sd, hsd⟩ : ∃ sd, sd = l[k].2 := ⟨_, rfl⟩
      rw [← hi, ← hsd] at hrng hsn
      rw [← hi] at hc1
      rw [← hsd] at hc2 hown
      have hi0 := hrng.1
      clear hrng
      have HSN := Lib.hid hsn
      have HU := Lib.hid hu
      have HWM := Lib.hid hwm
      have HOWN := Lib.hid hown
      have HJB := Lib.hid hjb
      clear e hi hsd hsn hpw hu hwm hown hjb hmapab
      go_wp2_with fail
      have hWu : Upd [] wr (wr.alloc (.cells #[.int .i64 i, .slice (some ⟨kb, 0, none⟩) sd.length dc] 40)) := (Upd.refl _ _).alloc _
      have hWb : (wr.alloc (.cells #[.int .i64 i, .slice (some ⟨kb, 0, none⟩) sd.length dc] 40)).heap[wr.heap.size]? = some (.cells #[.int .i64 i, .slice (some ⟨kb, 0, none⟩) sd.length dc] 40 (0, 0)) := blk_alloc _
      generalize wr.alloc (.cells #[.int .i64 i, .slice (some ⟨kb, 0, none⟩) sd.length dc] 40) = W at hWu hWb ⊢
      have hwmW : WaitM W.drew F j.ab (awayL J.away (l.take k)) := by
        obtain ⟨f, hf, _⟩ := id HWM.out
        exact HWM.out.world (hWu.block _ hf.lt (by simp)) (fun k c _ hk => hWu.block _ (blk_lt hk) (by simp))
      obtain ⟨o, hup, hwm2⟩ := hwmW.update i hi0 (.slice (some ⟨kb, 0, none⟩) sd.length dc) sd (HOWN.out.world (fun k c _ hk => hWu.block _ (blk_lt hk) (by simp)))
      have hcW := blk_cell hWb
      have hcj := blk_cell ((hWu.block _ (blk_lt HJB.out) (by simp)).trans HJB.out)
      have HWM2 := Lib.hid hwm2
      have HWU := Lib.hid hWu
      clear hWb hWu hc1 hc2 hwmW hwm2
      go_region
      go_wp2
      go_roundw
      case rel => exact ⟨k + 1, by omega, by go_num, by rw [HSN.out]; exact HWM2.out, ((HU.out.trans (HWU.out.mono (by simp))).drew).setBlock _ (.inl (by simp))⟩
      case measure => simp [intOf]; omega
    · obtain rfl : k = l.length := by omega
      rw [List.take_length] at hwm
      have hcj := blk_cell hjb
      have hfj := blk_free hjb
      have HWM := Lib.hid hwm
      have HU := Lib.hid hu
      have HJB := Lib.hid hjb
      clear hwm hu hjb hmapab
      go_wp2_with fail
      have hW1 := blk_set HJB.out 7 (.int .u64 (J.turn + 1))
      have hWo : ∀ k, k ≠ j.jb → (wr.setCell ⟨j.jb, 7, none⟩ (.int .u64 (J.turn + 1))).heap[k]? = wr.heap[k]? := fun k hk => blk_set_ne _ _ hk
      have hWs : Upd [j.jb] wr (wr.setCell ⟨j.jb, 7, none⟩ (.int .u64 (J.turn + 1))) := (Upd.refl _ _).set _ (.inl (by simp))
      generalize wr.setCell ⟨j.jb, 7, none⟩ (.int .u64 (J.turn + 1)) = W at hW1 hWo hWs ⊢
      simp only [List.setIfInBounds_toArray, List.set_cons_succ, List.set_cons_zero] at hW1
      have hcW := blk_cell hW1
      have hfW := blk_free hW1
      have HW1 := Lib.hid hW1
      have HWO := Lib.hid hWo
      have HWS := Lib.hid hWs
      clear hW1 hWo hWs hcj hfj
      have hm1 : (0 : Int) ≤ (J.place : Int) + 1 + (l.length : Int) := by omega
      have hm2 : (1 : Int) ≤ (J.last.ring : Int) := by omega
      have hw1 : IntKind.i64.wrap ((J.place : Int) + 1) = (J.place : Int) + 1 := IntWalk.i64_in _ (by omega)
      have hw2 : IntKind.i64.wrap ((J.place : Int) + 1 + (l.length : Int)) = (J.place : Int) + 1 + (l.length : Int) := IntWalk.i64_in _ (by omega)
      go_region
      clear hw1 hw2
      go_wp2
      go_end0
      have hmod : (J.place + 1 + l.length) % J.last.ring < J.last.ring := Nat.mod_lt _ (by omega)
      have hU : Upd [j.jb, j.ab] w ((W.setCell ⟨j.jb, 8, none⟩ (.int .i64 (((J.place : Int) + 1 + (l.length : Int)) % (J.last.ring : Int)))).setCell ⟨j.jb, 9, none⟩ (.int .i64 ((J.used : Int) + (1 + (l.length : Int))))).drew :=
        ((((HU.out.mono (by simp)).trans (HWS.out.mono (by simp))).set _ (.inl (by simp))).set _ (.inl (by simp))).drew
      refine ⟨rfl, ?_, hU⟩
      -- the journal whose map has grown, its struct as it was
      have hJr : JnAt wr F j { J with away := awayL J.away l } D := by
        have hd := H.out.disk
        have hb : ∀ k, k ∈ [j.d.db, j.d.lb, j.d.mb] → k ≠ j.ab := by
          obtain ⟨f, hf, _⟩ := H.out.away
          obtain ⟨⟨fv, a1, _⟩, ⟨lv, b1, _⟩, _, _⟩ := hd
          intro k hk e
          simp only [List.mem_cons, List.not_mem_nil, or_false] at hk
          rcases hk with rfl | rfl | rfl
          · exact hf.not_cells a1 e
          · exact hf.not_cells b1 e
          · exact H.out.ne e.symm
        refine ⟨hd.world (HU.out.block _ hd.lt.1 (by simpa using hb _ (by simp))) (HU.out.block _ hd.lt.2.1 (by simpa using hb _ (by simp))) (HU.out.block _ hd.lt.2.2 (by simpa using hb _ (by simp))) (fun k c _ hk => HU.out.block _ (blk_lt hk) (by
          obtain ⟨f, hf, _⟩ := H.out.away
          simpa using hf.not_cells hk)), HJB.out, HWM.out, H.out.ne, ?_⟩
        have ok := H.out.ok
        refine ⟨ok.ring0, ok.ring1, ok.fits, ok.lplace, ok.place, ok.num0, ok.num1, ok.lturn0, ok.turn0, ok.turn1, ok.used, fun i s hs => ?_⟩
        rcases awayL_cases hs with h1 | ⟨p, hp, e1, e2⟩
        · exact ok.away i s h1
        · have := HIN.out p hp
          unfold Jn.homes at this
          subst e2
          exact ⟨by show i + 2 + J.last.ring < D.n; omega, this.2.2⟩
      refine hJr.re ?_ (fun k _ hk => by rw [blk_drew, blk_set_ne _ _ hk, blk_set_ne _ _ hk]; exact HWO.out k hk) rfl ?_
      · rw [blk_drew, blk_set (blk_set HW1.out 8 _) 9 _]
        simp [Jn.note]
      · have ok := hJr.ok
        exact ⟨ok.ring0, ok.ring1, ok.fits, ok.lplace, hmod, ok.num0, ok.num1, ok.lturn0, by show 1 ≤ J.turn + 1; omega, HT.out, by show J.used + (1 + l.length) ≤ 100000000; omega, ok.away⟩

end Go.Proofs.Ythbgidiblcokhaa
