/-
  A disk that holds a journal: what a checkpoint, a commit and an opening leave of it, with the power on and behind its failure. No program in sight.
-/
import Derived.Test.YthbgidiblcokhaaPlB
namespace Go.Proofs.Ythbgidiblcokhaa
open Go.RowKit

/-- A journal as its anchor has it. -/
def Jn.base (J : Jn) : Jn := { J with turn := J.last.turn, place := J.last.place, used := 0, away := fun _ => none }
def Jn.slot (J : Jn) : Nat := ((J.last.number + 1) % 2).toNat
def Jn.cur (J : Jn) : Nat := (J.last.number % 2).toNat
theorem Jn.slot_ne (J : Jn) : J.slot ≠ J.cur ∧ J.slot < 2 ∧ J.cur < 2 := by unfold Jn.slot Jn.cur; omega
def Jn.Small (J : Jn) : Prop := J.last.number < 4611686018427387000 ∧ J.turn < 4611686018427387000

/-- The disk D, on which nothing waits, holds the journal J. -/
structure Held (D : Dk) (J : Jn) : Prop where
  calm : D.Calm
  jok : J.Ok D.n
  lives : J.lives = D.lives
  done : J.done = false
  anc : D.last J.cur = J.last.sector
  oth : numI (D.last J.slot) 504 8 < J.last.number ∨ (J.used ≠ 0 ∧ (D.last J.slot).take 504 = J.next.sector.take 504 ∧ numI (D.last J.slot) 504 8 ≠ J.last.number + 1)
  path : Path D J.base J
  clean : ∀ q, q < J.last.ring → Clean (D.last (2 + q)) J.turn
  used : J.used ≤ J.last.ring
/-- The same, and no anchor was torn since. -/
structure Live (D : Dk) (J : Jn) : Prop where
  held : Held D J
  low : numI (D.last J.slot) 504 8 < J.last.number

theorem Jn.at_lt {J : Jn} {n : Nat} (h : J.Ok n) (p : Nat) : 2 ≤ J.at p ∧ J.at p < 2 + J.last.ring ∧ J.at p < n := by
  have := h.ring0
  have hm : p % J.last.ring < J.last.ring := Nat.mod_lt _ (by omega)
  have := h.fits
  unfold Jn.at; omega
theorem mod_ne {x d r : Nat} (h0 : 0 < d) (h1 : d < r) : (x + d) % r ≠ x % r := by
  intro e
  have := Nat.sub_mod_eq_zero_of_mod_eq e
  rw [Nat.add_sub_cancel_left, Nat.mod_eq_of_lt h1] at this
  omega
theorem mod_ne' {x a b r : Nat} (h0 : a < b) (h1 : b < a + r) : (x + a) % r ≠ (x + b) % r := by
  have := mod_ne (x := x + a) (d := b - a) (r := r) (by omega) (by omega)
  rw [show x + a + (b - a) = x + b from by omega] at this
  exact Ne.symm this
theorem Held.facts {D : Dk} {J : Jn} (h : Held D J) : J.last.turn ≤ J.turn ∧ J.place = (J.last.place + J.used) % J.last.ring ∧ (J.used = 0 → J = J.base) := by
  obtain ⟨_, _, _, a4, _, a6, a7⟩ := h.path.facts h.jok.lplace
  exact ⟨a4, a6, a7⟩
theorem Held.fit {D : Dk} {J : Jn} (h : Held D J) (hs : J.Small) : J.last.Fit ∧ J.next.Fit := by
  have := h.jok.num0
  have := h.jok.lturn0
  have := h.jok.turn0
  have := h.jok.lplace
  have := h.jok.place
  have := h.jok.ring1
  have := h.facts.1
  have h1 := hs.1
  have h2 := hs.2
  exact ⟨⟨by omega, by omega, by omega, by omega, by omega, by omega⟩, ⟨by show 0 ≤ J.last.number + 1; omega, by show J.last.number + 1 < _; omega, by show 0 ≤ J.turn; omega, by show J.turn < _; omega, by show J.place < _; omega, by show J.last.ring < _; omega⟩⟩
theorem Held.okB {D : Dk} {J : Jn} (h : Held D J) (hs : J.Small) : J.last.okB D.n = true := by
  have := h.jok.num0
  have := h.jok.lturn0
  have := h.jok.lplace
  have := h.jok.ring0
  have := h.jok.ring1
  have := h.jok.fits
  have := h.facts.1
  have h2 := hs.2
  unfold Anc.okB
  simp only [Bool.and_eq_true, decide_eq_true_eq, bne_iff_ne]
  exact ⟨⟨⟨by omega, by omega⟩, by omega⟩, ⟨⟨by omega, by omega⟩, by omega⟩, by omega⟩
theorem num_take {b : List UInt8} {a n m : Nat} (h : a + n ≤ m) : num (b.take m) a n = num b a n := num_congr fun i _ h2 => List.getElem?_take_of_lt (by omega)
/-- The other slot's anchor is none, or an elder one. -/
theorem Held.other {D : Dk} {J : Jn} (h : Held D J) (hs : J.Small) : tagOf (D.last J.slot) < J.last.number := by
  have h0 := h.jok.num0
  by_cases e : tagOf (D.last J.slot) = 0
  · omega
  · obtain ⟨e1, e2⟩ := tagOf_ne e
    rcases h.oth with q | ⟨_, q1, q2⟩
    · omega
    · exfalso
      apply q2
      rw [e2, ← e1]
      unfold numI
      rw [← num_take (b := D.last J.slot) (m := 504) (by omega), q1, num_take (by omega)]
      exact (Anc.sector_ends (h.fit hs).2).1
theorem Held.anchor {D : Dk} {J : Jn} (h : Held D J) (hs : J.Small) : D.anc = J.last := by
  have hc : ancOf (D.now J.cur) = J.last := by rw [h.calm.now, h.anc]; exact ancOf_sector (h.fit hs).1
  have hok := h.okB hs
  have h0 := h.jok.num0
  have ho : ¬ (J.last.number < (ancOf (D.now J.slot)).number) := by
    rw [h.calm.now]
    have := h.other hs
    show ¬ (J.last.number < tagOf (D.last J.slot))
    omega
  have ho2 : (ancOf (D.now J.slot)).number < J.last.number := by
    rw [h.calm.now]; exact h.other hs
  show D.ancStep (D.ancStep ⟨0, 0, 0, 0⟩ 0) 1 = J.last
  have hcases : (J.cur = 0 ∧ J.slot = 1) ∨ (J.cur = 1 ∧ J.slot = 0) := by unfold Jn.cur Jn.slot; omega
  rcases hcases with ⟨e1, e2⟩ | ⟨e1, e2⟩
  · rw [e1] at hc
    rw [e2] at ho
    have s0 : D.ancStep ⟨0, 0, 0, 0⟩ 0 = J.last := by
      unfold Dk.ancStep; rw [hc, if_pos ⟨hok, by show (0 : Int) < _; omega⟩]
    rw [s0]; unfold Dk.ancStep; rw [if_neg (fun q => ho q.2)]
  · rw [e1] at hc
    rw [e2] at ho2
    have s0 : (D.ancStep ⟨0, 0, 0, 0⟩ 0).number < J.last.number := by
      unfold Dk.ancStep; split
      · exact ho2
      · show (0 : Int) < _; omega
    unfold Dk.ancStep at s0 ⊢
    rw [hc, if_pos ⟨hok, s0⟩]
theorem Held.boot {D : Dk} {J : Jn} (h : Held D J) (hs : J.Small) : D.boot = J.base := by
  unfold Dk.boot Jn.base
  rw [h.anchor hs, ← h.lives, ← h.done]
theorem Held.stop {D : Dk} {J : Jn} (h : Held D J) : J.stands D = [] := by
  apply Jn.stands_no
  intro q
  have hr := Jn.at_lt h.jok J.place
  have ht := h.jok.turn0
  have hc := h.clean (J.at J.place - 2) (by omega)
  rw [show 2 + (J.at J.place - 2) = J.at J.place from by omega] at hc
  refine hc.tag (h.calm.ok.last _) (by omega) (Int.le_refl _) ?_
  rw [← h.calm.now]; exact q.1

/-- What a journal's path needs of a disk stands on another one, too. -/
theorem Held.path' {D D' : Dk} {J : Jn} (h : Held D J) (hc : D'.Calm) (hn : D'.n = D.n) (hr : ∀ k, k < J.used → D'.last (J.at (J.last.place + k)) = D.last (J.at (J.last.place + k))) : Path D' (J.anew D').base (J.anew D') := by
  have := (h.path.frame (D' := D') hn h.jok.lplace (fun k hk => by rw [hc.now, h.calm.now]; exact hr k hk)).anew (D' := D')
  exact this
theorem Jn.Ok.anew {J : Jn} {n n' : Nat} (h : J.Ok n) (e : n' = n) (D : Dk) : (J.anew D).Ok n' := by
  subst e
  exact ⟨h.ring0, h.ring1, h.fits, h.lplace, h.place, h.num0, h.num1, h.lturn0, h.turn0, h.turn1, h.used, h.away⟩
/-- The journal stays on a disk that is the same where it matters. -/
theorem Held.stay {D D' : Dk} {J : Jn} (h : Held D J) (hc : D'.Calm) (hn : D'.n = D.n) (ha : D'.last J.cur = D.last J.cur)
    (ho : numI (D'.last J.slot) 504 8 < J.last.number ∨ (J.used ≠ 0 ∧ (D'.last J.slot).take 504 = J.next.sector.take 504 ∧ numI (D'.last J.slot) 504 8 ≠ J.last.number + 1))
    (hr : ∀ k, k < J.used → D'.last (J.at (J.last.place + k)) = D.last (J.at (J.last.place + k))) (hcl : ∀ q, q < J.last.ring → Clean (D'.last (2 + q)) J.turn) : Held D' (J.anew D') :=
  ⟨hc, h.jok.anew hn D', rfl, rfl, ha.trans h.anc, ho, h.path' hc hn hr, hcl, h.used⟩
theorem Held.settledOk {D : Dk} {J : Jn} (h : Held D J) (hs : J.Small) : J.settled.Ok D.n := by
  have := hs.1
  have := h.jok.num0
  exact ⟨h.jok.ring0, h.jok.ring1, h.jok.fits, h.jok.place, h.jok.place, by show 1 ≤ J.last.number + 1; omega, by show J.last.number + 1 < _; omega, h.jok.turn0, h.jok.turn0, h.jok.turn1, by show 0 ≤ _; omega, by intro i s q; simp [Jn.settled] at q⟩
/-- Behind a checkpoint the disk holds the settled journal. -/
theorem Held.settled {D D' : Dk} {J : Jn} (h : Held D J) (hs : J.Small) (hc : D'.Calm) (hn : D'.n = D.n) (ha : D'.last J.cur = D.last J.cur) (hx : D'.last J.slot = J.next.sector)
    (hcl : ∀ q, q < J.last.ring → Clean (D'.last (2 + q)) J.turn) : Live D' (J.settled.anew D') := by
  have e1 : (J.settled.anew D').cur = J.slot := rfl
  have e2 : (J.settled.anew D').slot = J.cur := by show ((J.last.number + 1 + 1) % 2).toNat = (J.last.number % 2).toNat; congr 1; omega
  have hlow : numI (D'.last (J.settled.anew D').slot) 504 8 < (J.settled.anew D').last.number := by
    rw [e2, ha, h.anc, (Anc.sector_ends (h.fit hs).1).2]; show J.last.number < J.last.number + 1; omega
  refine ⟨⟨hc, (h.settledOk hs).anew hn D', rfl, rfl, by rw [e1]; exact hx, .inl hlow, ?_, hcl, Nat.zero_le _⟩, hlow⟩
  exact Path.refl _

/-! ## lists that are committed -/

/-- Home sectors behind a list that was committed. -/
def putsH (h : Nat → Sec) (l : List Put) : Nat → Sec := l.foldl (fun h p i => if i = p.1.toNat then p.2 else h i) h
theorem awayL_home (l : List Put) : ∀ (aw : Nat → Option Sec) (x : Nat → Sec) (i : Nat), (awayL aw l i).getD (x i) = putsH (fun i => (aw i).getD (x i)) l i := by
  induction l with
  | nil => intro aw x i; rfl
  | cons p l ih =>
    intro aw x i
    show (awayL (fun i => if i = p.1.toNat then some p.2 else aw i) l i).getD (x i) = putsH (fun i => if i = p.1.toNat then p.2 else (aw i).getD (x i)) l i
    rw [ih]
    congr 1
    funext j
    split <;> rfl
theorem Jn.note_ok {J : Jn} {n : Nat} (h : J.Ok n) {l : List Put} (hf : J.fits n l = 0) (ht : J.turn < 4611686018427387000) (hu : J.used + (1 + l.length) ≤ J.last.ring) : (J.note l).Ok n := by
  have := h.ring1
  have := h.ring0
  have := h.turn0
  have := h.fits
  refine ⟨h.ring0, h.ring1, h.fits, h.lplace, Nat.mod_lt _ (by omega), h.num0, h.num1, h.lturn0, by show 1 ≤ J.turn + 1; omega, by show J.turn + 1 < _; omega, by show J.used + (1 + l.length) ≤ _; omega, fun i s q => ?_⟩
  show i + 2 + J.last.ring < n ∧ _
  rcases awayL_cases q with q | ⟨p, hp, e1, e2⟩
  · exact h.away i s q
  · obtain ⟨a, b, c⟩ := (fits_parts hf).2.2.1 p hp
    rw [← e2, ← e1]
    refine ⟨?_, c⟩
    unfold Jn.homes at b; omega
theorem Jn.note_home {J : Jn} {D D' : Dk} (l : List Put) (hc : D.Calm) (hc' : D'.Calm) (hh : ∀ i, D'.last (2 + J.last.ring + i) = D.last (2 + J.last.ring + i)) : (J.note l).home D' = putsH (J.home D) l := by
  funext i
  unfold Jn.home
  show (awayL J.away l i).getD (D'.now (2 + J.last.ring + i)) = _
  rw [awayL_home l J.away (fun i => D'.now (2 + J.last.ring + i))]
  congr 1
  funext j
  rw [hc'.now, hc.now, hh]

/-- Behind a commit the disk holds it. -/
theorem Held.note {D D' : Dk} {J : Jn} {l : List Put} (h : Live D J) (hs : J.Small) (hf : J.fits D.n l = 0) (h0 : l ≠ []) (hu : J.used + (1 + l.length) ≤ J.last.ring) (hc : D'.Calm) (hn : D'.n = D.n)
    (ha : ∀ i, i < 2 → D'.last i = D.last i) (hr : ∀ k, k < J.used → D'.last (J.at (J.last.place + k)) = D.last (J.at (J.last.place + k)))
    (hh : D'.last (J.at J.place) = hdr J.turn l) (hb : ∀ k, (q : k < l.length) → D'.last (J.at (J.place + 1 + k)) = ringSec J.turn l[k].2)
    (hcl : ∀ q, q < J.last.ring → Clean (D'.last (2 + q)) (J.turn + 1)) : Live D' ((J.note l).anew D') := by
  have hsl := J.slot_ne
  have hlow : numI (D'.last ((J.note l).anew D').slot) 504 8 < ((J.note l).anew D').last.number := by
    show numI (D'.last J.slot) 504 8 < J.last.number
    rw [ha _ hsl.2.1]; exact h.low
  have ht := h.held.jok.turn0
  have hst : J.stands D' = l := stands_commit (by rw [hn]; exact hf) h0 hc.ok.n1 (by omega) h.held.jok.turn1 (by rw [hc.now]; exact hh) (fun k q => by rw [hc.now]; exact hb k q)
  refine ⟨⟨hc, (Jn.note_ok h.held.jok hf hs.2 hu).anew hn D', rfl, rfl, ?_, .inl hlow, ?_, hcl, hu⟩, hlow⟩
  · show D'.last J.cur = J.last.sector
    rw [ha _ hsl.2.2]; exact h.held.anc
  · have hp := h.held.path.frame (D' := D') hn h.held.jok.lplace (fun k hk => by rw [hc.now, h.held.calm.now]; exact hr k hk)
    have := (hp.snoc (by rw [hst]; exact h0)).anew (D' := D')
    rw [hst] at this
    exact this

/-! ## a checkpoint -/

/-- What an operation leaves: done, or the power failed and the disk holds a journal when it is back. -/
def Back (D1 : Dk) (n ring : Nat) (num : Int) (Q : Dk → Jn → Prop) : Prop :=
  D1.off = true ∧ D1.n = n ∧ D1.Ok ∧ ∀ keep, ∃ J', Held (D1.power keep) J' ∧ J'.last.ring = ring ∧ J'.last.number ≤ num + 1 ∧ (D1.power keep).n = n ∧ (D1.power keep).armed = -1 ∧ Q (D1.power keep) J'

theorem homeL_wrL (J : Jn) : ∀ (l : List Nat) (D : Dk), homeL J D l = wrL D (l.map fun i => (2 + J.last.ring + i, (J.away i).getD []))
  | [], _ => rfl
  | i :: l, D => by
    rw [homeL_cons, List.map_cons, wrL_cons, homeL_wrL J l]
theorem Jn.keys_mem {J : Jn} {n i : Nat} (h : J.Ok n) : i ∈ J.keys n ↔ (J.away i).isSome = true := by
  unfold Jn.keys
  rw [List.mem_filter, List.mem_range]
  refine ⟨fun q => q.2, fun q => ⟨?_, q⟩⟩
  obtain ⟨s, hs⟩ := Option.isSome_iff_exists.1 q
  have := (h.away i s hs).1
  unfold Jn.homes; omega
theorem Jn.keys_nodup (J : Jn) (n : Nat) : (J.keys n).Nodup := List.Pairwise.filter _ List.nodup_range
theorem sector_torn {J : Jn} {old x : Sec} (hfit : J.next.Fit) (hl : old.length = 512) (hu : J.used ≠ 0)
    (ho : numI old 504 8 < J.last.number ∨ (J.used ≠ 0 ∧ old.take 504 = J.next.sector.take 504 ∧ numI old 504 8 ≠ J.last.number + 1))
    (ht : Torn old J.next.sector x) : x = J.next.sector ∨ (numI x 504 8 < J.last.number ∨ (J.used ≠ 0 ∧ x.take 504 = J.next.sector.take 504 ∧ numI x 504 8 ≠ J.last.number + 1)) := by
  have hsl : J.next.sector.length = 512 := Anc.sector_length _
  obtain ⟨hx, k, hk, hg⟩ := ht.get hl hsl
  have hends := (Anc.sector_ends hfit).2
  have hnn : J.next.number = J.last.number + 1 := rfl
  have tk : ∀ {a b : Sec}, (∀ i, i < 504 → a[i]? = b[i]?) → a.take 504 = b.take 504 := by
    intro a b h
    apply List.ext_getElem?
    intro i
    rw [List.getElem?_take, List.getElem?_take]
    split
    · exact h i (by assumption)
    · rfl
  by_cases h504 : 504 ≤ k
  · have t504 : x.take 504 = J.next.sector.take 504 := tk fun i hi => by rw [hg, if_pos (by omega)]
    by_cases e : numI x 504 8 = J.last.number + 1
    · left
      have e8 : (x.drop 504).take 8 = (J.next.sector.drop 504).take 8 := by
        apply beN_inj (n := 8)
        · rw [List.length_take, List.length_drop]; omega
        · rw [List.length_take, List.length_drop]; omega
        · have a1 : numI x 504 8 = numI J.next.sector 504 8 := by rw [e, hends, hnn]
          unfold numI num at a1; omega
      rw [List.take_of_length_le (by rw [List.length_drop]; omega), List.take_of_length_le (by rw [List.length_drop]; omega)] at e8
      rw [← List.take_append_drop 504 x, t504, e8, List.take_append_drop]
    · exact .inr (.inr ⟨hu, t504, e⟩)
  · have e8 : numI x 504 8 = numI old 504 8 := by
      show ((num x 504 8 : Nat) : Int) = ((num old 504 8 : Nat) : Int)
      exact congrArg _ (num_congr fun i h1 _ => by rw [hg, if_neg (by omega)])
    right
    rcases ho with q | ⟨_, q1, q2⟩
    · left; rw [e8]; exact q
    · right
      refine ⟨hu, ?_, by rw [e8]; exact q2⟩
      have : ∀ i, i < 504 → old[i]? = J.next.sector[i]? := fun i hi => by
        have := congrArg (fun l : List UInt8 => l[i]?) q1
        simp only [List.getElem?_take_of_lt hi] at this
        exact this
      exact tk fun i hi => by rw [hg]; split; rfl; exact this i hi

theorem Held.settle {D : Dk} {J : Jn} (h : Held D J) (hs : J.Small) (hu : J.used ≠ 0) :
    ((J.settleD D).2 = 0 ∧ Live (J.settleD D).1 J.settled ∧ J.settled.home (J.settleD D).1 = J.home D ∧ (J.settleD D).1.n = D.n ∧ (D.armed = -1 → (J.settleD D).1.armed = -1)) ∨
    ((J.settleD D).2 = 8 ∧ D.armed ≠ -1 ∧ Back (J.settleD D).1 D.n J.last.ring J.last.number fun D' J' => J'.turn = J.turn ∧ J'.home D' = J.home D) := by
  have hfits := h.jok.fits
  have hring := h.jok.ring0
  have hsl := J.slot_ne
  have hfit := h.fit hs
  have hnx : J.next.sector.length = 512 := Anc.sector_length _
  -- where the homes are being written
  let P1 : Nat → Sec → Prop := fun i b => 2 + J.last.ring ≤ i ∧ J.away (i - (2 + J.last.ring)) = some b
  have fail1 : ∀ D1, Fell D P1 D1 → Back D1 D.n J.last.ring J.last.number fun D' J' => J'.turn = J.turn ∧ J'.home D' = J.home D := by
    intro D1 hf
    refine ⟨hf.off, hf.n, hf.ok, fun keep => ?_⟩
    obtain ⟨c1, c2, c3, c4, c5⟩ := hf.power keep
    have low : ∀ i, i < 2 + J.last.ring → (D1.power keep).last i = D.last i := fun i hi => by
      rcases c5 i with q | ⟨b, ⟨q, _⟩, _⟩
      · exact q
      · omega
    refine ⟨J.anew (D1.power keep), h.stay c1 c2 (low _ (by omega)) (by rw [low _ (by omega)]; exact h.oth) (fun k _ => low _ (Jn.at_lt h.jok _).2.1) (fun q hq => by rw [low _ (by omega)]; exact h.clean q hq), rfl, by show J.last.number ≤ _; omega, c2, c3, rfl, ?_⟩
    funext i
    show (J.away i).getD _ = (J.away i).getD _
    cases ha : J.away i with
    | some s => rfl
    | none =>
      show (D1.power keep).now _ = D.now _
      rw [c1.now, h.calm.now]
      rcases c5 (2 + J.last.ring + i) with q | ⟨b, ⟨_, q⟩, _⟩
      · exact q
      · rw [show 2 + J.last.ring + i - (2 + J.last.ring) = i from by omega, ha] at q; simp at q
  have out1 := Pend.wrL ((J.keys D.n).map fun i => (2 + J.last.ring + i, (J.away i).getD [])) (Pend.start h.calm P1)
    (fun x hx => by
      obtain ⟨i, hi, rfl⟩ := List.mem_map.1 hx
      obtain ⟨s, hs'⟩ := Option.isSome_iff_exists.1 ((Jn.keys_mem h.jok).1 hi)
      obtain ⟨a1, a2⟩ := h.jok.away i s hs'
      refine ⟨by show 2 + J.last.ring + i < D.n; omega, by rw [hs']; exact a2, ⟨by show 2 + J.last.ring ≤ 2 + J.last.ring + i; omega, ?_⟩, by rw [h.calm.wait]⟩
      show J.away (2 + J.last.ring + i - (2 + J.last.ring)) = some ((J.away i).getD [])
      rw [show 2 + J.last.ring + i - (2 + J.last.ring) = i from by omega, hs']; rfl)
    (by
      rw [List.map_map]
      exact (List.pairwise_map.2 ((J.keys_nodup D.n).imp (fun hne q => hne (by simp at q; exact q)))))
  rw [← homeL_wrL] at out1
  unfold Jn.settleD
  rcases out1 with ⟨e1, p1, w1, w1'⟩ | ⟨e1, f1⟩
  rotate_left
  · rw [if_pos (by rw [e1]; decide)]
    exact .inr ⟨e1, f1.arm, fail1 _ f1⟩
  rw [if_neg (by rw [e1]; decide)]
  rcases p1.flush with ⟨e2, c2, l2, n2, lv2, ar2⟩ | ⟨e2, f2⟩
  rotate_left
  · rw [if_pos (by rw [e2]; decide)]
    exact .inr ⟨e2, f2.arm, fail1 _ f2⟩
  rw [if_neg (by rw [e2]; decide)]
  generalize hD2 : (homeL J D (J.keys D.n)).1.flush.1 = D2 at *
  have low2 : ∀ i, i < 2 + J.last.ring → D2.last i = D.last i := fun i hi => by
    rw [l2]; unfold Dk.now
    rw [w1' i (by
      intro q
      obtain ⟨x, hx, e⟩ := List.mem_map.1 q
      obtain ⟨k, _, rfl⟩ := List.mem_map.1 hx
      replace e : 2 + J.last.ring + k = i := e
      omega), h.calm.wait, p1.last]; rfl
  have home2 : ∀ i, D2.last (2 + J.last.ring + i) = J.home D i := fun i => by
    rw [l2]; unfold Dk.now Jn.home
    cases ha : J.away i with
    | some s =>
      have hk : i ∈ J.keys D.n := (Jn.keys_mem h.jok).2 (by rw [ha]; rfl)
      have := w1 (2 + J.last.ring + i, (J.away i).getD []) (List.mem_map.2 ⟨i, hk, rfl⟩)
      replace this : (homeL J D (J.keys D.n)).1.wait (2 + J.last.ring + i) = some ((J.away i).getD []) := this
      rw [this, ha]; rfl
    | none =>
      rw [w1' _ (by
        intro q
        obtain ⟨x, hx, e⟩ := List.mem_map.1 q
        obtain ⟨k, hk, rfl⟩ := List.mem_map.1 hx
        replace e : 2 + J.last.ring + k = 2 + J.last.ring + i := e
        have : k = i := by omega
        subst this
        have := (Jn.keys_mem h.jok).1 hk
        rw [ha] at this; simp at this), h.calm.wait, p1.last]
      show D.last _ = D.now _
      rw [h.calm.now]
  -- the anchor
  let P2 : Nat → Sec → Prop := fun i b => i = J.slot ∧ b = J.next.sector
  have fail2 : ∀ D1, Fell D2 P2 D1 → Back D1 D.n J.last.ring J.last.number fun D' J' => J'.turn = J.turn ∧ J'.home D' = J.home D := by
    intro D1 hf
    refine ⟨hf.off, hf.n.trans n2, hf.ok, fun keep => ?_⟩
    obtain ⟨c1, c2', c3, c4, c5⟩ := hf.power keep
    have oth : ∀ i, i ≠ J.slot → (D1.power keep).last i = D2.last i := fun i hi => by
      rcases c5 i with q | ⟨b, ⟨q, _⟩, _⟩
      · exact q
      · exact absurd q hi
    have hx : Torn (D.last J.slot) J.next.sector ((D1.power keep).last J.slot) := by
      rcases c5 J.slot with q | ⟨b, ⟨_, rfl⟩, _, q⟩
      · rw [q, low2 _ (by omega)]; exact ⟨0, by omega, by simp⟩
      · rw [low2 _ (by omega)] at q; exact q
    have hcl : ∀ q, q < J.last.ring → Clean ((D1.power keep).last (2 + q)) J.turn := fun q hq => by
      rw [oth _ (by omega), low2 _ (by omega)]; exact h.clean q hq
    have hcur : (D1.power keep).last J.cur = D.last J.cur := by rw [oth _ (Ne.symm hsl.1), low2 _ (by omega)]
    have hn3 : (D1.power keep).n = D.n := c2'.trans n2
    have hhome : ∀ i, (D1.power keep).last (2 + J.last.ring + i) = J.home D i := fun i => by rw [oth _ (by omega), home2]
    rcases sector_torn hfit.2 (h.calm.ok.last _) hu h.oth hx with e | ho
    · refine ⟨J.settled.anew (D1.power keep), (h.settled hs c1 hn3 hcur e hcl).held, rfl, by show J.last.number + 1 ≤ _; omega, hn3, c3, rfl, ?_⟩
      funext i
      show (D1.power keep).now (2 + J.last.ring + i) = _
      rw [c1.now]; exact hhome i
    · refine ⟨J.anew (D1.power keep), h.stay c1 hn3 hcur ho (fun k _ => ?_) hcl, rfl, by show J.last.number ≤ _; omega, hn3, c3, rfl, ?_⟩
      · have := Jn.at_lt h.jok (J.last.place + k)
        rw [oth _ (by omega), low2 _ (by omega)]
      · funext i
        show (J.away i).getD _ = _
        cases ha : J.away i with
        | some s => unfold Jn.home; rw [ha]; rfl
        | none =>
          show (D1.power keep).now (2 + J.last.ring + i) = _
          rw [c1.now]; exact hhome i
  have hslot : ((J.last.number + 1) % 2) = ((J.slot : Nat) : Int) := by unfold Jn.slot; omega
  rw [hslot]
  rcases (Pend.start c2 P2).write (i := J.slot) (by omega) hnx ⟨rfl, rfl⟩ (by rw [c2.wait]) with ⟨e3, p3, w3⟩ | ⟨e3, f3⟩
  rotate_left
  · rw [if_pos (by rw [e3]; decide)]
    exact .inr ⟨e3, fun q => f3.arm (ar2 q), fail2 _ f3⟩
  rw [if_neg (by rw [e3]; decide)]
  rcases p3.flush with ⟨e4, c4, l4, n4, lv4, ar4⟩ | ⟨e4, f4⟩
  rotate_left
  · exact .inr ⟨e4, fun q => f4.arm (ar2 q), fail2 _ f4⟩
  left
  generalize hD4 : (D2.write ((J.slot : Nat) : Int) J.next.sector).1.flush.1 = D4 at *
  have h4 : ∀ i, D4.last i = if i = J.slot then J.next.sector else D2.last i := fun i => by
    rw [l4]; unfold Dk.now; rw [w3, p3.last]
    show (if i = J.slot then some J.next.sector else D2.wait i).getD _ = _
    split
    · rfl
    · rw [c2.wait]; rfl
  have hL := h.settled hs c4 (n4.trans n2) (by rw [h4, if_neg (Ne.symm hsl.1), low2 _ (by omega)]) (by rw [h4, if_pos rfl]) (fun q hq => by rw [h4, if_neg (by omega), low2 _ (by omega)]; exact h.clean q hq)
  have hlv : D4.lives = D.lives := lv4.trans lv2
  have hja : J.settled.anew D4 = J.settled := by
    unfold Jn.anew Jn.settled
    rw [hlv, ← h.lives, ← h.done]
  rw [hja] at hL
  refine ⟨e4, hL, ?_, n4.trans n2, fun q => ar4 (ar2 q)⟩
  funext i
  show D4.now (2 + J.last.ring + i) = _
  rw [c4.now, h4, if_neg (by omega), home2]

end Go.Proofs.Ythbgidiblcokhaa
