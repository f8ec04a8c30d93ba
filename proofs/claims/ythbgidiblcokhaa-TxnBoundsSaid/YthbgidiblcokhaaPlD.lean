/-
  What a commit and an opening leave of a disk that holds a journal. No program in sight.
-/
import Derived.Test.YthbgidiblcokhaaPlC
namespace Go.Proofs.Ythbgidiblcokhaa
open Go.RowKit

/-- The writes of a commit's sectors. -/
def comW (J : Jn) : Nat → List Put → List (Nat × Sec)
  | _, [] => []
  | k, p :: l => (J.at (J.place + 1 + k), ringSec J.turn p.2) :: comW J (k + 1) l
theorem comL_wrL (J : Jn) : ∀ (l : List Put) (k : Nat) (D : Dk), comL J k D l = wrL D (comW J k l)
  | [], _, _ => rfl
  | p :: l, k, D => by
    rw [comL_cons]
    show _ = wrL D ((J.at (J.place + 1 + k), ringSec J.turn p.2) :: comW J (k + 1) l)
    rw [wrL_cons, comL_wrL J l]
theorem comW_mem (J : Jn) : ∀ (l : List Put) (k : Nat) (x : Nat × Sec), x ∈ comW J k l ↔ ∃ m, ∃ h : m < l.length, x = (J.at (J.place + 1 + (k + m)), ringSec J.turn l[m].2)
  | [], k, x => by simp [comW]
  | p :: l, k, x => by
    show x ∈ (J.at (J.place + 1 + k), ringSec J.turn p.2) :: comW J (k + 1) l ↔ _
    rw [List.mem_cons, comW_mem J l]
    constructor
    · rintro (e | ⟨m, hm, e⟩)
      · exact ⟨0, by simp, by simpa using e⟩
      · exact ⟨m + 1, by simpa using hm, by rw [e, show k + 1 + m = k + (m + 1) from by omega]; rfl⟩
    · rintro ⟨m, hm, e⟩
      cases m with
      | zero => left; simpa using e
      | succ m => right; exact ⟨m, by simpa using hm, by rw [e, show k + 1 + m = k + (m + 1) from by omega]; rfl⟩
theorem at_ne {J : Jn} {x a b : Nat} (h0 : a < b) (h1 : b < a + J.last.ring) : J.at (x + a) ≠ J.at (x + b) := by
  have := mod_ne' (x := x) h0 h1
  unfold Jn.at; omega
theorem comW_nodup {J : Jn} : ∀ (l : List Put) (k : Nat), k + l.length < J.last.ring → ((comW J k l).map (·.1)).Nodup ∧ J.at J.place ∉ (comW J k l).map (·.1)
  | [], _, _ => ⟨List.nodup_nil, by simp [comW]⟩
  | p :: l, k, h => by
    simp only [List.length_cons] at h
    obtain ⟨a1, a2⟩ := comW_nodup (J := J) l (k + 1) (by omega)
    show ((J.at (J.place + 1 + k)) :: (comW J (k + 1) l).map (·.1)).Nodup ∧ J.at J.place ∉ ((J.at (J.place + 1 + k)) :: (comW J (k + 1) l).map (·.1))
    refine ⟨List.nodup_cons.2 ⟨fun q => ?_, a1⟩, fun q => ?_⟩
    · obtain ⟨x, hx, e⟩ := List.mem_map.1 q
      obtain ⟨m, hm, rfl⟩ := (comW_mem J l (k + 1) x).1 hx
      replace e : J.at (J.place + 1 + (k + 1 + m)) = J.at (J.place + 1 + k) := e
      exact at_ne (J := J) (x := J.place + 1) (a := k) (b := k + 1 + m) (by omega) (by omega) e.symm
    · rcases List.mem_cons.1 q with e | q
      · have := at_ne (J := J) (x := J.place) (a := 0) (b := 1 + k) (by omega) (by omega)
        rw [show J.place + (1 + k) = J.place + 1 + k from by omega] at this
        exact this e
      · exact a2 q

theorem Live.put {D : Dk} {J : Jn} {l : List Put} (h : Live D J) (hs : J.Small) (hf : J.fits D.n l = 0) (h0 : l ≠ []) (hu : J.used + (1 + l.length) ≤ J.last.ring) :
    ((J.putD D l).2 = 0 ∧ Live (J.putD D l).1 (J.note l) ∧ (J.note l).home (J.putD D l).1 = putsH (J.home D) l ∧ (J.putD D l).1.n = D.n ∧ (D.armed = -1 → (J.putD D l).1.armed = -1)) ∨
    ((J.putD D l).2 = 8 ∧ D.armed ≠ -1 ∧ Back (J.putD D l).1 D.n J.last.ring J.last.number fun D' J' => (J'.turn = J.turn ∧ J'.home D' = J.home D) ∨ (J'.turn = J.turn + 1 ∧ J'.home D' = putsH (J.home D) l)) := by
  have hh := h.held
  have hjok := hh.jok
  have hfits := hjok.fits
  have hring := hjok.ring0
  have ht0 := hjok.turn0
  have ht1 := hs.2
  have hsl := J.slot_ne
  obtain ⟨f1, f2, f3, f4⟩ := fits_parts hf
  have hhom : J.homes D.n ≤ 4096 := by unfold Jn.homes; have := hh.calm.ok.n1; omega
  have hpok : PutsOk l := ⟨f1, fun p hp => by obtain ⟨a, b, c⟩ := f3 p hp; exact ⟨a, by omega, c⟩⟩
  have hhl := hdr_length (t := J.turn) hpok
  have hplace : J.place = (J.last.place + J.used) % J.last.ring := hh.facts.2.1
  have atP : ∀ k, J.at (J.place + k) = J.at (J.last.place + (J.used + k)) := fun k => by
    unfold Jn.at; rw [hplace, Nat.mod_add_mod, Nat.add_assoc]
  -- a place of the path is none of the commit's
  have apart : ∀ m, m < J.used → ∀ k, k ≤ l.length → J.at (J.place + k) ≠ J.at (J.last.place + m) := fun m hm k hk => by
    rw [atP]; exact (at_ne (J := J) (x := J.last.place) (a := m) (b := J.used + k) (by omega) (by omega)).symm
  have at1 : ∀ k, J.at (J.place + 1 + k) = J.at (J.place + (1 + k)) := fun k => by rw [Nat.add_assoc]
  have inr : ∀ k, 2 ≤ J.at k ∧ J.at k < 2 + J.last.ring ∧ J.at k < D.n := fun k => Jn.at_lt hjok k
  have apart1 : ∀ k, k < l.length → J.at (J.place + 1 + k) ≠ J.at J.place := fun k hk => by
    rw [at1]; exact (at_ne (J := J) (x := J.place) (a := 0) (b := 1 + k) (by omega) (by omega)).symm
  -- the ring's sectors
  let ws := (J.at J.place, zsec) :: comW J 0 l
  have wsm : ∀ x, x ∈ ws ↔ x = (J.at J.place, zsec) ∨ ∃ m, ∃ q : m < l.length, x = (J.at (J.place + 1 + m), ringSec J.turn l[m].2) := fun x => by
    show x ∈ _ :: _ ↔ _
    rw [List.mem_cons, comW_mem]; simp
  let P1 : Nat → Sec → Prop := fun i b => (i, b) ∈ ws
  have hP1 : ∀ i b, P1 i b → b.length = 512 ∧ num b 7 1 % 2 = 0 ∧ ∃ k, k ≤ l.length ∧ i = J.at (J.place + k) := fun i b q => by
    rcases (wsm _).1 q with e | ⟨m, hm, e⟩
    · cases e; exact ⟨zsec_length, by rw [zsec_num 7 (by omega)], 0, Nat.zero_le _, rfl⟩
    · cases e
      have hl := (f3 _ (List.getElem_mem hm)).2.2
      exact ⟨ringSec_length hl, ringSec_even hl (by omega) (by omega), 1 + m, by omega, at1 m⟩
  have fail1 : ∀ D1, Fell D P1 D1 → Back D1 D.n J.last.ring J.last.number fun D' J' => (J'.turn = J.turn ∧ J'.home D' = J.home D) ∨ (J'.turn = J.turn + 1 ∧ J'.home D' = putsH (J.home D) l) := by
    intro D1 hfl
    refine ⟨hfl.off, hfl.n, hfl.ok, fun keep => ?_⟩
    obtain ⟨c1, c2, c3, c4, c5⟩ := hfl.power keep
    have same : ∀ i, (∀ k, k ≤ l.length → i ≠ J.at (J.place + k)) → (D1.power keep).last i = D.last i := fun i hi => by
      rcases c5 i with q | ⟨b, q, _⟩
      · exact q
      · obtain ⟨_, _, k, hk, e⟩ := hP1 i b q; exact absurd e (hi k hk)
    have same2 : ∀ i, i < 2 → (D1.power keep).last i = D.last i := fun i hi => same i fun k _ e => by have := inr (J.place + k); omega
    refine ⟨J.anew (D1.power keep), hh.stay c1 c2 (same2 _ hsl.2.2) (by rw [same2 _ hsl.2.1]; exact hh.oth) (fun m hm => same _ fun k hk e => apart m hm k hk e.symm) (fun q hq => ?_), rfl, by show J.last.number ≤ _; omega, c2, c3, .inl ⟨rfl, ?_⟩⟩
    · rcases c5 (2 + q) with e | ⟨b, hb, hbl, ht⟩
      · rw [e]; exact hh.clean q hq
      · exact (hh.clean q hq).torn (hP1 _ _ hb).2.1 ht (hh.calm.ok.last _) hbl
    · funext i
      show (J.away i).getD ((D1.power keep).now (2 + J.last.ring + i)) = (J.away i).getD (D.now (2 + J.last.ring + i))
      rw [c1.now, hh.calm.now, same _ fun k _ e => by have := inr (J.place + k); omega]
  have out1 := Pend.wrL ws (Pend.start hh.calm P1)
    (fun x hx => by
      obtain ⟨a1, a2, k, a3, a4⟩ := hP1 x.1 x.2 hx
      exact ⟨by rw [a4]; exact (inr _).2.2, a1, hx, by rw [hh.calm.wait]⟩)
    (by
      obtain ⟨a1, a2⟩ := comW_nodup (J := J) l 0 (by omega)
      exact List.nodup_cons.2 ⟨a2, a1⟩)
  have hput : J.putD D l = if (wrL D ws).2 ≠ 0 then wrL D ws else if (wrL D ws).1.flush.2 ≠ 0 then (wrL D ws).1.flush else if ((wrL D ws).1.flush.1.write ((J.at J.place : Nat) : Int) (hdr J.turn l)).2 ≠ 0 then (wrL D ws).1.flush.1.write ((J.at J.place : Nat) : Int) (hdr J.turn l) else ((wrL D ws).1.flush.1.write ((J.at J.place : Nat) : Int) (hdr J.turn l)).1.flush := by
    unfold Jn.putD
    have e : wrL D ws = if (D.write ((J.at J.place : Nat) : Int) zsec).2 ≠ 0 then D.write ((J.at J.place : Nat) : Int) zsec else wrL (D.write ((J.at J.place : Nat) : Int) zsec).1 (comW J 0 l) := rfl
    simp only []
    by_cases q : (D.write ((J.at J.place : Nat) : Int) zsec).2 ≠ 0
    · rw [if_pos q] at e ⊢
      rw [e, if_pos q]
    · rw [if_neg q] at e ⊢
      rw [e, comL_wrL]
  rw [hput]
  rcases out1 with ⟨e1, p1, w1, w1'⟩ | ⟨e1, g1⟩
  rotate_left
  · rw [if_pos (by rw [e1]; decide)]
    exact .inr ⟨e1, g1.arm, fail1 _ g1⟩
  rw [if_neg (by rw [e1]; decide)]
  rcases p1.flush with ⟨e2, c2, l2, n2, lv2, ar2⟩ | ⟨e2, g2⟩
  rotate_left
  · rw [if_pos (by rw [e2]; decide)]
    exact .inr ⟨e2, g2.arm, fail1 _ g2⟩
  rw [if_neg (by rw [e2]; decide)]
  generalize hD2 : (wrL D ws).1.flush.1 = D2 at *
  have same2 : ∀ i, (∀ k, k ≤ l.length → i ≠ J.at (J.place + k)) → D2.last i = D.last i := fun i hi => by
    rw [l2]; unfold Dk.now
    rw [w1' i (by
      intro q
      obtain ⟨x, hx, e⟩ := List.mem_map.1 q
      obtain ⟨_, _, k, hk, e'⟩ := hP1 x.1 x.2 hx
      exact hi k hk (e.symm.trans e')), hh.calm.wait, p1.last]; rfl
  have head2 : D2.last (J.at J.place) = zsec := by
    rw [l2]; unfold Dk.now
    have := w1 (J.at J.place, zsec) ((wsm _).2 (.inl rfl))
    replace this : (wrL D ws).1.wait (J.at J.place) = some zsec := this
    rw [this]; rfl
  have body2 : ∀ k, (q : k < l.length) → D2.last (J.at (J.place + 1 + k)) = ringSec J.turn l[k].2 := fun k q => by
    rw [l2]; unfold Dk.now
    have := w1 (J.at (J.place + 1 + k), ringSec J.turn l[k].2) ((wsm _).2 (.inr ⟨k, q, rfl⟩))
    replace this : (wrL D ws).1.wait (J.at (J.place + 1 + k)) = some (ringSec J.turn l[k].2) := this
    rw [this]; rfl
  have clean2 : ∀ q, q < J.last.ring → Clean (D2.last (2 + q)) J.turn := fun q hq => by
    by_cases hi : ∃ k, k ≤ l.length ∧ 2 + q = J.at (J.place + k)
    · obtain ⟨k, hk, e⟩ := hi
      rw [e]
      cases k with
      | zero => rw [show J.place + 0 = J.place from rfl, head2]; exact Clean.zsec _
      | succ k =>
        rw [show J.place + (k + 1) = J.place + 1 + k from by omega, body2 k (by omega)]
        exact .inl (ringSec_even (f3 _ (List.getElem_mem (by omega : k < l.length))).2.2 (by omega) (by omega))
    · rw [same2 _ fun k hk e => hi ⟨k, hk, e⟩]; exact hh.clean q hq
  -- the header
  let P2 : Nat → Sec → Prop := fun i b => i = J.at J.place ∧ b = hdr J.turn l
  have noted : ∀ D', D'.Calm → D'.n = D.n → (∀ i, i ≠ J.at J.place → D'.last i = D2.last i) → D'.last (J.at J.place) = hdr J.turn l → Live D' ((J.note l).anew D') ∧ ((J.note l).anew D').home D' = putsH (J.home D) l := by
    intro D' c n hi hx
    have hout : ∀ i, (∀ k, k ≤ l.length → i ≠ J.at (J.place + k)) → D'.last i = D.last i := fun i q => (hi i (q 0 (Nat.zero_le _))).trans (same2 i q)
    refine ⟨Held.note h hs hf h0 hu c n (fun i q => hout i fun k _ e => by have := inr (J.place + k); omega) (fun m hm => hout _ fun k hk e => apart m hm k hk e.symm) hx (fun k q => ?_) (fun q hq => ?_), ?_⟩
    · rw [hi _ (apart1 k q)]; exact body2 k q
    · by_cases e : 2 + q = J.at J.place
      · rw [e, hx]; exact Clean.hdr hpok (by omega) (by omega)
      · rw [hi _ e]; exact (clean2 q hq).mono (by omega)
    · exact Jn.note_home (J := J) l hh.calm c (fun i => hout _ fun k _ e => by have := inr (J.place + k); omega)
  have fail2 : ∀ D1, Fell D2 P2 D1 → Back D1 D.n J.last.ring J.last.number fun D' J' => (J'.turn = J.turn ∧ J'.home D' = J.home D) ∨ (J'.turn = J.turn + 1 ∧ J'.home D' = putsH (J.home D) l) := by
    intro D1 hfl
    refine ⟨hfl.off, hfl.n.trans n2, hfl.ok, fun keep => ?_⟩
    obtain ⟨c1, c2', c3, c4, c5⟩ := hfl.power keep
    have hn3 : (D1.power keep).n = D.n := c2'.trans n2
    have oth : ∀ i, i ≠ J.at J.place → (D1.power keep).last i = D2.last i := fun i hi => by
      rcases c5 i with q | ⟨b, ⟨q, _⟩, _⟩
      · exact q
      · exact absurd q hi
    have hx : Torn zsec (hdr J.turn l) ((D1.power keep).last (J.at J.place)) := by
      rcases c5 (J.at J.place) with q | ⟨b, ⟨_, rfl⟩, _, q⟩
      · rw [q, head2]; exact ⟨0, by omega, by simp⟩
      · rw [head2] at q; exact q
    rcases Clean.hdrTorn hpok hx with e | hcl
    · obtain ⟨a1, a2⟩ := noted _ c1 hn3 oth e
      exact ⟨_, a1.held, rfl, by show J.last.number ≤ _; omega, hn3, c3, .inr ⟨rfl, a2⟩⟩
    · have hout : ∀ i, (∀ k, k ≤ l.length → i ≠ J.at (J.place + k)) → (D1.power keep).last i = D.last i := fun i q => (oth i (q 0 (Nat.zero_le _))).trans (same2 i q)
      have hout2 : ∀ i, i < 2 → (D1.power keep).last i = D.last i := fun i hi => hout i fun k _ e => by have := inr (J.place + k); omega
      refine ⟨J.anew (D1.power keep), hh.stay c1 hn3 (hout2 _ hsl.2.2) (by rw [hout2 _ hsl.2.1]; exact hh.oth) (fun m hm => hout _ fun k hk e => apart m hm k hk e.symm) (fun q hq => ?_), rfl, by show J.last.number ≤ _; omega, hn3, c3, .inl ⟨rfl, ?_⟩⟩
      · by_cases e : 2 + q = J.at J.place
        · rw [e]; exact hcl
        · rw [oth _ e]; exact clean2 q hq
      · funext i
        show (J.away i).getD ((D1.power keep).now (2 + J.last.ring + i)) = (J.away i).getD (D.now (2 + J.last.ring + i))
        rw [c1.now, hh.calm.now, hout _ fun k _ e => by have := inr (J.place + k); omega]
  rcases (Pend.start c2 P2).write (i := J.at J.place) (by rw [n2]; exact (inr _).2.2) hhl ⟨rfl, rfl⟩ (by rw [c2.wait]) with ⟨e3, p3, w3⟩ | ⟨e3, g3⟩
  rotate_left
  · rw [if_pos (by rw [e3]; decide)]
    exact .inr ⟨e3, fun q => g3.arm (ar2 q), fail2 _ g3⟩
  rw [if_neg (by rw [e3]; decide)]
  rcases p3.flush with ⟨e4, c4, l4, n4, lv4, ar4⟩ | ⟨e4, g4⟩
  rotate_left
  · exact .inr ⟨e4, fun q => g4.arm (ar2 q), fail2 _ g4⟩
  left
  generalize hD4 : (D2.write ((J.at J.place : Nat) : Int) (hdr J.turn l)).1.flush.1 = D4 at *
  have h4 : ∀ i, D4.last i = if i = J.at J.place then hdr J.turn l else D2.last i := fun i => by
    rw [l4]; unfold Dk.now; rw [w3, p3.last]
    show (if i = J.at J.place then some (hdr J.turn l) else D2.wait i).getD _ = _
    split
    · rfl
    · rw [c2.wait]; rfl
  obtain ⟨hL, hH⟩ := noted D4 c4 (n4.trans n2) (fun i hi => by rw [h4, if_neg hi]) (by rw [h4, if_pos rfl])
  have hlv : D4.lives = D.lives := lv4.trans lv2
  have hja : (J.note l).anew D4 = J.note l := by
    unfold Jn.anew Jn.note
    rw [hlv, ← hh.lives, ← hh.done]
  rw [hja] at hL hH
  exact ⟨e4, hL, hH, n4.trans n2, fun q => ar4 (ar2 q)⟩

theorem Held.may {D : Dk} {J : Jn} (h : Held D J) : J.may D = 0 := by
  unfold Jn.may; rw [if_neg (by simp [h.done, h.lives])]
theorem Held.keys {D : Dk} {J : Jn} (h : Held D J) (hu : J.used ≠ 0) : J.keys D.n ≠ [] := by
  rcases h.path.any with e | ⟨i, hi⟩
  · exact absurd (by rw [e]; rfl) hu
  · intro q
    have := (Jn.keys_mem h.jok).2 hi
    rw [q] at this; simp at this
theorem Held.nokeys {D : Dk} {J : Jn} (h : Held D J) (hu : J.used = 0) : J.keys D.n = [] := by
  have e := h.facts.2.2 hu
  apply List.eq_nil_iff_forall_not_mem.2
  intro i hi
  have := (Jn.keys_mem h.jok).1 hi
  rw [e] at this; simp [Jn.base] at this

/-- A checkpoint. -/
theorem Live.ck {D : Dk} {J : Jn} (h : Live D J) (hs : J.Small) :
    ((J.ckD D).2 = 0 ∧ Live (J.ckD D).1 (J.ck D) ∧ (J.ck D).home (J.ckD D).1 = J.home D ∧ (J.ck D).used = 0 ∧ (J.ck D).turn = J.turn ∧ (J.ck D).last.ring = J.last.ring ∧ (J.ck D).last.number ≤ J.last.number + 1 ∧ (J.ckD D).1.n = D.n ∧ (D.armed = -1 → (J.ckD D).1.armed = -1)) ∨
    ((J.ckD D).2 = 8 ∧ D.armed ≠ -1 ∧ Back (J.ckD D).1 D.n J.last.ring J.last.number fun D' J' => J'.turn = J.turn ∧ J'.home D' = J.home D) := by
  have hm := h.held.may
  have h1 := hs.1
  have hm' : ¬ (J.may D ≠ 0) := by rw [hm]; decide
  by_cases hu : J.used = 0
  · have hk := h.held.nokeys hu
    have eD : J.ckD D = (D, 0) := by unfold Jn.ckD; rw [if_neg hm', if_pos hk]
    have eJ : J.ck D = J := by unfold Jn.ck; rw [if_neg hm', if_pos hk]
    rw [eD, eJ]
    exact .inl ⟨rfl, h, rfl, hu, rfl, rfl, by omega, rfl, id⟩
  · have hk := h.held.keys hu
    have eD : J.ckD D = J.settleD D := by unfold Jn.ckD; rw [if_neg hm', if_neg hk, if_neg (by omega)]
    have eJ : J.ck D = J.settle D := by unfold Jn.ck; rw [if_neg hm', if_neg hk, if_neg (by omega)]
    rw [eD, eJ]
    rcases h.held.settle hs hu with ⟨e1, e2, e3, e4, e5⟩ | ⟨e1, e2, e3⟩
    · have : J.settle D = J.settled := by unfold Jn.settle; rw [if_neg (by rw [e1]; decide)]
      rw [this]
      exact .inl ⟨e1, e2, e3, rfl, rfl, rfl, Int.le_refl _, e4, e5⟩
    · exact .inr ⟨e1, e2, e3⟩

theorem fits_ring {J J' : Jn} (h : J'.last.ring = J.last.ring) (n : Nat) (l : List Put) : J'.fits n l = J.fits n l := by
  unfold Jn.fits Jn.homes; rw [h]

/-- A commit of a list that may be committed. -/
theorem Live.com {D : Dk} {J : Jn} {l : List Put} (h : Live D J) (hs : J.Small) (hs' : J.last.number + 1 < 4611686018427387000) (hf : J.fits D.n l = 0) (h0 : l ≠ []) :
    ((J.comD D l).2 = 0 ∧ Live (J.comD D l).1 (J.com D l) ∧ (J.com D l).home (J.comD D l).1 = putsH (J.home D) l ∧ (J.com D l).turn = J.turn + 1 ∧ (J.com D l).last.ring = J.last.ring ∧ (J.com D l).last.number ≤ J.last.number + 1 ∧ (J.comD D l).1.n = D.n ∧ (D.armed = -1 → (J.comD D l).1.armed = -1) ∧ (J.used = 0 → (J.com D l).used = 1 + l.length)) ∨
    ((J.comD D l).2 = 8 ∧ D.armed ≠ -1 ∧ Back (J.comD D l).1 D.n J.last.ring (J.last.number + 1) fun D' J' => (J'.turn = J.turn ∧ J'.home D' = J.home D) ∨ (J'.turn = J.turn + 1 ∧ J'.home D' = putsH (J.home D) l)) := by
  have hm := h.held.may
  have h1 := hs.1
  have h2 := hs.2
  obtain ⟨f1, f2, _, _⟩ := fits_parts hf
  have hput : ∀ {J' : Jn} {D' : Dk}, (J'.putD D' l).2 = 0 → J'.put D' l = J'.note l := by
    intro J' D' e; unfold Jn.put; rw [if_neg (by rw [e]; decide)]
  have hm' : ¬ (J.may D ≠ 0) := by rw [hm]; decide
  have hf' : ¬ (J.fits D.n l ≠ 0) := by rw [hf]; decide
  have ht' : ¬ (4611686018427387903 ≤ J.turn) := by omega
  by_cases ht : J.tight l
  · have eD : J.comD D l = if (J.ckD D).2 ≠ 0 then J.ckD D else (J.ck D).putD (J.ckD D).1 l := by unfold Jn.comD; rw [if_neg hm', if_neg hf', if_neg h0, if_neg ht', if_pos ht]
    have eJ : J.com D l = if (J.ckD D).2 ≠ 0 then J.ck D else (J.ck D).put (J.ckD D).1 l := by unfold Jn.com; rw [if_neg hm', if_neg hf', if_neg h0, if_neg ht', if_pos ht]
    rw [eD, eJ]
    have hu : J.used ≠ 0 := by unfold Jn.tight at ht; omega
    rcases h.ck hs with ⟨e1, L1, H1, U1, T1, R1, N1, n1, A1⟩ | ⟨e1, e2, b0, b1, b2, b3⟩
    · have e1' : ¬ ((J.ckD D).2 ≠ 0) := by rw [e1]; decide
      simp only [if_neg e1']
      have hs2 : (J.ck D).Small := ⟨by omega, by omega⟩
      have hf2 : (J.ck D).fits (J.ckD D).1.n l = 0 := by rw [n1, fits_ring R1]; exact hf
      rcases L1.put hs2 hf2 h0 (by omega) with ⟨p1, p2, p3, p4, p5⟩ | ⟨p1, p2, c0, c1, c2, c3⟩
      · rw [hput p1]
        refine .inl ⟨p1, p2, by rw [p3, H1], by show (J.ck D).turn + 1 = _; rw [T1], R1, by show (J.ck D).last.number ≤ _; exact N1, p4.trans n1, fun q => p5 (A1 q), fun q => absurd q hu⟩
      · refine .inr ⟨p1, fun q => p2 (A1 q), c0, c1.trans n1, c2, fun keep => ?_⟩
        obtain ⟨J', g1, g2, g3, g4, g5, g6⟩ := c3 keep
        refine ⟨J', g1, g2.trans R1, by omega, g4.trans n1, g5, ?_⟩
        rw [T1, H1] at g6; exact g6
    · rw [if_pos (by rw [e1]; decide)]
      refine .inr ⟨e1, e2, b0, b1, b2, fun keep => ?_⟩
      obtain ⟨J', g1, g2, g3, g4, g5, g6⟩ := b3 keep
      exact ⟨J', g1, g2, by omega, g4, g5, .inl g6⟩
  · have eD : J.comD D l = J.putD D l := by unfold Jn.comD; rw [if_neg hm', if_neg hf', if_neg h0, if_neg ht', if_neg ht]
    have eJ : J.com D l = J.put D l := by unfold Jn.com; rw [if_neg hm', if_neg hf', if_neg h0, if_neg ht', if_neg ht]
    rw [eD, eJ]
    have hroom : J.used + (1 + l.length) ≤ J.last.ring := by unfold Jn.tight at ht; omega
    rcases h.put hs hf h0 hroom with ⟨p1, p2, p3, p4, p5⟩ | ⟨p1, p2, c0, c1, c2, c3⟩
    · rw [hput p1]
      exact .inl ⟨p1, p2, p3, rfl, rfl, by show J.last.number ≤ _; omega, p4, p5, fun q => by show J.used + (1 + l.length) = _; omega⟩
    · refine .inr ⟨p1, p2, c0, c1, c2, fun keep => ?_⟩
      obtain ⟨J', g1, g2, g3, g4, g5, g6⟩ := c3 keep
      exact ⟨J', g1, g2, by omega, g4, g5, g6⟩
/-- A commit of a list that may not be committed, or of none. -/
theorem Live.comNo {D : Dk} {J : Jn} {l : List Put} (h : Live D J) (hf : J.fits D.n l ≠ 0 ∨ l = []) : J.comD D l = (D, J.fits D.n l) ∧ J.com D l = J := by
  have hm := h.held.may
  unfold Jn.comD Jn.com
  by_cases e : J.fits D.n l = 0
  · have e0 : l = [] := hf.resolve_left (fun q => q e)
    rw [e0] at e
    simp [hm, e0, e]
  · simp [hm, e]

/-- An opening of a disk that holds a journal. -/
theorem Held.open {D D' : Dk} {J : Jn} {r : Option Jn} {err : Int} (h : Held D J) (hs : J.Small) (ho : OpenR D D' r err) :
    (err = 0 ∧ ∃ J', r = some J' ∧ Live D' J' ∧ J'.home D' = J.home D ∧ J'.used = 0 ∧ J'.turn = J.turn ∧ J'.last.ring = J.last.ring ∧ J'.last.number ≤ J.last.number + 1 ∧ D'.n = D.n ∧ (D.armed = -1 → D'.armed = -1)) ∨
    (err = 8 ∧ r = none ∧ D.armed ≠ -1 ∧ Back D' D.n J.last.ring J.last.number fun D2 J2 => J2.turn = J.turn ∧ J2.home D2 = J.home D) := by
  have hanc := h.anchor hs
  have hboot := h.boot hs
  have hn0 := h.jok.num0
  have h1 := hs.1
  have h2 := hs.2
  have hscan : Scan D D.boot J := by rw [hboot]; exact h.path.scan h.stop
  by_cases hu : J.used = 0
  · have hJ := h.facts.2.2 hu
    have hst : D.boot.stands D = [] := by rw [hboot, ← hJ]; exact h.stop
    cases ho with
    | off q => rw [h.calm.off] at q; simp at q
    | none _ q => rw [hanc] at q; omega
    | keep _ _ _ =>
      refine .inl ⟨rfl, J, by rw [hboot, ← hJ], ⟨h, ?_⟩, rfl, hu, rfl, rfl, by omega, rfl, id⟩
      rcases h.oth with q | ⟨q, _⟩
      · exact q
      · exact absurd hu q
    | full _ _ q _ _ => exact absurd hst q
    | fail _ _ q _ _ _ _ => exact absurd hst q
    | ok _ _ q _ _ _ _ => exact absurd hst q
  · have hst : D.boot.stands D ≠ [] := by
      intro q
      have := hscan.det (Scan.stop q)
      rw [hboot] at this
      exact hu (by rw [this]; rfl)
    cases ho with
    | off q => rw [h.calm.off] at q; simp at q
    | none _ q => rw [hanc] at q; omega
    | keep _ _ q => exact absurd q hst
    | full _ _ _ q r =>
      obtain rfl := q.det hscan
      omega
    | fail _ _ _ q _ _ r =>
      obtain rfl := q.det hscan
      rcases h.settle hs hu with ⟨e, _⟩ | ⟨e1, e2, e3⟩
      · exact absurd e r
      · exact .inr ⟨e1, rfl, e2, e3⟩
    | ok _ _ _ q _ _ r =>
      obtain rfl := q.det hscan
      rcases h.settle hs hu with ⟨e1, e2, e3, e4, e5⟩ | ⟨e1, e2, e3⟩
      · exact .inl ⟨rfl, _, rfl, e2, e3, rfl, rfl, rfl, Int.le_refl _, e4, e5⟩
      · rw [e1] at r; simp at r
/-- A failure of the power with nothing under way. -/
theorem Held.power {D : Dk} {J : Jn} (h : Held D J) (keep : List Bool) : Held (D.power keep) (J.anew (D.power keep)) ∧ (J.anew (D.power keep)).home (D.power keep) = J.home D ∧ (D.power keep).n = D.n ∧ (D.power keep).armed = -1 := by
  obtain ⟨c1, c2, c3, c4⟩ := h.calm.power keep
  refine ⟨h.stay c1 c2 (c4 _) (by rw [c4]; exact h.oth) (fun k _ => c4 _) (fun q hq => by rw [c4]; exact h.clean q hq), ?_, c2, c3⟩
  funext i
  show (J.away i).getD ((D.power keep).now (2 + J.last.ring + i)) = (J.away i).getD (D.now (2 + J.last.ring + i))
  rw [c1.now, h.calm.now, c4]

end Go.Proofs.Ythbgidiblcokhaa
