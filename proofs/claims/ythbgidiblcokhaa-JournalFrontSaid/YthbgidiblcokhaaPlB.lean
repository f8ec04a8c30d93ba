/-
  What waits on a disk, and what is left of it when the power fails; torn sectors; paths of commits. No program in sight.
-/
import Derived.Test.YthbgidiblcokhaaPlA
namespace Go.Proofs.Ythbgidiblcokhaa
open Go.RowKit

/-- A disk with power on which nothing waits. -/
structure Dk.Calm (D : Dk) : Prop where
  ok : D.Ok
  off : D.off = false
  wait : D.wait = fun _ => none
  way : D.way = none
theorem Dk.Calm.now {D : Dk} (h : D.Calm) (i : Nat) : D.now i = D.last i := by unfold Dk.now; rw [h.wait]; rfl

theorem Dk.step_way (D : Dk) : D.step.way = D.way := by unfold Dk.step; split <;> rfl
theorem Dk.step_lives (D : Dk) : D.step.lives = D.lives := by unfold Dk.step; split <;> rfl
theorem Dk.step_arm (D : Dk) : D.armed = -1 → D.step.armed = -1 := by
  intro h; unfold Dk.step; rw [if_neg (by omega)]; exact h

/-- D is D0 with some writes of P that wait. -/
structure Pend (D0 : Dk) (P : Nat → Sec → Prop) (D : Dk) : Prop where
  ok : D.Ok
  n : D.n = D0.n
  last : D.last = D0.last
  lives : D.lives = D0.lives
  off : D.off = false
  way : D.way = none
  wait : ∀ i s, D.wait i = some s → P i s
  arm : D0.armed = -1 → D.armed = -1
/-- The power failed on D0 when some writes of P waited, one perhaps on its way. -/
structure Fell (D0 : Dk) (P : Nat → Sec → Prop) (D : Dk) : Prop where
  ok : D.Ok
  n : D.n = D0.n
  last : D.last = D0.last
  lives : D.lives = D0.lives
  off : D.off = true
  wait : ∀ i s, D.wait i = some s → P i s
  way : ∀ i, D.way = some i → D.wait i = none ∧ ∃ b k, P i b ∧ b.length = 512 ∧ D.front = b.take k
  arm : D0.armed ≠ -1
theorem Pend.start {D : Dk} (h : D.Calm) (P : Nat → Sec → Prop) : Pend D P D := ⟨h.ok, rfl, rfl, rfl, h.off, h.way, fun i s hs => by rw [h.wait] at hs; simp at hs, id⟩

theorem Pend.write {D0 D : Dk} {P : Nat → Sec → Prop} (h : Pend D0 P D) {i : Nat} (hi : i < D0.n) {b : Sec} (hb : b.length = 512) (hP : P i b) (hw : D.wait i = none) :
    ((D.write (i : Int) b).2 = 0 ∧ Pend D0 P (D.write (i : Int) b).1 ∧ (D.write (i : Int) b).1.wait = fun j => if j = i then some b else D.wait j) ∨ ((D.write (i : Int) b).2 = 8 ∧ Fell D0 P (D.write (i : Int) b).1) := by
  have hin : i < D.n := by rw [h.n]; exact hi
  have hm : D.may (i : Int) = 0 := Dk.may_of h.off (by omega) (by omega)
  have hwr : D.write (i : Int) b = if D.armed = 0 then ({ D with off := true, way := some i, front := b.take D.part }, 8) else ({ D.step with wait := fun j => if j = i then some b else D.wait j, writes := wrap64 (D.writes + 1) }, 0) := by
    unfold Dk.write; rw [if_neg (by simpa using hm), if_neg (by simpa using hb)]; simp
  rw [hwr]
  by_cases ha : D.armed = 0
  · rw [if_pos ha]
    refine .inr ⟨rfl, ⟨h.ok.n0, h.ok.n1, h.ok.last, h.ok.wait, h.ok.armed0, h.ok.armed1, h.ok.part, fun j hj => ?_, ?_⟩, h.n, h.last, h.lives, rfl, h.wait, fun j hj => ?_, fun q => ?_⟩
    · cases hj; exact hin
    · show (b.take D.part).length ≤ 512
      rw [List.length_take]; omega
    · cases hj; exact ⟨hw, b, D.part, hP, hb, rfl⟩
    · have := h.arm q; omega
  · rw [if_neg ha]
    have hok := Dk.step_ok h.ok
    refine .inl ⟨rfl, ⟨⟨hok.n0, hok.n1, hok.last, fun j s hs => ?_, hok.armed0, hok.armed1, hok.part, hok.way, hok.front⟩, (Dk.step_n D).trans h.n, (Dk.step_last D).trans h.last, (Dk.step_lives D).trans h.lives, (Dk.step_off D).trans h.off, (Dk.step_way D).trans h.way, fun j s hs => ?_, fun q => Dk.step_arm D (h.arm q)⟩, rfl⟩
    · replace hs : (if j = i then some b else D.wait j) = some s := hs
      show j < D.step.n ∧ _
      rw [Dk.step_n]
      split at hs
      · rename_i e; cases hs; exact ⟨by omega, hb⟩
      · exact h.ok.wait j s hs
    · replace hs : (if j = i then some b else D.wait j) = some s := hs
      split at hs
      · rename_i e; cases hs; rw [e]; exact hP
      · exact h.wait j s hs

theorem Pend.flush {D0 D : Dk} {P : Nat → Sec → Prop} (h : Pend D0 P D) :
    (D.flush.2 = 0 ∧ D.flush.1.Calm ∧ D.flush.1.last = D.now ∧ D.flush.1.n = D0.n ∧ D.flush.1.lives = D0.lives ∧ (D0.armed = -1 → D.flush.1.armed = -1)) ∨ (D.flush.2 = 8 ∧ Fell D0 P D.flush.1) := by
  unfold Dk.flush
  rw [if_neg (by rw [h.off]; decide)]
  by_cases ha : D.armed = 0
  · rw [if_pos ha]
    refine .inr ⟨rfl, ⟨h.ok.n0, h.ok.n1, h.ok.last, h.ok.wait, h.ok.armed0, h.ok.armed1, h.ok.part, h.ok.way, h.ok.front⟩, h.n, h.last, h.lives, rfl, h.wait, fun j hj => ?_, fun q => ?_⟩
    · replace hj : D.way = some j := hj
      rw [h.way] at hj; simp at hj
    · have := h.arm q; omega
  · rw [if_neg ha]
    have hok := Dk.step_ok h.ok
    exact .inl ⟨rfl, ⟨⟨hok.n0, hok.n1, fun i => Dk.now_len h.ok i, fun _ _ hs => by simp at hs, hok.armed0, hok.armed1, hok.part, hok.way, hok.front⟩, (Dk.step_off D).trans h.off, rfl, (Dk.step_way D).trans h.way⟩, rfl, (Dk.step_n D).trans h.n, (Dk.step_lives D).trans h.lives, fun q => Dk.step_arm D (h.arm q)⟩

/-- Writes, one behind the other, until the disk says no. -/
def wrL : Dk → List (Nat × Sec) → Dk × Int
  | D, [] => (D, 0)
  | D, x :: ws => if (D.write (x.1 : Int) x.2).2 ≠ 0 then D.write (x.1 : Int) x.2 else wrL (D.write (x.1 : Int) x.2).1 ws
theorem wrL_cons (D : Dk) (x : Nat × Sec) (ws : List (Nat × Sec)) : wrL D (x :: ws) = if (D.write (x.1 : Int) x.2).2 ≠ 0 then D.write (x.1 : Int) x.2 else wrL (D.write (x.1 : Int) x.2).1 ws := rfl
theorem Pend.wrL {D0 : Dk} {P : Nat → Sec → Prop} : ∀ (ws : List (Nat × Sec)) {D : Dk}, Pend D0 P D → (∀ x ∈ ws, x.1 < D0.n ∧ x.2.length = 512 ∧ P x.1 x.2 ∧ D.wait x.1 = none) → (ws.map (·.1)).Nodup →
    ((wrL D ws).2 = 0 ∧ Pend D0 P (wrL D ws).1 ∧ (∀ x ∈ ws, (wrL D ws).1.wait x.1 = some x.2) ∧ ∀ i, i ∉ ws.map (·.1) → (wrL D ws).1.wait i = D.wait i) ∨ ((wrL D ws).2 = 8 ∧ Fell D0 P (wrL D ws).1)
  | [], D, h, _, _ => .inl ⟨rfl, h, by simp, fun _ _ => rfl⟩
  | x :: ws, D, h, hx, hnd => by
    obtain ⟨a1, a2, a3, a4⟩ := hx x (by simp)
    rw [List.map_cons, List.nodup_cons] at hnd
    rw [wrL_cons]
    rcases h.write a1 a2 a3 a4 with ⟨e, hp, hw⟩ | ⟨e, hf⟩
    · rw [if_neg (by rw [e]; decide)]
      rcases Pend.wrL ws hp (fun y hy => by
        obtain ⟨b1, b2, b3, b4⟩ := hx y (by simp [hy])
        refine ⟨b1, b2, b3, ?_⟩
        rw [hw]
        show (if y.1 = x.1 then _ else _) = _
        rw [if_neg (fun q => hnd.1 (by rw [← q]; exact List.mem_map_of_mem hy))]; exact b4) hnd.2 with ⟨e', hp', h1, h2⟩ | ⟨e', hf⟩
      · refine .inl ⟨e', hp', fun y hy => ?_, fun i hi => ?_⟩
        · rcases List.mem_cons.1 hy with rfl | hy
          · rw [h2 _ hnd.1, hw]; simp
          · exact h1 y hy
        · simp only [List.map_cons, List.mem_cons, not_or] at hi
          rw [h2 i hi.2, hw]
          show (if i = x.1 then _ else _) = _
          rw [if_neg hi.1]
      · exact .inr ⟨e', hf⟩
    · rw [if_pos (by rw [e]; decide)]
      exact .inr ⟨e, hf⟩

/-! ## torn sectors -/

/-- x is old with the first bytes of new over it. -/
def Torn (old new x : Sec) : Prop := ∃ k, k ≤ 512 ∧ x = new.take k ++ old.drop k
theorem Torn.get {old new x : Sec} (h : Torn old new x) (ho : old.length = 512) (hn : new.length = 512) : x.length = 512 ∧ ∃ k, k ≤ 512 ∧ ∀ i, x[i]? = if i < k then new[i]? else old[i]? := by
  obtain ⟨k, hk, rfl⟩ := h
  have hl : (new.take k).length = k := by rw [List.length_take]; omega
  refine ⟨by rw [List.length_append, hl, List.length_drop]; omega, k, hk, fun i => ?_⟩
  split
  · rw [List.getElem?_append_left (by omega), List.getElem?_take_of_lt (by omega)]
  · rw [List.getElem?_append_right (by omega), List.getElem?_drop, hl]; congr 1; omega
theorem Fell.power {D0 D : Dk} {P : Nat → Sec → Prop} (h : Fell D0 P D) (keep : List Bool) : (D.power keep).Calm ∧ (D.power keep).n = D0.n ∧ (D.power keep).armed = -1 ∧ (D.power keep).lives = wrap64 (D0.lives + 1) ∧
    ∀ i, (D.power keep).last i = D0.last i ∨ ∃ b, P i b ∧ b.length = 512 ∧ Torn (D0.last i) b ((D.power keep).last i) := by
  have hk : ∀ i, D.kept keep i = D.now i ∨ D.kept keep i = D.last i := by intro i; unfold Dk.kept; split <;> simp
  have hkl : ∀ i, (D.kept keep i).length = 512 := by
    intro i
    rcases hk i with e | e
    · rw [e]; exact Dk.now_len h.ok i
    · rw [e]; exact h.ok.last i
  have hlast : ∀ i, (D.power keep).last i = if D.way = some i then D.front ++ (D.kept keep i).drop D.front.length else D.kept keep i := fun _ => rfl
  refine ⟨⟨⟨h.ok.n0, h.ok.n1, fun i => ?_, fun _ _ hs => ?_, by show -1 ≤ (-1 : Int); omega, by show (-1 : Int) ≤ _; omega, h.ok.part, fun _ hs => ?_, by show ([] : List UInt8).length ≤ 512; simp⟩, rfl, rfl, rfl⟩, h.n, rfl, by show wrap64 (D.lives + 1) = _; rw [h.lives], fun i => ?_⟩
  · rw [hlast]
    split
    · have := h.ok.front
      rw [List.length_append, List.length_drop, hkl]; omega
    · exact hkl i
  · replace hs : (none : Option Sec) = _ := hs
    simp at hs
  · replace hs : (none : Option Nat) = _ := hs
    simp at hs
  · rw [hlast]
    split
    · rename_i hw
      obtain ⟨w0, b, k, hP, hb, hf⟩ := h.way i hw
      have hkl' : D.kept keep i = D0.last i := by
        rcases hk i with e | e
        · rw [e]; unfold Dk.now; rw [w0, h.last]; rfl
        · rw [e, h.last]
      right
      refine ⟨b, hP, hb, min k 512, by omega, ?_⟩
      rw [hkl', hf, List.length_take, hb]
      congr 1
      by_cases q : k ≤ 512
      · rw [Nat.min_eq_left q]
      · rw [Nat.min_eq_right (by omega), List.take_of_length_le (by omega), List.take_of_length_le (by omega)]
    · rcases hk i with e | e
      · rw [e]
        unfold Dk.now
        cases hw : D.wait i with
        | none => left; show (Option.none).getD _ = _; rw [h.last]; rfl
        | some s =>
          right
          have hs := (h.ok.wait i s hw).2
          refine ⟨s, h.wait i s hw, hs, 512, by omega, ?_⟩
          have hl0 : (D0.last i).length = 512 := by rw [← h.last]; exact h.ok.last i
          rw [List.take_of_length_le (by omega), List.drop_eq_nil_of_le (by omega)]; simp
      · left; rw [e, h.last]
theorem Dk.Calm.power {D : Dk} (h : D.Calm) (keep : List Bool) : (D.power keep).Calm ∧ (D.power keep).n = D.n ∧ (D.power keep).armed = -1 ∧ ∀ i, (D.power keep).last i = D.last i := by
  have hk : ∀ i, D.kept keep i = D.last i := by intro i; unfold Dk.kept; split; exact h.now i; rfl
  have hlast : ∀ i, (D.power keep).last i = D.last i := by
    intro i
    show (if D.way = some i then _ else _) = _
    rw [h.way, if_neg (by simp)]; exact hk i
  refine ⟨⟨⟨h.ok.n0, h.ok.n1, fun i => ?_, fun _ _ hs => ?_, by show -1 ≤ (-1 : Int); omega, by show (-1 : Int) ≤ _; omega, h.ok.part, fun _ hs => ?_, by show ([] : List UInt8).length ≤ 512; simp⟩, rfl, rfl, rfl⟩, rfl, rfl, hlast⟩
  · rw [hlast]; exact h.ok.last i
  · replace hs : (none : Option Sec) = _ := hs
    simp at hs
  · replace hs : (none : Option Nat) = _ := hs
    simp at hs

/-! ## clean ring sectors -/

theorem num_succ {b : List UInt8} {a n : Nat} (h : a + n < b.length) : num b a (n + 1) = num b a n * 256 + num b (a + n) 1 := by
  unfold num
  have hl : n < (b.drop a).length := by rw [List.length_drop]; omega
  have e : (b.drop (a + n)).take 1 = [(b.drop a)[n]] := by
    rw [← List.drop_drop, List.drop_eq_getElem_cons hl]; rfl
  rw [List.take_succ_eq_append_getElem hl, beN_snoc, e]
  simp [beN]
theorem beN_inj : ∀ {n : Nat} {a b : List UInt8}, a.length = n → b.length = n → beN a = beN b → a = b
  | 0, a, b, ha, hb, _ => by rw [List.length_eq_zero_iff.1 ha, List.length_eq_zero_iff.1 hb]
  | n + 1, a, b, ha, hb, h => by
    have hane : a ≠ [] := by intro q; rw [q] at ha; simp at ha
    have hbne : b ≠ [] := by intro q; rw [q] at hb; simp at hb
    rw [← List.dropLast_concat_getLast hane, ← List.dropLast_concat_getLast hbne] at h ⊢
    rw [beN_snoc, beN_snoc] at h
    have h1 := (a.getLast hane).toNat_lt
    have h2 := (b.getLast hbne).toNat_lt
    have e1 : beN a.dropLast = beN b.dropLast := by omega
    have e2 : (a.getLast hane).toNat = (b.getLast hbne).toNat := by omega
    rw [beN_inj (n := n) (by rw [List.length_dropLast]; omega) (by rw [List.length_dropLast]; omega) e1, UInt8.toNat_inj.1 e2]

/-- A ring sector that is no header of turn t or later, nor ever becomes one by a write that is torn. -/
def Clean (S : Sec) (t : Int) : Prop := num S 7 1 % 2 = 0 ∨ num S 511 1 % 2 = 0 ∨ numI S 504 8 < 2 * t
theorem Clean.mono {S : Sec} {t t' : Int} (h : Clean S t) (ht : t ≤ t') : Clean S t' := by
  rcases h with h | h | h
  · exact .inl h
  · exact .inr (.inl h)
  · exact .inr (.inr (by omega))
theorem num_odd {S : Sec} (hl : S.length = 512) : num S 0 8 % 2 = num S 7 1 % 2 ∧ num S 504 8 % 2 = num S 511 1 % 2 := by
  have h1 := num_succ (b := S) (a := 0) (n := 7) (by omega)
  have h2 := num_succ (b := S) (a := 504) (n := 7) (by omega)
  simp only [Nat.zero_add, Nat.reduceAdd] at h1 h2
  omega
theorem tagOf_ne {b : Sec} (h : tagOf b ≠ 0) : numI b 0 8 = tagOf b ∧ numI b 504 8 = tagOf b := by
  unfold tagOf at h ⊢
  split
  · rename_i e; exact ⟨rfl, e.symm⟩
  · rename_i e; rw [if_neg e] at h; exact absurd rfl h
theorem Clean.tag {S : Sec} {t t' : Int} (h : Clean S t) (hl : S.length = 512) (_h0 : 0 ≤ t) (ht : t ≤ t') : tagOf S ≠ 2 * t' + 1 := by
  intro e
  obtain ⟨e1, e2⟩ := tagOf_ne (b := S) (by omega)
  obtain ⟨o1, o2⟩ := num_odd hl
  unfold numI at e1 e2
  rcases h with h | h | h
  · omega
  · omega
  · unfold numI at h; omega
theorem Clean.torn {old new x : Sec} {t : Int} (h : Clean old t) (hn : num new 7 1 % 2 = 0) (ht : Torn old new x) (ho : old.length = 512) (hl : new.length = 512) : Clean x t := by
  obtain ⟨_, k, hk, hg⟩ := ht.get ho hl
  by_cases h8 : 8 ≤ k
  · left
    rw [show num x 7 1 = num new 7 1 from num_congr fun i _ h2 => by rw [hg, if_pos (by omega)]]; exact hn
  · have e1 : num x 7 1 = num old 7 1 ∨ num x 7 1 = num new 7 1 := by
      by_cases h7 : k ≤ 7
      · exact .inl (num_congr fun i h1 _ => by rw [hg, if_neg (by omega)])
      · omega
    have e2 : num x 511 1 = num old 511 1 := num_congr fun i h1 _ => by rw [hg, if_neg (by omega)]
    have e3 : num x 504 8 = num old 504 8 := num_congr fun i h1 _ => by rw [hg, if_neg (by omega)]
    rcases e1 with e1 | e1
    · unfold Clean numI; rw [e1, e2, e3]; exact h
    · left; rw [e1]; exact hn
theorem zsec_get {i : Nat} (h : i < 512) : zsec[i]? = some 0 := by unfold zsec; rw [List.getElem?_replicate, if_pos h]
theorem zsec_num (a : Nat) (h : a < 512) : num zsec a 1 = 0 := by
  have hl : a < zsec.length := by rw [zsec_length]; exact h
  have e : (zsec.drop a).take 1 = [zsec[a]] := by rw [List.drop_eq_getElem_cons hl]; rfl
  unfold num; rw [e]
  have : zsec[a] = 0 := by
    have := zsec_get h
    rw [List.getElem?_eq_getElem hl] at this
    exact Option.some.inj this
  rw [this]; rfl
theorem Clean.zsec (t : Int) : Clean zsec t := .inl (by rw [zsec_num 7 (by omega)])
theorem ringSec_even {t : Int} {b : Sec} (h : b.length = 512) (h0 : 0 ≤ t) (h1 : t < 4611686018427389000) : num (ringSec t b) 7 1 % 2 = 0 := by
  have e := ringSec_num h h0 h1
  have := (num_odd (ringSec_length (t := t) h)).1
  unfold numI at e
  omega
theorem Clean.hdrTorn {t : Int} {l : List Put} {x : Sec} (hl : PutsOk l) (h : Torn Go.Proofs.Ythbgidiblcokhaa.zsec (hdr t l) x) : x = hdr t l ∨ Clean x t := by
  have hh := hdr_length (t := t) hl
  obtain ⟨hx, k, hk, hg⟩ := h.get zsec_length hh
  by_cases e : k = 512
  · left
    apply List.ext_getElem?
    intro i
    rw [hg]
    split
    · rfl
    · rw [List.getElem?_eq_none (by rw [zsec_length]; omega), List.getElem?_eq_none (by omega)]
  · right; right; left
    rw [show num x 511 1 = num Go.Proofs.Ythbgidiblcokhaa.zsec 511 1 from num_congr fun i h1 _ => by rw [hg, if_neg (by omega)], zsec_num 511 (by omega)]
theorem Clean.hdr {t : Int} {l : List Put} (hl : PutsOk l) (h0 : 0 ≤ t) (h1 : t < 4611686018427389000) : Clean (hdr t l) (t + 1) := by
  right; right
  rw [(hdr_ends hl h0 h1).2.1]; omega

/-! ## paths -/

/-- Commits that stand are taken up, one behind the other. -/
inductive Path (D : Dk) : Jn → Jn → Prop
  | refl (J : Jn) : Path D J J
  | step {J J' : Jn} : J.stands D ≠ [] → Path D (J.note (J.stands D)) J' → Path D J J'
theorem Path.snoc {D : Dk} {B J : Jn} (h : Path D B J) (hs : J.stands D ≠ []) : Path D B (J.note (J.stands D)) := by
  induction h with
  | refl J => exact .step hs (.refl _)
  | step h1 _ ih => exact .step h1 (ih hs)
theorem Path.scan {D : Dk} {B J : Jn} (h : Path D B J) (hs : J.stands D = []) : Scan D B J := by
  induction h with
  | refl J => exact .stop hs
  | step h1 _ ih => exact .step h1 (ih hs)
theorem Scan.det {D : Dk} {B J J' : Jn} (h : Scan D B J) (h' : Scan D B J') : J = J' := by
  induction h with
  | stop hs =>
    cases h' with
    | stop _ => rfl
    | step q _ => exact absurd hs q
  | step h1 _ ih =>
    cases h' with
    | stop q => exact absurd q h1
    | step _ q => exact ih q
theorem Path.facts {D : Dk} {B J : Jn} (h : Path D B J) (hp : B.place < B.last.ring) : J.last = B.last ∧ J.lives = B.lives ∧ J.done = B.done ∧ B.turn ≤ J.turn ∧ B.used ≤ J.used ∧ J.place = (B.place + (J.used - B.used)) % B.last.ring ∧ (J.used = B.used → J = B) := by
  induction h with
  | refl J => exact ⟨rfl, rfl, rfl, Int.le_refl _, Nat.le_refl _, by rw [Nat.sub_self, Nat.add_zero, Nat.mod_eq_of_lt hp], fun _ => rfl⟩
  | @step J J' h1 _ ih =>
    obtain ⟨a1, a2, a3, a4, a5, a6, a7⟩ := ih (by show (_ % _) < J.last.ring; exact Nat.mod_lt _ (by omega))
    have e5 : J.used + (1 + (J.stands D).length) ≤ J'.used := a5
    refine ⟨a1, a2, a3, by have : J.turn + 1 ≤ J'.turn := a4; omega, by omega, ?_, fun q => by omega⟩
    rw [a6]
    show ((J.place + 1 + (J.stands D).length) % J.last.ring + (J'.used - (J.used + (1 + (J.stands D).length)))) % J.last.ring = _
    rw [Nat.mod_add_mod]
    congr 1; omega
theorem Jn.stands_congr {J : Jn} {D D' : Dk} (h : J.stands D ≠ []) (hn : D'.n = D.n) (hs : ∀ k, k < 1 + (J.stands D).length → D'.now (J.at (J.place + k)) = D.now (J.at (J.place + k))) : J.stands D' = J.stands D := by
  obtain ⟨e, hg⟩ := Jn.stands_eq h
  have hlen : (J.stands D).length = J.stN D := by rw [e, Jn.stL_length]
  have hhd : J.hd D' = J.hd D := hs 0 (by omega)
  have hN : J.stN D' = J.stN D := by unfold Jn.stN; rw [hhd]
  have hbd : ∀ k, k < J.stN D → J.bd D' k = J.bd D k := fun k hk => by
    have := hs (1 + k) (by omega)
    unfold Jn.bd
    rw [show J.place + 1 + k = J.place + (1 + k) from by omega]; exact this
  have hL : ∀ m, m ≤ J.stN D → J.stL D' m = J.stL D m := fun m hm => by
    unfold Jn.stL
    apply List.map_congr_left
    intro k hk
    have hk' : k < m := by simpa using hk
    unfold Jn.stPut
    rw [hhd, hbd k (by omega)]
  have hh := Jn.stands_head h
  rw [Jn.stands_yes (D := D') (by unfold Jn.stHead; rw [hhd, hN]; exact hh), hN, hL _ (Nat.le_refl _), e]
  intro k hk
  rw [hN] at hk
  unfold Jn.stGood
  rw [hbd k hk, hhd, hn, hN, hL _ (Nat.le_refl _)]
  exact hg k hk
theorem Path.frame {D D' : Dk} {B J : Jn} (h : Path D B J) (hn : D'.n = D.n) : B.place < B.last.ring → (∀ k, k < J.used - B.used → D'.now (B.at (B.place + k)) = D.now (B.at (B.place + k))) → Path D' B J := by
  induction h with
  | refl J => intro _ _; exact .refl _
  | @step J J' h1 hp ih =>
    intro hpl hs
    have hf := hp.facts (by show (_ % _) < J.last.ring; exact Nat.mod_lt _ (by omega))
    have hus : J.used + (1 + (J.stands D).length) ≤ J'.used := hf.2.2.2.2.1
    have hst := Jn.stands_congr h1 hn (fun k hk => hs k (by omega))
    refine .step (by rw [hst]; exact h1) ?_
    rw [hst]
    refine ih (by show (_ % _) < J.last.ring; exact Nat.mod_lt _ (by omega)) (fun k hk => ?_)
    have hk' : k < J'.used - (J.used + (1 + (J.stands D).length)) := hk
    have e : (J.note (J.stands D)).at ((J.note (J.stands D)).place + k) = J.at (J.place + (1 + (J.stands D).length + k)) := by
      show 2 + ((J.place + 1 + (J.stands D).length) % J.last.ring + k) % J.last.ring = 2 + _ % J.last.ring
      rw [Nat.mod_add_mod]; congr 2; omega
    rw [e]
    exact hs _ (by omega)
/-- The same journal of another life. -/
def Jn.anew (J : Jn) (D : Dk) : Jn := { J with lives := D.lives, done := false }
theorem Path.anew {D D' : Dk} {B J : Jn} (h : Path D B J) : Path D (B.anew D') (J.anew D') := by
  induction h with
  | refl J => exact .refl _
  | step h1 _ ih => exact .step h1 ih
theorem Path.any {D : Dk} {B J : Jn} (h : Path D B J) : J = B ∨ ∃ i, (J.away i).isSome = true := by
  have key : ∀ {B J : Jn}, Path D B J → (∃ i, (B.away i).isSome = true) → ∃ i, (J.away i).isSome = true := by
    have mono : ∀ (l : List Put) (aw : Nat → Option Sec) (i : Nat), (aw i).isSome = true → (awayL aw l i).isSome = true := by
      intro l
      induction l with
      | nil => intro aw i h; exact h
      | cons p l ih =>
        intro aw i h
        show (awayL (fun i => if i = p.1.toNat then some p.2 else aw i) l i).isSome = true
        apply ih
        show (if _ then _ else _ : Option Sec).isSome = true
        split
        · rfl
        · exact h
    intro B J h
    induction h with
    | refl J => exact id
    | step _ _ ih => intro ⟨i, hi⟩; exact ih ⟨i, mono _ _ _ hi⟩
  cases h with
  | refl => exact .inl rfl
  | step h1 h2 =>
    right
    refine key h2 ?_
    have first : ∀ (l : List Put) (aw : Nat → Option Sec), l ≠ [] → ∃ i, (awayL aw l i).isSome = true := by
      intro l
      induction l with
      | nil => intro _ h; exact absurd rfl h
      | cons p l ih =>
        intro aw _
        by_cases hl : l = []
        · subst hl
          refine ⟨p.1.toNat, ?_⟩
          show (if _ then _ else _ : Option Sec).isSome = true
          rw [if_pos rfl]; rfl
        · exact ih (fun i => if i = p.1.toNat then some p.2 else aw i) hl
    exact first _ _ h1

end Go.Proofs.Ythbgidiblcokhaa
