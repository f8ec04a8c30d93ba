/-
  cofferref8: Left, Take, Free.
-/
import Derived.Test.YtlncfncolkgjfaaSpK
namespace Go.Proofs.Ytlncfncolkgjfaa
open Go.RowKit Go.MapKept Go.ChangeMaps

set_option maxHeartbeats 1000000 in
theorem rleft_spec {w : World} {b sb h : Nat} {f : Nat → Bool} {r : Nat → Nat} (H : RfAt w b sb h f r) (hh : h ≤ 4096) :
    Calls Try.prog 39 #[.pointer (some ⟨b, 0, none⟩)] w fun e w' => e = .returned (.int .i64 (leftN f h : Int)) ∧ w = w' := by
  obtain ⟨⟨c, hc, e⟩, hr⟩ := H
  have c0 := (sp_cells e).1
  have HR := Lib.hid hr
  clear e hr
  go_enter Try.func39, Try.ntmps39
  go_wp2
  go_loopw [3, 4] (fun n i wr => ∃ q : Nat, q ≤ h ∧ i = .int .i64 (q : Int) ∧ n = .int .i64 (leftN f q : Int) ∧ wr = w) (fun _ i _ => h - (intOf i).toNat)
  case atStart => exact ⟨0, Nat.zero_le _, rfl, rfl, rfl⟩
  case round =>
    obtain ⟨q, hq, rfl, rfl, rfl⟩ := hrel
    have hle := leftN_le f q
    by_cases hlt : q < h
    · have hlt' : decide (q < h) = true := decide_eq_true hlt
      have hlt2 : decide ((q : Int) < (h : Int)) = true := decide_eq_true (by omega)
      obtain ⟨hc1, _⟩ := HR.out.cell hlt
      have i0 : (0 : Int) ≤ (q : Int) := by omega
      have i1 : (q : Int) < (h : Int) := by omega
      have HLN : Hid (leftN f (q + 1) = if f q then leftN f q else leftN f q + 1) := rfl
      generalize leftN f q = L at *
      cases htq : f q
      · rw [htq] at HLN hc1
        have HL1 : Hid (leftN f (q + 1) = L + 1) := HLN.out
        clear htq
        go_wp2
        exact ⟨⟨q + 1, by omega, by go_num, by rw [HL1.out]; go_num, trivial⟩, by simp [intOf]; omega⟩
      · rw [htq] at HLN hc1
        have HL1 : Hid (leftN f (q + 1) = L) := HLN.out
        clear htq
        go_wp2
        exact ⟨⟨q + 1, by omega, by go_num, by rw [HL1.out], trivial⟩, by simp [intOf]; omega⟩
    · obtain rfl : q = h := by omega
      have hlt' : decide (q < q) = false := decide_eq_false (by omega)
      have hlt2 : decide ((q : Int) < (q : Int)) = false := decide_eq_false (by omega)
      go_wp2
      go_ret
      exact ⟨rfl, rfl⟩

set_option maxHeartbeats 1000000 in
theorem rtake_arg {w : World} (b : Nat) (k : Int) (hk : k < 1 ∨ 64 < k) :
    Calls Try.prog 17 #[.pointer (some ⟨b, 0, none⟩), .int .i64 k] w fun e w' => e = .returned (.tuple #[.int .i64 0, .int .i64 1]) ∧ w = w' := by
  by_cases h1 : k < 1
  · have d1 : decide (k < 1) = true := decide_eq_true h1
    clear hk
    go_enter Try.func17, Try.ntmps17
    go_wp2
    go_ret2
    exact ⟨rfl, rfl⟩
  · have d1 : decide (k < 1) = false := decide_eq_false h1
    have d2 : decide (64 < k) = true := decide_eq_true (by omega)
    clear hk
    go_enter Try.func17, Try.ntmps17
    go_wp2
    go_ret2
    exact ⟨rfl, rfl⟩

def RTakeP (w : World) (b sb h : Nat) (f : Nat → Bool) (r : Nat → Nat) (k : Nat) (e : Ending) (w' : World) : Prop :=
  Upd [sb] w w' ∧ ((∃ s, FirstFit f h k (some s) ∧ e = .returned (.tuple #[.int .i64 (s : Int), .int .i64 0]) ∧ RfAt w' b sb h (fun j => if s ≤ j ∧ j < s + k then true else f j) r) ∨ (FirstFit f h k none ∧ e = .returned (.tuple #[.int .i64 0, .int .i64 7]) ∧ RfAt w' b sb h f r))

set_option maxRecDepth 100000 in
set_option maxHeartbeats 2000000 in
theorem rtake_spec {w : World} {b sb h : Nat} {f : Nat → Bool} {r : Nat → Nat} (H : RfAt w b sb h f r) (hh : h ≤ 4096) (k : Nat) (hk : 1 ≤ k) (hk2 : k ≤ 64) :
    Calls Try.prog 17 #[.pointer (some ⟨b, 0, none⟩), .int .i64 (k : Int)] w (RTakeP w b sb h f r k) := by
  obtain ⟨c, hc, e⟩ := H.st
  have c0 := (sp_cells e).1
  have HH := Lib.hid H
  have d1 : decide ((k : Int) < 1) = false := decide_eq_false (by omega)
  have d2 : decide (64 < (k : Int)) = false := decide_eq_false (by omega)
  clear e H
  go_enter Try.func17, Try.ntmps17
  go_wp2
  go_loopw [6] (fun i wr => ∃ q : Nat, q ≤ h + 1 ∧ i = .int .i64 (q : Int) ∧ (∀ s', s' < q → ¬ FreeAt f s' k) ∧ w = wr) (fun i _ => h + 1 - (intOf i).toNat)
  case atStart => exact ⟨0, Nat.zero_le _, rfl, fun s' hs => by omega, rfl⟩
  case round =>
    obtain ⟨q, hq, rfl, hno, rfl⟩ := hrel
    have HNO := Lib.hid hno
    clear hno
    by_cases hlt : q + k ≤ h
    · have hlt' : decide ((q : Int) + (k : Int) ≤ (h : Int)) = true := decide_eq_true (by omega)
      go_wp2
      go_loopw [7, 8] (fun fr i wq => ∃ p : Nat, p ≤ k ∧ i = .int .i64 (p : Int) ∧ (∃ fb : Bool, fr = .bool fb ∧ (fb = true ↔ ∀ j, j < p → f (q + j) = false)) ∧ w = wq) (fun _ i _ => k - (intOf i).toNat)
      case atStart => exact ⟨0, Nat.zero_le _, rfl, ⟨true, rfl, by simp⟩, rfl⟩
      case round =>
        obtain ⟨p, hp, rfl, ⟨fb, rfl, hfb⟩, rfl⟩ := hrel
        by_cases hltp : p < k
        · have hlt2 : decide ((p : Int) < (k : Int)) = true := decide_eq_true (by omega)
          obtain ⟨I, hI⟩ : ∃ I, I = q + p := ⟨_, rfl⟩
          have hIk : (q : Int) + (p : Int) = (I : Int) := by omega
          obtain ⟨hc1, _⟩ := HH.out.row.cell (show I < h by omega)
          have i0 : (0 : Int) ≤ (I : Int) := by omega
          have i1 : (I : Int) < (h : Int) := by omega
          have HFB := Lib.hid hfb
          clear hfb
          have key : ∀ fb2 : Bool, (fb2 = (fb && !(f I))) → (fb2 = true ↔ ∀ j, j < p + 1 → f (q + j) = false) := by
            intro fb2 e2
            rw [e2, Bool.and_eq_true, HFB.out, Bool.not_eq_true', hI]
            constructor
            · rintro ⟨u1, u2⟩ j hj
              by_cases e3 : j = p
              · rw [e3]; exact u2
              · exact u1 j (by omega)
            · intro u
              exact ⟨fun j hj => u j (by omega), u p (by omega)⟩
          have KEY := Lib.hid key
          clear key hI
          cases fb
          · go_wp2
            exact ⟨⟨p + 1, by omega, by go_num, ⟨false, rfl, KEY.out false (by simp)⟩, trivial⟩, by simp [intOf]; omega⟩
          · go_wp2
            exact ⟨⟨p + 1, by omega, by go_num, ⟨_, rfl, KEY.out _ (by simp)⟩, trivial⟩, by simp [intOf]; omega⟩
        · obtain rfl : p = k := by omega
          have hlt2 : decide ((p : Int) < (p : Int)) = false := decide_eq_false (by omega)
          have HFB := Lib.hid hfb
          clear hfb
          cases fb
          · go_wp2
            refine ⟨⟨q + 1, by omega, by go_num, fun s' hs hf => ?_, by first | trivial | rfl⟩, by simp [intOf]; omega⟩
            by_cases e3 : s' = q
            · subst e3
              have := HFB.out.2 hf
              simp at this
            · exact HNO.out s' (by omega) hf
          · go_wp2
            go_loopw [9] (fun i wq => ∃ t : Nat, t ≤ p ∧ i = .int .i64 (t : Int) ∧ RfAt wq b sb h (fun j => if q ≤ j ∧ j < q + t then true else f j) r ∧ Upd [sb] w wq) (fun i _ => p - (intOf i).toNat)
            case atStart => exact ⟨0, Nat.zero_le _, rfl, HH.out.ext (fun i _ => by rw [if_neg (by omega)]), Upd.refl _ _⟩
            case round =>
              obtain ⟨u, hu, rfl, hrf, hupd⟩ := hrel
              by_cases hltu : u < p
              · have hlt3 : decide ((u : Int) < (p : Int)) = true := decide_eq_true (by omega)
                obtain ⟨I, hI⟩ : ∃ I, I = q + u := ⟨_, rfl⟩
                have hIk : (q : Int) + (u : Int) = (I : Int) := by omega
                have hIh : I < h := by omega
                obtain ⟨hc1, hf1⟩ := hrf.row.cell hIh
                obtain ⟨c2, hc2, e2⟩ := hrf.st
                have c3 := (sp_cells e2).1
                have i0 : (0 : Int) ≤ (I : Int) := by omega
                have i1 : (I : Int) < (h : Int) := by omega
                have HX := Lib.hid ((hrf.set hIh true).ext (f' := fun j => if q ≤ j ∧ j < q + (u + 1) then true else f j) (fun i _ => by
                  by_cases e : i = I
                  · rw [if_pos e, if_pos (by omega)]
                  · rw [if_neg e]
                    by_cases e2 : q ≤ i ∧ i < q + u
                    · rw [if_pos e2, if_pos (by omega)]
                    · rw [if_neg e2, if_neg (by omega)]))
                have HU : Hid (Upd [sb] w (wr.setCell ⟨sb, I, none⟩ (.bool true))) := Lib.hid (hupd.set _ (.inl (by simp)))
                clear hI hrf hupd e2
                go_wp2
                exact ⟨⟨u + 1, by omega, by go_num, HX.out, HU.out⟩, by simp [intOf]; omega⟩
              · obtain rfl : u = p := by omega
                have hlt3 : decide ((u : Int) < (u : Int)) = false := decide_eq_false (by omega)
                have HX := Lib.hid hrf
                have HU := Lib.hid hupd
                clear hrf hupd
                go_wp2
                go_ret2
                exact ⟨HU.out, .inl ⟨q, ⟨hlt, fun j hj => (HFB.out.1 (by trivial)) j hj, HNO.out⟩, rfl, HX.out⟩⟩
    · have hlt' : decide ((q : Int) + (k : Int) ≤ (h : Int)) = false := decide_eq_false (by omega)
      go_wp2
      go_ret2
      exact ⟨Upd.refl _ _, .inr ⟨fun s' hs => HNO.out s' (by omega), rfl, HH.out⟩⟩

def setF (f : Nat → Bool) (s n : Nat) (x : Bool) : Nat → Bool := fun j => if s ≤ j ∧ j < s + n then x else f j
/-- The extents that may be freed. -/
def FreeOk (T : Nat → Bool) (h : Nat) (s n : Int) : Prop := 1 ≤ n ∧ n ≤ 64 ∧ 4 ≤ s ∧ s + n ≤ (h : Int) ∧ ∀ q : Nat, q < n.toNat → T (s.toNat + q) = true
theorem rfree_bad {w : World} {b sb h : Nat} {f : Nat → Bool} {r : Nat → Nat} (H : RfAt w b sb h f r) (hh : h ≤ 4096) (s n : Int) (hb : n < 1 ∨ 64 < n ∨ s < 4 ∨ (h : Int) ≤ s ∨ (h : Int) - s < n) :
    Calls Try.prog 18 #[.pointer (some ⟨b, 0, none⟩), .int .i64 s, .int .i64 n] w fun e w' => e = .returned (.int .i64 1) ∧ w = w' := by
  obtain ⟨c, hc, e⟩ := H.st
  have c0 := (sp_cells e).1
  clear e H
  by_cases h1 : n < 1
  · have d1 : decide (n < 1) = true := decide_eq_true h1
    clear hb
    go_enter Try.func18, Try.ntmps18
    go_wp2
    go_ret
    exact ⟨rfl, rfl⟩
  have d1 : decide (n < 1) = false := decide_eq_false h1
  by_cases h2 : 64 < n
  · have d2 : decide (64 < n) = true := decide_eq_true h2
    clear hb
    go_enter Try.func18, Try.ntmps18
    go_wp2
    go_ret
    exact ⟨rfl, rfl⟩
  have d2 : decide (64 < n) = false := decide_eq_false h2
  by_cases h3 : s < 4
  · have d3 : decide (s < 4) = true := decide_eq_true h3
    clear hb
    go_enter Try.func18, Try.ntmps18
    go_wp2
    go_ret
    exact ⟨rfl, rfl⟩
  have d3 : decide (s < 4) = false := decide_eq_false h3
  by_cases h4 : (h : Int) ≤ s
  · have d4 : decide ((h : Int) ≤ s) = true := decide_eq_true h4
    clear hb
    go_enter Try.func18, Try.ntmps18
    go_wp2
    go_ret
    exact ⟨rfl, rfl⟩
  have d4 : decide ((h : Int) ≤ s) = false := decide_eq_false h4
  have d5 : decide ((h : Int) - s < n) = true := decide_eq_true (by omega)
  have b0 : 4 ≤ s := by omega
  have b1 : s < (h : Int) := by omega
  clear hb
  go_enter Try.func18, Try.ntmps18
  go_wp2
  go_ret
  exact ⟨rfl, rfl⟩

set_option maxRecDepth 100000 in
set_option maxHeartbeats 2000000 in
theorem rfree_run {w : World} {b sb h : Nat} {f : Nat → Bool} {r : Nat → Nat} (H : RfAt w b sb h f r) (hh : h ≤ 4096) (s n : Nat) (hn : 1 ≤ n) (hn2 : n ≤ 64) (hs : 4 ≤ s) (hs2 : s + n ≤ h) :
    Calls Try.prog 18 #[.pointer (some ⟨b, 0, none⟩), .int .i64 (s : Int), .int .i64 (n : Int)] w fun e w' => Upd [sb] w w' ∧ ((∀ q, q < n → f (s + q) = true) ∧ e = .returned (.int .i64 0) ∧ RfAt w' b sb h (setF f s n false) r ∨ (¬ ∀ q, q < n → f (s + q) = true) ∧ e = .returned (.int .i64 1) ∧ RfAt w' b sb h f r) := by
  obtain ⟨c, hc, e⟩ := H.st
  have c0 := (sp_cells e).1
  have HH := Lib.hid H
  have d1 : decide ((n : Int) < 1) = false := decide_eq_false (by omega)
  have d2 : decide (64 < (n : Int)) = false := decide_eq_false (by omega)
  have d3 : decide ((s : Int) < 4) = false := decide_eq_false (by omega)
  have d4 : decide ((h : Int) ≤ (s : Int)) = false := decide_eq_false (by omega)
  have d4' : decide (h ≤ s) = false := decide_eq_false (by omega)
  have d5 : decide ((h : Int) - (s : Int) < (n : Int)) = false := decide_eq_false (by omega)
  clear e H
  go_enter Try.func18, Try.ntmps18
  go_wp2
  go_loopw [7] (fun i wr => ∃ p : Nat, p ≤ n ∧ i = .int .i64 (p : Int) ∧ (∀ j, j < p → f (s + j) = true) ∧ w = wr) (fun i _ => n - (intOf i).toNat)
  case atStart => exact ⟨0, Nat.zero_le _, rfl, fun j hj => by omega, rfl⟩
  case round =>
    obtain ⟨p, hp, rfl, hall, rfl⟩ := hrel
    have HALL := Lib.hid hall
    clear hall
    by_cases hltp : p < n
    · have hlt2 : decide ((p : Int) < (n : Int)) = true := decide_eq_true (by omega)
      have hlt2' : decide (p < n) = true := decide_eq_true hltp
      obtain ⟨I, hI⟩ : ∃ I, I = s + p := ⟨_, rfl⟩
      have hIk : (s : Int) + (p : Int) = (I : Int) := by omega
      obtain ⟨hc1, _⟩ := HH.out.row.cell (show I < h by omega)
      have i0 : (0 : Int) ≤ (I : Int) := by omega
      have i1 : (I : Int) < (h : Int) := by omega
      have HI := Lib.hid hI
      clear hI
      cases hf : f I
      · rw [hf] at hc1
        have HF := Lib.hid hf
        clear hf
        go_wp2
        go_ret
        exact ⟨Upd.refl _ _, .inr ⟨fun hx => by have := hx p hltp; rw [← HI.out, HF.out] at this; simp at this, rfl, HH.out⟩⟩
      · rw [hf] at hc1
        have HF := Lib.hid hf
        clear hf
        go_wp2
        refine ⟨⟨p + 1, by omega, by go_num, fun j hj => ?_, by first | trivial | rfl⟩, by simp [intOf]; omega⟩
        by_cases e3 : j = p
        · rw [e3, ← HI.out]; exact HF.out
        · exact HALL.out j (by omega)
    · obtain rfl : p = n := by omega
      have hlt2 : decide ((p : Int) < (p : Int)) = false := decide_eq_false (by omega)
      have hlt2' : decide (p < p) = false := decide_eq_false (by omega)
      go_wp2
      go_loopw [8] (fun i wq => ∃ t : Nat, t ≤ p ∧ i = .int .i64 (t : Int) ∧ RfAt wq b sb h (setF f s t false) r ∧ Upd [sb] w wq) (fun i _ => p - (intOf i).toNat)
      case atStart => exact ⟨0, Nat.zero_le _, rfl, HH.out.ext (fun i _ => by unfold setF; rw [if_neg (by omega)]), Upd.refl _ _⟩
      case round =>
        obtain ⟨u, hu, rfl, hrf, hupd⟩ := hrel
        by_cases hltu : u < p
        · have hlt3 : decide ((u : Int) < (p : Int)) = true := decide_eq_true (by omega)
          obtain ⟨I, hI⟩ : ∃ I, I = s + u := ⟨_, rfl⟩
          have hIk : (s : Int) + (u : Int) = (I : Int) := by omega
          have hIh : I < h := by omega
          obtain ⟨hc1, hf1⟩ := hrf.row.cell hIh
          obtain ⟨c2, hc2, e2⟩ := hrf.st
          have c3 := (sp_cells e2).1
          have i0 : (0 : Int) ≤ (I : Int) := by omega
          have i1 : (I : Int) < (h : Int) := by omega
          have HX := Lib.hid ((hrf.set hIh false).ext (f' := setF f s (u + 1) false) (fun i _ => by
            unfold setF
            by_cases e : i = I
            · rw [if_pos e, if_pos (by omega)]
            · rw [if_neg e]
              by_cases e2 : s ≤ i ∧ i < s + u
              · rw [if_pos e2, if_pos (by omega)]
              · rw [if_neg e2, if_neg (by omega)]))
          have HU : Hid (Upd [sb] w (wr.setCell ⟨sb, I, none⟩ (.bool false))) := Lib.hid (hupd.set _ (.inl (by simp)))
          clear hI hrf hupd e2
          go_wp2
          exact ⟨⟨u + 1, by omega, by go_num, HX.out, HU.out⟩, by simp [intOf]; omega⟩
        · obtain rfl : u = p := by omega
          have hlt3 : decide ((u : Int) < (u : Int)) = false := decide_eq_false (by omega)
          have HX := Lib.hid hrf
          have HU := Lib.hid hupd
          clear hrf hupd
          go_wp2
          go_ret
          exact ⟨HU.out, .inl ⟨HALL.out, rfl, HX.out⟩⟩

end Go.Proofs.Ytlncfncolkgjfaa
