/-
  Journal.Read.
-/
import Derived.Test.YthbgidiblcokhaaJnD
namespace Go.Proofs.Ythbgidiblcokhaa
open Go.RowKit

/-- What stands at home sector i. -/
def Jn.home (J : Jn) (D : Dk) (i : Nat) : Sec := (J.away i).getD (D.now (2 + J.last.ring + i))

/-- What Read answers, and whether the journal is done behind it. -/
def Jn.read (J : Jn) (D : Dk) (i : Int) : List UInt8 × Int × Bool :=
  if J.may D ≠ 0 then ([], 8, J.done)
  else if i < 0 ∨ (J.homes D.n : Int) ≤ i then ([], 1, J.done)
  else if (J.away i.toNat).isSome then (J.home D i.toNat, 0, J.done)
  else if D.off then ([], 8, true) else (J.home D i.toNat, 0, false)

def ReadPost (w : World) (F : Nat → Prop) (j : JG) (J : Jn) (D : Dk) (R : List UInt8 × Int × Bool) (e : Ending) (w' : World) : Prop :=
  ∃ v, e = .returned (.tuple #[v, .int .i64 R.2.1]) ∧ OwnN w' 5 (fun k => w.heap.size ≤ k) v R.1 ∧ JnAt w' F j { J with done := R.2.2 } D ∧ Upd [j.jb] w w'

theorem Rd.drewN {w : World} {v : Value} {l : List UInt8} (h : Rd w v l) (n : Nat) : Rd (w.drewN n) v l := h.of_block fun _ _ _ _ => rfl
theorem Jn.may_eq {J : Jn} {D : Dk} (h : J.may D ≠ 0) : J.may D = 8 := by
  unfold Jn.may at *; split
  · rfl
  · rename_i q; rw [if_neg q] at h; exact absurd rfl h
theorem JnAt.upd_qt {w w' : World} {n : Nat} (h : w' = w.drewN n) : Upd [] w w' := (Qt.of_drewN h).upd

set_option maxHeartbeats 400000 in
theorem readJ_dead {w : World} {F : Nat → Prop} {j : JG} {J : Jn} {D : Dk} (h : JnAt w F j J D) (i : Int) (hm : J.may D ≠ 0) :
    Calls Try.prog 26 #[.pointer (some ⟨j.jb, 0, none⟩), .int .i64 i] w (ReadPost w F j J D ([], 8, J.done)) := by
  have H := Lib.hid h
  have hb : (J.may D != 0) = true := by simpa using hm
  have HM := Lib.hid (Jn.may_eq hm)
  clear h hm
  go_enter Try.func26, Try.ntmps26
  go_wp2_with (go_at_call 56; refine (mayJ_spec H.out).mono ?_; rintro e w' ⟨rfl, n, rfl⟩)
  go_ret2
  exact ⟨_, by rw [← HM.out]; rfl, .inr ⟨rfl, rfl⟩, H.out.drewN n, (Upd.refl _ _).drewN n⟩

set_option maxHeartbeats 400000 in
theorem readJ_arg {w : World} {F : Nat → Prop} {j : JG} {J : Jn} {D : Dk} (h : JnAt w F j J D) (i : Int) (hm : J.may D = 0) (hi : i < 0 ∨ (J.homes D.n : Int) ≤ i) :
    Calls Try.prog 26 #[.pointer (some ⟨j.jb, 0, none⟩), .int .i64 i] w (ReadPost w F j J D ([], 1, J.done)) := by
  have H := Lib.hid h
  have hb : (J.may D != 0) = false := by simp [hm]
  clear h hm
  by_cases h0 : i < 0
  · clear hi
    go_enter Try.func26, Try.ntmps26
    go_wp2_with (go_at_call 56; refine (mayJ_spec H.out).mono ?_; rintro e w' ⟨rfl, n, rfl⟩)
    go_ret2
    exact ⟨_, rfl, .inr ⟨rfl, rfl⟩, H.out.drewN n, (Upd.refl _ _).drewN n⟩
  · have h1 : (J.homes D.n : Int) ≤ i := by omega
    have h0' : 0 ≤ i := by omega
    clear hi h0
    go_enter Try.func26, Try.ntmps26
    go_wp2_with (first | (go_at_call 56; refine (mayJ_spec H.out).mono ?_; rintro e w' ⟨rfl, n, rfl⟩) | (go_at_call 28; refine (homes_spec (H.out.drewN n)).mono ?_; rintro e w' ⟨rfl, m, rfl⟩))
    go_ret2
    exact ⟨_, rfl, .inr ⟨rfl, rfl⟩, H.out.drewN _, (Upd.refl _ _).drewN _⟩

set_option maxHeartbeats 400000 in
theorem readJ_away {w : World} {F : Nat → Prop} {j : JG} {J : Jn} {D : Dk} (h : JnAt w F j J D) (i : Nat) (s : Sec) (hm : J.may D = 0) (hi : i < J.homes D.n) (hs : J.away i = some s) :
    Calls Try.prog 26 #[.pointer (some ⟨j.jb, 0, none⟩), .int .i64 (i : Int)] w (ReadPost w F j J D (s, 0, J.done)) := by
  have H := Lib.hid h
  have hb : (J.may D != 0) = false := by simp [hm]
  have h1 : (i : Int) < (J.homes D.n : Int) := by omega
  have hc := blk_cell h.st
  obtain ⟨f, hf, hf1, hf2⟩ := h.away
  obtain ⟨v, hv⟩ := hf2 i s hs
  obtain ⟨_, s', e', o⟩ := hf1 _ _ hv
  rw [Int.toNat_natCast, hs] at e'
  obtain rfl : s = s' := by simpa using e'
  have hlk : ∀ n, (Instr.lookup 49 (.map (some j.ab)) (.int .i64 (i : Int)) true).run Try.prog (w.drewN n) = .ok (.tuple #[v, .bool true]) (w.drewN n) := by
    intro n
    have hf' : MapI (w.drewN n) j.ab f := hf.world rfl
    have := hf'.lookup (P := Try.prog) (T := 49) Try.underlying49 Try.underlying3 (zeroBytes _) (i : Int) true
    rw [hv] at this
    exact this
  have HL := Lib.hid ((h.ok.away i s hs).2)
  have HR := Lib.hid o.rd
  clear h hm hf hf1 hf2 hv hs e' o
  go_enter Try.func26, Try.ntmps26
  go_wp2_with (first | (go_at_call 56; refine (mayJ_spec H.out).mono ?_; rintro e w' ⟨rfl, n, rfl⟩) | (go_at_call 28; refine (homes_spec (H.out.drewN n)).mono ?_; rintro e w' ⟨rfl, m, rfl⟩))
  refine (clone_spec v s _ (HR.out.drewN _) (by rw [HL.out]; omega)).mono ?_
  rintro e w2 ⟨v', rfl, hu2, ho2⟩
  have HU2 := Lib.hid hu2
  have HO2 := Lib.hid ho2
  clear hu2 ho2
  go_wp2
  go_ret2
  exact ⟨_, rfl, HO2.out, (H.out.drewN _).below HU2.out, (((Upd.refl _ _).drewN _).trans HU2.out).mono (by simp)⟩

theorem readD_ok {w : World} {F : Nat → Prop} {g : DG} {D : Dk} (h : DiskAt w F g D) (i : Int) (hoff : D.off = false) (h0 : 0 ≤ i) (hi : i < D.n) :
    Calls Try.prog 51 #[.pointer (some ⟨g.db, 0, none⟩), .int .i64 i] w fun e w' => e = .returned (.tuple #[.slice (some ⟨w.heap.size, 0, none⟩) 512 512, .int .i64 0]) ∧ w.alloc (.cells (bts (D.now i.toNat)).toArray 5) = w' := by
  obtain ⟨k, rfl⟩ := Int.eq_ofNat_of_zero_le h0
  exact read_ok h k hoff (by omega)

set_option maxHeartbeats 1000000 in
theorem readJ_disk {w : World} {F : Nat → Prop} {j : JG} {J : Jn} {D : Dk} (h : JnAt w F j J D) (i : Nat) (hm : J.may D = 0) (hi : i < J.homes D.n) (hs : J.away i = none) (hoff : D.off = false) :
    Calls Try.prog 26 #[.pointer (some ⟨j.jb, 0, none⟩), .int .i64 (i : Int)] w (ReadPost w F j J D (D.now (2 + J.last.ring + i), 0, false)) := by
  have H := Lib.hid h
  have hb : (J.may D != 0) = false := by simp [hm]
  have h1 : (i : Int) < (J.homes D.n : Int) := by omega
  have hc := blk_cell h.st
  obtain ⟨f, hf, hf1, hf2⟩ := h.away
  have hv : f (i : Int) = none := by
    cases hq : f (i : Int) with
    | none => rfl
    | some v => obtain ⟨_, s, e, _⟩ := hf1 _ _ hq; rw [Int.toNat_natCast, hs] at e; simp at e
  have hlk : ∀ n, (Instr.lookup 49 (.map (some j.ab)) (.int .i64 (i : Int)) true).run Try.prog (w.drewN n) = .ok (.tuple #[.slice none 0 0, .bool false]) (w.drewN n) := by
    intro n
    have hf' : MapI (w.drewN n) j.ab f := hf.world rfl
    have := hf'.lookup (P := Try.prog) (T := 49) Try.underlying49 Try.underlying3 (zeroBytes _) (i : Int) true
    rw [hv] at this
    exact this
  have hr0 := h.ok.ring0
  have hr1 := h.ok.ring1
  have hfit := h.ok.fits
  have hn1 := h.disk.ok.n1
  have hin : 2 + (J.last.ring : Int) + (i : Int) < (D.n : Int) := by unfold Jn.homes at hi; omega
  have HD := fun W (hW : W.heap = w.heap) => Lib.hid (readD_ok (w := W) (h.disk.world (by rw [hW]) (by rw [hW]) (by rw [hW]) (fun _ _ _ _ => by rw [hW])) (2 + (J.last.ring : Int) + (i : Int)) hoff (by omega) hin)
  have e1 : (2 + (J.last.ring : Int) + (i : Int)).toNat = 2 + J.last.ring + i := by omega
  rw [e1] at HD
  have hc0 : ∀ n, (w.drewN n).cell? ⟨j.jb, 0, none⟩ = some (.pointer (some ⟨j.d.db, 0, none⟩)) := fun n => by rw [show (w.drewN n).cell? _ = w.cell? _ from rfl, hc]; rfl
  have hlt := h.lt.1
  clear h hm hf hf1 hf2 hv hs e1
  go_enter Try.func26, Try.ntmps26
  go_wp2_with (first | (go_at_call 56; refine (mayJ_spec H.out).mono ?_; rintro e w' ⟨rfl, n, rfl⟩) | (go_at_call 28; refine (homes_spec (H.out.drewN n)).mono ?_; rintro e w' ⟨rfl, m, rfl⟩))
  have q : Qt w (w.drewN (n + m)) := Qt.of_drewN rfl
  generalize w.drewN (n + m) = W at q ⊢
  have hJW := H.out.qt q
  have cW := blk_cell hJW.st
  have cW0 : W.cell? ⟨j.jb, 0, none⟩ = some (.pointer (some ⟨j.d.db, 0, none⟩)) := by rw [cW]; rfl
  have cW6 : W.cell? ⟨j.jb, 6, none⟩ = some (.int .i64 (J.last.ring : Int)) := by rw [cW]; rfl
  have hltW : j.jb < W.heap.size := hJW.lt.1
  have HQ := Lib.hid q
  have HJW := Lib.hid hJW
  have hw1 : IntKind.i64.wrap (2 + (J.last.ring : Int)) = 2 + (J.last.ring : Int) := IntWalk.i64_in _ (by omega)
  have hw2 : IntKind.i64.wrap (2 + (J.last.ring : Int) + (i : Int)) = 2 + (J.last.ring : Int) + (i : Int) := IntWalk.i64_in _ (by omega)
  clear q hJW cW hc hc0 hlk hlt hin hfit
  go_region_held3 (fun w' => w'.cell? ⟨j.jb, 0, none⟩ = some (.pointer (some ⟨j.d.db, 0, none⟩)) ∧ w'.cell? ⟨j.jb, 6, none⟩ = some (.int .i64 (J.last.ring : Int))) (go_keep)
    (first | (go_at_call 51; (with_reducible refine (HD _ ?_).out.mono ?_); exact HQ.out.heap; rintro e w' ⟨rfl, rfl⟩))
  clear hw1 hw2
  have hJ2 : JnAt (W.alloc (.cells (bts (D.now (2 + J.last.ring + i))).toArray 5)).drew F j J D := HJW.out.below ((Upd.refl _ _).alloc _).drew
  have hb2 : (W.alloc (.cells (bts (D.now (2 + J.last.ring + i))).toArray 5)).drew.heap[W.heap.size]? = some (.cells (bts (D.now (2 + J.last.ring + i))).toArray 5 (0, 0)) := blk_alloc _
  have hu2 : Upd [] W (W.alloc (.cells (bts (D.now (2 + J.last.ring + i))).toArray 5)).drew := ((Upd.refl _ _).alloc _).drew
  generalize (W.alloc (.cells (bts (D.now (2 + J.last.ring + i))).toArray 5)).drew = W2 at hJ2 hb2 hu2 ⊢
  have c2 := blk_cell hJ2.st
  have f2 := blk_free hJ2.st
  have HJ2 := Lib.hid hJ2
  have HB2 := Lib.hid hb2
  have HU2 := Lib.hid hu2
  clear hJ2 hb2 hu2
  go_wp2
  go_ret2
  have hzz : (D.now (2 + J.last.ring + i)).length = 512 := by
    unfold Dk.now
    cases hq : D.wait (2 + J.last.ring + i) with
    | none => exact H.out.disk.ok.last _
    | some s => exact (H.out.disk.ok.wait _ s hq).2
  refine ⟨_, rfl, .inl ⟨W.heap.size, [], by rw [HQ.out.heap]; exact Nat.le_refl _, by simp [hzz], ?_⟩, HJ2.out.done false, ?_⟩
  · rw [blk_set_ne _ _ (by omega), HB2.out]; simp
  · exact ((HQ.out.upd.trans HU2.out).mono (by simp)).set _ (.inl (by simp))

set_option maxHeartbeats 1000000 in
theorem readJ_off {w : World} {F : Nat → Prop} {j : JG} {J : Jn} {D : Dk} (h : JnAt w F j J D) (i : Nat) (hm : J.may D = 0) (hi : i < J.homes D.n) (hs : J.away i = none) (hoff : D.off = true) :
    Calls Try.prog 26 #[.pointer (some ⟨j.jb, 0, none⟩), .int .i64 (i : Int)] w (ReadPost w F j J D ([], 8, true)) := by
  have H := Lib.hid h
  have hb : (J.may D != 0) = false := by simp [hm]
  have h1 : (i : Int) < (J.homes D.n : Int) := by omega
  have hc := blk_cell h.st
  obtain ⟨f, hf, hf1, hf2⟩ := h.away
  have hv : f (i : Int) = none := by
    cases hq : f (i : Int) with
    | none => rfl
    | some v => obtain ⟨_, s, e, _⟩ := hf1 _ _ hq; rw [Int.toNat_natCast, hs] at e; simp at e
  have hlk : ∀ n, (Instr.lookup 49 (.map (some j.ab)) (.int .i64 (i : Int)) true).run Try.prog (w.drewN n) = .ok (.tuple #[.slice none 0 0, .bool false]) (w.drewN n) := by
    intro n
    have hf' : MapI (w.drewN n) j.ab f := hf.world rfl
    have := hf'.lookup (P := Try.prog) (T := 49) Try.underlying49 Try.underlying3 (zeroBytes _) (i : Int) true
    rw [hv] at this
    exact this
  have hr0 := h.ok.ring0
  have hr1 := h.ok.ring1
  have hfit := h.ok.fits
  have hn1 := h.disk.ok.n1
  have hin : 2 + (J.last.ring : Int) + (i : Int) < (D.n : Int) := by unfold Jn.homes at hi; omega
  have hme : D.may (2 + (J.last.ring : Int) + (i : Int)) = 8 := by unfold Dk.may; rw [hoff]; rfl
  have HD := fun W (hW : W.heap = w.heap) => Lib.hid (read_err (w := W) (h.disk.world (by rw [hW]) (by rw [hW]) (by rw [hW]) (fun _ _ _ _ => by rw [hW])) (2 + (J.last.ring : Int) + (i : Int)) (by rw [hme]; omega))
  rw [hme] at HD
  clear h hm hf hf1 hf2 hv hs hme
  go_enter Try.func26, Try.ntmps26
  go_wp2_with (first | (go_at_call 56; refine (mayJ_spec H.out).mono ?_; rintro e w' ⟨rfl, n, rfl⟩) | (go_at_call 28; refine (homes_spec (H.out.drewN n)).mono ?_; rintro e w' ⟨rfl, m, rfl⟩))
  have q : Qt w (w.drewN (n + m)) := Qt.of_drewN rfl
  generalize w.drewN (n + m) = W at q ⊢
  have hJW := H.out.qt q
  have cW := blk_cell hJW.st
  have cW0 : W.cell? ⟨j.jb, 0, none⟩ = some (.pointer (some ⟨j.d.db, 0, none⟩)) := by rw [cW]; rfl
  have cW6 : W.cell? ⟨j.jb, 6, none⟩ = some (.int .i64 (J.last.ring : Int)) := by rw [cW]; rfl
  have hltW : j.jb < W.heap.size := hJW.lt.1
  have HQ := Lib.hid q
  have HJW := Lib.hid hJW
  have hw1 : IntKind.i64.wrap (2 + (J.last.ring : Int)) = 2 + (J.last.ring : Int) := IntWalk.i64_in _ (by omega)
  have hw2 : IntKind.i64.wrap (2 + (J.last.ring : Int) + (i : Int)) = 2 + (J.last.ring : Int) + (i : Int) := IntWalk.i64_in _ (by omega)
  clear q hJW cW hc hlk hin hfit
  go_region_held3 (fun w' => w'.cell? ⟨j.jb, 0, none⟩ = some (.pointer (some ⟨j.d.db, 0, none⟩)) ∧ w'.cell? ⟨j.jb, 6, none⟩ = some (.int .i64 (J.last.ring : Int))) (go_keep)
    (first | (go_at_call 51; (with_reducible refine (HD _ ?_).out.mono ?_); exact HQ.out.heap; rintro e w' ⟨rfl, rfl⟩))
  clear hw1 hw2
  have hJ2 : JnAt W.drew F j J D := HJW.out.below (Upd.refl _ _).drew
  have hu2 : Upd [] W W.drew := (Upd.refl _ _).drew
  generalize W.drew = W2 at hJ2 hu2 ⊢
  have c2 := blk_cell hJ2.st
  have f2 := blk_free hJ2.st
  have HJ2 := Lib.hid hJ2
  have HU2 := Lib.hid hu2
  clear hJ2 hu2
  go_wp2
  go_ret2
  exact ⟨_, rfl, .inr ⟨rfl, rfl⟩, HJ2.out.done true, ((HQ.out.upd.trans HU2.out).mono (by simp)).set _ (.inl (by simp))⟩

/-- Journal.Read, whatever it is asked. -/
theorem readJ_spec {w : World} {F : Nat → Prop} {j : JG} {J : Jn} {D : Dk} (h : JnAt w F j J D) (i : Int) :
    Calls Try.prog 26 #[.pointer (some ⟨j.jb, 0, none⟩), .int .i64 i] w (ReadPost w F j J D (J.read D i)) := by
  by_cases hm : J.may D = 0
  · by_cases hi : i < 0 ∨ (J.homes D.n : Int) ≤ i
    · have e : J.read D i = ([], 1, J.done) := by unfold Jn.read; rw [if_neg (by simpa using hm), if_pos hi]
      rw [e]; exact readJ_arg h i hm hi
    · obtain ⟨k, rfl⟩ := Int.eq_ofNat_of_zero_le (show 0 ≤ i by omega)
      cases hs : J.away k with
      | some s =>
        have e : J.read D (k : Int) = (s, 0, J.done) := by
          unfold Jn.read; rw [if_neg (by simpa using hm), if_neg hi, if_pos (by simp [hs])]
          simp [Jn.home, hs]
        rw [e]; exact readJ_away h k s hm (by omega) hs
      | none =>
        cases hoff : D.off with
        | true =>
          have e : J.read D (k : Int) = ([], 8, true) := by
            unfold Jn.read; rw [if_neg (by simpa using hm), if_neg hi, if_neg (by simp [hs]), if_pos hoff]
          rw [e]; exact readJ_off h k hm (by omega) hs hoff
        | false =>
          have e : J.read D (k : Int) = (D.now (2 + J.last.ring + k), 0, false) := by
            unfold Jn.read; rw [if_neg (by simpa using hm), if_neg hi, if_neg (by simp [hs]), if_neg (by simp [hoff])]
            simp [Jn.home, hs]
          rw [e]; exact readJ_disk h k hm (by omega) hs hoff
  · have e : J.read D i = ([], 8, J.done) := by unfold Jn.read; rw [if_pos hm]
    rw [e]; exact readJ_dead h i hm

end Go.Proofs.Ythbgidiblcokhaa
