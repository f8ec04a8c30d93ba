/-
  A formatted disk holds an empty journal; Commit in one contract.
-/
import Derived.Test.YthbgidiblcokhaaPlD
import Derived.Test.YthbgidiblcokhaaJnP
import Derived.Test.YthbgidiblcokhaaJnL
namespace Go.Proofs.Ythbgidiblcokhaa
open Go.RowKit

/-- The journal of a new disk. -/
def Jn.fresh (ring : Nat) : Jn := { lives := 0, done := false, last := ⟨1, 1, 0, ring⟩, turn := 1, place := 0, used := 0, away := fun _ => none }
structure Zd (D E : Dk) (k : Nat) : Prop where
  on : E.On
  ok : E.Ok
  n : E.n = D.n
  lives : E.lives = D.lives
  way : E.way = none
  z : ∀ i, i < k → E.now i = zsec
  far : ∀ i, D.n ≤ i → E.now i = D.now i
theorem Dk.new_ok {n : Nat} (h0 : 32 ≤ n) (h1 : n ≤ 4096) : (Dk.new n).Ok :=
  ⟨h0, h1, fun _ => zsec_length, fun _ _ h => by simp [Dk.new] at h, by show -1 ≤ (-1 : Int); omega, by show (-1 : Int) ≤ _; omega, by show 0 ≤ 512; omega, fun _ h => by simp [Dk.new] at h, by show ([] : List UInt8).length ≤ 512; simp⟩
theorem Dk.On.flush_ok {D : Dk} (h : D.On) (hok : D.Ok) : D.flush.1.Ok := by
  rw [h.flush]
  exact ⟨hok.n0, hok.n1, fun i => Dk.now_len hok i, fun _ _ q => by simp at q, hok.armed0, hok.armed1, hok.part, hok.way, hok.front⟩
theorem Dk.On.write_ok {D : Dk} (h : D.On) (hok : D.Ok) {i : Nat} (hi : i < D.n) {b : Sec} (hb : b.length = 512) : (D.write (i : Int) b).1.Ok := by
  rw [h.write hi hb]
  refine ⟨hok.n0, hok.n1, hok.last, fun j s q => ?_, hok.armed0, hok.armed1, hok.part, hok.way, hok.front⟩
  replace q : (if j = i then some b else D.wait j) = some s := q
  split at q
  · rename_i e; cases q; rw [e]; exact ⟨hi, hb⟩
  · exact hok.wait j s q
theorem Dk.On.now_write {D : Dk} (h : D.On) {i : Nat} (hi : i < D.n) {b : Sec} (hb : b.length = 512) (j : Nat) : (D.write (i : Int) b).1.now j = if j = i then b else D.now j := by
  rw [h.write hi hb]
  unfold Dk.now
  show ((if j = i then some b else D.wait j) : Option Sec).getD (D.last j) = _
  split <;> rfl
theorem Dk.On.now_flush {D : Dk} (h : D.On) (j : Nat) : D.flush.1.now j = D.now j := by
  rw [h.flush]; rfl
theorem zd_all {D : Dk} (hon : D.On) (hok : D.Ok) (hw : D.way = none) : ∀ k, k ≤ D.n → Zd D (D.zeroK k) k
  | 0, _ => ⟨hon, hok, rfl, rfl, hw, fun _ q => by omega, fun _ _ => rfl⟩
  | k + 1, hk => by
    have ih := zd_all hon hok hw k (by omega)
    have step : ∀ E : Dk, Zd D E k → Zd D (E.write (k : Int) zsec).1 (k + 1) := by
      intro E z
      have hkn : k < E.n := by rw [z.n]; omega
      refine ⟨(z.on.written hkn zsec_length).1, z.on.write_ok z.ok hkn zsec_length, (Dk.write_n _ _ _).trans z.n, ?_, ?_, fun i hi => ?_, fun i hi => ?_⟩
      · rw [z.on.write hkn zsec_length]; exact z.lives
      · rw [z.on.write hkn zsec_length]; exact z.way
      · rw [z.on.now_write hkn zsec_length]
        split
        · rfl
        · exact z.z i (by omega)
      · rw [z.on.now_write hkn zsec_length, if_neg (by omega)]; exact z.far i hi
    show Zd D ((if k = 2 then (D.zeroK k).flush.1 else D.zeroK k).write (k : Int) zsec).1 (k + 1)
    split
    · refine step _ ⟨ih.on.flushed.1, ih.on.flush_ok ih.ok, (Dk.flush_n _).trans ih.n, ?_, ?_, fun i hi => by rw [ih.on.now_flush]; exact ih.z i hi, fun i hi => by rw [ih.on.now_flush]; exact ih.far i hi⟩
      · rw [ih.on.flush]; exact ih.lives
      · rw [ih.on.flush]; exact ih.way
    · exact step _ ih
theorem fmt_live {n ring : Nat} (h0 : 32 ≤ n) (h1 : n ≤ 4096) (r0 : 8 ≤ ring) (r1 : ring ≤ 1024) (r2 : ring + 10 ≤ n) :
    Live ((Dk.new n).fmt ring) (Jn.fresh ring) ∧ (Jn.fresh ring).home ((Dk.new n).fmt ring) = (fun _ => zsec) ∧ ((Dk.new n).fmt ring).n = n ∧ ((Dk.new n).fmt ring).armed = -1 := by
  have hon : (Dk.new n).On := ⟨rfl, rfl⟩
  have z := zd_all hon (Dk.new_ok h0 h1) rfl n (Nat.le_refl _)
  have hn1 : 1 < ((Dk.new n).zeroK n).flush.1.n := by rw [Dk.flush_n, z.n]; show 1 < n; omega
  have on1 := z.on.flushed.1
  have ok1 := z.on.flush_ok z.ok
  have hsec : (Anc.sector ⟨1, 1, 0, ring⟩).length = 512 := Anc.sector_length _
  have on2 := (on1.written hn1 hsec).1
  have ok2 := on1.write_ok ok1 hn1 hsec
  have e : (Dk.new n).fmt ring = (((Dk.new n).zeroK n).flush.1.write ((1 : Nat) : Int) (Anc.sector ⟨1, 1, 0, ring⟩)).1.flush.1 := rfl
  have hnow : ∀ i, ((Dk.new n).zeroK n).now i = zsec := fun i => by
    by_cases q : i < n
    · exact z.z i q
    · exact (z.far i (by show n ≤ i; omega)).trans rfl
  have hlast : ∀ i, ((Dk.new n).fmt ring).last i = if i = 1 then Anc.sector ⟨1, 1, 0, ring⟩ else zsec := fun i => by
    rw [e, on2.flush]
    show (((Dk.new n).zeroK n).flush.1.write ((1 : Nat) : Int) _).1.now i = _
    rw [on1.now_write hn1 hsec, z.on.now_flush, hnow]
  have hlives : ((Dk.new n).fmt ring).lives = 0 := by
    rw [e, on2.flush]
    show (((Dk.new n).zeroK n).flush.1.write ((1 : Nat) : Int) _).1.lives = _
    rw [on1.write hn1 hsec]
    show ((Dk.new n).zeroK n).flush.1.lives = 0
    rw [z.on.flush]; exact z.lives
  have hcalm : ((Dk.new n).fmt ring).Calm := by
    refine ⟨by rw [e]; exact on2.flush_ok ok2, (on2.flushed.1).1, by rw [e, on2.flush], ?_⟩
    rw [e, on2.flush]
    show (((Dk.new n).zeroK n).flush.1.write ((1 : Nat) : Int) _).1.way = _
    rw [on1.write hn1 hsec]
    show ((Dk.new n).zeroK n).flush.1.way = none
    rw [z.on.flush]; exact z.way
  have hn : ((Dk.new n).fmt ring).n = n := by rw [e, Dk.flush_n, Dk.write_n, Dk.flush_n, z.n]; rfl
  have hlow : numI (((Dk.new n).fmt ring).last (Jn.fresh ring).slot) 504 8 < (Jn.fresh ring).last.number := by
    show numI (((Dk.new n).fmt ring).last 0) 504 8 < 1
    rw [hlast, if_neg (by omega)]
    have : num zsec 504 8 = 0 := by decide +kernel
    unfold numI; rw [this]; decide
  refine ⟨⟨⟨hcalm, ?_, hlives.symm, rfl, by show ((Dk.new n).fmt ring).last 1 = _; rw [hlast, if_pos rfl]; rfl, .inl hlow, Path.refl _, fun q _ => ?_, Nat.zero_le _⟩, hlow⟩, ?_, hn, (on2.flushed.1).2⟩
  · rw [hn]
    exact ⟨r0, r1, r2, by show 0 < ring; omega, by show 0 < ring; omega, by show (1 : Int) ≤ 1; omega, by show (1 : Int) < _; omega, by show (1 : Int) ≤ 1; omega, by show (1 : Int) ≤ 1; omega, by show (1 : Int) < _; omega, by show 0 ≤ _; omega, fun i s q => by simp [Jn.fresh] at q⟩
  · rw [hlast, if_neg (by omega)]; exact Clean.zsec _
  · funext i
    show ((Dk.new n).fmt ring).now (2 + ring + i) = zsec
    rw [hcalm.now, hlast, if_neg (by omega)]

theorem com_spec {w : World} {F : Nat → Prop} {j : JG} {J : Jn} {D : Dk} (h : JnAt w F j J D) (v : Value) (l : List Put) (hp : PutsAt w v l) (hl : l.length ≤ 1000000) (hus : J.used ≤ 5000) :
    Calls Try.prog 22 #[.pointer (some ⟨j.jb, 0, none⟩), v] w (ComPost w F j J D l) := by
  by_cases hm : J.may D = 0
  · by_cases hf : J.fits D.n l ≠ 0 ∨ l = []
    · exact com_bad h v l hp hl hm hf
    · have hf0 : J.fits D.n l = 0 := by
        by_cases q : J.fits D.n l = 0
        · exact q
        · exact absurd (.inl q) hf
      have h0 : l ≠ [] := fun q => hf (.inr q)
      by_cases ht : 4611686018427387903 ≤ J.turn
      · exact com_full h v l hp hl hm hf0 h0 ht
      · exact com_main h v l hp hm hf0 h0 (by omega) hus
  · exact com_dead h v l hm

end Go.Proofs.Ythbgidiblcokhaa
