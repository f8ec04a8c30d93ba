/-
  What a commit writes, as plain functions; and Journal.Commit where it writes nothing.
-/
import Derived.Test.YthbgidiblcokhaaJnI
namespace Go.Proofs.Ythbgidiblcokhaa
open Go.RowKit

/-- Bytes x laid over l from a on. -/
def over (l : List UInt8) (a : Nat) (x : List UInt8) : List UInt8 := l.take a ++ (x ++ l.drop (a + x.length))
theorem over_length {l x : List UInt8} {a : Nat} (h : a + x.length ≤ l.length) : (over l a x).length = l.length := by simp [over]; omega

def hdr0 (t : Int) (n : Nat) : Sec := put (tagged (2 * t + 1)) 8 2 n
/-- The header with the k-th sector laid in. -/
def hdrS (h : Sec) (k : Nat) (p : Put) : Sec := over (put h (16 + 12 * k) 4 p.1.toNat) (20 + 12 * k) (p.2.take 8)
/-- The header behind the first k sectors. -/
def hdrK (t : Int) (l : List Put) : Nat → Sec
  | 0 => hdr0 t l.length
  | k + 1 => hdrS (hdrK t l k) k (l.getD k (0, []))
def hdr (t : Int) (l : List Put) : Sec := hdrK t l l.length
/-- A sector as it stands in the ring. -/
def ringSec (t : Int) (b : Sec) : Sec := put b 0 8 (2 * t).toNat

theorem hdrK_length {t : Int} {l : List Put} (hl : l.length ≤ 40) (h8 : ∀ p ∈ l, p.2.length = 512) : ∀ k, k ≤ l.length → (hdrK t l k).length = 512
  | 0, _ => put_len (tagged_length _) (by omega)
  | k + 1, hk => by
    have ih := hdrK_length (t := t) hl h8 k (by omega)
    unfold hdrK hdrS
    have h1 : (put (hdrK t l k) (16 + 12 * k) 4 (l.getD k (0, [])).1.toNat).length = 512 := put_len ih (by omega)
    rw [over_length]
    · exact h1
    · rw [h1, List.length_take]; omega

/-- The ring sectors of a commit are written, one behind the other, until the disk says no. -/
def comL (J : Jn) : Nat → Dk → List Put → Dk × Int
  | _, D, [] => (D, 0)
  | k, D, p :: l => if (D.write ((J.at (J.place + 1 + k) : Nat) : Int) (ringSec J.turn p.2)).2 ≠ 0 then D.write ((J.at (J.place + 1 + k) : Nat) : Int) (ringSec J.turn p.2) else comL J (k + 1) (D.write ((J.at (J.place + 1 + k) : Nat) : Int) (ringSec J.turn p.2)).1 l
theorem comL_cons (J : Jn) (k : Nat) (D : Dk) (p : Put) (l : List Put) : comL J k D (p :: l) = if (D.write ((J.at (J.place + 1 + k) : Nat) : Int) (ringSec J.turn p.2)).2 ≠ 0 then D.write ((J.at (J.place + 1 + k) : Nat) : Int) (ringSec J.turn p.2) else comL J (k + 1) (D.write ((J.at (J.place + 1 + k) : Nat) : Int) (ringSec J.turn p.2)).1 l := rfl
theorem comL_n (J : Jn) : ∀ (l : List Put) (k : Nat) (D : Dk), (comL J k D l).1.n = D.n
  | [], _, D => rfl
  | p :: l, k, D => by
    rw [comL_cons]; split
    · exact Dk.write_n _ _ _
    · rw [comL_n J l]; exact Dk.write_n _ _ _

/-- Behind the checks and, where it was wanted, the checkpoint: what Commit writes. -/
def Jn.putD (J : Jn) (D : Dk) (l : List Put) : Dk × Int :=
  let R0 := D.write ((J.at J.place : Nat) : Int) zsec
  if R0.2 ≠ 0 then R0 else
  let R1 := comL J 0 R0.1 l
  if R1.2 ≠ 0 then R1 else
  let R2 := R1.1.flush
  if R2.2 ≠ 0 then R2 else
  let R3 := R2.1.write ((J.at J.place : Nat) : Int) (hdr J.turn l)
  if R3.2 ≠ 0 then R3 else R3.1.flush
def Jn.put (J : Jn) (D : Dk) (l : List Put) : Jn := if (J.putD D l).2 ≠ 0 then J.hear (J.putD D l).2 else J.note l

/-- Does Commit want a checkpoint first? -/
def Jn.tight (J : Jn) (l : List Put) : Prop := (J.last.ring : Int) - (J.used : Int) < (l.length : Int) + 1
instance (J : Jn) (l : List Put) : Decidable (J.tight l) := inferInstanceAs (Decidable (_ < _))

def Jn.comD (J : Jn) (D : Dk) (l : List Put) : Dk × Int :=
  if J.may D ≠ 0 then (D, 8) else if J.fits D.n l ≠ 0 then (D, J.fits D.n l) else if l = [] then (D, 0) else if 4611686018427387903 ≤ J.turn then (D, 7)
  else if J.tight l then (if (J.ckD D).2 ≠ 0 then J.ckD D else (J.ck D).putD (J.ckD D).1 l) else J.putD D l
def Jn.com (J : Jn) (D : Dk) (l : List Put) : Jn :=
  if J.may D ≠ 0 then J else if J.fits D.n l ≠ 0 then J else if l = [] then J else if 4611686018427387903 ≤ J.turn then J
  else if J.tight l then (if (J.ckD D).2 ≠ 0 then J.ck D else (J.ck D).put (J.ckD D).1 l) else J.put D l

def ComPost (w : World) (F : Nat → Prop) (j : JG) (J : Jn) (D : Dk) (l : List Put) (e : Ending) (w' : World) : Prop :=
  e = .returned (.int .i64 (J.comD D l).2) ∧ JnAt w' (Gr F w.heap.size) j (J.com D l) (J.comD D l).1 ∧ Upd j.all w w'

set_option maxHeartbeats 800000 in
theorem com_dead {w : World} {F : Nat → Prop} {j : JG} {J : Jn} {D : Dk} (h : JnAt w F j J D) (v : Value) (l : List Put) (hm : J.may D ≠ 0) :
    Calls Try.prog 22 #[.pointer (some ⟨j.jb, 0, none⟩), v] w (ComPost w F j J D l) := by
  have H := Lib.hid h
  have hb : (J.may D != 0) = true := by simpa using hm
  have HM := Lib.hid (Jn.may_eq hm)
  have HR : Hid (J.comD D l = (D, 8) ∧ J.com D l = J) := by show _ ∧ _; unfold Jn.comD Jn.com; simp [hm]
  clear h hm
  go_enter Try.func22, Try.ntmps22
  go_wp2_with (go_at_call 56; refine (mayJ_spec H.out).mono ?_; rintro e w' ⟨rfl, n, rfl⟩)
  go_ret
  unfold ComPost
  rw [HR.out.1, HR.out.2]
  exact ⟨ret_int HM.out, (H.out.drewN _).mono Gr.old, (Upd.refl _ _).drewN _⟩

set_option maxHeartbeats 800000 in
theorem com_bad {w : World} {F : Nat → Prop} {j : JG} {J : Jn} {D : Dk} (h : JnAt w F j J D) (v : Value) (l : List Put) (hp : PutsAt w v l) (hl : l.length ≤ 1000000) (hm : J.may D = 0) (hf : J.fits D.n l ≠ 0 ∨ l = []) :
    Calls Try.prog 22 #[.pointer (some ⟨j.jb, 0, none⟩), v] w (ComPost w F j J D l) := by
  have H := Lib.hid h
  have hb : (J.may D != 0) = false := by simp [hm]
  obtain ⟨ao, cap, rfl⟩ := hp.shape
  have HF := fun n => Lib.hid (fits_spec (h.drewN n) _ l (hp.below ((Upd.refl _ _).drewN n)) hl)
  by_cases hf1 : J.fits D.n l = 0
  · obtain rfl : l = [] := hf.resolve_left (by simpa using hf1)
    have hb2 : (J.fits D.n [] != 0) = false := by simp [hf1]
    have HR : Hid (J.comD D [] = (D, 0) ∧ J.com D [] = J) := by show _ ∧ _; unfold Jn.comD Jn.com; simp [hm, hf1]
    have HE := Lib.hid hf1
    clear h hm hf hf1 hp
    go_enter Try.func22, Try.ntmps22
    go_wp2_with (first | (go_at_call 56; refine (mayJ_spec H.out).mono ?_; rintro e w' ⟨rfl, n, rfl⟩) | (go_at_call 57; refine (HF _).out.mono ?_; rintro e w2 ⟨rfl, hu2⟩))
    go_ret
    unfold ComPost
    rw [HR.out.1, HR.out.2]
    exact ⟨ret_int HE.out, ((H.out.drewN _).below hu2).mono Gr.old, (((Upd.refl _ _).drewN _).trans hu2).mono (by simp)⟩
  · have hb2 : (J.fits D.n l != 0) = true := by simpa using hf1
    have HR : Hid (J.comD D l = (D, J.fits D.n l) ∧ J.com D l = J) := by show _ ∧ _; unfold Jn.comD Jn.com; simp [hm, hf1]
    clear h hm hf hf1 hp
    go_enter Try.func22, Try.ntmps22
    go_wp2_with (first | (go_at_call 56; refine (mayJ_spec H.out).mono ?_; rintro e w' ⟨rfl, n, rfl⟩) | (go_at_call 57; refine (HF _).out.mono ?_; rintro e w2 ⟨rfl, hu2⟩))
    go_ret
    unfold ComPost
    rw [HR.out.1, HR.out.2]
    exact ⟨rfl, ((H.out.drewN _).below hu2).mono Gr.old, (((Upd.refl _ _).drewN _).trans hu2).mono (by simp)⟩

set_option maxHeartbeats 800000 in
theorem com_full {w : World} {F : Nat → Prop} {j : JG} {J : Jn} {D : Dk} (h : JnAt w F j J D) (v : Value) (l : List Put) (hp : PutsAt w v l) (hl : l.length ≤ 1000000) (hm : J.may D = 0) (hf : J.fits D.n l = 0) (h0 : l ≠ []) (ht : 4611686018427387903 ≤ J.turn) :
    Calls Try.prog 22 #[.pointer (some ⟨j.jb, 0, none⟩), v] w (ComPost w F j J D l) := by
  have H := Lib.hid h
  have hb : (J.may D != 0) = false := by simp [hm]
  obtain ⟨ao, cap, rfl⟩ := hp.shape
  have HF := fun n => Lib.hid (fits_spec (h.drewN n) _ l (hp.below ((Upd.refl _ _).drewN n)) hl)
  have hb2 : (J.fits D.n l != 0) = false := by simp [hf]
  have hl0 : 0 < l.length := List.length_pos_iff.2 h0
  have hb3 : ((l.length : Int) == 0) = false := by rw [beq_eq_false_iff_ne]; omega
  have HR : Hid (J.comD D l = (D, 7) ∧ J.com D l = J) := by show _ ∧ _; unfold Jn.comD Jn.com; simp [hm, hf, h0, ht]
  clear h hm hf hp h0
  go_enter Try.func22, Try.ntmps22
  go_wp2_with (first | (go_at_call 56; refine (mayJ_spec H.out).mono ?_; rintro e w' ⟨rfl, n, rfl⟩) | (go_at_call 57; refine (HF _).out.mono ?_; rintro e w2 ⟨rfl, hu2⟩; have HU2 := Lib.hid hu2; have hc2 := blk_cell ((H.out.drewN n).below hu2).st; clear hu2))
  go_ret
  unfold ComPost
  rw [HR.out.1, HR.out.2]
  exact ⟨rfl, ((H.out.drewN _).below HU2.out).mono Gr.old, (((Upd.refl _ _).drewN _).trans HU2.out).mono (by simp)⟩

end Go.Proofs.Ythbgidiblcokhaa
