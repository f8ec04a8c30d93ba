/-
  SHA-256 as the program has it, plain.
-/
import Derived.Test.YtceakcejchbbjaaGreatPkA
set_option linter.unusedSimpArgs false
set_option linter.unusedVariables false
namespace Go.Proofs.YtceakcejchbbjaaGreat
open Go.RowKit Go.MapKept Go.ChangeMaps

/-- A word turned: p = 2^(32 - n), q = 2^n. -/
def rotw (p q x : Int) : Int := bits .or .u32 (x * p % 4294967296) (x / q)
def xr (a b : Int) : Int := bits .xor .u32 a b
def an (a b : Int) : Int := bits .and .u32 a b
def ad (a b : Int) : Int := (a + b) % 4294967296
def nt (a : Int) : Int := bits .xor .u32 (if IntKind.u32.signed = true then -1 else IntKind.u32.max) a
def shaK : List Int := [1116352408, 1899447441, 3049323471, 3921009573, 961987163, 1508970993, 2453635748, 2870763221, 3624381080, 310598401, 607225278, 1426881987, 1925078388, 2162078206, 2614888103, 3248222580, 3835390401, 4022224774, 264347078, 604807628, 770255983, 1249150122, 1555081692, 1996064986, 2554220882, 2821834349, 2952996808, 3210313671, 3336571891, 3584528711, 113926993, 338241895, 666307205, 773529912, 1294757372, 1396182291, 1695183700, 1986661051, 2177026350, 2456956037, 2730485921, 2820302411, 3259730800, 3345764771, 3516065817, 3600352804, 4094571909, 275423344, 430227734, 506948616, 659060556, 883997877, 958139571, 1322822218, 1537002063, 1747873779, 1955562222, 2024104815, 2227730452, 2361852424, 2428436474, 2756734187, 3204031479, 3329325298]
/-- The byte i of some, as a number. -/
def byI (b : List UInt8) (i : Nat) : Int := ((b.getD i 0).toNat : Int)
def word0 (b : List UInt8) (i : Nat) : Int := bits .or .u32 (bits .or .u32 (bits .or .u32 (byI b (4 * i) * 16777216 % 4294967296) (byI b (4 * i + 1) * 65536 % 4294967296)) (byI b (4 * i + 2) * 256 % 4294967296)) (byI b (4 * i + 3))
/-- The first words of a block, one by one. -/
def fstW (b : List UInt8) : Nat → List Int
  | 0 => List.replicate 64 0
  | q + 1 => (fstW b q).set q (word0 b q)
def newW (ws : List Int) (i : Nat) : Int :=
  (ws.getD (i - 16) 0 + xr (xr (rotw 33554432 128 (ws.getD (i - 15) 0)) (rotw 16384 262144 (ws.getD (i - 15) 0))) (ws.getD (i - 15) 0 / 8) + ws.getD (i - 7) 0 + xr (xr (rotw 32768 131072 (ws.getD (i - 2) 0)) (rotw 8192 524288 (ws.getD (i - 2) 0))) (ws.getD (i - 2) 0 / 1024)) % 4294967296
/-- The words that follow. -/
def extW (b : List UInt8) : Nat → List Int
  | 0 => fstW b 16
  | q + 1 => (extW b q).set (16 + q) (newW (extW b q) (16 + q))
theorem fstW_length (b : List UInt8) : ∀ q, (fstW b q).length = 64
  | 0 => by simp [fstW]
  | q + 1 => by simp only [fstW, List.length_set]; exact fstW_length b q
theorem extW_length (b : List UInt8) : ∀ q, (extW b q).length = 64
  | 0 => fstW_length b 16
  | q + 1 => by simp only [extW, List.length_set]; exact extW_length b q
/-- Eight words. -/
structure W8 where
  a : Int
  b : Int
  c : Int
  d : Int
  e : Int
  f : Int
  g : Int
  h : Int
def W8.l (s : W8) : List Int := [s.a, s.b, s.c, s.d, s.e, s.f, s.g, s.h]
def rndUp (s : W8) : Int := xr (xr (rotw 67108864 64 s.e) (rotw 2097152 2048 s.e)) (rotw 128 33554432 s.e)
def rndX (k w : Int) (s : W8) : Int := ((s.h + rndUp s + xr (an s.e s.f) (an (nt s.e) s.g) + k) % 4294967296 + w) % 4294967296
def rndDown (s : W8) : Int := xr (xr (rotw 1073741824 4 s.a) (rotw 524288 8192 s.a)) (rotw 1024 4194304 s.a)
def rndY (s : W8) : Int := ad (rndDown s) (xr (xr (an s.a s.b) (an s.a s.c)) (an s.b s.c))
def rnd (k w : Int) (s : W8) : W8 := ⟨ad (rndX k w s) (rndY s), s.a, s.b, s.c, ad s.d (rndX k w s), s.e, s.f, s.g⟩
def rounds (ws : List Int) (s : W8) : Nat → W8
  | 0 => s
  | q + 1 => rnd (shaK.getD q 0) (ws.getD q 0) (rounds ws s q)
def addW (s t : W8) : W8 := ⟨ad s.a t.a, ad s.b t.b, ad s.c t.c, ad s.d t.d, ad s.e t.e, ad s.f t.f, ad s.g t.g, ad s.h t.h⟩
/-- The first q of eight words, added. -/
def addQ (s t : List Int) : Nat → List Int
  | 0 => s
  | q + 1 => (addQ s t q).set q (ad ((addQ s t q).getD q 0) (t.getD q 0))
theorem addQ_length (s t : List Int) : ∀ q, (addQ s t q).length = s.length
  | 0 => rfl
  | q + 1 => by simp only [addQ, List.length_set]; exact addQ_length s t q
theorem addQ_full (s t : W8) : addQ s.l t.l 8 = (addW s t).l := rfl
def mixS (s : W8) (b : List UInt8) : W8 := addW s (rounds (extW b 48) s 64)
/-- A hash. -/
structure Hs where
  st : W8
  wait : List UInt8
  n : Nat
def Hs.by (H : Hs) (c : UInt8) : Hs := if H.n % 64 = 63 then ⟨mixS H.st (H.wait.set (H.n % 64) c), H.wait.set (H.n % 64) c, H.n + 1⟩ else ⟨H.st, H.wait.set (H.n % 64) c, H.n + 1⟩
def Hs.more (H : Hs) (b : List UInt8) : Hs := b.foldl Hs.by H
def hs0 : Hs := ⟨⟨1779033703, 3144134277, 1013904242, 2773480762, 1359893119, 2600822924, 528734635, 1541459225⟩, List.replicate 64 0, 0⟩
theorem Hs.by_wait (H : Hs) (c : UInt8) : (H.by c).wait = H.wait.set (H.n % 64) c ∧ (H.by c).n = H.n + 1 := by
  unfold Hs.by; split <;> exact ⟨rfl, rfl⟩
theorem Hs.more_n (H : Hs) (b : List UInt8) : (H.more b).n = H.n + b.length := by
  unfold Hs.more
  induction b generalizing H with
  | nil => rfl
  | cons c b ih => rw [List.foldl_cons, ih, (H.by_wait c).2, List.length_cons]; omega
theorem Hs.more_wait (H : Hs) (b : List UInt8) : (H.more b).wait.length = H.wait.length := by
  unfold Hs.more
  induction b generalizing H with
  | nil => rfl
  | cons c b ih => rw [List.foldl_cons, ih, (H.by_wait c).1, List.length_set]
theorem Hs.more_app (H : Hs) (a b : List UInt8) : H.more (a ++ b) = (H.more a).more b := by unfold Hs.more; rw [List.foldl_append]
/-- A piece that stays within a block. -/
theorem Hs.piece : ∀ (f : List UInt8) (H : Hs), H.wait.length = 64 → 0 < f.length → H.n % 64 + f.length ≤ 64 →
    H.more f = if H.n % 64 + f.length = 64 then ⟨mixS H.st (over H.wait (H.n % 64) f), over H.wait (H.n % 64) f, H.n + f.length⟩ else ⟨H.st, over H.wait (H.n % 64) f, H.n + f.length⟩
  | [], H, _, h0, _ => by simp at h0
  | [c], H, hw, _, _ => by
    have h1 : over H.wait (H.n % 64) [c] = H.wait.set (H.n % 64) c := by
      apply List.ext_getElem?
      intro i
      rw [over_get (by rw [hw]; simp; omega), List.getElem?_set]
      by_cases hi : i = H.n % 64
      · subst hi; simp [hw]; omega
      · rw [if_neg (by simp; omega), if_neg (by omega)]
    show H.by c = _
    unfold Hs.by
    rw [h1]
    by_cases h : H.n % 64 = 63
    · rw [if_pos h, if_pos (by simp; omega)]; rfl
    · rw [if_neg h, if_neg (by simp; omega)]; rfl
  | c :: d :: f, H, hw, _, hf => by
    have hne : ¬ H.n % 64 = 63 := by simp at hf; omega
    have hb : H.by c = ⟨H.st, H.wait.set (H.n % 64) c, H.n + 1⟩ := by unfold Hs.by; rw [if_neg hne]
    have hm : (H.n + 1) % 64 = H.n % 64 + 1 := by simp at hf; omega
    have ih := Hs.piece (d :: f) ⟨H.st, H.wait.set (H.n % 64) c, H.n + 1⟩ (by rw [List.length_set]; exact hw) (by simp) (by show (H.n + 1) % 64 + _ ≤ 64; rw [hm]; simp at hf ⊢; omega)
    have ho : over (H.wait.set (H.n % 64) c) ((H.n + 1) % 64) (d :: f) = over H.wait (H.n % 64) (c :: d :: f) := by
      rw [hm]
      have hlt : H.n % 64 < 64 := Nat.mod_lt _ (by decide)
      apply List.ext_getElem?
      intro i
      rw [over_get (by rw [List.length_set, hw]; simp at hf ⊢; omega), over_get (by rw [hw]; simp at hf ⊢; omega), List.getElem?_set]
      by_cases h1 : H.n % 64 + 1 ≤ i ∧ i < H.n % 64 + 1 + (d :: f).length
      · rw [if_pos h1, if_pos (by simp at h1 ⊢; omega), show i - H.n % 64 = (i - (H.n % 64 + 1)) + 1 by omega, List.getElem?_cons_succ]
      · rw [if_neg h1]
        by_cases h2 : H.n % 64 = i
        · subst h2; rw [if_pos rfl, if_pos (by omega), if_pos (by simp), Nat.sub_self]; rfl
        · rw [if_neg h2, if_neg (by simp at h1 ⊢; omega)]
    show (H.by c).more (d :: f) = _
    rw [hb, ih]
    show (if (H.n + 1) % 64 + (d :: f).length = 64 then (⟨mixS H.st (over (H.wait.set (H.n % 64) c) ((H.n + 1) % 64) (d :: f)), over (H.wait.set (H.n % 64) c) ((H.n + 1) % 64) (d :: f), H.n + 1 + (d :: f).length⟩ : Hs) else ⟨H.st, over (H.wait.set (H.n % 64) c) ((H.n + 1) % 64) (d :: f), H.n + 1 + (d :: f).length⟩) = _
    rw [ho, hm]
    have e1 : H.n + 1 + (d :: f).length = H.n + (c :: d :: f).length := by simp; omega
    have e2 : H.n % 64 + 1 + (d :: f).length = H.n % 64 + (c :: d :: f).length := by simp; omega
    rw [e1, e2]
/-- What is written behind all: 128, zeros, the size in bits. -/
def padZ (n : Nat) : Nat := (119 - n % 64) % 64
def padB (n : Nat) : List UInt8 := (128 :: List.replicate (padZ n) 0) ++ be 8 (8 * n)
def oct (x : Int) : UInt8 := UInt8.ofNat (x % 256).toNat
/-- The bytes of the words. -/
def outB (l : List Int) : Nat → List UInt8
  | 0 => List.replicate 32 0
  | q + 1 => (outB l q).set q (oct (l.getD (q / 4) 0 / 2 ^ (24 - 8 * (q % 4))))
theorem outB_length (l : List Int) : ∀ q, (outB l q).length = 32
  | 0 => by simp [outB]
  | q + 1 => by simp only [outB, List.length_set]; exact outB_length l q
def Hs.sum (H : Hs) : List UInt8 := outB (H.more (padB H.n)).st.l 32
/-- The hash of some bytes. -/
def shaOf (b : List UInt8) : List UInt8 := (hs0.more b).sum
theorem shaOf_length (b : List UInt8) : (shaOf b).length = 32 := by unfold shaOf Hs.sum; exact outB_length _ _
end Go.Proofs.YtceakcejchbbjaaGreat
