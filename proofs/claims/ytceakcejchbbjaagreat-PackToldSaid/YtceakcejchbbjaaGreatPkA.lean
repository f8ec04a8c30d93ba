/-
  Package pack, plain: a pack's entry in the table, and its bytes in sixteen sectors.
-/
import Derived.Test.YtceakcejchbbjaaGreatSpF
set_option linter.unusedSimpArgs false
set_option linter.unusedVariables false
namespace Go.Proofs.YtceakcejchbbjaaGreat
open Go.RowKit Go.MapKept Go.ChangeMaps

/-- A pack: its first sector, its bytes, how many of them live. -/
structure Pk where
  start : Nat
  data : List UInt8
  live : Nat
/-- Three numbers that stand at a. -/
def entW (l : Sec) (a : Nat) : Nat × Nat × Nat := (num l a 4, num l (a + 4) 4, num l (a + 8) 4)
/-- An entry laid at a. -/
def putE (l : Sec) (a s u v : Nat) : Sec := put (put (put (put l a 4 s) (a + 4) 4 u) (a + 8) 4 v) (a + 12) 4 0
theorem putE_length {l : Sec} {a s u v : Nat} (h : a + 16 ≤ l.length) : (putE l a s u v).length = l.length := by
  unfold putE
  have h1 := put_len (b := l) rfl (a := a) (n := 4) (v := s) (by omega)
  have h2 := put_len h1 (a := a + 4) (n := 4) (v := u) (by omega)
  have h3 := put_len h2 (a := a + 8) (n := 4) (v := v) (by omega)
  exact put_len h3 (a := a + 12) (n := 4) (v := 0) (by omega)
theorem entW_put {l : Sec} {a s u v : Nat} (h : a + 16 ≤ l.length) (hs : s < 4294967296) (hu : u < 4294967296) (hv : v < 4294967296) : entW (putE l a s u v) a = (s, u, v) := by
  unfold entW putE
  have h1 := put_len (b := l) rfl (a := a) (n := 4) (v := s) (by omega)
  have h2 := put_len h1 (a := a + 4) (n := 4) (v := u) (by omega)
  have h3 := put_len h2 (a := a + 8) (n := 4) (v := v) (by omega)
  rw [num_put_ne _ (by rw [h3]; omega) (.inl (by omega)), num_put_ne _ (by rw [h2]; omega) (.inl (by omega)), num_put_ne _ (by rw [h1]; omega) (.inl (by omega)), num_put (by omega) (by omega),
    num_put_ne _ (by rw [h3]; omega) (.inl (by omega)), num_put_ne _ (by rw [h2]; omega) (.inl (by omega)), num_put (by rw [h1]; omega) (by omega),
    num_put_ne _ (by rw [h3]; omega) (.inl (by omega)), num_put (by rw [h2]; omega) (by omega)]
theorem entW_ne {l : Sec} {a a' s u v : Nat} (h : a + 16 ≤ l.length) (hd : a' + 16 ≤ a ∨ a + 16 ≤ a') : entW (putE l a s u v) a' = entW l a' := by
  unfold entW putE
  have h1 := put_len (b := l) rfl (a := a) (n := 4) (v := s) (by omega)
  have h2 := put_len h1 (a := a + 4) (n := 4) (v := u) (by omega)
  have h3 := put_len h2 (a := a + 8) (n := 4) (v := v) (by omega)
  have key : ∀ b, (b + 4 ≤ a ∨ a + 16 ≤ b) → num (put (put (put (put l a 4 s) (a + 4) 4 u) (a + 8) 4 v) (a + 12) 4 0) b 4 = num l b 4 := fun b hb => by
    rw [num_put_ne _ (by rw [h3]; omega) (by omega), num_put_ne _ (by rw [h2]; omega) (by omega), num_put_ne _ (by rw [h1]; omega) (by omega), num_put_ne _ (by omega) (by omega)]
  rw [key a' (by omega), key (a' + 4) (by omega), key (a' + 8) (by omega)]
theorem entW_zero {a : Nat} (ha : a + 12 ≤ 512) : entW zsec a = (0, 0, 0) := by
  have key : ∀ b, num zsec b 4 = 0 := fun b => by
    have : beN ((zsec.drop b).take 4) = beN (List.replicate ((zsec.drop b).take 4).length 0) := by
      congr 1
      apply List.ext_getElem? 
      intro i
      by_cases hi : i < ((zsec.drop b).take 4).length
      · rw [List.getElem?_replicate, if_pos hi]
        have hm := List.getElem_mem hi
        have h0 : ∀ x, x ∈ zsec → x = 0 := fun x hx => (List.mem_replicate.1 hx).2
        rw [List.getElem?_eq_getElem hi, h0 _ (List.mem_of_mem_drop (List.mem_of_mem_take hm))]
      · rw [List.getElem?_eq_none (by omega), List.getElem?_eq_none (by rw [List.length_replicate]; omega)]
    unfold num
    rw [this]
    have z : ∀ n, beN (List.replicate n 0) = 0 := fun n => by
      induction n with
      | zero => rfl
      | succ n ih => rw [List.replicate_succ', beN_snoc, ih]; rfl
    exact z _
  unfold entW
  rw [key, key, key]
/-- What look tells of pack n. -/
def lookP (c : Nat → Sec) (h n : Nat) : Nat × Nat × Nat :=
  if h - 16 < (entW (c (2 + n / 32)) (16 * (n % 32))).1 ∨ 8192 < (entW (c (2 + n / 32)) (16 * (n % 32))).2.1 then (0, 0, 0) else entW (c (2 + n / 32)) (16 * (n % 32))
/-- Bytes that stand from sector s on. -/
def PkD (c : Nat → Sec) (s : Nat) (d : List UInt8) : Prop := ∀ j x, d[j]? = some x → (c (s + j / 512))[j % 512]? = some x
theorem PkD.nil (c : Nat → Sec) (s : Nat) : PkD c s [] := fun j x h => by simp at h
theorem PkD.pre {c : Nat → Sec} {s : Nat} {a b : List UInt8} (h : PkD c s (a ++ b)) : PkD c s a := fun j x hj => h j x (by rw [List.getElem?_append_left (List.getElem?_eq_some_iff.1 hj).1]; exact hj)
theorem PkD.congr {c c' : Nat → Sec} {s : Nat} {d : List UInt8} (h : PkD c s d) (hl : d.length ≤ 8192) (he : ∀ i, s ≤ i → i < s + 16 → c' i = c i) : PkD c' s d := fun j x hj => by
  have := (List.getElem?_eq_some_iff.1 hj).1
  rw [he _ (by omega) (by omega)]; exact h j x hj
/-- What a sector becomes when k bytes of f from q on are laid into it from o on. -/
def layS (l : Sec) (o : Nat) (f : List UInt8) : Sec := over l o f
theorem layS_get {l f : Sec} {o : Nat} (h : o + f.length ≤ l.length) (i : Nat) : (layS l o f)[i]? = if o ≤ i ∧ i < o + f.length then f[i - o]? else l[i]? := over_get h i
end Go.Proofs.YtceakcejchbbjaaGreat
