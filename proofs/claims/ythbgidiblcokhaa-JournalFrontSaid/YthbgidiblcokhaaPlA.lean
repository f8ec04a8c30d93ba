/-
  Bytes laid and read back: headers, ring sectors, anchors. No program in sight.
-/
import Derived.Test.YthbgidiblcokhaaJnN
namespace Go.Proofs.Ythbgidiblcokhaa
open Go.RowKit

theorem over_get {l x : List UInt8} {a : Nat} (h : a + x.length ≤ l.length) (i : Nat) : (over l a x)[i]? = if a ≤ i ∧ i < a + x.length then x[i - a]? else l[i]? := by
  have ht : (l.take a).length = a := by rw [List.length_take]; omega
  unfold over
  by_cases h1 : i < a
  · rw [List.getElem?_append_left (by omega), if_neg (by omega), List.getElem?_take_of_lt h1]
  · rw [List.getElem?_append_right (by omega), ht]
    by_cases h2 : i < a + x.length
    · rw [List.getElem?_append_left (by omega), if_pos ⟨by omega, h2⟩]
    · rw [List.getElem?_append_right (by omega), if_neg (by omega), List.getElem?_drop]
      congr 1; omega
theorem put_over (b : List UInt8) (a n v : Nat) : put b a n v = over b a (be n v) := by unfold put over; rw [be_length]
theorem put_get {b : List UInt8} {a n : Nat} (v : Nat) (h : a + n ≤ b.length) (i : Nat) : (put b a n v)[i]? = if a ≤ i ∧ i < a + n then (be n v)[i - a]? else b[i]? := by
  rw [put_over, over_get (by rw [be_length]; exact h), be_length]
theorem cut_congr {b c : List UInt8} {a n : Nat} (h : ∀ i, a ≤ i → i < a + n → b[i]? = c[i]?) : (b.drop a).take n = (c.drop a).take n := by
  apply List.ext_getElem?
  intro i
  rw [List.getElem?_take, List.getElem?_take]
  split
  · rw [List.getElem?_drop, List.getElem?_drop]; exact h _ (by omega) (by omega)
  · rfl
theorem num_congr {b c : List UInt8} {a n : Nat} (h : ∀ i, a ≤ i → i < a + n → b[i]? = c[i]?) : num b a n = num c a n := by
  unfold num; rw [cut_congr h]
theorem be_succ (n v : Nat) : be (n + 1) v = be n (v / 256) ++ [UInt8.ofNat v] := by
  unfold be
  rw [List.range_succ, List.map_append]
  congr 1
  · apply List.map_congr_left
    intro i hi
    have hi' : i < n := by simpa using hi
    congr 1
    rw [Nat.div_div_eq_div_mul]
    congr 1
    rw [show n + 1 - 1 - i = (n - 1 - i) + 1 from by omega, Nat.pow_succ, Nat.mul_comm]
  · simp
theorem beN_be : ∀ n v : Nat, beN (be n v) = v % 256 ^ n
  | 0, v => by simp [be, beN, Nat.mod_one]
  | n + 1, v => by
    rw [be_succ, beN_snoc, beN_be n, Nat.pow_succ, Nat.mul_comm (256 ^ n) 256, Nat.mod_mul]
    have : (UInt8.ofNat v).toNat = v % 256 := by simp
    rw [this]; omega
theorem num_over {l x : List UInt8} {a : Nat} (h : a + x.length ≤ l.length) : ((over l a x).drop a).take x.length = x := by
  apply List.ext_getElem?
  intro i
  rw [List.getElem?_take]
  split
  · rw [List.getElem?_drop, over_get h, if_pos (by omega)]; congr 1; omega
  · rw [List.getElem?_eq_none (by omega)]
theorem num_put {b : List UInt8} {a n v : Nat} (h : a + n ≤ b.length) (hv : v < 256 ^ n) : num (put b a n v) a n = v := by
  have := num_over (l := b) (x := be n v) (a := a) (by rw [be_length]; exact h)
  rw [be_length, ← put_over] at this
  unfold num
  rw [this, beN_be, Nat.mod_eq_of_lt hv]
theorem num_put_ne {b : List UInt8} {a n a' n' : Nat} (v : Nat) (h : a + n ≤ b.length) (hd : a' + n' ≤ a ∨ a + n ≤ a') : num (put b a n v) a' n' = num b a' n' :=
  num_congr fun i h1 h2 => by rw [put_get v h, if_neg (by omega)]

/-! ## anchors -/

theorem num_tagged {t : Int} (h0 : 0 ≤ t) (h1 : t < 18446744073709551616) : numI (tagged t) 0 8 = t ∧ numI (tagged t) 504 8 = t := by
  have e : (256 : Nat) ^ 8 = 18446744073709551616 := by decide
  have hl : (put zsec 0 8 t.toNat).length = 512 := put_len zsec_length (by omega)
  unfold numI tagged
  rw [num_put_ne _ (by omega) (by omega), num_put (by rw [zsec_length]; omega) (by omega), num_put (by omega) (by omega)]
  omega
theorem tagOf_of {b : Sec} {t : Int} (h0 : numI b 0 8 = t) (h1 : numI b 504 8 = t) : tagOf b = t := by unfold tagOf; rw [h0, h1, if_pos rfl]
/-- An anchor that a sector can hold. -/
structure Anc.Fit (a : Anc) : Prop where
  n0 : 0 ≤ a.number
  n1 : a.number < 18446744073709551616
  t0 : 0 ≤ a.turn
  t1 : a.turn < 18446744073709551616
  p : a.place < 4294967296
  r : a.ring < 4294967296
theorem Anc.sector_ends {a : Anc} (h : a.Fit) : numI a.sector 0 8 = a.number ∧ numI a.sector 504 8 = a.number := by
  have l1 : (tagged a.number).length = 512 := tagged_length _
  have l2 : (put (tagged a.number) 8 8 a.turn.toNat).length = 512 := put_len l1 (by omega)
  have l3 : (put (put (tagged a.number) 8 8 a.turn.toNat) 16 4 a.place).length = 512 := put_len l2 (by omega)
  have := num_tagged h.n0 h.n1
  unfold numI at this ⊢
  unfold Anc.sector
  rw [num_put_ne _ (by omega) (by omega), num_put_ne _ (by omega) (by omega), num_put_ne _ (by omega) (by omega), num_put_ne _ (by omega) (by omega), num_put_ne _ (by omega) (by omega), num_put_ne _ (by omega) (by omega)]
  exact this
theorem ancOf_sector {a : Anc} (h : a.Fit) : ancOf a.sector = a := by
  have e : (256 : Nat) ^ 8 = 18446744073709551616 := by decide
  have e4 : (256 : Nat) ^ 4 = 4294967296 := by decide
  have l1 : (tagged a.number).length = 512 := tagged_length _
  have l2 : (put (tagged a.number) 8 8 a.turn.toNat).length = 512 := put_len l1 (by omega)
  have l3 : (put (put (tagged a.number) 8 8 a.turn.toNat) 16 4 a.place).length = 512 := put_len l2 (by omega)
  obtain ⟨s0, s1⟩ := Anc.sector_ends h
  have t1 : tagOf a.sector = a.number := tagOf_of s0 s1
  have t2 : numI a.sector 8 8 = a.turn := by
    unfold numI Anc.sector
    rw [num_put_ne _ (by omega) (by omega), num_put_ne _ (by omega) (by omega), num_put (by omega) (by have := h.t1; have := h.t0; omega)]
    have := h.t0; omega
  have t3 : num a.sector 16 4 = a.place := by
    unfold Anc.sector
    rw [num_put_ne _ (by omega) (by omega), num_put (by omega) (by have := h.p; omega)]
  have t4 : num a.sector 20 4 = a.ring := by
    unfold Anc.sector
    rw [num_put (by omega) (by have := h.r; omega)]
  unfold ancOf; rw [t1, t2, t3, t4]

/-! ## headers -/

/-- A list that may stand in a header. -/
def PutsOk (l : List Put) : Prop := l.length ≤ 40 ∧ ∀ p ∈ l, 0 ≤ p.1 ∧ p.1 < 4294967296 ∧ p.2.length = 512

theorem hdrK_spec {t : Int} {l : List Put} (hl : PutsOk l) : ∀ k, k ≤ l.length → (hdrK t l k).length = 512 ∧ (∀ i, i < 16 ∨ 496 ≤ i → (hdrK t l k)[i]? = (hdr0 t l.length)[i]?) ∧
      ∀ m, (h : m < l.length) → m < k → num (hdrK t l k) (16 + 12 * m) 4 = l[m].1.toNat ∧ ((hdrK t l k).drop (20 + 12 * m)).take 8 = l[m].2.take 8
  | 0, _ => ⟨put_len (tagged_length _) (by omega), fun _ _ => rfl, fun m _ h => by omega⟩
  | k + 1, hk => by
    obtain ⟨ih1, ih2, ih3⟩ := hdrK_spec (t := t) hl k (by omega)
    have e4 : (256 : Nat) ^ 4 = 4294967296 := by decide
    have hkl : k < l.length := by omega
    have hl40 := hl.1
    obtain ⟨hp0, hp1, hp2⟩ := hl.2 _ (List.getElem_mem hkl)
    have hgd : l.getD k (0, []) = l[k] := by rw [List.getD_eq_getElem?_getD, List.getElem?_eq_getElem hkl]; rfl
    have l1 : (put (hdrK t l k) (16 + 12 * k) 4 l[k].1.toNat).length = 512 := put_len ih1 (by omega)
    have l8 : (l[k].2.take 8).length = 8 := by rw [List.length_take]; omega
    have hget : ∀ i, (hdrK t l (k + 1))[i]? = if 20 + 12 * k ≤ i ∧ i < 28 + 12 * k then (l[k].2.take 8)[i - (20 + 12 * k)]? else if 16 + 12 * k ≤ i ∧ i < 20 + 12 * k then (be 4 l[k].1.toNat)[i - (16 + 12 * k)]? else (hdrK t l k)[i]? := by
      intro i
      show (hdrS (hdrK t l k) k (l.getD k (0, [])))[i]? = _
      rw [hgd]; unfold hdrS
      rw [over_get (by omega), l8, put_get _ (by omega)]
      rw [show 20 + 12 * k + 8 = 28 + 12 * k from by omega, show 16 + 12 * k + 4 = 20 + 12 * k from by omega]
    refine ⟨?_, ?_, ?_⟩
    · show (hdrS (hdrK t l k) k (l.getD k (0, []))).length = 512
      rw [hgd]; unfold hdrS; rw [over_length (by omega)]; exact l1
    · intro i hi
      rw [hget, if_neg (by omega), if_neg (by omega)]; exact ih2 i hi
    · intro m hm hmk
      by_cases e : m = k
      · subst e
        refine ⟨?_, ?_⟩
        · have : num (hdrK t l (m + 1)) (16 + 12 * m) 4 = num (put (hdrK t l m) (16 + 12 * m) 4 l[m].1.toNat) (16 + 12 * m) 4 :=
            num_congr fun i h1 h2 => by rw [hget, if_neg (by omega), if_pos (by omega), put_get _ (by omega), if_pos (by omega)]
          rw [this, num_put (by omega) (by omega)]
        · apply List.ext_getElem?
          intro i
          rw [List.getElem?_take]
          split
          · rw [List.getElem?_drop, hget, if_pos (by omega)]; congr 1; omega
          · rw [List.getElem?_eq_none (by omega)]
      · obtain ⟨a1, a2⟩ := ih3 m hm (by omega)
        refine ⟨?_, ?_⟩
        · rw [← a1]; exact num_congr fun i h1 h2 => by rw [hget, if_neg (by omega), if_neg (by omega)]
        · rw [← a2]; exact cut_congr fun i h1 h2 => by rw [hget, if_neg (by omega), if_neg (by omega)]
theorem hdr_length {t : Int} {l : List Put} (hl : PutsOk l) : (hdr t l).length = 512 := (hdrK_spec hl _ (Nat.le_refl _)).1
theorem hdr_ends {t : Int} {l : List Put} (hl : PutsOk l) (h0 : 0 ≤ t) (h1 : t < 4611686018427389000) : numI (hdr t l) 0 8 = 2 * t + 1 ∧ numI (hdr t l) 504 8 = 2 * t + 1 ∧ num (hdr t l) 8 2 = l.length := by
  obtain ⟨a1, a2, _⟩ := hdrK_spec (t := t) hl _ (Nat.le_refl _)
  have e2 : (256 : Nat) ^ 2 = 65536 := by decide
  have tl : (tagged (2 * t + 1)).length = 512 := tagged_length _
  have hl40 := hl.1
  have ht := num_tagged (t := 2 * t + 1) (by omega) (by omega)
  unfold numI at ht ⊢
  refine ⟨?_, ?_, ?_⟩
  · rw [show num (hdr t l) 0 8 = num (tagged (2 * t + 1)) 0 8 from num_congr fun i _ h2 => by
      show (hdrK t l l.length)[i]? = _
      rw [a2 i (by omega)]; unfold hdr0; rw [put_get _ (by omega), if_neg (by omega)]]
    exact ht.1
  · rw [show num (hdr t l) 504 8 = num (tagged (2 * t + 1)) 504 8 from num_congr fun i _ h2 => by
      show (hdrK t l l.length)[i]? = _
      rw [a2 i (by omega)]; unfold hdr0; rw [put_get _ (by omega), if_neg (by omega)]]
    exact ht.2
  · rw [show num (hdr t l) 8 2 = num (hdr0 t l.length) 8 2 from num_congr fun i _ h2 => a2 i (by omega)]
    unfold hdr0
    exact num_put (by omega) (by omega)
theorem hdr_put {t : Int} {l : List Put} (hl : PutsOk l) {k : Nat} (hk : k < l.length) : num (hdr t l) (16 + 12 * k) 4 = l[k].1.toNat ∧ ((hdr t l).drop (20 + 12 * k)).take 8 = l[k].2.take 8 :=
  (hdrK_spec (t := t) hl _ (Nat.le_refl _)).2.2 k hk hk
theorem ringSec_length {t : Int} {b : Sec} (h : b.length = 512) : (ringSec t b).length = 512 := put_len h (by omega)
theorem ringSec_num {t : Int} {b : Sec} (h : b.length = 512) (h0 : 0 ≤ t) (h1 : t < 4611686018427389000) : numI (ringSec t b) 0 8 = 2 * t := by
  have e : (256 : Nat) ^ 8 = 18446744073709551616 := by decide
  unfold numI ringSec
  rw [num_put (by omega) (by omega)]; omega
theorem ringSec_back {t : Int} {b : Sec} (h : b.length = 512) : over (ringSec t b) 0 (b.take 8) = b := by
  have l8 : (b.take 8).length = 8 := by rw [List.length_take]; omega
  have lr := ringSec_length (t := t) h
  apply List.ext_getElem?
  intro i
  rw [over_get (by omega), l8]
  split
  · rw [List.getElem?_take_of_lt (by omega)]; congr 1
  · unfold ringSec; rw [put_get _ (by omega), if_neg (by omega)]

/-! ## a commit that stands -/

theorem fitsL_seen {homes : Nat} : ∀ {l : List Put} {seen : List Int}, fitsL homes seen l = 0 → ∀ k, (h : k < l.length) → l[k].1 ∉ ((l.take k).map (·.1)).reverse ++ seen
  | [], _, _, k, h => by simp at h
  | (i, b) :: l, seen, h, k, hk => by
    unfold fitsL at h
    split at h
    · omega
    · rename_i h1
      split at h
      · omega
      · cases k with
        | zero => simp at h1 ⊢; exact h1.2.2
        | succ k =>
          have := fitsL_seen h k (by simpa using hk)
          simp at this ⊢
          exact this
theorem fits_parts {J : Jn} {n : Nat} {l : List Put} (h : J.fits n l = 0) : l.length ≤ 40 ∧ l.length < J.last.ring ∧ (∀ p ∈ l, 0 ≤ p.1 ∧ p.1 < (J.homes n : Int) ∧ p.2.length = 512) ∧ ∀ k, (h : k < l.length) → l[k].1 ∉ seenK l k := by
  have h3 := fits_in h
  unfold Jn.fits at h
  split at h
  · omega
  · rename_i q
    split at h
    · omega
    · rename_i q2
      refine ⟨by omega, by omega, h3, fun k hk => ?_⟩
      have := fitsL_seen (by simpa using q) k hk
      simpa [seenK] using this
theorem stands_commit {J : Jn} {D : Dk} {l : List Put} (hf : J.fits D.n l = 0) (h0 : l ≠ []) (hn : D.n ≤ 4096) (ht0 : 0 ≤ J.turn) (ht1 : J.turn < 4611686018427389000)
    (hh : D.now (J.at J.place) = hdr J.turn l) (hb : ∀ k, (h : k < l.length) → D.now (J.at (J.place + 1 + k)) = ringSec J.turn l[k].2) : J.stands D = l := by
  obtain ⟨f1, f2, f3, f4⟩ := fits_parts hf
  have hhom : J.homes D.n ≤ 4096 := by unfold Jn.homes; omega
  have hok : PutsOk l := ⟨f1, fun p hp => by obtain ⟨a, b, c⟩ := f3 p hp; exact ⟨a, by omega, c⟩⟩
  obtain ⟨e1, e2, e3⟩ := hdr_ends hok ht0 ht1
  have hd : J.hd D = hdr J.turn l := hh
  have hN : J.stN D = l.length := by unfold Jn.stN; rw [hd]; exact e3
  have hpos : 0 < l.length := List.length_pos_iff.2 h0
  have hput : ∀ k, (h : k < l.length) → J.stPut D k = l[k] := by
    intro k hk
    obtain ⟨p0, p1, p2⟩ := f3 _ (List.getElem_mem hk)
    obtain ⟨a1, a2⟩ := hdr_put (t := J.turn) hok hk
    unfold Jn.stPut
    have hbd : J.bd D k = ringSec J.turn l[k].2 := hb k hk
    rw [hd, hbd, a2, ringSec_back p2]
    unfold numI; rw [a1]
    ext
    · show ((l[k].1.toNat : Nat) : Int) = l[k].1
      omega
    · rfl
  have hL : J.stL D l.length = l := by
    apply List.ext_getElem
    · rw [Jn.stL_length]
    · intro k h1 h2
      rw [Jn.stL_get]; exact hput k h2
  have hhead : J.stHead D := ⟨by rw [hd]; exact tagOf_of e1 e2, by omega, by omega, by omega⟩
  rw [Jn.stands_yes hhead, hN, hL]
  intro k hk
  rw [hN] at hk
  obtain ⟨p0, p1, p2⟩ := f3 _ (List.getElem_mem hk)
  have hfst : numI (J.hd D) (16 + 12 * k) 4 = l[k].1 := by
    have := hput k hk
    unfold Jn.stPut at this
    exact congrArg Prod.fst this
  refine ⟨?_, ?_, ?_⟩
  · have hbd : J.bd D k = ringSec J.turn l[k].2 := hb k hk
    rw [hbd]; exact ringSec_num p2 ht0 ht1
  · rw [hfst]; exact p1
  · rw [hfst, hN, hL]; exact f4 k hk

end Go.Proofs.Ythbgidiblcokhaa
