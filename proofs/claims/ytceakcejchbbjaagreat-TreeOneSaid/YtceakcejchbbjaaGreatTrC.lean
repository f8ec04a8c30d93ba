/-
  Numbers laid into bytes; a node's bytes.
-/
import Derived.Test.YtceakcejchbbjaaGreatTrB
namespace Go.Proofs.YtceakcejchbbjaaGreat
open Go.RowKit Go.MapKept Go.ChangeMaps

theorem number_spec {w : World} {v : Value} {l : List UInt8} (hr : Rd w v l) (a : Nat) (ai : Int) (hai : ai = (a : Int)) (ha : a + 4 ≤ l.length) (hl : l.length ≤ 1000) :
    Calls Tryz.prog 130 #[v, .int .i64 ai] w fun e w' => e = .returned (.int .u32 (num l a 4 : Int)) ∧ w = w' := by
  subst hai
  have hat := at_spec v l a 4 w hr (by omega) (by omega) (by omega) (by omega)
  obtain ⟨N, hN⟩ : ∃ N : Int, N = (num l a 4 : Int) := ⟨_, rfl⟩
  have hN0 : 0 ≤ N := by omega
  have hN1 : N < 4294967296 := by have := num_lt l a 4; omega
  have hwr : IntKind.u32.wrap N = N := by rw [IntKind.wrap_u32]; omega
  rw [← hN, show ((4 : Nat) : Int) = 4 from rfl] at hat
  rw [← hN]
  have HAT := Lib.hid hat
  clear hat hN hr
  go_enter Tryz.func130, Tryz.ntmps130
  go_wp2_with fail
  refine HAT.out.mono ?_
  rintro e w' ⟨rfl, rfl⟩
  go_wp2_with fail
  go_ret
  exact ⟨rfl, rfl⟩

theorem bts_set (l : List UInt8) (i : Nat) {y : Nat} (hy : y < 256) : (bts l).set i (.int .u8 (y : Int)) = bts (l.set i (UInt8.ofNat y)) := by
  unfold bts
  rw [List.map_set]
  congr 1
  unfold bv
  rw [UInt8.toNat_ofNat', Nat.mod_eq_of_lt (by omega)]
theorem blk_set_u8 {w : World} {b : Nat} {l : List UInt8} {T : TypeId} (h : w.heap[b]? = some (.cells (bts l).toArray T (0, 0))) (i : Nat) {y : Nat} (hy : y < 256) : (w.setCell ⟨b, i, none⟩ (.int .u8 (y : Int))).heap[b]? = some (.cells (bts (l.set i (UInt8.ofNat y))).toArray T (0, 0)) := by
  rw [blk_set h, List.setIfInBounds_toArray, bts_set _ _ hy]
theorem blk_u8 {w : World} {b : Nat} {l : List UInt8} {T : TypeId} (h : w.heap[b]? = some (.cells (bts l).toArray T (0, 0))) {i : Nat} (hi : i < l.length) : w.cell? ⟨b, i, none⟩ = some (.int .u8 ((l.getD i 0).toNat : Int)) ∧ w.frozen? ⟨b, i, none⟩ = false := by
  refine ⟨?_, blk_free h i⟩
  rw [blk_cell h, List.getElem?_toArray, bts, List.getElem?_map, List.getElem?_eq_getElem hi, List.getD_eq_getElem?_getD, List.getElem?_eq_getElem hi]
  rfl
set_option maxHeartbeats 1000000 in
theorem lay_spec9 {w : World} {kb : Nat} {l : List UInt8} (hb : w.heap[kb]? = some (.cells (bts l).toArray 5 (0, 0))) (hl : l.length = 512) (c : Nat) (a : Nat) (ai : Int) (hai : ai = (a : Int)) (ha : a + 4 ≤ 512) (V : Nat) :
    Calls Tryz.prog 122 #[.slice (some ⟨kb, 0, none⟩) 512 c, .int .i64 ai, .int .u32 (V : Int)] w fun e w' => e = .returned (.tuple #[]) ∧ w'.heap[kb]? = some (.cells (bts (put l a 4 V)).toArray 5 (0, 0)) ∧ Upd [kb] w w' := by
  subst hai
  have HB := Lib.hid hb
  clear hb
  go_enter Tryz.func122, Tryz.ntmps122
  go_wp2_with fail
  go_loopw [7] (fun i wr => ∃ q : Nat, q ≤ 4 ∧ i = .int .i64 (q : Int) ∧ wr.heap[kb]? = some (.cells (bts (putK l a 4 V q)).toArray 5 (0, 0)) ∧ Upd [kb] w wr) (fun i _ => 4 - (intOf i).toNat)
  case atStart => exact ⟨0, by omega, rfl, by rw [putK_zero]; exact HB.out, Upd.refl _ _⟩
  case round =>
    obtain ⟨q, hq, rfl, ho, hu⟩ := hrel
    by_cases hlt : q < 4
    · have hlt' : decide ((q : Int) < 4) = true := decide_eq_true (by omega)
      have hlen : (putK l a 4 V q).length = 512 := by rw [putK_length (by omega) (by omega)]; exact hl
      have hst := putK_step (b := l) (a := a) (n := 4) (v := V) hlt (by omega)
      obtain ⟨I, hI⟩ : ∃ I, I = a + q := ⟨_, rfl⟩
      have hIk : (a : Int) + (q : Int) = (I : Int) := by omega
      obtain ⟨hcl, hf⟩ := blk_u8 ho (i := I) (by omega)
      obtain ⟨Y, hY⟩ : ∃ Y, Y = V / 256 ^ (4 - 1 - q) % 256 := ⟨_, rfl⟩
      have o2 := blk_set_u8 ho I (y := Y) (by omega)
      have eY : UInt8.ofNat Y = UInt8.ofNat (V / 256 ^ (4 - 1 - q)) := by
        apply UInt8.toNat_inj.1
        rw [UInt8.toNat_ofNat', UInt8.toNat_ofNat', hY]; omega
      rw [eY, hI, hst, ← hI] at o2
      have u2 : Upd [kb] wr (wr.setCell ⟨kb, I, none⟩ (.int .u8 (Y : Int))) := (Upd.refl _ _).set _ (by simp)
      have HO := Lib.hid o2
      have HUx := Lib.hid (hu.trans u2)
      have i0 : (0 : Int) ≤ (I : Int) := by omega
      have i1 : (I : Int) < 512 := by omega
      have s0 : decide ((24 : Int) - 8 * (q : Int) < 0) = false := decide_eq_false (by omega)
      have hsh : (0 : Int) ≤ 24 - 8 * (q : Int) := by omega
      have hsh2 : 24 - 8 * (q : Int) ≤ 24 := by omega
      have hYI : (V : Int) / 2 ^ (24 - 8 * q) % 256 = (Y : Int) := by
        have e1 : (2 : Int) ^ (24 - 8 * q) = ((256 ^ (4 - 1 - q) : Nat) : Int) := by
          rw [show (256 : Nat) = 2 ^ 8 from rfl, ← Nat.pow_mul, Int.natCast_pow, show 24 - 8 * q = 8 * (4 - 1 - q) from by omega]; rfl
        rw [e1, hY]; omega
      have HYI := Lib.hid hYI
      clear ho hu hlen hst hI eY o2 u2 hYI hY
      go_wp2_with fail
      exact ⟨⟨q + 1, by omega, by go_num, by rw [HYI.out]; exact HO.out, by rw [HYI.out]; exact HUx.out⟩, by simp [intOf]; omega⟩
    · obtain rfl : q = 4 := by omega
      have hlt' : decide (((4 : Nat) : Int) < 4) = false := rfl
      rw [putK_full] at ho
      have HO := Lib.hid ho
      have HU := Lib.hid hu
      clear ho hu
      go_wp2_with fail
      go_end0
      exact ⟨rfl, HO.out, HU.out⟩

/-! ## a node's bytes -/

theorem cut_over_ne {l x : List UInt8} {a b n : Nat} (h : a + x.length ≤ l.length) (hd : b + n ≤ a ∨ a + x.length ≤ b) : ((over l a x).drop b).take n = (l.drop b).take n :=
  cut_congr fun i h1 h2 => by rw [over_get h, if_neg (by omega)]
theorem over_len {l x : List UInt8} {a : Nat} (h : a + x.length ≤ l.length) : (over l a x).length = l.length := by unfold over; simp; omega
theorem over_at {l x : List UInt8} {a i : Nat} (h : a + x.length ≤ l.length) (hi : i < a) : (over l a x)[i]? = l[i]? := by rw [over_get h, if_neg (by omega)]
/-- A node's first bytes. -/
def hdN (kd n : Nat) : Sec := (zsec.set 0 (UInt8.ofNat kd)).set 1 (UInt8.ofNat n)
theorem hdN_length (kd n : Nat) : (hdN kd n).length = 512 := by unfold hdN; rw [List.length_set, List.length_set, zsec_length]
theorem hdN_0 (kd n : Nat) : (hdN kd n)[0]? = some (UInt8.ofNat kd) := by
  unfold hdN
  rw [List.getElem?_set_ne (by omega), List.getElem?_set_self (by rw [zsec_length]; omega)]
theorem hdN_1 (kd n : Nat) : (hdN kd n)[1]? = some (UInt8.ofNat n) := by
  unfold hdN
  rw [List.getElem?_set_self (by rw [List.length_set, zsec_length]; omega)]
abbrev Bs := List UInt8
/-- A leaf's bytes, when so many pairs are laid. -/
def leafK (ks vs : List Bs) : Nat → Sec
  | 0 => hdN 1 ks.length
  | k + 1 => over (over (leafK ks vs k) (8 + 48 * k) (ks.getD k [])) (8 + 48 * k + 32) (vs.getD k [])
/-- An inner node's bytes, when so many keys are laid. -/
def innerK (ks : List Bs) (ds : List Nat) : Nat → Sec
  | 0 => put (hdN 2 ks.length) 8 4 (ds.getD 0 0)
  | k + 1 => put (over (innerK ks ds k) (12 + 36 * k) (ks.getD k [])) (12 + 36 * k + 32) 4 (ds.getD (k + 1) 0)
/-- Keys and values as long as they should be. -/
structure LeafOk (ks vs : List Bs) : Prop where
  k : ∀ x, x ∈ ks → x.length = 32
  v : ∀ x, x ∈ vs → x.length = 16
  n : vs.length = ks.length
  most : ks.length ≤ 10
structure InnerOk (ks : List Bs) (ds : List Nat) : Prop where
  k : ∀ x, x ∈ ks → x.length = 32
  d : ∀ x, x ∈ ds → x < 4294967296
  n : ds.length = ks.length + 1
  most : ks.length ≤ 13
theorem getD_len {ls : List Bs} {n : Nat} (h : ∀ x, x ∈ ls → x.length = n) {k : Nat} (hk : k < ls.length) : (ls.getD k []).length = n := by
  rw [List.getD_eq_getElem?_getD, List.getElem?_eq_getElem hk]; exact h _ (List.getElem_mem hk)
section
variable {ks vs : List Bs} {ds : List Nat}
theorem leafK_length (h : LeafOk ks vs) : ∀ {k : Nat}, k ≤ ks.length → (leafK ks vs k).length = 512
  | 0, _ => hdN_length _ _
  | k + 1, hk => by
    have ih := leafK_length h (k := k) (by omega)
    have h1 := getD_len h.k (k := k) (by omega)
    have h2 := getD_len h.v (k := k) (by rw [h.n]; omega)
    have := h.most
    show (over (over _ _ _) _ _).length = 512
    rw [over_len (by rw [over_len (by omega)]; omega), over_len (by omega)]; exact ih
theorem leafK_low (h : LeafOk ks vs) {i : Nat} (hi : i < 8) : ∀ {k : Nat}, k ≤ ks.length → (leafK ks vs k)[i]? = (hdN 1 ks.length)[i]?
  | 0, _ => rfl
  | k + 1, hk => by
    have ih := leafK_low h hi (k := k) (by omega)
    have hl := leafK_length h (k := k) (by omega)
    have h1 := getD_len h.k (k := k) (by omega)
    have h2 := getD_len h.v (k := k) (by rw [h.n]; omega)
    have := h.most
    show (over (over _ _ _) _ _)[i]? = _
    rw [over_at (by rw [over_len (by omega)]; omega) (by omega), over_at (by omega) (by omega)]; exact ih
theorem leafK_at (h : LeafOk ks vs) {j : Nat} : ∀ {k : Nat}, k ≤ ks.length → j < k → ((leafK ks vs k).drop (8 + 48 * j)).take 32 = ks.getD j [] ∧ ((leafK ks vs k).drop (8 + 48 * j + 32)).take 16 = vs.getD j []
  | 0, _, hj => by omega
  | k + 1, hk, hj => by
    have hl := leafK_length h (k := k) (by omega)
    have h1 := getD_len h.k (k := k) (by omega)
    have h2 := getD_len h.v (k := k) (by rw [h.n]; omega)
    have hm := h.most
    have e1 : 8 + 48 * k + (ks.getD k []).length ≤ (leafK ks vs k).length := by omega
    have e2 : 8 + 48 * k + 32 + (vs.getD k []).length ≤ (over (leafK ks vs k) (8 + 48 * k) (ks.getD k [])).length := by rw [over_len e1]; omega
    show ((over (over _ _ _) _ _).drop _).take _ = _ ∧ ((over (over _ _ _) _ _).drop _).take _ = _
    by_cases hjk : j = k
    · subst hjk
      refine ⟨?_, ?_⟩
      · rw [cut_over_ne e2 (.inl (by omega))]
        have := num_over e1
        rw [h1] at this; exact this
      · have := num_over e2
        rw [h2] at this; exact this
    · obtain ⟨i1, i2⟩ := leafK_at h (k := k) (j := j) (by omega) (by omega)
      refine ⟨?_, ?_⟩
      · rw [cut_over_ne e2 (.inl (by omega)), cut_over_ne e1 (.inl (by omega))]; exact i1
      · rw [cut_over_ne e2 (.inl (by omega)), cut_over_ne e1 (.inl (by omega))]; exact i2
theorem innerK_length (h : InnerOk ks ds) : ∀ {k : Nat}, k ≤ ks.length → (innerK ks ds k).length = 512
  | 0, _ => by show (put _ _ _ _).length = 512; rw [put_length (by rw [hdN_length]; omega)]; exact hdN_length _ _
  | k + 1, hk => by
    have ih := innerK_length h (k := k) (by omega)
    have h1 := getD_len h.k (k := k) (by omega)
    have := h.most
    show (put (over _ _ _) _ _ _).length = 512
    rw [put_length (by rw [over_len (by omega)]; omega), over_len (by omega)]; exact ih
theorem innerK_low (h : InnerOk ks ds) {i : Nat} (hi : i < 8) : ∀ {k : Nat}, k ≤ ks.length → (innerK ks ds k)[i]? = (hdN 2 ks.length)[i]?
  | 0, _ => by show (put _ _ _ _)[i]? = _; rw [put_get _ (by rw [hdN_length]; omega), if_neg (by omega)]
  | k + 1, hk => by
    have ih := innerK_low h hi (k := k) (by omega)
    have hl := innerK_length h (k := k) (by omega)
    have h1 := getD_len h.k (k := k) (by omega)
    have := h.most
    show (put (over _ _ _) _ _ _)[i]? = _
    rw [put_get _ (by rw [over_len (by omega)]; omega), if_neg (by omega), over_at (by omega) (by omega)]; exact ih
theorem innerK_first (h : InnerOk ks ds) : ∀ {k : Nat}, k ≤ ks.length → num (innerK ks ds k) 8 4 = ds.getD 0 0
  | 0, _ => by
    have hd : ds.getD 0 0 < 256 ^ 4 := by
      rw [List.getD_eq_getElem?_getD, List.getElem?_eq_getElem (by rw [h.n]; omega)]; exact h.d _ (List.getElem_mem _)
    exact num_put (by rw [hdN_length]; omega) hd
  | k + 1, hk => by
    have ih := innerK_first h (k := k) (by omega)
    have hl := innerK_length h (k := k) (by omega)
    have h1 := getD_len h.k (k := k) (by omega)
    have := h.most
    show num (put (over _ _ _) _ _ _) _ _ = _
    rw [num_put_ne _ (by rw [over_len (by omega)]; omega) (.inl (by omega)), ← ih]
    unfold num
    rw [cut_over_ne (by omega) (.inl (by omega))]
theorem innerK_at (h : InnerOk ks ds) {j : Nat} : ∀ {k : Nat}, k ≤ ks.length → j < k → ((innerK ks ds k).drop (12 + 36 * j)).take 32 = ks.getD j [] ∧ num (innerK ks ds k) (12 + 36 * j + 32) 4 = ds.getD (j + 1) 0
  | 0, _, hj => by omega
  | k + 1, hk, hj => by
    have hl := innerK_length h (k := k) (by omega)
    have h1 := getD_len h.k (k := k) (by omega)
    have hm := h.most
    have e1 : 12 + 36 * k + (ks.getD k []).length ≤ (innerK ks ds k).length := by omega
    have e2 : 12 + 36 * k + 32 + 4 ≤ (over (innerK ks ds k) (12 + 36 * k) (ks.getD k [])).length := by rw [over_len e1]; omega
    show ((put (over _ _ _) _ _ _).drop _).take _ = _ ∧ num (put (over _ _ _) _ _ _) _ _ = _
    by_cases hjk : j = k
    · subst hjk
      refine ⟨?_, ?_⟩
      · rw [put_over, cut_over_ne (by rw [be_length]; exact e2) (.inl (by omega))]
        have := num_over e1
        rw [h1] at this; exact this
      · refine num_put e2 ?_
        rw [List.getD_eq_getElem?_getD, List.getElem?_eq_getElem (by rw [h.n]; omega)]; exact h.d _ (List.getElem_mem _)
    · obtain ⟨i1, i2⟩ := innerK_at h (k := k) (j := j) (by omega) (by omega)
      refine ⟨?_, ?_⟩
      · rw [put_over, cut_over_ne (by rw [be_length]; exact e2) (.inl (by omega)), cut_over_ne e1 (.inl (by omega))]; exact i1
      · rw [num_put_ne _ e2 (.inl (by omega)), ← i2]
        unfold num
        rw [cut_over_ne e1 (.inl (by omega))]
end
def encLeaf (ks vs : List Bs) : Sec := leafK ks vs ks.length
def encInner (ks : List Bs) (ds : List Nat) : Sec := innerK ks ds ks.length

end Go.Proofs.YtceakcejchbbjaaGreat
