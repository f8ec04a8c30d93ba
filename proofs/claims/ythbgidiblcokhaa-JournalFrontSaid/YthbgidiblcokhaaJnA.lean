/-
  Numbers in bytes: octet.At, journal.of, journal.lay.
-/
import Derived.Test.YthbgidiblcokhaaDiskF
namespace Go.Proofs.Ythbgidiblcokhaa
open Go.RowKit

/-- v in n bytes, the highest first. -/
def be (n v : Nat) : List UInt8 := (List.range n).map fun i => UInt8.ofNat (v / 256 ^ (n - 1 - i))
/-- The number that bytes are. -/
def beN (l : List UInt8) : Nat := l.foldl (fun a c => a * 256 + c.toNat) 0
def num (b : List UInt8) (a n : Nat) : Nat := beN ((b.drop a).take n)
/-- The same, as an Int of its own (the walk must not see a cast here: a great numeral beside a cast stops it). -/
def numI (b : List UInt8) (a n : Nat) : Int := (num b a n : Int)
def put (b : List UInt8) (a n v : Nat) : List UInt8 := b.take a ++ (be n v ++ b.drop (a + n))

theorem be_length (n v : Nat) : (be n v).length = n := by simp [be]
theorem put_length {b : List UInt8} {a n v : Nat} (h : a + n ≤ b.length) : (put b a n v).length = b.length := by
  simp [put, be_length]; omega
theorem beN_snoc (l : List UInt8) (c : UInt8) : beN (l ++ [c]) = beN l * 256 + c.toNat := by simp [beN]
theorem beN_lt (l : List UInt8) : beN l < 256 ^ l.length := by
  have key : ∀ (l : List UInt8) (x : Nat), l.foldl (fun a c => a * 256 + c.toNat) x < (x + 1) * 256 ^ l.length := by
    intro l
    induction l with
    | nil => intro x; simp
    | cons c l ih =>
      intro x
      rw [List.foldl_cons, List.length_cons, Nat.pow_succ]
      refine Nat.lt_of_lt_of_le (ih _) ?_
      have h1 : x * 256 + c.toNat + 1 ≤ (x + 1) * 256 := by have := c.toNat_lt; omega
      calc (x * 256 + c.toNat + 1) * 256 ^ l.length ≤ ((x + 1) * 256) * 256 ^ l.length := Nat.mul_le_mul_right _ h1
        _ = (x + 1) * (256 ^ l.length * 256) := by rw [Nat.mul_assoc, Nat.mul_comm 256]
  have := key l 0
  simpa [beN] using this

theorem u64_wrap_in (n : Int) (h0 : 0 ≤ n) (h1 : n < 18446744073709551616) : IntKind.u64.wrap n = n := by
  rw [IntKind.wrap_u64]; omega
theorem or_add (x c : Nat) (hc : c < 256) : x * 256 ||| c = x * 256 + c := by
  have h2 := Nat.two_pow_add_eq_or_of_lt (i := 8) (b := c) (by omega) x
  rw [show (2 : Nat) ^ 8 = 256 from rfl, Nat.mul_comm 256 x] at h2
  exact h2.symm
theorem or_byte (x c : Nat) (hx : x * 256 + 255 < 18446744073709551616) (hc : c < 256) : bits BinOp.or IntKind.u64 (IntKind.u64.wrap ((x : Int) * 256)) (IntKind.u64.wrap (c : Int)) = ((x * 256 + c : Nat) : Int) := by
  obtain ⟨y, hy⟩ : ∃ y, y = x * 256 := ⟨_, rfl⟩
  have hyi : (x : Int) * 256 = (y : Int) := by omega
  rw [hyi, u64_wrap_in _ (by omega) (by omega), u64_wrap_in _ (by omega) (by omega)]
  have h1 : y < 18446744073709551616 := by omega
  have h2 : c < 18446744073709551616 := by omega
  rw [u64_or_nat y c h1 h2, hy, or_add x c hc]

set_option maxHeartbeats 400000 in
theorem at_spec (v : Value) (b : List UInt8) (a n : Nat) (w : World) (hr : Rd w v b) (h1 : 1 ≤ n) (h8 : n ≤ 8) (hl : a + n ≤ b.length) (hb : b.length ≤ 1000000) :
    Calls Try.prog 76 #[v, .int .i64 (a : Int), .int .i64 (n : Int)] w fun e w' => e = .returned (.tuple #[.int .u64 (num b a n : Int), .int .i64 0]) ∧ w = w' := by
  obtain ⟨ao, cap, rfl, hc, hh⟩ := hr
  obtain ⟨bk, off, rfl, hcell⟩ := hh (by omega)
  clear hh
  have hcell' : ∀ i, i < n → w.cell? ⟨bk, off + a + i, none⟩ = some (.int .u8 ((b[a + i]?.getD 0).toNat : Int)) := by
    intro i hi
    have := hcell (a + i) (by omega)
    rw [Nat.add_assoc, this]
    simp [bv, List.getElem?_eq_getElem (show a + i < b.length by omega)]
  have HC := Lib.hid hcell'
  clear hcell hcell'
  go_enter Try.func76, Try.ntmps76
  go_wp2
  go_loop [8, 36] (fun x i => ∃ k : Nat, k ≤ n ∧ i = .int .i64 (k : Int) ∧ x = .int .u64 (beN ((b.drop a).take k) : Int)) (fun _ i => n - (intOf i).toNat)
  case atStart => exact ⟨0, by omega, rfl, rfl⟩
  case round =>
    obtain ⟨k, hk, rfl, rfl⟩ := hrel
    by_cases hlt : k < n
    · have hck := HC.out k hlt
      have hx := beN_lt ((b.drop a).take k)
      have hlen : ((b.drop a).take k).length = k := by simp; omega
      rw [hlen] at hx
      have hx7 : beN ((b.drop a).take k) < 256 ^ 7 := Nat.lt_of_lt_of_le hx (Nat.pow_le_pow_right (by omega) (by omega))
      have hstep : beN ((b.drop a).take (k + 1)) = beN ((b.drop a).take k) * 256 + (b[a + k]?.getD 0).toNat := by
        have hkl : k < (b.drop a).length := by simp; omega
        rw [List.take_succ_eq_append_getElem hkl, beN_snoc]
        simp [List.getElem?_eq_getElem (show a + k < b.length by omega)]
      have hor := or_byte (beN ((b.drop a).take k)) (b[a + k]?.getD 0).toNat (by omega) (UInt8.toNat_lt _)
      rw [← hstep] at hor
      have HOR := Lib.hid hor
      clear hor hstep hx hx7 hlen
      go_wp2
      go_round
      case rel => exact ⟨k + 1, by omega, by go_num, congrArg (Value.int IntKind.u64) HOR.out⟩
      case measure => simp [intOf]; omega
    · obtain rfl : k = n := by omega
      go_wp2
      go_ret2
      exact ⟨rfl, rfl⟩

set_option maxHeartbeats 400000 in
theorem of_spec (v : Value) (b : List UInt8) (a n : Nat) (w : World) (hr : Rd w v b) (h1 : 1 ≤ n) (h8 : n ≤ 8) (hl : a + n ≤ b.length) (hb : b.length ≤ 1000000) :
    Calls Try.prog 72 #[v, .int .i64 (a : Int), .int .i64 (n : Int)] w fun e w' => e = .returned (.int .u64 (numI b a n)) ∧ w = w' := by
  have H := Lib.hid (at_spec v b a n w hr h1 h8 hl hb)
  clear hr h1 h8 hl hb
  go_enter Try.func72, Try.ntmps72
  go_wp2_with (go_at_call 76; refine H.out.mono ?_; rintro e w' ⟨rfl, rfl⟩)
  go_ret
  exact ⟨rfl, rfl⟩

/-- The first k bytes of a number are laid. -/
def putK (b : List UInt8) (a n v k : Nat) : List UInt8 := b.take a ++ ((be n v).take k ++ b.drop (a + k))
theorem putK_zero (b : List UInt8) (a n v : Nat) : putK b a n v 0 = b := by simp [putK]
theorem putK_full (b : List UInt8) (a n v : Nat) : putK b a n v n = put b a n v := by
  have : (be n v).take n = be n v := List.take_of_length_le (by rw [be_length]; omega)
  unfold putK put; rw [this]
theorem putK_length {b : List UInt8} {a n v k : Nat} (hk : k ≤ n) (h : a + n ≤ b.length) : (putK b a n v k).length = b.length := by
  simp [putK, be_length]; omega
theorem putK_step {b : List UInt8} {a n v k : Nat} (hk : k < n) (h : a + n ≤ b.length) : (putK b a n v k).set (a + k) (UInt8.ofNat (v / 256 ^ (n - 1 - k))) = putK b a n v (k + 1) := by
  unfold putK
  have e1 : (b.take a).length = a := by simp; omega
  have e2 : ((be n v).take k).length = k := by simp [be_length]; omega
  rw [List.set_append_right _ _ (by omega), e1, Nat.add_sub_cancel_left, List.set_append_right _ _ (by omega), e2, Nat.sub_self]
  have e3 : b.drop (a + k) = b[a + k] :: b.drop (a + (k + 1)) := List.drop_eq_getElem_cons (by omega)
  have e4 : (be n v).take (k + 1) = (be n v).take k ++ [UInt8.ofNat (v / 256 ^ (n - 1 - k))] := by
    rw [List.take_succ_eq_append_getElem (by simp [be_length]; omega)]
    simp [be]
  rw [e3, e4, List.set_cons_zero]
  simp

set_option maxHeartbeats 400000 in
theorem lay_spec' (bk cp a n v : Nat) (l : List UInt8) (rest : List Value) (w : World) (hb : w.heap[bk]? = some (.cells (bts l ++ rest).toArray 5 (0, 0))) (h8 : n ≤ 8) (hl : a + n ≤ l.length) (hll : l.length ≤ 1000000) :
    Calls Try.prog 61 #[.slice (some ⟨bk, 0, none⟩) l.length cp, .int .i64 (a : Int), .int .u64 (v : Int), .int .i64 (n : Int)] w fun e w' => e = .returned (.tuple #[]) ∧ w'.heap[bk]? = some (.cells (bts (put l a n v) ++ rest).toArray 5 (0, 0)) ∧ Upd [bk] w w' := by
  have HB := Lib.hid hb
  clear hb
  go_enter Try.func61, Try.ntmps61
  go_wp2
  go_loopw [10] (fun i wr => ∃ k : Nat, k ≤ n ∧ i = .int .i64 (k : Int) ∧ wr.heap[bk]? = some (.cells (bts (putK l a n v k) ++ rest).toArray 5 (0, 0)) ∧ Upd [bk] w wr) (fun i _ => n - (intOf i).toNat)
  case atStart => exact ⟨0, by omega, rfl, by rw [putK_zero]; exact HB.out, Upd.refl _ _⟩
  case round =>
    obtain ⟨k, hk, rfl, h1, h3⟩ := hrel
    by_cases hlt : k < n
    · have hlen := putK_length (v := v) hk hl
      obtain ⟨old, hcl⟩ : ∃ old, wr.cell? ⟨bk, a + k, none⟩ = some old := by
        rw [blk_cell h1]
        exact ⟨_, Array.getElem?_eq_getElem (by simp; omega)⟩
      have hf := blk_free h1 (a + k)
      have hs : 0 ≤ 8 * ((n : Int) - 1 - k) := by omega
      have hs2 : 8 * ((n : Int) - 1 - k) ≤ 56 := by omega
      have hbyte : Value.int IntKind.u8 ((v : Int) / 2 ^ (8 * (n - 1 - k)) % 256) = bv (UInt8.ofNat (v / 256 ^ (n - 1 - k))) := by
        unfold bv
        congr 1
        have e1 : (2 : Int) ^ (8 * (n - 1 - k)) = ((256 ^ (n - 1 - k) : Nat) : Int) := by
          rw [show (256 : Nat) = 2 ^ 8 from rfl, ← Nat.pow_mul, Int.natCast_pow]; rfl
        rw [UInt8.toNat_ofNat', e1]
        omega
      have hfin : (wr.setCell ⟨bk, a + k, none⟩ (bv (UInt8.ofNat (v / 256 ^ (n - 1 - k))))).heap[bk]? = some (.cells (bts (putK l a n v (k + 1)) ++ rest).toArray 5 (0, 0)) := by
        rw [blk_set h1, ← putK_step hlt hl]
        congr 2
        rw [List.setIfInBounds_toArray, List.set_append_left _ _ (by simp; omega)]
        simp [bts, List.map_set]
      rw [← hbyte] at hfin
      have HFIN := Lib.hid hfin
      have H3 := Lib.hid h3
      clear h1 h3 hfin hbyte hlen
      go_wp2
      go_roundw
      case rel => exact ⟨k + 1, by omega, by go_num, HFIN.out, H3.out.set _ (.inl (by simp))⟩
      case measure => simp [intOf]; omega
    · obtain rfl : k = n := by omega
      rw [putK_full] at h1
      have H1 := Lib.hid h1
      have H3 := Lib.hid h3
      clear h1 h3
      go_wp2
      go_end0
      exact ⟨rfl, H1.out, H3.out⟩

theorem lay_spec (bk len cp a n : Nat) (v : Int) (l : List UInt8) (rest : List Value) (w : World) (hb : w.heap[bk]? = some (.cells (bts l ++ rest).toArray 5 (0, 0))) (hv : 0 ≤ v) (hlen : l.length = len) (h8 : n ≤ 8) (hl : a + n ≤ len) (hll : len ≤ 1000000) :
    Calls Try.prog 61 #[.slice (some ⟨bk, 0, none⟩) len cp, .int .i64 (a : Int), .int .u64 v, .int .i64 (n : Int)] w fun e w' => e = .returned (.tuple #[]) ∧ w'.heap[bk]? = some (.cells (bts (put l a n v.toNat) ++ rest).toArray 5 (0, 0)) ∧ Upd [bk] w w' := by
  subst hlen
  obtain ⟨v, rfl⟩ := Int.eq_ofNat_of_zero_le hv
  exact lay_spec' bk cp a n v l rest w hb h8 hl hll

theorem num_lt (b : List UInt8) (a n : Nat) : num b a n < 256 ^ n := by
  refine Nat.lt_of_lt_of_le (beN_lt _) (Nat.pow_le_pow_right (by omega) ?_)
  simp; omega
theorem numI_nonneg (b : List UInt8) (a n : Nat) : 0 ≤ numI b a n := by unfold numI; omega
theorem numI_4 (b : List UInt8) (a : Nat) : numI b a 4 < 4294967296 := by
  have := num_lt b a 4
  unfold numI; omega
theorem numI_2 (b : List UInt8) (a : Nat) : numI b a 2 < 65536 := by
  have := num_lt b a 2
  unfold numI; omega

/-! ## tags and anchors -/

def tagged (t : Int) : Sec := put (put zsec 0 8 t.toNat) 504 8 t.toNat
theorem put_len {b : List UInt8} {L : Nat} (h : b.length = L) {a n v : Nat} (h2 : a + n ≤ L) : (put b a n v).length = L := by rw [put_length (by omega)]; exact h
@[simp] theorem tagged_length (t : Int) : (tagged t).length = 512 := put_len (put_len zsec_length (by omega)) (by omega)
def tagOf (b : Sec) : Int := if numI b 0 8 = numI b 504 8 then numI b 0 8 else 0
theorem tagOf_nonneg (b : Sec) : 0 ≤ tagOf b := by
  unfold tagOf; split
  · exact numI_nonneg _ _ _
  · omega

/-- An anchor: number, turn, place, ring. -/
structure Anc where
  number : Int
  turn : Int
  place : Nat
  ring : Nat
def Anc.val (a : Anc) : Array Value := #[.int .u64 a.number, .int .u64 a.turn, .int .i64 (a.place : Int), .int .i64 (a.ring : Int)]
def Anc.sector (a : Anc) : Sec := put (put (put (tagged a.number) 8 8 a.turn.toNat) 16 4 a.place) 20 4 a.ring
@[simp] theorem Anc.sector_length (a : Anc) : a.sector.length = 512 := put_len (put_len (put_len (tagged_length _) (by omega)) (by omega)) (by omega)
def ancOf (b : Sec) : Anc := ⟨tagOf b, numI b 8 8, num b 16 4, num b 20 4⟩
def Anc.okB (a : Anc) (sectors : Nat) : Bool := a.number != 0 && decide (1 ≤ a.turn) && decide (a.turn < 4611686018427387904) && (decide (8 ≤ a.ring) && decide (a.ring ≤ 1024) && decide (a.place < a.ring) && decide (a.ring + 10 ≤ sectors))

set_option maxHeartbeats 400000 in
theorem tagged_spec (t : Int) (w : World) (ht : 0 ≤ t) :
    Calls Try.prog 60 #[.int .u64 t] w fun e w' => e = .returned (.slice (some ⟨w.heap.size, 0, none⟩) 512 512) ∧ w'.heap[w.heap.size]? = some (.cells (bts (tagged t)).toArray 5 (0, 0)) ∧ Upd [] w w' := by
  have hmk := run_make_512
  go_enter Try.func60, Try.ntmps60
  go_wp2_with fail
  refine (lay_spec w.heap.size 512 512 0 8 t zsec [] _ (by simpa using blk_alloc _) ht zsec_length (by omega) (by omega) (by omega)).mono ?_
  rintro e w1 ⟨rfl, h1, hu1⟩
  have H1 := Lib.hid h1
  have HU1 := Lib.hid hu1
  clear h1 hu1
  go_wp2_with fail
  refine (lay_spec w.heap.size 512 512 504 8 t (put zsec 0 8 t.toNat) [] _ H1.out ht (put_len zsec_length (by omega)) (by omega) (by omega) (by omega)).mono ?_
  rintro e w2 ⟨rfl, h2, hu2⟩
  have H2 := Lib.hid h2
  have HU2 := Lib.hid hu2
  clear h2 hu2
  go_wp2
  go_ret
  refine ⟨rfl, ?_, ?_⟩
  · have := H2.out; rw [List.append_nil] at this; exact this
  · exact ((((Upd.refl [] w).alloc _).late HU1.out (fun i hi => .inr (by simp at hi; omega))).late HU2.out (fun i hi => .inr (by simp at hi; omega)))

set_option maxHeartbeats 400000 in
theorem tag_spec (v : Value) (b : Sec) (w : World) (hr : Rd w v b) (hl : b.length = 512) :
    Calls Try.prog 71 #[v] w fun e w' => e = .returned (.int .u64 (tagOf b)) ∧ w = w' := by
  have HR := Lib.hid hr
  have HL := Lib.hid hl
  clear hr hl
  by_cases hq : numI b 0 8 = numI b 504 8
  · have hb : (numI b 0 8 == numI b 504 8) = true := by simp [hq]
    have HT : Hid (tagOf b = numI b 0 8) := by show tagOf b = _; unfold tagOf; rw [if_pos hq]
    clear hq
    go_enter Try.func71, Try.ntmps71
    go_wp2_with fail
    refine (of_spec v b 0 8 w HR.out (by omega) (by omega) (by rw [HL.out]; omega) (by rw [HL.out]; omega)).mono ?_
    rintro e w' ⟨rfl, rfl⟩
    go_wp2_with fail
    refine (of_spec v b 504 8 w HR.out (by omega) (by omega) (by rw [HL.out]; omega) (by rw [HL.out]; omega)).mono ?_
    rintro e w' ⟨rfl, rfl⟩
    go_wp2
    go_ret
    exact ⟨ret_int (by rw [HT.out]), rfl⟩
  · have hb : (numI b 0 8 == numI b 504 8) = false := by rw [beq_eq_false_iff_ne]; exact hq
    have HT : Hid (tagOf b = 0) := by show tagOf b = _; unfold tagOf; rw [if_neg hq]
    clear hq
    go_enter Try.func71, Try.ntmps71
    go_wp2_with fail
    refine (of_spec v b 0 8 w HR.out (by omega) (by omega) (by rw [HL.out]; omega) (by rw [HL.out]; omega)).mono ?_
    rintro e w' ⟨rfl, rfl⟩
    go_wp2_with fail
    refine (of_spec v b 504 8 w HR.out (by omega) (by omega) (by rw [HL.out]; omega) (by rw [HL.out]; omega)).mono ?_
    rintro e w' ⟨rfl, rfl⟩
    go_wp2
    go_ret
    exact ⟨ret_int (by rw [HT.out]), rfl⟩

end Go.Proofs.Ythbgidiblcokhaa
