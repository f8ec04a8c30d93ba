/-
  pack's note, walked. pack.begin, walked.
-/
import Derived.Test.YtceakcejchbbjaaGreatPkI
section
set_option linter.unusedSimpArgs false
set_option linter.unusedVariables false
namespace Go.Proofs.YtceakcejchbbjaaGreat
open Go.RowKit Go.MapKept Go.ChangeMaps

/-- Four numbers laid at a, when so many are. -/
def noteK (l : Sec) (a s u v : Nat) : Nat → Sec
  | 0 => l
  | 1 => put l a 4 s
  | 2 => put (put l a 4 s) (a + 4) 4 u
  | 3 => put (put (put l a 4 s) (a + 4) 4 u) (a + 8) 4 v
  | _ => putE l a s u v
def noteV (s u v : Nat) : Nat → Nat
  | 0 => s
  | 1 => u
  | 2 => v
  | _ => 0
theorem noteK_step (l : Sec) (a s u v : Nat) {q : Nat} (hq : q < 4) : put (noteK l a s u v q) (a + 4 * q) 4 (noteV s u v q) = noteK l a s u v (q + 1) := by
  obtain rfl | rfl | rfl | rfl : q = 0 ∨ q = 1 ∨ q = 2 ∨ q = 3 := by omega
  all_goals rfl
theorem noteK_length {l : Sec} {a s u v : Nat} (h : a + 16 ≤ l.length) : ∀ q, q ≤ 4 → (noteK l a s u v q).length = l.length
  | 0, _ => rfl
  | q + 1, hq => by
    rw [← noteK_step l a s u v (by omega)]
    exact put_len (noteK_length h q (by omega)) (by omega)
theorem noteV_le {s u v q : Nat} (hs : s ≤ 100000) (hu : u ≤ 100000) (hv : v ≤ 100000) : noteV s u v q ≤ 100000 := by
  match q with
  | 0 => exact hs
  | 1 => exact hu
  | 2 => exact hv
  | q + 3 => show 0 ≤ _; omega
theorem run_index4 (s u v : Nat) {q : Nat} (hq : q < 4) (w : World) : (Instr.index 212 (.agg #[.int .i64 (s : Int), .int .i64 (u : Int), .int .i64 (v : Int), .int .i64 0]) (.int .i64 (q : Int))).run Tryz.prog w = .ok (.int .i64 (noteV s u v q : Int)) w := by
  obtain rfl | rfl | rfl | rfl : q = 0 ∨ q = 1 ∨ q = 2 ∨ q = 3 := by omega
  all_goals kernel_rfl
set_option maxRecDepth 100000 in
set_option maxHeartbeats 4000000 in
theorem noteP_spec {w : World} {g : Sg} {M : Nat → Option Sec} (h : SpAt w g M) (hh : 4 ≤ g.h) (s u v n : Nat) (hs : s ≤ 100000) (hu : u ≤ 100000) (hv : v ≤ 100000) (hn : n < 64) (hc : (M (2 + n / 32)).isSome = true ∨ cntM M g.h < 40) :
    Calls Tryz.prog 81 #[stV (s, u, v), .pointer (some ⟨g.x.tb, 0, none⟩), .int .i64 (n : Int)] w fun e w' => e = .returned (.int .i64 0) ∧ SpAt w' g (wr1 M (2 + n / 32) (putE (g.cur M (2 + n / 32)) (16 * (n % 32)) s u v)) ∧ Upd g.S w w' := by
  obtain ⟨d, hd⟩ : ∃ d, d = n / 32 := ⟨_, rfl⟩
  obtain ⟨r, hr⟩ : ∃ r, r = n % 32 := ⟨_, rfl⟩
  obtain ⟨sd, hsd⟩ : ∃ sd, sd = 2 + d := ⟨_, rfl⟩
  rw [← hd, ← hsd] at hc
  rw [← hd, ← hr, ← hsd]
  have hl := h.cur_len sd
  obtain ⟨w0, hw0⟩ : ∃ w0, w0 = w.alloc (.cells #[.int .i64 (s : Int), .int .i64 (u : Int), .int .i64 (v : Int)] 119) := ⟨_, rfl⟩
  have hu0 : Upd [] w w0 := by rw [hw0]; exact (Upd.refl _ _).alloc _
  have hb0 : w0.heap[w.heap.size]? = some (.cells #[.int .i64 (s : Int), .int .i64 (u : Int), .int .i64 (v : Int)] 119 (0, 0)) := by rw [hw0]; exact blk_alloc _
  have h0 := h.below hu0
  have HR : Hid (Calls Tryz.prog 106 #[.pointer (some ⟨g.x.tb, 0, none⟩), .int .i64 (sd : Int)] w0 fun e w'' => ∃ v, e = .returned (.tuple #[v, .int .i64 0]) ∧ OwnN w'' 5 (fun k => w0.heap.size ≤ k) v (g.cur M sd) ∧ SpAt w'' g M ∧ Upd [g.j.jb] w0 w'') := Lib.hid (readS h0 sd (by omega))
  generalize g.cur M sd = L at HR hl
  have H0 := Lib.hid h0
  have HC := Lib.hid hc
  have HB0 := Lib.hid hb0
  have HU0 := Lib.hid hu0
  have HW0 := Lib.hid hw0
  have HLT := Lib.hid h.lt
  obtain ⟨rb, hrb⟩ : ∃ rb, rb = w.heap.size := ⟨_, rfl⟩
  have HRB := Lib.hid hrb
  have hsh : sd < g.h := by omega
  have e1 : (n : Int) / 32 = (d : Int) := by omega
  have e2 : (n : Int) % 32 = (r : Int) := by omega
  have e3 : (2 : Int) + (d : Int) = (sd : Int) := by omega
  have hr1 : r ≤ 31 := by omega
  have hsd4 : sd ≤ 4 := by omega
  clear hd hr hsd h hc hw0 hb0 hu0 h0 hrb
  unfold stV
  go_enter Tryz.func81, Tryz.ntmps81
  go_upto_region 1 with (fail)
  have hw0 := HW0.out
  have hrb := HRB.out
  rw [← hw0, ← hrb]
  clear hw0 hrb
  go_wp2_with fail
  refine HR.out.mono ?_
  rintro e w1 ⟨v1, rfl, ho, h1, hu1⟩
  obtain ⟨k, c, rfl, _, hk, -⟩ := ho.sec hl
  have ho1 := ho.own (by omega)
  have HO1 := Lib.hid ho1
  have HK := Lib.hid hk
  have H1 := Lib.hid h1
  have HU1 := Lib.hid hu1
  have hb1 := (hu1.block _ (blk_lt HB0.out) (by simp; intro e; have := HLT.out.1 g.j.jb (by simp [Sg.S, JG.all]); omega)).trans HB0.out
  rw [← HRB.out] at hb1
  have s0 : w1.cell? ⟨rb, 0, none⟩ = some (.int .i64 (s : Int)) := by rw [blk_cell hb1]; rfl
  have s1 : w1.cell? ⟨rb, 1, none⟩ = some (.int .i64 (u : Int)) := by rw [blk_cell hb1]; rfl
  have s2 : w1.cell? ⟨rb, 2, none⟩ = some (.int .i64 (v : Int)) := by rw [blk_cell hb1]; rfl
  clear ho ho1 hk h1 hu1 hb1
  go_wp2_with fail
  go_loopw [30] (fun i wr => ∃ q : Nat, q ≤ 4 ∧ i = .int .i64 (q : Int) ∧ Own wr 5 (fun k => w0.heap.size ≤ k) (.slice (some ⟨k, 0, none⟩) 512 c) (noteK L (16 * r) s u v q) ∧ Upd [k] w1 wr) (fun i _ => 4 - (intOf i).toNat)
  case atStart => exact ⟨0, by omega, rfl, HO1.out, Upd.refl _ _⟩
  case round =>
    clear s0 s1 s2
    obtain ⟨q, hq, rfl, ho, hu2⟩ := hrel
    have hlq : (noteK L (16 * r) s u v q).length = 512 := by rw [noteK_length (by omega) _ hq]; exact hl
    by_cases hlt : q < 4
    · have hlt' : decide ((q : Int) < 4) = true := decide_eq_true (by omega)
      have hix := run_index4 s u v hlt
      have hV := noteV_le (q := q) hs hu hv
      have hstq := noteK_step L (16 * r) s u v hlt
      obtain ⟨V, hVe⟩ : ∃ V, V = noteV s u v q := ⟨_, rfl⟩
      rw [← hVe] at hix hV hstq
      obtain ⟨A, hA⟩ : ∃ A, A = 16 * r + 4 * q := ⟨_, rfl⟩
      rw [← hA] at hstq
      generalize noteK L (16 * r) s u v q = LQ at ho hstq hlq
      have eA : 16 * (r : Int) + 4 * (q : Int) = (A : Int) := by omega
      have hA4 : A + 4 ≤ 512 := by omega
      have HO := Lib.hid ho
      have HU2 := Lib.hid hu2
      have HSQ := Lib.hid hstq
      obtain ⟨wo, rfl⟩ : ∃ wo : World, wo = wr := ⟨_, rfl⟩
      clear ho hu2 hA hstq hVe
      go_wp2_with fail
      go_loopw [34] (fun i wr => ∃ p : Nat, p ≤ 4 ∧ i = .int .i64 (p : Int) ∧ Own wr 5 (fun k => w0.heap.size ≤ k) (.slice (some ⟨k, 0, none⟩) 512 c) (putK LQ A 4 V p) ∧ Upd [k] w1 wr) (fun i _ => 4 - (intOf i).toNat)
      case atStart => exact ⟨0, by omega, rfl, by rw [putK_zero]; exact HO.out, HU2.out⟩
      case round =>
        obtain ⟨p, hp, rfl, ho, hu2⟩ := hrel
        by_cases hpt : p < 4
        · have hpt' : decide ((p : Int) < 4) = true := decide_eq_true (by omega)
          have hlen : (putK LQ A 4 V p).length = 512 := by rw [putK_length (by omega) (by omega)]; exact hlq
          have hst := putK_step (b := LQ) (a := A) (n := 4) (v := V) hpt (by omega)
          obtain ⟨I, hI⟩ : ∃ I, I = A + p := ⟨_, rfl⟩
          have hIk : (A : Int) + (p : Int) = (I : Int) := by omega
          obtain ⟨hcl, hf⟩ := ho.cell512 hlen (q := I) (by omega)
          obtain ⟨Y, hY⟩ : ∃ Y, Y = V / 256 ^ (4 - 1 - p) % 256 := ⟨_, rfl⟩
          have o2 := own_set512 ho hlen (q := I) (by omega) (y := Y) (by omega)
          have eY : UInt8.ofNat Y = UInt8.ofNat (V / 256 ^ (4 - 1 - p)) := by
            apply UInt8.toNat_inj.1
            rw [UInt8.toNat_ofNat', UInt8.toNat_ofNat', hY]; omega
          rw [eY, hI, hst, ← hI] at o2
          have u2 : Upd [k] wr (wr.setCell ⟨k, I, none⟩ (.int .u8 (Y : Int))) := (Upd.refl _ _).set _ (by simp)
          have HO2 := Lib.hid o2
          have HUx := Lib.hid (hu2.trans u2)
          have i0 : (0 : Int) ≤ (I : Int) := by omega
          have i1 : (I : Int) < 512 := by omega
          have t0 : decide ((24 : Int) - 8 * (p : Int) < 0) = false := decide_eq_false (by omega)
          have hsh : (0 : Int) ≤ 24 - 8 * (p : Int) := by omega
          have hsh2 : 24 - 8 * (p : Int) ≤ 24 := by omega
          have hYI : (V : Int) / 2 ^ (24 - 8 * p) % 256 = (Y : Int) := by
            have e1 : (2 : Int) ^ (24 - 8 * p) = ((256 ^ (4 - 1 - p) : Nat) : Int) := by
              rw [show (256 : Nat) = 2 ^ 8 from rfl, ← Nat.pow_mul, Int.natCast_pow, show 24 - 8 * p = 8 * (4 - 1 - p) from by omega]; rfl
            rw [e1, hY]; omega
          have HYI := Lib.hid hYI
          clear ho hu2 hlen hst hI eY o2 u2 hYI hY
          go_wp2_with fail
          exact ⟨⟨p + 1, by omega, by go_num, by rw [HYI.out]; exact HO2.out, by rw [HYI.out]; exact HUx.out⟩, by simp [intOf]; omega⟩
        · obtain rfl : p = 4 := by omega
          have hpt' : decide (((4 : Nat) : Int) < 4) = false := rfl
          rw [putK_full, HSQ.out] at ho
          have HO2 := Lib.hid ho
          have HU3 := Lib.hid hu2
          clear ho hu2
          go_wp2_with fail
          refine ⟨⟨q + 1, by omega, by go_num, HO2.out, HU3.out⟩, by simp [intOf]; omega⟩
    · obtain rfl : q = 4 := by omega
      have hlt' : decide (((4 : Nat) : Int) < 4) = false := rfl
      have hkk := HK.out
      have hsp : SpAt wr g M := H0.out.late H1.out HU1.out hu2 (fun i hi => by simp at hi; omega)
      have HW := Lib.hid (writeS hsp sd hsh _ _ ho.rd hlq HC.out)
      have HUF : Hid (Upd g.S w wr) := Lib.hid (((HU0.out.mono (by simp)).trans (HU1.out.mono g.mem)).late hu2 (fun i hi => .inr (by simp at hi; have := HU0.out.size; omega)))
      clear ho hu2 hsp
      go_wp2_with fail
      refine HW.out.mono ?_
      rintro e w5 ⟨rfl, h5, hu5⟩
      have H5 := Lib.hid h5
      have HU5 := Lib.hid (HUF.out.trans (hu5.mono g.memw))
      clear h5 hu5
      go_wp2_with fail
      go_ret
      exact ⟨rfl, H5.out, HU5.out⟩
end Go.Proofs.YtceakcejchbbjaaGreat
end

section
set_option linter.unusedSimpArgs false
set_option linter.unusedVariables false
namespace Go.Proofs.YtceakcejchbbjaaGreat
open Go.RowKit Go.MapKept Go.ChangeMaps

/-- Zeros in q sectors from s on. -/
def zersM (M : Nat → Option Sec) (s q : Nat) : Nat → Option Sec := fun k => if s ≤ k ∧ k < s + q then some zsec else M k
theorem zersM_zero (M : Nat → Option Sec) (s : Nat) : zersM M s 0 = M := by
  funext k; unfold zersM; rw [if_neg (by omega)]
theorem zersM_step (M : Nat → Option Sec) (s q : Nat) : (fun k => if k = s + q then some zsec else zersM M s q k) = zersM M s (q + 1) := by
  funext k
  unfold zersM
  by_cases h1 : k = s + q
  · rw [if_pos h1, if_pos (by omega)]
  · rw [if_neg h1]
    by_cases h2 : s ≤ k ∧ k < s + q
    · rw [if_pos h2, if_pos (by omega)]
    · rw [if_neg h2, if_neg (by omega)]
theorem zersM_touch {M : Nat → Option Sec} {s q : Nat} (hq : q ≤ 16) : Touch M (zersM M s q) (List.range' s 16) := fun i hi => by
  unfold zersM at hi
  split at hi
  · right; rw [List.mem_range'_1]; omega
  · exact .inl hi
/-- What begin leaves. -/
def BeginR (g : Sg) (M M' : Nat → Option Sec) : Option Nat → Prop
  | some s => FirstFit (g.T M) g.h 16 (some s) ∧ (∀ i, g.T M' i = if s ≤ i ∧ i < s + 16 then true else g.T M i) ∧ (∀ i, i ≠ 1 → ¬ (s ≤ i ∧ i < s + 16) → M' i = M i) ∧ (∀ i, s ≤ i → i < s + 16 → M' i = some zsec) ∧ 4 ≤ s ∧ s + 16 ≤ g.h
  | none => FirstFit (g.T M) g.h 16 Option.none ∧ M' = M
theorem zersM_ok {M : Nat → Option Sec} {h s q : Nat} (ho : MOk M h) (hs : s + q ≤ h) : MOk (zersM M s q) h := fun i x hx => by
  unfold zersM at hx
  split at hx
  · cases hx; exact ⟨by omega, zsec_length⟩
  · exact ho i x hx
/-- The block of a call's own result, and the world behind its stores. -/
theorem SpAt.res {w0 w w' : World} {g : Sg} {M : Nat → Option Sec} (h0 : (∀ k, k ∈ g.S → k < w0.heap.size) ∧ g.x.tb < w0.heap.size) (h : SpAt w g M) {b : Nat} (hb : w0.heap.size ≤ b) {c : Array Value} {T : TypeId} {fr : Nat × Nat} (he : w.heap[b]? = some (.cells c T fr)) (hT : T ≠ 5) (hu : Upd [b] w w') : SpAt w' g M :=
  h.turnedR hu (fun k hk => by
    simp at hk
    exact ⟨fun q => by have := h0.1 k q; omega, by have := h0.2; omega⟩) (fun k hk c' e => by
    simp at hk
    subst hk
    rw [he] at e
    injection e with e
    injection e with _ q2
    exact hT q2)
theorem Upd.three {S : List Nat} {a w : World} {b : Nat} (h : Upd S a w) (x y z : Value) (hb : b ∈ S ∨ a.heap.size ≤ b) : Upd S a (((w.setCell ⟨b, 0, none⟩ x).setCell ⟨b, 1, none⟩ y).setCell ⟨b, 2, none⟩ z) := ((h.set x hb).set y hb).set z hb
set_option maxRecDepth 100000 in
set_option maxHeartbeats 2000000 in
theorem begin_pk {w : World} {g : Sg} {M : Nat → Option Sec} (h : SpAt w g M) (hh : 20 ≤ g.h) (hh2 : g.h ≤ 4096) (hc : cntM M g.h + 18 ≤ 40) :
    Calls Tryz.prog 61 #[.pointer (some ⟨g.x.tb, 0, none⟩)] w fun e w' => ∃ o M', e = .returned (.tuple #[stV (o.getD 0, 0, 0), .int .i64 (if o = Option.none then 7 else 0)]) ∧ BeginR g M M' o ∧ SpAt w' g M' ∧ Upd g.S w w' := by
  have hlt := h.lt
  obtain ⟨w0, hw0⟩ : ∃ w0, w0 = w.alloc (.cells #[.int .i64 0, .int .i64 0, .int .i64 0] 119) := ⟨_, rfl⟩
  obtain ⟨rb, hrb⟩ : ∃ rb, rb = w.heap.size := ⟨_, rfl⟩
  have hu0 : Upd [] w w0 := by rw [hw0]; exact (Upd.refl _ _).alloc _
  have hb0 : w0.heap[rb]? = some (.cells #[.int .i64 0, .int .i64 0, .int .i64 0] 119 (0, 0)) := by rw [hw0, hrb]; exact blk_alloc _
  have h0 := h.below hu0
  have HT := Lib.hid (take_spec h0 (by omega) hh2 (.inr (by omega)) 16 (by omega) (by omega))
  have hl1 := h0.cur_len 1
  have HLT := Lib.hid hlt
  have HB0 := Lib.hid hb0
  have HU0 := Lib.hid hu0
  have HW0 := Lib.hid hw0
  have HRB := Lib.hid hrb
  have H0 := Lib.hid h0
  have hmk := run_make_512
  clear h h0 hlt hb0 hu0 hw0 hrb
  go_enter Tryz.func61, Tryz.ntmps61
  go_upto_region 1 with (fail)
  have hw0 := HW0.out
  have hrb := HRB.out
  rw [← hw0, ← hrb]
  clear hw0 hrb
  go_wp2_with fail
  refine HT.out.mono ?_
  rintro e w1 ⟨hu1, ⟨s, hf, rfl, h1⟩ | ⟨hf, rfl, h1⟩⟩
  · -- an extent
    have hb1 := (hu1.block _ (blk_lt HB0.out) (fun q => by have := HLT.out.1 _ q; have := HRB.out; omega)).trans HB0.out
    have hs4 : 4 ≤ s := by
      rcases Nat.lt_or_ge s 4 with q | q
      · have := hf.2.1 0 (by omega)
        rw [Nat.add_zero, Sg.T_low (H0.out.cur_len 1) q] at this
        cases this
      · exact q
    have hsh : s + 16 ≤ g.h := hf.1
    obtain ⟨M1, hM1⟩ : ∃ M1, M1 = put1 M (setR (fixB (g.cur M 1)) s true 16) := ⟨_, rfl⟩
    have hT1 : ∀ i, g.T M1 i = if s ≤ i ∧ i < s + 16 then true else g.T M i := fun i => by rw [hM1]; exact Sg.T_turn hl1 true hs4 (by omega) i
    have hk1 : ∀ i, i ≠ 1 → M1 i = M i := fun i hi => by rw [hM1]; unfold put1; rw [if_neg hi]
    rw [← hM1] at h1
    have hc1 : cntM M1 g.h ≤ cntM M g.h + 1 := by
      have ht : Touch M M1 [1] := fun i hi => by
        by_cases e : i = 1
        · right; simp [e]
        · rw [hk1 i e] at hi; exact .inl hi
      exact ht.cnt H0.out.ok h1.ok
    have HF := Lib.hid hf
    have H1 := Lib.hid h1
    have HU1 := Lib.hid hu1
    have HB1 := Lib.hid hb1
    have HT1 := Lib.hid hT1
    have HK1 := Lib.hid hk1
    clear hf h1 hu1 hb1 hM1 hT1 hk1
    go_wp2_with fail
    go_loopw [17] (fun i wr => ∃ q : Nat, q ≤ 16 ∧ i = .int .i64 (q : Int) ∧ SpAt wr g (zersM M1 s q) ∧ wr.heap[rb]? = some (.cells #[.int .i64 0, .int .i64 0, .int .i64 0] 119 (0, 0)) ∧ Upd g.S w1 wr) (fun i _ => 16 - (intOf i).toNat)
    case atStart => exact ⟨0, by omega, rfl, by rw [zersM_zero]; exact H1.out, HB1.out, Upd.refl _ _⟩
    case round =>
      obtain ⟨q, hq, rfl, hsp, hb, hu⟩ := hrel
      by_cases hlt : q < 16
      · have hlt' : decide ((q : Int) < 16) = true := decide_eq_true (by omega)
        obtain ⟨I, hI⟩ : ∃ I, I = s + q := ⟨_, rfl⟩
        have eI : (s : Int) + (q : Int) = (I : Int) := by omega
        have hzb : (wr.alloc (.cells (bts zsec).toArray 5)).heap[wr.heap.size]? = some (.cells (bts zsec).toArray 5 (0, 0)) := blk_alloc _
        obtain ⟨w2, hw2⟩ : ∃ w2, w2 = wr.alloc (.cells (bts zsec).toArray 5) := ⟨_, rfl⟩
        have hmk1 : (Instr.makeSlice 37 (.int .i64 512) (.int .i64 512)).run Tryz.prog wr = .ok (.slice (some ⟨wr.heap.size, 0, none⟩) 512 512) w2 := by rw [hw2]; exact run_make_512 wr
        have hu2 : Upd [] wr w2 := by rw [hw2]; exact (Upd.refl _ _).alloc _
        rw [← hw2] at hzb
        have hcn : cntM (zersM M1 s q) g.h < 40 := by
          have := (zersM_touch (M := M1) (s := s) (q := q) (by omega)).cnt H1.out.ok hsp.ok
          rw [List.length_range'] at this
          omega
        have HW := Lib.hid (writeS (hsp.below hu2) I (by omega) _ _ (rd_row hzb zsec_length) zsec_length (.inr hcn))
        have HZ : Hid ((fun k => if k = I then some zsec else zersM M1 s q k) = zersM M1 s (q + 1)) := Lib.hid (by rw [hI]; exact zersM_step M1 s q)
        have HBr := Lib.hid ((hu2.block _ (blk_lt hb) (by simp)).trans hb)
        have HU2 := Lib.hid (hu.trans (hu2.mono (by simp)))
        clear hmk hw2 hsp hb hu hzb hu2 hcn hI
        go_wp2_with fail
        refine HW.out.mono ?_
        rintro e w3 ⟨rfl, h3, hu3⟩
        rw [HZ.out] at h3
        have H3 := Lib.hid h3
        have HB3 := Lib.hid ((hu3.block _ (blk_lt HBr.out) (fun q => by have := HLT.out.1 _ (g.memw _ q); have := HRB.out; omega)).trans HBr.out)
        have HU3 := Lib.hid (HU2.out.trans (hu3.mono g.memw))
        clear h3 hu3
        go_wp2_with fail
        exact ⟨⟨q + 1, by omega, by go_num, H3.out, HB3.out, HU3.out⟩, by simp [intOf]; omega⟩
      · obtain rfl : q = 16 := by omega
        have hlt' : decide (((16 : Nat) : Int) < 16) = false := rfl
        have HS := Lib.hid hsp
        have HB := Lib.hid hb
        have HU := Lib.hid hu
        have m0 : wr.cell? ⟨rb, 0, none⟩ = some (.int .i64 0) := by rw [blk_cell hb]; rfl
        have m1 : wr.cell? ⟨rb, 1, none⟩ = some (.int .i64 0) := by rw [blk_cell hb]; rfl
        have m2 : wr.cell? ⟨rb, 2, none⟩ = some (.int .i64 0) := by rw [blk_cell hb]; rfl
        have f0 := blk_free hb 0
        have f1 := blk_free hb 1
        have f2 := blk_free hb 2
        clear hsp hb hu
        go_wp2_with fail
        refine bodyPost_ret (results_st (p := 2) (u := 3) (by rfl) _ _ rb (.int .i64 (s : Int)) (.int .i64 0) (.int .i64 0) (by rfl) (blk_set (blk_set (blk_set HB.out 0 _) 1 _) 2 _)) (by rfl) ?_
        have hb5 := HRB.out
        have hu5 : Upd [rb] wr (((wr.setCell ⟨rb, 0, none⟩ (.int .i64 (s : Int))).setCell ⟨rb, 1, none⟩ (.int .i64 0)).setCell ⟨rb, 2, none⟩ (.int .i64 0)) := (Upd.refl _ _).three _ _ _ (.inl (List.mem_singleton.2 rfl))
        refine ⟨some s, zersM M1 s 16, rfl, ⟨HF.out, fun i => ?_, fun i hi hn => ?_, fun i i1 i2 => ?_, hs4, hsh⟩, HS.out.res HLT.out (by omega) HB.out (by decide) hu5, ?_⟩
        · rw [← HT1.out i]
          exact congrFun (T_congr g (by unfold zersM; rw [if_neg (by omega)])) i
        · unfold zersM; rw [if_neg hn]; exact HK1.out i hi
        · unfold zersM; rw [if_pos ⟨i1, i2⟩]
        · exact (((HU0.out.mono (by simp)).trans HU1.out).trans HU.out).late hu5 (fun i hi => .inr (by simp at hi; omega))
  · -- none
    have hb1 := (hu1.block _ (blk_lt HB0.out) (fun q => by have := HLT.out.1 _ q; have := HRB.out; omega)).trans HB0.out
    have m0 : w1.cell? ⟨rb, 0, none⟩ = some (.int .i64 0) := by rw [blk_cell hb1]; rfl
    have m1 : w1.cell? ⟨rb, 1, none⟩ = some (.int .i64 0) := by rw [blk_cell hb1]; rfl
    have m2 : w1.cell? ⟨rb, 2, none⟩ = some (.int .i64 0) := by rw [blk_cell hb1]; rfl
    have f0 := blk_free hb1 0
    have f1 := blk_free hb1 1
    have f2 := blk_free hb1 2
    have HF := Lib.hid hf
    have H1 := Lib.hid h1
    have HU1 := Lib.hid hu1
    have HB1 := Lib.hid hb1
    clear hf h1 hu1 hb1
    go_wp2_with fail
    refine bodyPost_ret (results_st (p := 2) (u := 3) (by rfl) _ _ rb (.int .i64 0) (.int .i64 0) (.int .i64 0) (by rfl) (blk_set (blk_set (blk_set HB1.out 0 _) 1 _) 2 _)) (by rfl) ?_
    have hb5 := HRB.out
    have hu5 : Upd [rb] w1 (((w1.setCell ⟨rb, 0, none⟩ (.int .i64 0)).setCell ⟨rb, 1, none⟩ (.int .i64 0)).setCell ⟨rb, 2, none⟩ (.int .i64 0)) := (Upd.refl _ _).three _ _ _ (.inl (List.mem_singleton.2 rfl))
    exact ⟨Option.none, M, rfl, ⟨HF.out, rfl⟩, H1.out.res HLT.out (by omega) HB1.out (by decide) hu5, ((HU0.out.mono (by simp)).trans HU1.out).late hu5 (fun i hi => .inr (by simp at hi; omega))⟩
end Go.Proofs.YtceakcejchbbjaaGreat
end
