/-
  Lists of strings: homes, alike.
-/
import Derived.Test.YthbgidiblcokhaaLwE
import Derived.Lib.SlBytesRow
namespace Go.Proofs.Ythbgidiblcokhaa
open Go.RowKit

/-- Bytes as a string. -/
def str (l : List UInt8) : ByteArray := ⟨l.toArray⟩
theorem str_inj {a b : List UInt8} (h : str a = str b) : a = b := by
  have := congrArg (fun s : ByteArray => s.data.toList) h
  simpa [str] using this
theorem ba_loop (bs : ByteArray) : ∀ (m i : Nat) (r : List UInt8), bs.size - i = m → ByteArray.toList.loop bs i r = r.reverse ++ bs.data.toList.drop i := by
  intro m
  induction m with
  | zero =>
    intro i r h
    rw [ByteArray.toList.loop]
    have hi : ¬ i < bs.size := by omega
    rw [if_neg hi, List.drop_eq_nil_of_le (by simp; omega)]; simp
  | succ m ih =>
    intro i r h
    rw [ByteArray.toList.loop]
    have hi : i < bs.size := by omega
    rw [if_pos hi, ih (i + 1) _ (by omega)]
    have hl : i < bs.data.toList.length := by simpa using hi
    rw [List.drop_eq_getElem_cons hl]
    have e : bs.get! i = bs.data.toList[i] := by simp [ByteArray.get!, hi]
    rw [e]; simp
theorem str_toList (l : List UInt8) : (str l).toList = l := by
  unfold ByteArray.toList
  rw [ba_loop _ (str l).size 0 [] (by omega)]; simp [str]
theorem str_eq {a b : List UInt8} (h : a = b) : ((str a).toList == (str b).toList) = true := by rw [str_toList, str_toList, h]; simp
theorem str_ne {a b : List UInt8} (h : a ≠ b) : ((str a).toList == (str b).toList) = false := by rw [str_toList, str_toList]; simpa using h
def sv (l : List UInt8) : Value := .string (str l)

theorem run_str {w : World} {v : Value} {l : List UInt8} (h : Rd w v l) (hl : 0 < l.length) : (convert 36 9 v).run Try.prog w = .ok (.string (str l)) w := by
  obtain ⟨ao, cap, rfl, hc, hh⟩ := h
  obtain ⟨b, off, rfl, hcell⟩ := hh hl
  have hsz : (str l).size = l.length := by simp [str, ByteArray.size]
  have := Lib.run_convert_whole (P := Try.prog) w 36 5 9 Try.underlying36 Try.underlying5 Try.underlying9 b off (str l) (fun i hi => by
    rw [hsz] at hi
    rw [hcell i hi]
    rfl) cap
  rw [hsz] at this
  exact this

theorem infoStr : (Try.prog.info? 9).map (fun i => (i.zero, i.size, i.bytes)) = some (some (.string ⟨#[]⟩), 1, 16) := by kernel_rfl
theorem run_build_str (s : ByteArray) (w : World) : (Instr.buildSlice 33 1 #[(0, .string s)]).run Try.prog w = .ok (.slice (some ⟨w.heap.size, 0, none⟩) 1 1) (w.alloc (.cells #[.string s] 9)) := by kernel_rfl

/-- A row of strings of the law's own, in a block from B on. -/
def StrsB (w : World) (B : Nat) (v : Value) (ss : List (List UInt8)) : Prop := w.ownsRow B 9 1 v ss.length (ss.map sv)
theorem StrsB.nil (w : World) (B : Nat) : StrsB w B (.slice none 0 0) [] := ⟨by simp, .inl ⟨rfl, rfl⟩⟩
theorem StrsB.keep {w w' : World} {B : Nat} {v : Value} {ss : List (List UInt8)} (h : StrsB w B v ss) (hk : ∀ (k : Nat) (c : Array Value), w.heap[k]? = some (.cells c 9 (0, 0)) → w'.heap[k]? = w.heap[k]?) : StrsB w' B v ss := by
  refine ⟨h.1, ?_⟩
  rcases h.2 with h | ⟨g, cap, cur, e, hb, hg, r⟩
  · exact .inl h
  · exact .inr ⟨g, cap, cur, e, hb, (hk g cur hg).trans hg, r⟩
theorem StrsB.upd {w w' : World} {B : Nat} {v : Value} {ss : List (List UInt8)} (h : StrsB w B v ss) {S : List Nat} (hu : Upd S w w') (hS : ∀ (k : Nat) (c : Array Value), k ∈ S → w.heap[k]? ≠ some (.cells c 9 (0, 0))) : StrsB w' B v ss :=
  h.keep fun k c e => hu.block _ (blk_lt e) fun q => hS k c q e
theorem StrsB.shape {w : World} {B : Nat} {v : Value} {ss : List (List UInt8)} (h : StrsB w B v ss) : ∃ a c, v = .slice a ss.length c := by
  rcases h.2 with ⟨e, h0⟩ | ⟨g, cap, cur, e, _⟩
  · exact ⟨none, 0, by rw [e, h0]⟩
  · exact ⟨_, _, e⟩
theorem StrsB.rd {w : World} {B : Nat} {v : Value} {ss : List (List UInt8)} (h : StrsB w B v ss) : RdL w [] v (ss.map sv) := by
  have : w.ownsRow B 9 1 v (ss.map sv).length (ss.map sv) := by rw [List.length_map]; exact h
  exact RdL.of_row this (by simp)
theorem str_push {w w0 : World} {B : Nat} {v : Value} {ss : List (List UInt8)} {S : List Nat} (hp : StrsB w B v ss) (hl : ss.length ≤ 100000) (hB : B ≤ w.heap.size) (h0 : Upd S w0 w) (hB0 : w0.heap.size ≤ B) (s : List UInt8) :
    ∃ a b c' w', (∀ ty, (Builtin.append_ #[33, 33] ty #[v, .slice (some ⟨w.heap.size, 0, none⟩) 1 1]).run Try.prog (w.alloc (.cells #[.string (str s)] 9)) = .ok (.slice a b c') w') ∧ StrsB w' B (.slice a b c') (ss ++ [s]) ∧
      (∀ k, k < w.heap.size → (∀ c, w.heap[k]? ≠ some (.cells c 9 (0, 0))) → w'.heap[k]? = w.heap[k]?) ∧ Upd S w0 w' ∧ B ≤ w'.heap.size := by
  obtain ⟨i0, hi, hz0, hz1, hz2⟩ := info_parts infoStr
  have hp1 : StrsB (w.alloc (.cells #[.string (str s)] 9)) B v ss := hp.keep fun k c e => blk_alloc_ne (blk_lt e)
  obtain ⟨v', w', hrun, hown, hg, _⟩ := run_append_own (P := Try.prog) (w.alloc (.cells #[.string (str s)] 9)) B 33 0 9 i0 _ 1 16 Try.underlying33 hi hz0 hz1 hz2 rfl (by decide) v ss.length (ss.map sv) hp1 ⟨w.heap.size, 0, none⟩ 1 1 [sv s] rfl
    (fun j u hj => by
      rw [addr_add, blk_cell (blk_alloc _)]
      match j, hj with
      | 0, hj => simpa [sv] using hj
      | j + 1, hj => simp at hj)
    (fun u hu => by simp at hu; rw [hu]; rfl) (by unfold maxLen; omega) (by omega) (by simp; omega)
  have hs : StrsB w' B v' (ss ++ [s]) := by
    unfold StrsB; rw [List.length_append, List.map_append]; exact hown
  obtain ⟨a, c', rfl⟩ := hs.shape
  have hsz := hg.size
  have hkeep : ∀ k, k < w.heap.size → (∀ c, w.heap[k]? ≠ some (.cells c 9 (0, 0))) → w'.heap[k]? = w.heap[k]? := by
    intro k hk ht
    rw [hg.block k (by simp; omega) (fun e => ?_), blk_alloc_ne hk]
    rcases hp.2 with ⟨rfl, _⟩ | ⟨g, cap, cur, rfl, _, hgb, _⟩
    · simp [Value.ownBlock] at e
    · simp [Value.ownBlock] at e; subst e; exact ht _ hgb
  refine ⟨a, _, c', w', fun _ => hrun, hs, hkeep, (h0.alloc _).low (fun k hk => ?_) ⟨hg.size, hg.os, hg.tape, hg.output⟩, by simp at hsz; omega⟩
  refine hg.block k (by have := h0.size; simp; omega) fun e => ?_
  rcases hp.2 with ⟨rfl, _⟩ | ⟨g, cap, cur, rfl, hb, hgb, _⟩
  · simp [Value.ownBlock] at e
  · simp [Value.ownBlock] at e; subst e; omega
theorem JrAt.keptT {w w' : World} {j : JG} {J : Jn} {D : Dk} {n ring : Nat} {t m : Int} {H : Nat → Sec} (h : JrAt w j J D n ring t m H) (T : TypeId) (h1 : T ≠ 51) (h2 : T ≠ 86) (h3 : T ≠ 36) (h4 : T ≠ 5)
    (hk : ∀ k, k < w.heap.size → (∀ c, w.heap[k]? ≠ some (.cells c T (0, 0))) → w'.heap[k]? = w.heap[k]?) : JrAt w' j J D n ring t m H := by
  have hb : ∀ k, k ∈ j.all → ∀ c, w.heap[k]? ≠ some (.cells c T (0, 0)) := fun k hk c e => h.at_.kind e h1 h2 h3 hk
  exact h.of (h.at_.world (hk _ h.at_.lt.1 (hb _ (by simp [JG.all]))) (hk _ h.at_.lt.2 (hb _ (by simp [JG.all]))) (hk _ h.at_.disk.lt.1 (hb _ (by simp [JG.all]))) (hk _ h.at_.disk.lt.2.1 (hb _ (by simp [JG.all]))) (hk _ h.at_.disk.lt.2.2 (hb _ (by simp [JG.all])))
    (fun k c _ e => hk _ (blk_lt e) (fun c' e' => by rw [e] at e'; simp at e'; exact h4 e'.2.symm)))

/-- The first k home sectors. -/
def hl (H : Nat → Sec) (k : Nat) : List (List UInt8) := (List.range k).map H
theorem hl_length (H : Nat → Sec) (k : Nat) : (hl H k).length = k := by simp [hl]
theorem hl_succ (H : Nat → Sec) (k : Nat) : hl H (k + 1) = hl H k ++ [H k] := by unfold hl; rw [List.range_succ, List.map_append]; rfl

set_option maxRecDepth 100000 in
set_option maxHeartbeats 1000000 in
theorem homesL_spec {w : World} {j : JG} {J : Jn} {D : Dk} {n ring : Nat} {t m : Int} {H : Nat → Sec} (h : JrAt w j J D n ring t m H) (hn : n ≤ 4096) (hH : ∀ i, (H i).length = 512) :
    Calls Try.prog 19 #[.pointer (some ⟨j.jb, 0, none⟩)] w fun e w' => ∃ a c, e = .returned (.slice a (n - 2 - ring) c) ∧ StrsB w' w.heap.size (.slice a (n - 2 - ring) c) (hl H (n - 2 - ring)) ∧ JrAt w' j J D n ring t m H ∧ Upd [j.jb] w w' := by
  have HH := Lib.hid h
  have hbs := run_build_str
  obtain ⟨hm, hhm⟩ : ∃ hm, hm = n - 2 - ring := ⟨_, rfl⟩
  have HHM := Lib.hid hhm
  have hm0 : hm ≤ 4096 := by omega
  rw [← hhm]
  have HHL := Lib.hid hH
  clear h hhm hH
  go_enter Try.func19, Try.ntmps19
  go_wp2_with fail
  go_loopw [4, 3] (fun i v wr => ∃ k : Nat, k ≤ hm ∧ i = .int .i64 (k : Int) ∧ StrsB wr w.heap.size v (hl H k) ∧ JrAt wr j J D n ring t m H ∧ Upd [j.jb] w wr) (fun i _ _ => hm - (intOf i).toNat)
  case atStart => exact ⟨0, Nat.zero_le _, rfl, StrsB.nil _ _, HH.out, Upd.refl _ _⟩
  case round =>
    obtain ⟨k, hk, rfl, hs, hr, hu⟩ := hrel
    have HO := Lib.hid (homes_hi hr)
    rw [← HHM.out] at HO
    obtain ⟨a3, c3, rfl⟩ := hs.shape
    have HS := Lib.hid hs
    have HR := Lib.hid hr
    have HU := Lib.hid hu
    have hBr := hu.size
    clear hs hr hu
    go_wp2_with fail
    refine HO.out.mono ?_
    rintro e w1 ⟨rfl, q1, hq1⟩
    have HU1 : Hid (Upd [] wr w1) := by show Upd _ _ _; rw [hq1]; exact (Upd.refl _ _).drewN _
    clear hq1
    by_cases hlt : k < hm
    · have hlt' : decide ((k : Int) < (hm : Int)) = true := by simpa using hlt
      have hbound : k + 2 + ring < n := by have := HHM.out; omega
      go_wp2_with fail
      refine (read_hi (HR.out.below HU1.out) k hbound).mono ?_
      rintro e w2 ⟨v2, rfl, ho2, hr2, hu2⟩
      obtain ⟨k2, c2, rfl, _, _, _⟩ := ho2.sec (HHL.out k)
      have hrd := ho2.rd
      have hcv := run_str hrd (by rw [HHL.out]; omega)
      have hS2 : StrsB w2 w.heap.size (.slice a3 (hl H k).length c3) (hl H k) := ((HS.out.upd HU1.out (by simp)).upd hu2 (fun q c hq e => by simp at hq; subst hq; exact (HR.out.below HU1.out).at_.kind e (by decide) (by decide) (by decide) (by simp [JG.all])))
      have hU2 : Upd [j.jb] w w2 := (HU.out.trans (HU1.out.mono (by simp))).trans hu2
      obtain ⟨a', b', c', w3, hrun, hs3, hk3, hu3, _⟩ := str_push hS2 (by rw [hl_length]; omega) (by have := hU2.size; omega) hU2 (Nat.le_refl _) (H k)
      rw [← hl_succ] at hs3
      have HR3 := Lib.hid (hr2.keptT _ (by decide) (by decide) (by decide) (by decide) hk3)
      have HS3 := Lib.hid hs3
      have HU3 := Lib.hid hu3
      clear ho2 hr2 hu2 hrd hS2 hU2 hs3 hk3 hu3
      go_wp2_with (at_builtin; refine wpList_append_run rfl _ _ _ rfl rfl rfl hrun ?_)
      exact ⟨⟨k + 1, by omega, by go_num, HS3.out, HR3.out, HU3.out⟩, by simp [intOf]; omega⟩
    · obtain rfl : k = hm := by omega
      have hlt' : decide ((k : Int) < (k : Int)) = false := by simp
      go_wp2_with fail
      go_ret
      have hS := HS.out.upd HU1.out (by simp)
      rw [hl_length] at hS ⊢
      exact ⟨a3, c3, rfl, hS, HR.out.below HU1.out, HU.out.trans (HU1.out.mono (by simp))⟩

theorem RdL.cell {w : World} {S : List Nat} {a : Option Addr} {n c : Nat} {cs : List Value} (h : RdL w S (.slice a n c) cs) (i : Nat) (hi : i < cs.length) : ∃ b off, a = some ⟨b, off, none⟩ ∧ w.cell? ⟨b, off + i, none⟩ = some cs[i] := by
  obtain ⟨ao, cap, e, hc, hh⟩ := h
  obtain ⟨b, off, _, hab, hcell⟩ := hh (by omega)
  cases e
  exact ⟨b, off, hab, hcell i hi⟩
theorem RdL.shape {w : World} {S : List Nat} {v : Value} {cs : List Value} (h : RdL w S v cs) : ∃ a c, v = .slice a cs.length c ∧ cs.length ≤ c := by
  obtain ⟨ao, cap, e, hc, _⟩ := h
  exact ⟨ao, cap, e, hc⟩

set_option maxRecDepth 100000 in
set_option maxHeartbeats 1000000 in
theorem alike_spec {w : World} {v u : Value} (x y : List (List UInt8)) (hx : RdL w [] v (x.map sv)) (hy : RdL w [] u (y.map sv)) (hlx : x.length ≤ 100000) (hly : y.length ≤ 100000) :
    Calls Try.prog 24 #[v, u] w fun e w' => e = .returned (.bool (decide (x = y))) ∧ ∃ n, w' = w.drewN n := by
  obtain ⟨ax, cx, rfl, hcx⟩ := hx.shape
  obtain ⟨ay, cy, rfl, hcy⟩ := hy.shape
  rw [List.length_map] at hx hy hcx hcy ⊢
  rw [List.length_map]
  have HX := Lib.hid hx
  have HY := Lib.hid hy
  clear hx hy
  by_cases hne : x.length = y.length
  · have hb : ((x.length : Int) != (y.length : Int)) = false := by simp [hne]
    have HNE := Lib.hid hne
    clear hne
    go_enter Try.func24, Try.ntmps24
    go_wp2_with fail
    go_loopw [5] (fun i wr => ∃ k : Nat, k ≤ x.length ∧ i = .int .i64 (k : Int) ∧ (∀ q, q < k → x[q]? = y[q]?) ∧ ∃ n, wr = w.drewN n) (fun i _ => x.length - (intOf i).toNat)
    case atStart => exact ⟨0, Nat.zero_le _, rfl, fun q hq => by omega, 0, rfl⟩
    case round =>
      obtain ⟨k, hk, rfl, he, n0, rfl⟩ := hrel
      have HE := Lib.hid he
      clear he
      by_cases hlt : k < x.length
      · have hlt' : decide ((k : Int) < (x.length : Int)) = true := by simpa using hlt
        have hlty : k < y.length := by have := HNE.out; omega
        obtain ⟨bx, ox, rfl, hcellx⟩ := HX.out.cell k (by rw [List.length_map]; exact hlt)
        obtain ⟨by', oy, rfl, hcelly⟩ := HY.out.cell k (by rw [List.length_map]; exact hlty)
        rw [List.getElem_map] at hcellx hcelly
        have i1 : ((k : Int) < (x.length : Int)) := by omega
        have i2 : ((k : Int) < (y.length : Int)) := by omega
        have hcx' : w.cell? ⟨bx, ox + k, none⟩ = some (.string (str x[k])) := hcellx
        have hcy' : w.cell? ⟨by', oy + k, none⟩ = some (.string (str y[k])) := hcelly
        clear hcellx hcelly
        have HLX := Lib.hid hlt
        have HLY := Lib.hid hlty
        by_cases hq : x[k] = y[k]
        · have hcmp := str_eq hq
          have HQ := Lib.hid hq
          clear hq
          generalize str x[k] = sx at *
          generalize str y[k] = sy at *
          go_wp2_with fail
          go_quiet (fail)
          go_wp2_with fail
          refine ⟨⟨k + 1, by omega, by go_num, fun q hq => ?_, n0 + nq, rfl⟩, by simp [intOf]; omega⟩
          by_cases e : q = k
          · subst e; rw [List.getElem?_eq_getElem HLX.out, List.getElem?_eq_getElem HLY.out]; exact congrArg some HQ.out
          · exact HE.out q (by omega)
        · have hcmp := str_ne hq
          have HQ : Hid (decide (x = y) = false) := by
            show _ = _
            rw [decide_eq_false_iff_not]; intro e; subst e; exact hq rfl
          clear hq
          generalize str x[k] = sx at *
          generalize str y[k] = sy at *
          go_wp2_with fail
          go_quiet (fail)
          go_wp2_with fail
          go_ret
          exact ⟨by rw [HQ.out]; rfl, n0 + nq, by rw [World.drewN_drewN]⟩
      · obtain rfl : k = x.length := by omega
        have hlt' : decide ((x.length : Int) < (x.length : Int)) = false := by simp
        have HQ : Hid (decide (x = y) = true) := by
          show _ = _
          rw [decide_eq_true_eq]
          apply List.ext_getElem?
          intro q
          by_cases e : q < x.length
          · exact HE.out q e
          · rw [List.getElem?_eq_none (by omega), List.getElem?_eq_none (by have := HNE.out; omega)]
        go_wp2_with fail
        go_ret
        exact ⟨by rw [HQ.out]; rfl, _, rfl⟩
  · have hb : ((x.length : Int) != (y.length : Int)) = true := by simp; omega
    have HQ : Hid (decide (x = y) = false) := by
      show _ = _
      rw [decide_eq_false_iff_not]; intro e; subst e; exact hne rfl
    clear hne
    go_enter Try.func24, Try.ntmps24
    go_wp2_with fail
    go_ret
    exact ⟨by rw [HQ.out]; rfl, 0, rfl⟩

end Go.Proofs.Ythbgidiblcokhaa
