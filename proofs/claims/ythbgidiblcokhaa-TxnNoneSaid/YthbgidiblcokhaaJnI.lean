/-
  Journal.Checkpoint.
-/
import Derived.Test.YthbgidiblcokhaaJnH
namespace Go.Proofs.Ythbgidiblcokhaa
open Go.RowKit

def Jn.ckD (J : Jn) (D : Dk) : Dk × Int :=
  if J.may D ≠ 0 then (D, 8) else if J.keys D.n = [] then (D, 0) else if 4611686018427387904 ≤ J.last.number then (D, 7) else J.settleD D
def Jn.ck (J : Jn) (D : Dk) : Jn :=
  if J.may D ≠ 0 then J else if J.keys D.n = [] then J else if 4611686018427387904 ≤ J.last.number then J else J.settle D

theorem JnAt.len {w : World} {F : Nat → Prop} {j : JG} {J : Jn} {D : Dk} (h : JnAt w F j J D) :
    ∃ L : Nat, (∀ ty n, (Builtin.len_ #[49] ty #[.map (some j.ab)]).run Try.prog (w.drewN n) = .ok (goInt (L : Int)) (w.drewN n)) ∧ (L = 0 ↔ J.keys D.n = []) ∧ L ≤ 4096 := by
  obtain ⟨f, hf, hf1, hf2⟩ := h.away
  obtain ⟨hk1, hk2⟩ := JnAt.keysF_eq h.ok hf1 hf2
  obtain ⟨ks, hnd, hmem, hrun⟩ := hf.keys (P := Try.prog) (T := 49) Try.underlying49 0
  have hle : ks.length ≤ J.homes D.n := nodup_lt _ ks hnd (fun k hk => by obtain ⟨v, hv⟩ := Option.isSome_iff_exists.1 ((hmem k).1 hk); exact hk2 k v hv)
  refine ⟨ks.length, fun ty n => ?_, ?_, by have := h.disk.ok.n1; unfold Jn.homes at hle; omega⟩
  · obtain ⟨es, clock, hb, _⟩ := hf
    have h1 : (Builtin.len_ #[49] 0 #[.map (some j.ab)]).run Try.prog w = .ok (goInt es.size) w := by
      simp [Builtin.len_, run_underlying Try.underlying49, MapKept.run_getObj_map hb, Result.andThen]
    have hb' : (w.drewN n).heap[j.ab]? = some (.map es clock) := hb
    have h2 : (Builtin.len_ #[49] ty #[.map (some j.ab)]).run Try.prog (w.drewN n) = .ok (goInt es.size) (w.drewN n) := by
      simp [Builtin.len_, run_underlying Try.underlying49, MapKept.run_getObj_map hb', Result.andThen]
    rw [h1] at hrun
    have e : goInt es.size = goInt ks.length := by simpa using hrun
    rw [h2, e]
  · rw [← hk1]
    constructor
    · intro h0
      have hk0 : ks = [] := List.eq_nil_of_length_eq_zero h0
      unfold keysF
      rw [List.filter_eq_nil_iff]
      intro i _ hi
      have := (hmem (i : Int)).2 hi
      rw [hk0] at this; simp at this
    · intro h0
      cases hks : ks with
      | nil => rfl
      | cons k rest =>
        exfalso
        have hk := (hmem k).1 (by rw [hks]; simp)
        obtain ⟨v, hv⟩ := Option.isSome_iff_exists.1 hk
        have hr := hk2 k v hv
        have : k.toNat ∈ keysF f (J.homes D.n) := by
          unfold keysF
          rw [List.mem_filter, List.mem_range]
          refine ⟨by omega, ?_⟩
          rw [Int.toNat_of_nonneg hr.1]; exact hk
        rw [h0] at this; simp at this

set_option maxHeartbeats 800000 in
theorem ck_spec {w : World} {F : Nat → Prop} {j : JG} {J : Jn} {D : Dk} (h : JnAt w F j J D) :
    Calls Try.prog 27 #[.pointer (some ⟨j.jb, 0, none⟩)] w fun e w' => e = .returned (.int .i64 (J.ckD D).2) ∧ JnAt w' (Gr F w.heap.size) j (J.ck D) (J.ckD D).1 ∧ Upd j.all w w' := by
  have H := Lib.hid h
  have hc := blk_cell h.st
  obtain ⟨L, hlen, hL, hL2⟩ := h.len
  by_cases hm : J.may D = 0
  · have hb : (J.may D != 0) = false := by simp [hm]
    by_cases hk : J.keys D.n = []
    · have hl0 : ((L : Int) == 0) = true := by rw [beq_iff_eq]; have := hL.2 hk; omega
      have HR : Hid (J.ckD D = (D, 0) ∧ J.ck D = J) := by
        show _ ∧ _
        unfold Jn.ckD Jn.ck
        simp [hm, hk]
      clear h hL hm hk
      go_enter Try.func27, Try.ntmps27
      go_wp2_with (go_at_call 56; refine (mayJ_spec H.out).mono ?_; rintro e w' ⟨rfl, n, rfl⟩)
      go_ret
      rw [HR.out.1, HR.out.2]
      exact ⟨rfl, (H.out.drewN _).mono Gr.old, (Upd.refl _ _).drewN _⟩
    · have hl0 : ((L : Int) == 0) = false := by rw [beq_eq_false_iff_ne]; intro e; exact hk (hL.1 (by omega))
      by_cases hn : 4611686018427387904 ≤ J.last.number
      · have HR : Hid (J.ckD D = (D, 7) ∧ J.ck D = J) := by
          show _ ∧ _
          unfold Jn.ckD Jn.ck
          simp [hm, hk, hn]
        clear h hL hm hk
        go_enter Try.func27, Try.ntmps27
        go_wp2_with (go_at_call 56; refine (mayJ_spec H.out).mono ?_; rintro e w' ⟨rfl, n, rfl⟩)
        go_ret
        rw [HR.out.1, HR.out.2]
        exact ⟨rfl, (H.out.drewN _).mono Gr.old, (Upd.refl _ _).drewN _⟩
      · have hn' : J.last.number < 4611686018427387904 := by omega
        have HR : Hid (J.ckD D = J.settleD D ∧ J.ck D = J.settle D) := by
          show _ ∧ _
          unfold Jn.ckD Jn.ck
          simp [hm, hk, hn]
        have HS := fun m => Lib.hid (settle_spec (H.out.drewN m) hn')
        clear h hL hm hk hn
        go_enter Try.func27, Try.ntmps27
        go_wp2_with (first | (go_at_call 56; refine (mayJ_spec H.out).mono ?_; rintro e w' ⟨rfl, n, rfl⟩) | (go_at_call 55; refine (HS _).out.mono ?_; rintro e w2 ⟨rfl, hJ2, hu2⟩))
        go_ret
        rw [HR.out.1, HR.out.2]
        exact ⟨rfl, hJ2, ((Upd.refl _ _).drewN _).trans hu2⟩
  · have hb : (J.may D != 0) = true := by simpa using hm
    have HE := Lib.hid (Jn.may_eq hm)
    have HR : Hid (J.ckD D = (D, 8) ∧ J.ck D = J) := by
      show _ ∧ _
      unfold Jn.ckD Jn.ck
      simp [hm]
    clear h hL hm
    go_enter Try.func27, Try.ntmps27
    go_wp2_with (go_at_call 56; refine (mayJ_spec H.out).mono ?_; rintro e w' ⟨rfl, n, rfl⟩)
    go_ret
    rw [HR.out.1, HR.out.2]
    exact ⟨ret_int HE.out, (H.out.drewN _).mono Gr.old, (Upd.refl _ _).drewN _⟩

end Go.Proofs.Ythbgidiblcokhaa
