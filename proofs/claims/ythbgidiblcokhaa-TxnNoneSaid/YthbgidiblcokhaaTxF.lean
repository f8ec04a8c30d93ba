/-
  TxnNone answers true.
-/
import Derived.Test.YthbgidiblcokhaaTxE
import Derived.Test.YthbgidiblcokhaaLwK
namespace Go.Proofs.Ythbgidiblcokhaa
open Go.RowKit Go.MapKept Go.ChangeMaps

set_option maxRecDepth 100000 in
set_option maxHeartbeats 2000000 in
theorem none7_spec (w : World) : Calls Try.prog 13 #[] w fun e w' => e = .returned (.bool true) ∧ Upd [] w w' := by
  have HT0 : Hid (∀ w : World, OverV w (.pointer none)) := by show ∀ w : World, _; exact fun w => .inl rfl
  go_enter Try.func13, Try.ntmps13
  go_wp2_with fail
  have hz : OverV (w.alloc (.cells #[.pointer none, .int .u64 0, .map none] 83)) (.pointer (some ⟨w.heap.size, 0, none⟩)) := .inr ⟨_, 0, rfl, blk_alloc _⟩
  have hu0 : Upd [] w (w.alloc (.cells #[.pointer none, .int .u64 0, .map none] 83)) := (Upd.refl _ _).alloc _
  generalize w.alloc (.cells #[.pointer none, .int .u64 0, .map none] 83) = w0 at hz hu0 ⊢
  have HZ0 := Lib.hid hz
  have HU0 := Lib.hid hu0
  clear hz hu0
  refine (begin_nil w0).mono ?_
  rintro e w1 ⟨rfl, n1, hn1⟩
  have hu1 : Upd [] w0 w1 := by rw [hn1]; exact (Upd.refl _ _).drewN _
  have HU1 := Lib.hid (HU0.out.trans hu1)
  have HZ1 := Lib.hid (HZ0.out.below hu1)
  clear hn1 hu1
  go_wp2_with fail
  refine (made_hi 64 16 (by omega) (by omega) (by omega) (by omega) (by omega) w1).mono ?_
  rintro e w2 ⟨j, rfl, hj, ⟨J2, D2, hr2, _⟩, hu2⟩
  have HJ : Hid (j.Late w) := by
    have := HU1.out.size
    obtain ⟨k1, k2, k3, k4, k5⟩ := hj
    exact ⟨Nat.le_trans this k1, Nat.le_trans this k2, Nat.le_trans this k3, Nat.le_trans this k4, Nat.le_trans this k5⟩
  have HZ2 := Lib.hid (HZ1.out.below hu2)
  have HU2 := Lib.hid (HU1.out.trans hu2)
  have HPW := Lib.hid (power_hi hr2 _ [] (RdL.nil _ _))
  have HR2 := Lib.hid hr2
  clear hj hr2 hu2
  go_wp2_with fail
  refine HPW.out.mono ?_
  rintro e w3 ⟨rfl, hd3, hu3⟩
  have hj3 := HR2.out.at_.step hd3.disk hu3 (fun _ q => q) (by rw [hd3.n, HR2.out.n])
  have hpl : (D2.power []).lives = wrap64 (D2.lives + 1) := rfl
  have hlv : (D2.power []).lives ≠ J2.lives := by rw [hpl, HR2.out.live.held.lives]; exact wrap_ne _
  have hdead : J2.may (D2.power []) ≠ 0 := by unfold Jn.may; rw [if_pos (.inr hlv)]; decide
  have HB3 := Lib.hid (begin_dead hj3 hdead)
  have HJ3 := Lib.hid hj3
  have HZ3 := Lib.hid (HZ2.out.jn HR2.out.at_ hu3 j.mem_d)
  have HU3 := Lib.hid (HU2.out.lateD hu3 HJ.out.2.2)
  clear hd3 hu3 hj3 hpl hlv hdead
  go_wp2_with fail
  refine HB3.out.mono ?_
  rintro e w4 ⟨rfl, hj4, hu4⟩
  have HZ4 := Lib.hid (HZ3.out.jn HJ3.out hu4 (fun _ q => q))
  have HU4 := Lib.hid (HU3.out.lateJ hu4 HJ.out)
  clear hj4 hu4
  go_wp2_with fail
  refine (readT_over (HT0.out w4) 0).mono ?_
  rintro e w5 ⟨rfl, n5, hn5⟩
  have hu5 : Upd [] w4 w5 := by rw [hn5]; exact (Upd.refl _ _).drewN _
  have HZ5 := Lib.hid (HZ4.out.below hu5)
  have HU5 := Lib.hid (HU4.out.trans hu5)
  clear hn5 hu5
  go_wp2_with fail
  refine (readT_over HZ5.out 0).mono ?_
  rintro e w6 ⟨rfl, n6, hn6⟩
  have hu6 : Upd [] w5 w6 := by rw [hn6]; exact (Upd.refl _ _).drewN _
  have HZ6 := Lib.hid (HZ5.out.below hu6)
  have HU6 := Lib.hid (HU5.out.trans hu6)
  clear hn6 hu6
  go_wp2_with fail
  refine (abort_over (HT0.out w6)).mono ?_
  rintro e w7 ⟨rfl, _, S7, hS7, hu7⟩
  have hu7' : Upd [] w6 w7 := hu7.mono fun k hk => by have := hS7 k hk; simp at this
  have HZ7 := Lib.hid (HZ6.out.below hu7')
  have HU7 := Lib.hid (HU6.out.trans hu7')
  clear hS7 hu7 hu7'
  go_wp2_with fail
  refine (abort_over HZ7.out).mono ?_
  rintro e w8 ⟨rfl, hz8, S8, hS8, hu8⟩
  have HZ8 := Lib.hid hz8
  have HU8 := Lib.hid (HU7.out.late hu8 fun k hk => by have := hS8 k hk; simp at this; exact .inr (by omega))
  clear hz8 hS8 hu8
  go_wp2_with fail
  refine (begun7_spec w8).mono ?_
  rintro e w9 ⟨rfl, hu9⟩
  have HZ9 := Lib.hid (HZ8.out.below hu9)
  have HU9 := Lib.hid (HU8.out.trans hu9)
  clear hu9
  go_wp2_with fail
  refine (writeT_over (HT0.out w9) 0 none 0 0).mono ?_
  rintro e w10 ⟨rfl, n10, hn10⟩
  have hu10 : Upd [] w9 w10 := by rw [hn10]; exact (Upd.refl _ _).drewN _
  have HZ10 := Lib.hid (HZ9.out.below hu10)
  have HU10 := Lib.hid (HU9.out.trans hu10)
  clear hn10 hu10
  go_wp2_with fail
  refine (commitT_over HZ10.out).mono ?_
  rintro e w11 ⟨rfl, n11, hn11⟩
  have hu11 : Upd [] w10 w11 := by rw [hn11]; exact (Upd.refl _ _).drewN _
  have HZ11 := Lib.hid (HZ10.out.below hu11)
  have HU11 := Lib.hid (HU10.out.trans hu11)
  clear hn11 hu11
  go_wp2_with fail
  refine (commitT_over (HT0.out w11)).mono ?_
  rintro e w12 ⟨rfl, n12, hn12⟩
  have hu12 : Upd [] w11 w12 := by rw [hn12]; exact (Upd.refl _ _).drewN _
  have HZ12 := Lib.hid (HZ11.out.below hu12)
  have HU12 := Lib.hid (HU11.out.trans hu12)
  clear hn12 hu12
  go_wp2_with fail
  refine (touched_over (HT0.out w12)).mono ?_
  rintro e w13 ⟨rfl, n13, hn13⟩
  have hu13 : Upd [] w12 w13 := by rw [hn13]; exact (Upd.refl _ _).drewN _
  have HZ13 := Lib.hid (HZ12.out.below hu13)
  have HU13 := Lib.hid (HU12.out.trans hu13)
  clear hn13 hu13
  go_wp2_with fail
  refine (touched_over HZ13.out).mono ?_
  rintro e w14 ⟨rfl, n14, hn14⟩
  have hu14 : Upd [] w13 w14 := by rw [hn14]; exact (Upd.refl _ _).drewN _
  have HZ14 := Lib.hid (HZ13.out.below hu14)
  have HU14 := Lib.hid (HU13.out.trans hu14)
  clear hn14 hu14
  go_wp2_with fail
  refine (homesT_over (HT0.out w14)).mono ?_
  rintro e w15 ⟨rfl, n15, hn15⟩
  have hu15 : Upd [] w14 w15 := by rw [hn15]; exact (Upd.refl _ _).drewN _
  have HZ15 := Lib.hid (HZ14.out.below hu15)
  have HU15 := Lib.hid (HU14.out.trans hu15)
  clear hn15 hu15
  go_wp2_with fail
  refine (homesT_over HZ15.out).mono ?_
  rintro e w16 ⟨rfl, n16, hn16⟩
  have hu16 : Upd [] w15 w16 := by rw [hn16]; exact (Upd.refl _ _).drewN _
  have HZ16 := Lib.hid (HZ15.out.below hu16)
  have HU16 := Lib.hid (HU15.out.trans hu16)
  clear hn16 hu16
  go_wp2_with fail
  go_ret
  exact ⟨rfl, HU16.out⟩

end Go.Proofs.Ythbgidiblcokhaa
