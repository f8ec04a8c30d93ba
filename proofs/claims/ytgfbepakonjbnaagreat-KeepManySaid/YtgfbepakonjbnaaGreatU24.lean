/-
  frame.Size(0); pack's within, walked. pack.Drop; pack.Stat and pack.List of no pack; walked.
-/
import Derived.Test.YtgfbepakonjbnaaGreatU16
import Derived.Test.YtgfbepakonjbnaaGreatU01
import Derived.ProofKit
import Derived.OpenShut
import Derived.Carry
import Derived.Test.YtgfbepakonjbnaaGreatU10
import Derived.Lib.SlBytesRow
import Derived.Deep.Slices
import Derived.Deep.Strs
import Derived.Test.YtgfbepakonjbnaaGreatU15
section
section
set_option linter.unusedSimpArgs false
set_option linter.unusedVariables false
namespace Go.Proofs.YtgfbepakonjbnaaGreat
open Go.RowKit Go.MapKept Go.ChangeMaps
theorem size0_spec(w:World):Calls Tryz.prog 221 #[.int .i64 0] w fun e w'=>e=.returned (.int .i64 46)∧Upd [] w w':=by
 go_enter Tryz.func221,Tryz.ntmps221
 go_wp2_with fail
 go_ret
 exact⟨rfl,Upd.refl _ _⟩
def wiV(pb sb st us at_ ln:Nat):List (Nat × Nat × Value):=[(0,19,.pointer (some ⟨sb,0,none⟩)),(1,20,.int .i64 (st:Int)),(2,21,.bool false),(3,22,.bool false),(4,23,.pointer (some ⟨pb,1,none⟩)),(5,24,.int .i64 (at_:Int)),(6,25,.bool false),(7,26,.bool false),(8,27,.bool false),(9,28,.pointer (some ⟨pb,2,none⟩)),(10,29,.int .i64 (ln:Int)),(11,30,.int .i64 46),(12,31,.bool false),(13,32,.bool false),(14,33,.bool false),(15,34,.pointer (some ⟨pb,2,none⟩)),(16,35,.int .i64 (ln:Int)),(17,36,.pointer (some ⟨sb,1,none⟩)),(18,37,.int .i64 (us:Int)),(19,38,.bool false),(20,39,.bool false),(21,40,.bool false),(22,41,.pointer (some ⟨pb,1,none⟩)),(23,42,.int .i64 (at_:Int)),(24,43,.pointer (some ⟨sb,1,none⟩)),(25,44,.int .i64 (us:Int)),(26,45,.pointer (some ⟨pb,2,none⟩)),(27,46,.int .i64 (ln:Int)),(28,47,.int .i64 ((us:Int)-(ln:Int))),(29,48,.bool false),(30,49,.bool false)]
set_option maxRecDepth 100000 in
set_option maxHeartbeats 4000000 in
theorem within_spec{w:World}{g:Sg}{M:Nat→Option Sec}{K:Nat→Option Pk}(h:SpAt w g M)(hk:PksAt (g.cur M) g.h (g.T M) K)(hh:20≤g.h)(hh2:g.h≤4096){n:Nat}{p:Pk}(hp:K n=some p)(at_ ln:Nat)(h46:46≤ln)(hal:at_+ln≤p.data.length) :
  Calls Tryz.prog 169 #[.pointer (some ⟨g.x.tb,0,none⟩),plV (n,at_,ln)] w fun e w'=>e=.returned (.tuple #[stV (p.start,p.data.length,p.live),.int .i64 0])∧SpAt w' g M∧Upd [g.j.jb] w w':=by
 have hlt:=h.lt
 have hlow:=hk.low n p hp
 have hn64:=hk.lt hp
 obtain⟨st,hst⟩:∃st,st=p.start:=⟨_,rfl⟩
 obtain⟨us,hus⟩:∃us,us=p.data.length:=⟨_,rfl⟩
 obtain⟨lv,hlv⟩:∃lv,lv=p.live:=⟨_,rfl⟩
 obtain⟨pb,hpb⟩:∃pb,pb=w.heap.size:=⟨_,rfl⟩
 obtain⟨w1,hw1⟩:∃w1,w1=(w.alloc (.cells #[.int .i64 (n:Int),.int .i64 (at_:Int),.int .i64 (ln:Int)] 92)).alloc (.cells #[.int .i64 0,.int .i64 0,.int .i64 0] 200):=⟨_,rfl⟩
 have hu1:Upd [] w w1:=by rw[hw1];exact((Upd.refl _ _).alloc _).alloc _
 have hbp:w1.heap[pb]?=some (.cells #[.int .i64 (n:Int),.int .i64 (at_:Int),.int .i64 (ln:Int)] 92 (0,0)):=by
  rw[hw1,hpb]
  exact(((Upd.refl [] _).alloc _).block _ (by simp) (by simp)).trans (blk_alloc _)
 have hbr:w1.heap[pb+1]?=some (.cells #[.int .i64 0,.int .i64 0,.int .i64 0] 200 (0,0)):=by
  rw[hw1,hpb]
  have:=blk_alloc (w:=w.alloc (.cells #[.int .i64 (n:Int),.int .i64 (at_:Int),.int .i64 (ln:Int)] 92)) (.cells #[.int .i64 0,.int .i64 0,.int .i64 0] 200)
  rwa [World.size_alloc] at this
 have hlk:=look_spec (h.below hu1) hh hh2 n hn64
 rw[hk.look n hn64,hp] at hlk
 unfold stV entK at hlk
 dsimp only at hlk
 rw[← hst,← hus,← hlv] at hlk hlow
 rw[← hus] at hal
 rw[← hst,← hus,← hlv]
 have HLK:=Lib.hid hlk
 have HLT:=Lib.hid hlt
 have HU1:=Lib.hid hu1
 have HBP:=Lib.hid hbp
 have HBR:=Lib.hid hbr
 have HPB:=Lib.hid hpb
 have HW1:=Lib.hid hw1
 have p0:w1.cell? ⟨pb,0,none⟩=some (.int .i64 (n:Int)):=by rw[blk_cell hbp];rfl
 clear h hlt hk hp hst hus hlv hpb hw1 hu1 hbp hbr hlk
 unfold plV
 go_enter Tryz.func169,Tryz.ntmps169
 go_upto_region 1 with(fail)
 have hw1:=HW1.out
 have hpb:=HPB.out
 rw[← hw1,← hpb]
 clear hw1 hpb
 go_wp2_with fail
 refine HLK.out.mono ?_
 rintro e w4 ⟨rfl,h4,hu4⟩
 have hne:∀i,pb≤i→i∉[g.j.jb]:=fun i hi q=>by have:=HLT.out.1 i (g.mem i q);have:=HPB.out;omega
 have hbp4:=(hu4.block _ (blk_lt HBP.out) (hne _ (Nat.le_refl _))).trans HBP.out
 have hbr4:=(hu4.block _ (blk_lt HBR.out) (hne _ (by omega))).trans HBR.out
 obtain⟨w5,hw5⟩:∃w5,w5=w4.alloc (.cells #[.int .i64 (st:Int),.int .i64 (us:Int),.int .i64 (lv:Int)] 200):=⟨_,rfl⟩
 obtain⟨sb,hsb⟩:∃sb,sb=w4.heap.size:=⟨_,rfl⟩
 have hu5:Upd [] w4 w5:=by rw[hw5];exact(Upd.refl _ _).alloc _
 have hb5:w5.heap[sb]?=some (.cells #[.int .i64 (st:Int),.int .i64 (us:Int),.int .i64 (lv:Int)] 200 (0,0)):=by rw[hw5,hsb];exact blk_alloc _
 have hbp5:=(hu5.block _ (blk_lt hbp4) (by simp)).trans hbp4
 have hbr5:=(hu5.block _ (blk_lt hbr4) (by simp)).trans hbr4
 have H5:=Lib.hid (h4.below hu5)
 have HU5:=Lib.hid (((HU1.out.mono (by simp)).trans hu4).trans (hu5.mono (by simp)))
 have m0:w5.cell? ⟨sb,0,none⟩=some (.int .i64 (st:Int)):=by rw[blk_cell hb5];rfl
 have m1:w5.cell? ⟨sb,1,none⟩=some (.int .i64 (us:Int)):=by rw[blk_cell hb5];rfl
 have n1:w5.cell? ⟨pb,1,none⟩=some (.int .i64 (at_:Int)):=by rw[blk_cell hbp5];rfl
 have n2:w5.cell? ⟨pb,2,none⟩=some (.int .i64 (ln:Int)):=by rw[blk_cell hbp5];rfl
 have HB5:=Lib.hid hb5
 have HBR5:=Lib.hid hbr5
 have HW5:=Lib.hid hw5
 have HSB:=Lib.hid hsb
 clear p0 h4 hu4 hbp4 hbr4 hw5 hsb hu5 hb5 hbp5 hbr5
 go_upto_region 2 with(fail)
 have hw5:=HW5.out
 have hsb:=HSB.out
 rw[← hw5,← hsb]
 clear hw5 hsb
 go_wp2_with fail
 have t0:((st:Int) == 0)=false:=by rw[beq_eq_false_iff_ne];omega
 have t1:decide ((at_:Int)<0)=false:=decide_eq_false (by omega)
 have t2:decide ((ln:Int)<46)=false:=decide_eq_false (by omega)
 have t3:decide ((us:Int)<(ln:Int))=false:=decide_eq_false (by omega)
 have t3':decide (us<ln)=false:=decide_eq_false (by omega)
 have t4:decide ((us:Int)-(ln:Int)<(at_:Int))=false:=decide_eq_false (by omega)
 have t5:IntKind.i64.wrap ((us:Int)-(ln:Int))=(us:Int)-(ln:Int):=by rw[IntKind.wrap_i64];omega
 --REG
 refine wp_region_reg (wiV pb sb st us at_ ln) [] (by kernel_rfl) (by kernel_rfl) 52 rfl rfl ?_ ?_
 ·intro i o L tmps w' ho hI hL hd
  have hi:i<31:=(Array.getElem?_eq_some_iff.1 ho).1
  have hw5:=(Upd.refl [] w5).drew.trans hI.upd
  have u0:=cell_updP m0 hw5 (by simp)
  have u1:=cell_updP m1 hw5 (by simp)
  have v1:=cell_updP n1 hw5 (by simp)
  have v2:=cell_updP n2 hw5 (by simp)
  have t3:tmps[3]?.getD undef=.pointer (some ⟨pb,0,none⟩):=(hI.old 3 (by rfl)).trans rfl
  have t6:tmps[6]?.getD undef=.pointer (some ⟨sb,0,none⟩):=(hI.old 6 (by rfl)).trans rfl
  obtain rfl | rfl | rfl | rfl | rfl | rfl | rfl | rfl | rfl | rfl | rfl | rfl | rfl | rfl | rfl | rfl | rfl | rfl | rfl | rfl | rfl | rfl | rfl | rfl | rfl | rfl | rfl | rfl | rfl | rfl | rfl:i=0∨i=1∨i=2∨i=3∨i=4∨i=5∨i=6∨i=7∨i=8∨i=9∨i=10∨i=11∨i=12∨i=13∨i=14∨i=15∨i=16∨i=17∨i=18∨i=19∨i=20∨i=21∨i=22∨i=23∨i=24∨i=25∨i=26∨i=27∨i=28∨i=29∨i=30:=by omega
  ·cases ho
   refine wpOp_step rfl (fun K hK=>?_)
   go_simp
   exact hK _ _ (hI.val_step 0 19 (.pointer (some ⟨sb,0,none⟩)) (by decide) (Upd.refl _ _) (by simp[wiV]) (by kernel_rfl))
  ·cases ho
   have t19:tmps[19]?.getD undef=.pointer (some ⟨sb,0,none⟩):=hI.val (0,19,_) (by simp[wiV]) (hd ⟨0,.data⟩ (by simp) rfl)
   refine wpOp_step rfl (fun K hK=>?_)
   go_simp
   exact hK _ _ (hI.val_step 1 20 (.int .i64 (st:Int)) (by decide) (Upd.refl _ _) (by simp[wiV]) (by kernel_rfl))
  ·cases ho
   have t20:tmps[20]?.getD undef=.int .i64 (st:Int):=hI.val (1,20,_) (by simp[wiV]) (hd ⟨1,.data⟩ (by simp) rfl)
   refine wpOp_step rfl (fun K hK=>?_)
   go_simp
   exact hK _ _ (hI.val_step 2 21 (.bool false) (by decide) (Upd.refl _ _) (by simp[wiV]) (by kernel_rfl))
  ·cases ho
   have t21:tmps[21]?.getD undef=.bool false:=hI.val (2,21,_) (by simp[wiV]) (hd ⟨2,.data⟩ (by simp) rfl)
   refine wpOp_step rfl (fun K hK=>?_)
   go_simp
   exact hK _ _ (hI.val_step 3 22 (.bool false) (by decide) (Upd.refl _ _) (by simp[wiV]) (by kernel_rfl))
  ·cases ho
   have t22:tmps[22]?.getD undef=.bool false:=hI.val (3,22,_) (by simp[wiV]) (hd ⟨3,.guard⟩ (by simp) rfl)
   have tg:=tm_some t22
   clear t22
   refine wpOp_step rfl (fun K hK=>?_)
   go_simp
   exact hK _ _ (hI.val_step 4 23 (.pointer (some ⟨pb,1,none⟩)) (by decide) (Upd.refl _ _) (by simp[wiV]) (by kernel_rfl))
  ·cases ho
   have t23:tmps[23]?.getD undef=.pointer (some ⟨pb,1,none⟩):=hI.val (4,23,_) (by simp[wiV]) (hd ⟨4,.data⟩ (by simp) rfl)
   have t22:tmps[22]?.getD undef=.bool false:=hI.val (3,22,_) (by simp[wiV]) (hd ⟨3,.guard⟩ (by simp) rfl)
   have tg:=tm_some t22
   clear t22
   refine wpOp_step rfl (fun K hK=>?_)
   go_simp
   exact hK _ _ (hI.val_step 5 24 (.int .i64 (at_:Int)) (by decide) (Upd.refl _ _) (by simp[wiV]) (by kernel_rfl))
  ·cases ho
   have t24:tmps[24]?.getD undef=.int .i64 (at_:Int):=hI.val (5,24,_) (by simp[wiV]) (hd ⟨5,.data⟩ (by simp) rfl)
   have t22:tmps[22]?.getD undef=.bool false:=hI.val (3,22,_) (by simp[wiV]) (hd ⟨3,.guard⟩ (by simp) rfl)
   have tg:=tm_some t22
   clear t22
   refine wpOp_step rfl (fun K hK=>?_)
   go_simp
   exact hK _ _ (hI.val_step 6 25 (.bool false) (by decide) (Upd.refl _ _) (by simp[wiV]) (by kernel_rfl))
  ·cases ho
   have t22:tmps[22]?.getD undef=.bool false:=hI.val (3,22,_) (by simp[wiV]) (hd ⟨3,.data⟩ (by simp) rfl)
   have t25:tmps[25]?.getD undef=.bool false:=hI.val (6,25,_) (by simp[wiV]) (hd ⟨6,.data⟩ (by simp) rfl)
   refine wpOp_step rfl (fun K hK=>?_)
   go_simp
   exact hK _ _ (hI.val_step 7 26 (.bool false) (by decide) (Upd.refl _ _) (by simp[wiV]) (by kernel_rfl))
  ·cases ho
   have t26:tmps[26]?.getD undef=.bool false:=hI.val (7,26,_) (by simp[wiV]) (hd ⟨7,.data⟩ (by simp) rfl)
   refine wpOp_step rfl (fun K hK=>?_)
   go_simp
   exact hK _ _ (hI.val_step 8 27 (.bool false) (by decide) (Upd.refl _ _) (by simp[wiV]) (by kernel_rfl))
  ·cases ho
   have t27:tmps[27]?.getD undef=.bool false:=hI.val (8,27,_) (by simp[wiV]) (hd ⟨8,.guard⟩ (by simp) rfl)
   have tg:=tm_some t27
   clear t27
   refine wpOp_step rfl (fun K hK=>?_)
   go_simp
   exact hK _ _ (hI.val_step 9 28 (.pointer (some ⟨pb,2,none⟩)) (by decide) (Upd.refl _ _) (by simp[wiV]) (by kernel_rfl))
  ·cases ho
   have t28:tmps[28]?.getD undef=.pointer (some ⟨pb,2,none⟩):=hI.val (9,28,_) (by simp[wiV]) (hd ⟨9,.data⟩ (by simp) rfl)
   have t27:tmps[27]?.getD undef=.bool false:=hI.val (8,27,_) (by simp[wiV]) (hd ⟨8,.guard⟩ (by simp) rfl)
   have tg:=tm_some t27
   clear t27
   refine wpOp_step rfl (fun K hK=>?_)
   go_simp
   exact hK _ _ (hI.val_step 10 29 (.int .i64 (ln:Int)) (by decide) (Upd.refl _ _) (by simp[wiV]) (by kernel_rfl))
  ·cases ho
   have t27:tmps[27]?.getD undef=.bool false:=hI.val (8,27,_) (by simp[wiV]) (hd ⟨8,.chain⟩ (by simp) rfl)
   have tg:=tm_some t27
   clear t27
   refine wpOp_step rfl (fun K hK=>?_)
   go_simp
   go_at_call 221
   refine(size0_spec _).mono ?_
   rintro e w2 ⟨rfl,hu⟩
   exact hK _ _ (hI.val_step 11 30 (.int .i64 46) (by decide) hu (by simp[wiV]) (by kernel_rfl))
  ·cases ho
   have t29:tmps[29]?.getD undef=.int .i64 (ln:Int):=hI.val (10,29,_) (by simp[wiV]) (hd ⟨10,.data⟩ (by simp) rfl)
   have t30:tmps[30]?.getD undef=.int .i64 46:=hI.val (11,30,_) (by simp[wiV]) (hd ⟨11,.data⟩ (by simp) rfl)
   have t27:tmps[27]?.getD undef=.bool false:=hI.val (8,27,_) (by simp[wiV]) (hd ⟨8,.guard⟩ (by simp) rfl)
   have tg:=tm_some t27
   clear t27
   refine wpOp_step rfl (fun K hK=>?_)
   go_simp
   exact hK _ _ (hI.val_step 12 31 (.bool false) (by decide) (Upd.refl _ _) (by simp[wiV]) (by kernel_rfl))
  ·cases ho
   have t27:tmps[27]?.getD undef=.bool false:=hI.val (8,27,_) (by simp[wiV]) (hd ⟨8,.data⟩ (by simp) rfl)
   have t31:tmps[31]?.getD undef=.bool false:=hI.val (12,31,_) (by simp[wiV]) (hd ⟨12,.data⟩ (by simp) rfl)
   refine wpOp_step rfl (fun K hK=>?_)
   go_simp
   exact hK _ _ (hI.val_step 13 32 (.bool false) (by decide) (Upd.refl _ _) (by simp[wiV]) (by kernel_rfl))
  ·cases ho
   have t32:tmps[32]?.getD undef=.bool false:=hI.val (13,32,_) (by simp[wiV]) (hd ⟨13,.data⟩ (by simp) rfl)
   refine wpOp_step rfl (fun K hK=>?_)
   go_simp
   exact hK _ _ (hI.val_step 14 33 (.bool false) (by decide) (Upd.refl _ _) (by simp[wiV]) (by kernel_rfl))
  ·cases ho
   have t33:tmps[33]?.getD undef=.bool false:=hI.val (14,33,_) (by simp[wiV]) (hd ⟨14,.guard⟩ (by simp) rfl)
   have tg:=tm_some t33
   clear t33
   refine wpOp_step rfl (fun K hK=>?_)
   go_simp
   exact hK _ _ (hI.val_step 15 34 (.pointer (some ⟨pb,2,none⟩)) (by decide) (Upd.refl _ _) (by simp[wiV]) (by kernel_rfl))
  ·cases ho
   have t34:tmps[34]?.getD undef=.pointer (some ⟨pb,2,none⟩):=hI.val (15,34,_) (by simp[wiV]) (hd ⟨15,.data⟩ (by simp) rfl)
   have t33:tmps[33]?.getD undef=.bool false:=hI.val (14,33,_) (by simp[wiV]) (hd ⟨14,.guard⟩ (by simp) rfl)
   have tg:=tm_some t33
   clear t33
   refine wpOp_step rfl (fun K hK=>?_)
   go_simp
   exact hK _ _ (hI.val_step 16 35 (.int .i64 (ln:Int)) (by decide) (Upd.refl _ _) (by simp[wiV]) (by kernel_rfl))
  ·cases ho
   have t33:tmps[33]?.getD undef=.bool false:=hI.val (14,33,_) (by simp[wiV]) (hd ⟨14,.guard⟩ (by simp) rfl)
   have tg:=tm_some t33
   clear t33
   refine wpOp_step rfl (fun K hK=>?_)
   go_simp
   exact hK _ _ (hI.val_step 17 36 (.pointer (some ⟨sb,1,none⟩)) (by decide) (Upd.refl _ _) (by simp[wiV]) (by kernel_rfl))
  ·cases ho
   have t36:tmps[36]?.getD undef=.pointer (some ⟨sb,1,none⟩):=hI.val (17,36,_) (by simp[wiV]) (hd ⟨17,.data⟩ (by simp) rfl)
   have t33:tmps[33]?.getD undef=.bool false:=hI.val (14,33,_) (by simp[wiV]) (hd ⟨14,.guard⟩ (by simp) rfl)
   have tg:=tm_some t33
   clear t33
   refine wpOp_step rfl (fun K hK=>?_)
   go_simp
   exact hK _ _ (hI.val_step 18 37 (.int .i64 (us:Int)) (by decide) (Upd.refl _ _) (by simp[wiV]) (by kernel_rfl))
  ·cases ho
   have t35:tmps[35]?.getD undef=.int .i64 (ln:Int):=hI.val (16,35,_) (by simp[wiV]) (hd ⟨16,.data⟩ (by simp) rfl)
   have t37:tmps[37]?.getD undef=.int .i64 (us:Int):=hI.val (18,37,_) (by simp[wiV]) (hd ⟨18,.data⟩ (by simp) rfl)
   have t33:tmps[33]?.getD undef=.bool false:=hI.val (14,33,_) (by simp[wiV]) (hd ⟨14,.guard⟩ (by simp) rfl)
   have tg:=tm_some t33
   clear t33
   refine wpOp_step rfl (fun K hK=>?_)
   go_simp
   exact hK _ _ (hI.val_step 19 38 (.bool false) (by decide) (Upd.refl _ _) (by simp[wiV]) (by kernel_rfl))
  ·cases ho
   have t33:tmps[33]?.getD undef=.bool false:=hI.val (14,33,_) (by simp[wiV]) (hd ⟨14,.data⟩ (by simp) rfl)
   have t38:tmps[38]?.getD undef=.bool false:=hI.val (19,38,_) (by simp[wiV]) (hd ⟨19,.data⟩ (by simp) rfl)
   refine wpOp_step rfl (fun K hK=>?_)
   go_simp
   exact hK _ _ (hI.val_step 20 39 (.bool false) (by decide) (Upd.refl _ _) (by simp[wiV]) (by kernel_rfl))
  ·cases ho
   have t39:tmps[39]?.getD undef=.bool false:=hI.val (20,39,_) (by simp[wiV]) (hd ⟨20,.data⟩ (by simp) rfl)
   refine wpOp_step rfl (fun K hK=>?_)
   go_simp
   exact hK _ _ (hI.val_step 21 40 (.bool false) (by decide) (Upd.refl _ _) (by simp[wiV]) (by kernel_rfl))
  ·cases ho
   have t40:tmps[40]?.getD undef=.bool false:=hI.val (21,40,_) (by simp[wiV]) (hd ⟨21,.guard⟩ (by simp) rfl)
   have tg:=tm_some t40
   clear t40
   refine wpOp_step rfl (fun K hK=>?_)
   go_simp
   exact hK _ _ (hI.val_step 22 41 (.pointer (some ⟨pb,1,none⟩)) (by decide) (Upd.refl _ _) (by simp[wiV]) (by kernel_rfl))
  ·cases ho
   have t41:tmps[41]?.getD undef=.pointer (some ⟨pb,1,none⟩):=hI.val (22,41,_) (by simp[wiV]) (hd ⟨22,.data⟩ (by simp) rfl)
   have t40:tmps[40]?.getD undef=.bool false:=hI.val (21,40,_) (by simp[wiV]) (hd ⟨21,.guard⟩ (by simp) rfl)
   have tg:=tm_some t40
   clear t40
   refine wpOp_step rfl (fun K hK=>?_)
   go_simp
   exact hK _ _ (hI.val_step 23 42 (.int .i64 (at_:Int)) (by decide) (Upd.refl _ _) (by simp[wiV]) (by kernel_rfl))
  ·cases ho
   have t40:tmps[40]?.getD undef=.bool false:=hI.val (21,40,_) (by simp[wiV]) (hd ⟨21,.guard⟩ (by simp) rfl)
   have tg:=tm_some t40
   clear t40
   refine wpOp_step rfl (fun K hK=>?_)
   go_simp
   exact hK _ _ (hI.val_step 24 43 (.pointer (some ⟨sb,1,none⟩)) (by decide) (Upd.refl _ _) (by simp[wiV]) (by kernel_rfl))
  ·cases ho
   have t43:tmps[43]?.getD undef=.pointer (some ⟨sb,1,none⟩):=hI.val (24,43,_) (by simp[wiV]) (hd ⟨24,.data⟩ (by simp) rfl)
   have t40:tmps[40]?.getD undef=.bool false:=hI.val (21,40,_) (by simp[wiV]) (hd ⟨21,.guard⟩ (by simp) rfl)
   have tg:=tm_some t40
   clear t40
   refine wpOp_step rfl (fun K hK=>?_)
   go_simp
   exact hK _ _ (hI.val_step 25 44 (.int .i64 (us:Int)) (by decide) (Upd.refl _ _) (by simp[wiV]) (by kernel_rfl))
  ·cases ho
   have t40:tmps[40]?.getD undef=.bool false:=hI.val (21,40,_) (by simp[wiV]) (hd ⟨21,.guard⟩ (by simp) rfl)
   have tg:=tm_some t40
   clear t40
   refine wpOp_step rfl (fun K hK=>?_)
   go_simp
   exact hK _ _ (hI.val_step 26 45 (.pointer (some ⟨pb,2,none⟩)) (by decide) (Upd.refl _ _) (by simp[wiV]) (by kernel_rfl))
  ·cases ho
   have t45:tmps[45]?.getD undef=.pointer (some ⟨pb,2,none⟩):=hI.val (26,45,_) (by simp[wiV]) (hd ⟨26,.data⟩ (by simp) rfl)
   have t40:tmps[40]?.getD undef=.bool false:=hI.val (21,40,_) (by simp[wiV]) (hd ⟨21,.guard⟩ (by simp) rfl)
   have tg:=tm_some t40
   clear t40
   refine wpOp_step rfl (fun K hK=>?_)
   go_simp
   exact hK _ _ (hI.val_step 27 46 (.int .i64 (ln:Int)) (by decide) (Upd.refl _ _) (by simp[wiV]) (by kernel_rfl))
  ·cases ho
   have t44:tmps[44]?.getD undef=.int .i64 (us:Int):=hI.val (25,44,_) (by simp[wiV]) (hd ⟨25,.data⟩ (by simp) rfl)
   have t46:tmps[46]?.getD undef=.int .i64 (ln:Int):=hI.val (27,46,_) (by simp[wiV]) (hd ⟨27,.data⟩ (by simp) rfl)
   have t40:tmps[40]?.getD undef=.bool false:=hI.val (21,40,_) (by simp[wiV]) (hd ⟨21,.guard⟩ (by simp) rfl)
   have tg:=tm_some t40
   clear t40
   refine wpOp_step rfl (fun K hK=>?_)
   go_simp
   exact hK _ _ (hI.val_step 28 47 (.int .i64 ((us:Int)-(ln:Int))) (by decide) (Upd.refl _ _) (by simp[wiV]) (by kernel_rfl))
  ·cases ho
   have t42:tmps[42]?.getD undef=.int .i64 (at_:Int):=hI.val (23,42,_) (by simp[wiV]) (hd ⟨23,.data⟩ (by simp) rfl)
   have t47:tmps[47]?.getD undef=.int .i64 ((us:Int)-(ln:Int)):=hI.val (28,47,_) (by simp[wiV]) (hd ⟨28,.data⟩ (by simp) rfl)
   have t40:tmps[40]?.getD undef=.bool false:=hI.val (21,40,_) (by simp[wiV]) (hd ⟨21,.guard⟩ (by simp) rfl)
   have tg:=tm_some t40
   clear t40
   refine wpOp_step rfl (fun K hK=>?_)
   go_simp
   exact hK _ _ (hI.val_step 29 48 (.bool false) (by decide) (Upd.refl _ _) (by simp[wiV]) (by kernel_rfl))
  ·cases ho
   have t40:tmps[40]?.getD undef=.bool false:=hI.val (21,40,_) (by simp[wiV]) (hd ⟨21,.data⟩ (by simp) rfl)
   have t48:tmps[48]?.getD undef=.bool false:=hI.val (29,48,_) (by simp[wiV]) (hd ⟨29,.data⟩ (by simp) rfl)
   refine wpOp_step rfl (fun K hK=>?_)
   go_simp
   exact hK _ _ (hI.val_step 30 49 (.bool false) (by decide) (Upd.refl _ _) (by simp[wiV]) (by kernel_rfl))
 ·intro L tmps w4 hI hall
  have hat:=hI.fin rfl (fun t ht=>hall _ (by have h9:=List.all_eq_true.1 (show((wiV pb sb st us at_ ln).all fun t=>decide (t.1<31))=true from rfl) t ht;simpa using h9))
  have hu4:=hI.upd
  clear hI hall
  simp only[wiV,List.map_cons,List.map_nil,sets,List.setIfInBounds_toArray,List.set_cons_zero,List.set_cons_succ] at hat
  rw[hat]
  clear hat tmps
 --END
  have hb6:=(hu4.block _ (blk_lt (w:=w5.drew) HB5.out) (by simp)).trans HB5.out
  have hbr6:=(hu4.block _ (blk_lt (w:=w5.drew) HBR5.out) (by simp)).trans HBR5.out
  have u0:w4.cell? ⟨sb,0,none⟩=some (.int .i64 (st:Int)):=by rw[blk_cell hb6];rfl
  have u1:w4.cell? ⟨sb,1,none⟩=some (.int .i64 (us:Int)):=by rw[blk_cell hb6];rfl
  have u2:w4.cell? ⟨sb,2,none⟩=some (.int .i64 (lv:Int)):=by rw[blk_cell hb6];rfl
  have r0:w4.cell? ⟨pb+1,0,none⟩=some (.int .i64 0):=by rw[blk_cell hbr6];rfl
  have r1:w4.cell? ⟨pb+1,1,none⟩=some (.int .i64 0):=by rw[blk_cell hbr6];rfl
  have r2:w4.cell? ⟨pb+1,2,none⟩=some (.int .i64 0):=by rw[blk_cell hbr6];rfl
  have f0:=blk_free hbr6 0
  have f1:=blk_free hbr6 1
  have f2:=blk_free hbr6 2
  have H6:=Lib.hid (H5.out.below ((Upd.refl [] w5).drew.trans hu4))
  have HU6:=Lib.hid (HU5.out.trans (((Upd.refl [] w5).drew.trans hu4).mono (by simp)))
  have HBR6:=Lib.hid hbr6
  clear hb6 hbr6 hu4 m0 m1 n1 n2
  go_wp2_with fail
  refine bodyPost_ret (results_st (p:=4) (u:=5) (by rfl) _ _ (pb+1) (.int .i64 (st:Int)) (.int .i64 (us:Int)) (.int .i64 (lv:Int)) (by rfl) (blk_set (blk_set (blk_set HBR6.out 0 _) 1 _) 2 _)) (by rfl) ?_
  have hpb:=HPB.out
  have hu7:Upd [pb+1] w4 (((w4.setCell ⟨pb+1,0,none⟩ (.int .i64 (st:Int))).setCell ⟨pb+1,1,none⟩ (.int .i64 (us:Int))).setCell ⟨pb+1,2,none⟩ (.int .i64 (lv:Int))):=(Upd.refl _ _).three _ _ _ (.inl (List.mem_singleton.2 rfl))
  exact⟨rfl,H6.out.res HLT.out (by omega) HBR6.out (by decide) hu7,HU6.out.late hu7 (fun i hi=> .inr (by simp at hi;omega))⟩
end Go.Proofs.YtgfbepakonjbnaaGreat
end
section
set_option linter.unusedSimpArgs false
set_option linter.unusedVariables false
namespace Go.Proofs.YtgfbepakonjbnaaGreat
open Go.RowKit Go.MapKept Go.ChangeMaps
set_option maxRecDepth 100000 in
set_option maxHeartbeats 4000000 in
theorem drop_pkS{w:World}{g:Sg}{M:Nat→Option Sec}{K:Nat→Option Pk}(h:SpAt w g M)(hk:PksAt (g.cur M) g.h (g.T M) K)(hh:20≤g.h)(hh2:g.h≤4096)(hc:cntM M g.h+2≤40){n:Nat}{p:Pk}(hp:K n=some p)(at_ ln:Nat)(h46:46≤ln)(hal:at_+ln≤p.data.length)(hlv0:ln≤p.live) :
  Calls Tryz.prog 83 #[.pointer (some ⟨g.x.tb,0,none⟩),plV (n,at_,ln)] w fun e w'=>∃M' K',e=.returned (.int .i64 0)∧SpAt w' g M'∧PksAt (g.cur M') g.h (g.T M') K'∧DropOut K (g.T M) n ln K' (g.T M')∧(∀i,i≠1→i≠2→i≠3→M' i=M i)∧cntM M' g.h≤cntM M g.h+2∧Upd g.S w w':=by
 have hlt:=h.lt
 have hlow:=hk.low n p hp
 have hn64:=hk.lt hp
 obtain⟨st,hst⟩:∃st,st=p.start:=⟨_,rfl⟩
 obtain⟨us,hus⟩:∃us,us=p.data.length:=⟨_,rfl⟩
 obtain⟨lv,hlv⟩:∃lv,lv=p.live:=⟨_,rfl⟩
 obtain⟨df,hdf⟩:∃df,df=lv-ln:=⟨_,rfl⟩
 obtain⟨pb,hpb⟩:∃pb,pb=w.heap.size:=⟨_,rfl⟩
 obtain⟨w1,hw1⟩:∃w1,w1=w.alloc (.cells #[.int .i64 (n:Int),.int .i64 (at_:Int),.int .i64 (ln:Int)] 92):=⟨_,rfl⟩
 have hu1:Upd [] w w1:=by rw[hw1];exact(Upd.refl _ _).alloc _
 have hbp:w1.heap[pb]?=some (.cells #[.int .i64 (n:Int),.int .i64 (at_:Int),.int .i64 (ln:Int)] 92 (0,0)):=by rw[hw1,hpb];exact blk_alloc _
 have hwi:=within_spec (h.below hu1) hk hh hh2 hp at_ ln h46 hal
 unfold stV plV at hwi
 dsimp only at hwi
 rw[← hst,← hus,← hlv] at hwi hlow
 rw[← hlv] at hlv0
 have HWI:=Lib.hid hwi
 have HK:=Lib.hid hk
 have HP:=Lib.hid hp
 have H:=Lib.hid h
 have HLT:=Lib.hid hlt
 have HU1:=Lib.hid hu1
 have HBP:=Lib.hid hbp
 have HPB:=Lib.hid hpb
 have HW1:=Lib.hid hw1
 have HST:=Lib.hid hst
 have HUS:=Lib.hid hus
 have HLV:=Lib.hid hlv
 have HDF:=Lib.hid hdf
 have p0:w1.cell? ⟨pb,0,none⟩=some (.int .i64 (n:Int)):=by rw[blk_cell hbp];rfl
 have p1:w1.cell? ⟨pb,1,none⟩=some (.int .i64 (at_:Int)):=by rw[blk_cell hbp];rfl
 have p2:w1.cell? ⟨pb,2,none⟩=some (.int .i64 (ln:Int)):=by rw[blk_cell hbp];rfl
 have eDF:(lv:Int)-(ln:Int)=(df:Int):=by omega
 have hdf2:df≤us:=by omega
 clear h hlt hk hp hst hus hlv hpb hw1 hu1 hbp hwi hdf hal
 unfold plV
 go_enter Tryz.func83,Tryz.ntmps83
 go_upto_region 1 with(fail)
 have hw1:=HW1.out
 have hpb:=HPB.out
 rw[← hw1,← hpb]
 clear hw1 hpb
 go_wp2_with fail
 refine HWI.out.mono ?_
 rintro e w4 ⟨rfl,h4,hu4⟩
 have hnS:∀i,pb≤i→i∉g.S:=fun i hi q=>by have:=HLT.out.1 i q;have:=HPB.out;omega
 have hbp4:=(hu4.block _ (blk_lt HBP.out) (fun q=>hnS _ (Nat.le_refl _) (g.mem _ q))).trans HBP.out
 obtain⟨w5,hw5⟩:∃w5,w5=w4.alloc (.cells #[.int .i64 (st:Int),.int .i64 (us:Int),.int .i64 (lv:Int)] 200):=⟨_,rfl⟩
 obtain⟨sb,hsb⟩:∃sb,sb=w4.heap.size:=⟨_,rfl⟩
 have hu5:Upd [] w4 w5:=by rw[hw5];exact(Upd.refl _ _).alloc _
 have hb5:w5.heap[sb]?=some (.cells #[.int .i64 (st:Int),.int .i64 (us:Int),.int .i64 (lv:Int)] 200 (0,0)):=by rw[hw5,hsb];exact blk_alloc _
 have hbp5:=(hu5.block _ (blk_lt hbp4) (by simp)).trans hbp4
 have hps:pb<sb:=by have:=blk_lt hbp4;omega
 have h5:=h4.below hu5
 obtain⟨w6,hw6⟩:∃w6,w6=w5.setCell ⟨sb,2,none⟩ (.int .i64 (df:Int)):=⟨_,rfl⟩
 have hu6:Upd [sb] w5 w6:=by rw[hw6];exact(Upd.refl _ _).set _ (by simp)
 have hb6:w6.heap[sb]?=some (.cells #[.int .i64 (st:Int),.int .i64 (us:Int),.int .i64 (df:Int)] 200 (0,0)):=by rw[hw6];exact blk_set hb5 2 _
 have hbp6:=(hu6.block _ (blk_lt hbp5) (by simp;omega)).trans hbp5
 have h6:SpAt w6 g M:=h5.res HLT.out (by have:=HPB.out;omega) hb5 (by decide) hu6
 have hU6:Upd g.S w w6:=(((HU1.out.mono (by simp)).trans (hu4.mono g.mem)).trans (hu5.mono (by simp))).late hu6 (fun i hi=> .inr (by have:=HPB.out;simp at hi;omega))
 have m2:w5.cell? ⟨sb,2,none⟩=some (.int .i64 (lv:Int)):=by rw[blk_cell hb5];rfl
 have q2:w5.cell? ⟨pb,2,none⟩=some (.int .i64 (ln:Int)):=by rw[blk_cell hbp5];rfl
 have f2:=blk_free hb5 2
 have n0:w6.cell? ⟨sb,0,none⟩=some (.int .i64 (st:Int)):=by rw[blk_cell hb6];rfl
 have n1:w6.cell? ⟨sb,1,none⟩=some (.int .i64 (us:Int)):=by rw[blk_cell hb6];rfl
 have n2:w6.cell? ⟨sb,2,none⟩=some (.int .i64 (df:Int)):=by rw[blk_cell hb6];rfl
 have k0:w6.cell? ⟨pb,0,none⟩=some (.int .i64 (n:Int)):=by rw[blk_cell hbp6];rfl
 have t1:decide ((lv:Int)<(ln:Int))=false:=decide_eq_false (by omega)
 have t1':decide (lv<ln)=false:=decide_eq_false (by omega)
 have H6:=Lib.hid h6
 have HU6:=Lib.hid hU6
 have HB6:=Lib.hid hb6
 have HBP6:=Lib.hid hbp6
 have HW5:=Lib.hid hw5
 have HW6:=Lib.hid hw6
 have HSB:=Lib.hid hsb
 clear p0 p1 p2 h4 hu4 hbp4 hw5 hsb hu5 hb5 hbp5 h5 hw6 hu6 hb6 hbp6 h6 hU6
 go_upto_region 2 with(fail)
 have hw5:=HW5.out
 have hsb:=HSB.out
 rw[← hw5,← hsb]
 clear hw5 hsb
 go_upto_region 7 with(fail)
 have hw6:=HW6.out
 rw[← hw6]
 clear hw6 m2 q2 f2
 by_cases h0:df=0
 ·
  have t2:((df:Int) == 0)=true:=by rw[beq_iff_eq];omega
  have hfr:=free_ok H6.out (by omega) hh2 (.inr (by omega)) st 16 (by omega) (by omega) (by omega) (by omega) (fun q hq=>by rw[HST.out];exact HK.out.taken n p HP.out q hq)
  have hl1:=H6.out.cur_len 1
  have hT1:∀i,g.T (put1 M (setR (fixB (g.cur M 1)) st false 16)) i=if st≤i∧i<st+16 then false else g.T M i:=fun i=>Sg.T_turn hl1 false (by omega) (by omega) i
  obtain⟨M1,hM1⟩:∃M1,M1=put1 M (setR (fixB (g.cur M 1)) st false 16):=⟨_,rfl⟩
  have hk1:∀i,i≠1→M1 i=M i:=fun i hi=>by rw[hM1];unfold put1;rw[if_neg hi]
  rw[← hM1] at hfr hT1
  have HFR:Hid (Calls Tryz.prog 129 #[.pointer (some ⟨g.x.tb,0,none⟩),.int .i64 (st:Int),.int .i64 16] w6 fun e w'=>e=.returned (.int .i64 0)∧SpAt w' g M1∧Upd g.S w6 w'):=Lib.hid hfr
  have HT1:=Lib.hid hT1
  have HK1:=Lib.hid hk1
  clear hfr hT1 hk1 hM1 hl1
  go_wp2_with fail
  refine HFR.out.mono ?_
  rintro e w7 ⟨rfl,h7,hu7⟩
  have hb7:=(hu7.block _ (blk_lt HB6.out) (hnS _ (by omega))).trans HB6.out
  have hbp7:=(hu7.block _ (blk_lt HBP6.out) (hnS _ (Nat.le_refl _))).trans HBP6.out
  obtain⟨w8,hw8⟩:∃w8,w8=((w7.setCell ⟨sb,0,none⟩ (.int .i64 0)).setCell ⟨sb,1,none⟩ (.int .i64 0)).setCell ⟨sb,2,none⟩ (.int .i64 0):=⟨_,rfl⟩
  have hu8:Upd [sb] w7 w8:=by rw[hw8];exact(Upd.refl _ _).three _ _ _ (.inl (List.mem_singleton.2 rfl))
  have hb8:w8.heap[sb]?=some (.cells #[.int .i64 0,.int .i64 0,.int .i64 0] 200 (0,0)):=by rw[hw8];exact blk_set (blk_set (blk_set hb7 0 _) 1 _) 2 _
  have hbp8:=(hu8.block _ (blk_lt hbp7) (by simp;omega)).trans hbp7
  have h8:SpAt w8 g M1:=h7.res HLT.out (by have:=HPB.out;omega) hb7 (by decide) hu8
  have hc1:cntM M1 g.h≤cntM M g.h+1:=by
   have ht:Touch M M1 [1]:=fun i hi=>by
    by_cases e:i=1
    ·right;simp[e]
    ·rw[HK1.out i e] at hi;exact .inl hi
   exact ht.cnt H.out.ok h8.ok
  have hnt:=noteP_spec h8 (by omega) 0 0 0 n (by omega) (by omega) (by omega) hn64 (.inr (by omega))
  unfold stV at hnt
  have HNT:Hid (Calls Tryz.prog 170 #[.agg #[.int .i64 0,.int .i64 0,.int .i64 0],.pointer (some ⟨g.x.tb,0,none⟩),.int .i64 (n:Int)] w8 fun e w'=>e=.returned (.int .i64 0)∧SpAt w' g (wr1 M1 (2+n / 32) (putE (g.cur M1 (2+n / 32)) (16*(n % 32)) 0 0 0))∧Upd g.S w8 w'):=Lib.hid hnt
  have a0:w7.cell? ⟨sb,0,none⟩=some (.int .i64 (st:Int)):=by rw[blk_cell hb7];rfl
  have a1:w7.cell? ⟨sb,1,none⟩=some (.int .i64 (us:Int)):=by rw[blk_cell hb7];rfl
  have a2:w7.cell? ⟨sb,2,none⟩=some (.int .i64 (df:Int)):=by rw[blk_cell hb7];rfl
  have g0:=blk_free hb7 0
  have g1:=blk_free hb7 1
  have g2:=blk_free hb7 2
  have HU8:=Lib.hid ((HU6.out.trans hu7).late hu8 (fun i hi=> .inr (by have:=HPB.out;simp at hi;omega)))
  have HB8:=Lib.hid hb8
  have HBP8:=Lib.hid hbp8
  have H8:=Lib.hid h8
  have HW8:=Lib.hid hw8
  clear n0 n1 n2 k0 h7 hu7 hb7 hbp7 hw8 hu8 hb8 hbp8 h8 hnt
  go_upto_region 12 with(fail)
  have hw8:=HW8.out
  rw[← hw8]
  clear hw8 a0 a1 a2 g0 g1 g2
  have a0:w8.cell? ⟨sb,0,none⟩=some (.int .i64 0):=by rw[blk_cell HB8.out];rfl
  have a1:w8.cell? ⟨sb,1,none⟩=some (.int .i64 0):=by rw[blk_cell HB8.out];rfl
  have a2:w8.cell? ⟨sb,2,none⟩=some (.int .i64 0):=by rw[blk_cell HB8.out];rfl
  have b0:w8.cell? ⟨pb,0,none⟩=some (.int .i64 (n:Int)):=by rw[blk_cell HBP8.out];rfl
  go_wp2_with fail
  refine HNT.out.mono ?_
  rintro e w9 ⟨rfl,h9,hu9⟩
  have H9:=Lib.hid h9
  have HU9:=Lib.hid (HU8.out.trans hu9)
  clear h9 hu9
  go_wp2_with fail
  go_ret
  have hst:=HST.out
  have hT2:g.T (wr1 M1 (2+n / 32) (putE (g.cur M1 (2+n / 32)) (16*(n % 32)) 0 0 0))=g.T M1:=T_wr1 g M1 _ (by omega)
  have hc23:g.cur M1 (2+n / 32)=g.cur M (2+n / 32):=cur_congr g (HK1.out _ (by omega))
  refine⟨wr1 M1 (2+n / 32) (putE (g.cur M1 (2+n / 32)) (16*(n % 32)) 0 0 0),setP K n Option.none,rfl,H9.out,?_,⟨p,HP.out,by rw[← HLV.out];exact hlv0,.inl ⟨by have:=HDF.out;have:=HLV.out;omega,rfl,fun i=>by rw[hT2,HT1.out i,hst]⟩⟩,fun i i1 i2 i3=>by rw[wr1_ne (by omega)];exact HK1.out i i1,?_,HU9.out⟩
  ·refine HK.out.noteNo hn64 (fun i=>H9.out.cur_len i) (by rw[cur_wr1,if_pos rfl,hc23]) (fun i i1 i2=>by rw[cur_wr1,if_neg i2];exact cur_congr g (HK1.out i (by omega))) (fun m q hq hm i hi=>?_)
   rw[hT2,HT1.out]
   have hap:=HK.out.apart m q n p hq HP.out hm
   rw[if_neg (by rw[hst];omega)]
   exact HK.out.taken m q hq i hi
  ·have ht:Touch M (wr1 M1 (2+n / 32) (putE (g.cur M1 (2+n / 32)) (16*(n % 32)) 0 0 0)) [1,2+n / 32]:=fun i hi=>by
    by_cases e:i=2+n / 32
    ·right;simp[e]
    ·rw[wr1_ne e] at hi
     by_cases e2:i=1
     ·right;simp[e2]
     ·rw[HK1.out i e2] at hi;exact .inl hi
   exact ht.cnt H.out.ok H9.out.ok
 ·
  have t2:((df:Int) == 0)=false:=by rw[beq_eq_false_iff_ne];omega
  have hnt:=noteP_spec H6.out (by omega) st us df n (by omega) (by omega) (by omega) hn64 (.inr (by omega))
  unfold stV at hnt
  have HNT:=Lib.hid hnt
  clear hnt
  go_wp2_with fail
  refine HNT.out.mono ?_
  rintro e w7 ⟨rfl,h7,hu7⟩
  have H7:=Lib.hid h7
  have HU7:=Lib.hid (HU6.out.trans hu7)
  clear h7 hu7
  go_wp2_with fail
  go_ret
  have hst:=HST.out
  have hT2:g.T (wr1 M (2+n / 32) (putE (g.cur M (2+n / 32)) (16*(n % 32)) st us df))=g.T M:=T_wr1 g M _ (by omega)
  refine⟨wr1 M (2+n / 32) (putE (g.cur M (2+n / 32)) (16*(n % 32)) st us df),setP K n (some ⟨p.start,p.data,p.live-ln⟩),rfl,H7.out,?_,⟨p,HP.out,by rw[← HLV.out];exact hlv0,.inr ⟨by have:=HDF.out;have:=HLV.out;omega,rfl,hT2⟩⟩,fun i i1 i2 i3=>wr1_ne (by omega),?_,HU7.out⟩
  ·rw[hT2]
   refine HK.out.note (p':=⟨p.start,p.data,p.live-ln⟩) hh2 (HK.out.ext HP.out) rfl (fun i=>H7.out.cur_len i) ⟨by show p.data.length≤8192;rw[← HUS.out];omega,by show p.live-ln≤p.data.length;rw[← HUS.out,← HLV.out,← HDF.out];exact hdf2⟩ ?_ ?_ (fun i i1 i2=>by rw[cur_wr1,if_neg i1])
   ·show PkD _ p.start p.data
    exact(HK.out.data n p HP.out).congr (by rw[← HUS.out];omega) (fun i i1 i2=>by rw[cur_wr1,if_neg (by omega)])
   ·rw[cur_wr1,if_pos rfl]
    show putE _ _ st us df=putE _ _ p.start p.data.length (p.live-ln)
    rw[← HUS.out,← HLV.out,← HDF.out,hst]
  ·have ht:Touch M (wr1 M (2+n / 32) (putE (g.cur M (2+n / 32)) (16*(n % 32)) st us df)) [2+n / 32]:=fun i hi=>by
    by_cases e:i=2+n / 32
    ·right;simp[e]
    ·rw[wr1_ne e] at hi;exact .inl hi
   have:=ht.cnt H.out.ok H7.out.ok
   rw[List.length_singleton] at this
   omega
end Go.Proofs.YtgfbepakonjbnaaGreat
end
end
section
namespace Go.Proofs.YtgfbepakonjbnaaGreat
open Go.ChangeShapes Go.WideShapes Go.ChangeAt Go.RowKit
section
theorem own:ownKnob Tryz.prog.godebug=none:=by kernel_rfl
theorem laidOut:laidOutB Tryz.prog=true:=by kernel_rfl
section
variable {H:Type} {enc:TypeId × Value→H}
theorem trodAll_carry{W W':World}(hb:Below W.heap.size W W')(sp:Nat→Bool):∀(ts:List TypeId) (vs:List Value) (ds:List (DataW H)) (ps:List MemPlace),DataW.TrodAll enc Tryz.prog W 0 (fun _=>true) true ts vs ds ps→
  (∀t∈ts,Tryz.prog.readableRec t=true∧t<Tryz.prog.types.size)→(∀x∈ps,x.block<W.heap.size)→(∀x∈ps,sp x.block=true)→DataW.TrodAll enc Tryz.prog W' 0 sp true ts vs ds ps
 | [],[],[],ps,h,_,_,_=>h
 | [],[],_ :: _,_,h,_,_,_=>h.elim
 | [],_ :: _,_,_,h,_,_,_=>h.elim
 | _ :: _,[],_,_,h,_,_,_=>h.elim
 | _ :: _,_ :: _,[],_,h,_,_,_=>h.elim
 | t :: ts,v :: vs,d :: ds,ps,h,ht,hlt,hsp=>by
  obtain⟨p,q,h1,h2,rfl⟩:=h
  refine⟨p,q,?_,trodAll_carry hb sp ts vs ds q h2 (fun t q=>ht t (by simp[q])) (fun x q=>hlt x (by simp[q])) (fun x q=>hsp x (by simp[q])),rfl⟩
  obtain⟨r1,r2⟩:=ht t (by simp)
  exact WideElems.Trod_stays laidOut r1 r2 h1 (fun x hx=>hb.same (hlt x (by simp[hx]))) (fun x hx=>hsp x (by simp[hx]))
theorem law_post{f:Func}{s:ChangeSpec}{W W':World}{args:Array Value}{ds gs:List (DataW H)}{before:List MemPlace}(hW:DataW.Whole enc Tryz.prog f.params.toList s.vars false W args.toList ds gs before)
  (hvars:s.vars=[]) (hrt:f.resultTypes=#[4]) (hfn:s.fn H (ds++gs) = { results:=[.lit (.bool true)],args:=ds }) (hpar:∀t∈f.params.toList,Tryz.prog.readableRec t=true∧t<Tryz.prog.types.size) (hb:Below W.heap.size W W') :
  s.post enc Tryz.prog f false true false false W args (.bool true) W':=by
 have hlt:∀x∈before,x.block<W.heap.size:=fun x hx=>by simpa using hW.lt x hx
 have hW2:=hW
 obtain⟨p,q,hA,hV,rfl,_,_⟩:=hW2
 rw[hvars] at hV
 obtain⟨rfl,rfl⟩:=trodVars_none hV
 refine⟨ds,[],p ++ [],[],p,[],hW,?_,?_,?_,hb.frame _,fun h=>by simp at h⟩
 ·rw[hfn,hrt]
  exact trodAll_cons_mk (shut_bool Tryz.underlying4 _) trodAll_mk0
 ·rw[hfn]
  exact trodAll_carry hb _ _ _ _ _ hA hpar (fun x hx=>hlt x (by simp[hx])) (fun x hx=>by simpa using hlt x (by simp[hx]))
 ·rw[hfn,hvars];rfl
end
end
end Go.Proofs.YtgfbepakonjbnaaGreat
end
section
namespace Go.Proofs.YtgfbepakonjbnaaGreat
open Go.RowKit
def str(l:List UInt8):ByteArray:=⟨l.toArray⟩
theorem ba_loop(bs:ByteArray):∀(m i:Nat) (r:List UInt8),bs.size-i=m→ByteArray.toList.loop bs i r=r.reverse++bs.data.toList.drop i:=by
 intro m
 induction m with
 | zero=>
  intro i r h
  rw[ByteArray.toList.loop]
  have hi:¬i<bs.size:=by omega
  rw[if_neg hi,List.drop_eq_nil_of_le (by simp;omega)];simp
 | succ m ih=>
  intro i r h
  rw[ByteArray.toList.loop]
  have hi:i<bs.size:=by omega
  rw[if_pos hi,ih (i+1) _ (by omega)]
  have hl:i<bs.data.toList.length:=by simpa using hi
  rw[List.drop_eq_getElem_cons hl]
  have e:bs.get! i=bs.data.toList[i]:=by simp[ByteArray.get!,hi]
  rw[e];simp
theorem str_toList(l:List UInt8):(str l).toList=l:=by
 unfold ByteArray.toList
 rw[ba_loop _ (str l).size 0 [] (by omega)];simp[str]
theorem str_eq{a b:List UInt8}(h:a=b):((str a).toList == (str b).toList)=true:=by rw[str_toList,str_toList,h];simp
theorem str_ne{a b:List UInt8}(h:a≠b):((str a).toList == (str b).toList)=false:=by rw[str_toList,str_toList];simpa using h
theorem run_str{w:World}{v:Value}{l:List UInt8}(h:Rd w v l)(hl:0<l.length):(convert 32 9 v).run Tryz.prog w=.ok (.string (str l)) w:=by
 obtain⟨ao,cap,rfl,hc,hh⟩:=h
 obtain⟨b,off,rfl,hcell⟩:=hh hl
 have hsz:(str l).size=l.length:=by simp[str,ByteArray.size]
 have:=Lib.run_convert_whole (P:=Tryz.prog) w 32 5 9 Tryz.underlying32 Tryz.underlying5 Tryz.underlying9 b off (str l) (fun i hi=>by
  rw[hsz] at hi
  rw[hcell i hi]
  rfl) cap
 rw[hsz] at this
 exact this
def hl(H:Nat→Sec)(k:Nat):List (List UInt8):=(List.range k).map H
end Go.Proofs.YtgfbepakonjbnaaGreat
namespace Go.Proofs.YtgfbepakonjbnaaGreat
open Go.RowKit
end Go.Proofs.YtgfbepakonjbnaaGreat
namespace Go.Proofs.YtgfbepakonjbnaaGreat
open Go.ChangeShapes Go.WideShapes Go.ChangeAt Go.RowKit Go.Deep
section
variable {H:Type} {enc:TypeId × Value→H} {W:World}
end
end Go.Proofs.YtgfbepakonjbnaaGreat
end
section
set_option linter.unusedSimpArgs false
set_option linter.unusedVariables false
namespace Go.Proofs.YtgfbepakonjbnaaGreat
open Go.RowKit Go.MapKept Go.ChangeMaps
section
attribute [-go_sem] loadCells storeCells Instr.build
set_option maxRecDepth 100000 in
theorem equal_spec{w:World}{va vb:Value}{a b:List UInt8}(ha:Rd w va a)(hb:Rd w vb b)(ha0:0<a.length)(hb0:0<b.length) :
  Calls Tryz.prog 226 #[va,vb] w fun e w'=>e=.returned (.bool (decide (a=b)))∧w=w':=by
 have c1:=run_str ha ha0
 have c2:=run_str hb hb0
 obtain⟨aa,ca,rfl,_⟩:=ha
 obtain⟨ab,cb,rfl,_⟩:=hb
 go_enter Tryz.func226,Tryz.ntmps226
 go_wp2_with fail
 go_ret
 refine⟨?_,rfl⟩
 by_cases h:a=b
 ·rw[str_eq h,decide_eq_true h];rfl
 ·rw[str_ne h,decide_eq_false h];rfl
theorem Rd.sub{w:World}{bk off cap:Nat}{f:List UInt8}(h:Rd w (.slice (some ⟨bk,off,none⟩) f.length cap) f)(i n c:Nat)(hi:i+n≤f.length)(hc:n≤c):Rd w (.slice (some ⟨bk,off+i,none⟩) n c) ((f.drop i).take n):=by
 obtain⟨ao,cp,e,hcp,hh⟩:=h
 cases e
 have hl:((f.drop i).take n).length=n:=by rw[List.length_take,List.length_drop];omega
 refine⟨_,_,by rw[hl],by rw[hl];exact hc,fun hp=>?_⟩
 rw[hl] at hp
 obtain⟨b,o,e,hcell⟩:=hh (by omega)
 cases e
 refine⟨_,_,rfl,fun k hk=>?_⟩
 rw[hl] at hk
 have:=hcell (i+k) (by omega)
 rw[List.getElem_take,List.getElem_drop,Nat.add_assoc];exact this
theorem frameB_parts{key b rest:List UInt8}(hk:key.length=32)(hb:b.length<4294967296) :
  (frameB key b++rest)[0]?=some 199∧(frameB key b++rest)[1]?=some 70∧num (frameB key b++rest) 2 4=b.length∧(((frameB key b++rest).drop 14).take 32)=key∧(((frameB key b++rest).drop 46).take b.length)=b∧(((frameB key b++rest).drop 6).take 8)=chk key b:=by
 have e:frameB key b++rest=[199,70]++(be 4 b.length++(chk key b++(key++(b++rest)))):=by unfold frameB;simp only[List.append_assoc]
 have h4:=be_length 4 b.length
 have h8:=chk_length key b
 rw[e]
 refine⟨rfl,rfl,?_,?_,?_,?_⟩
 ·unfold num
  rw[show([199,70]++(be 4 b.length++(chk key b++(key++(b++rest)))):List UInt8).drop 2=be 4 b.length++(chk key b++(key++(b++rest))) from rfl,List.take_append_of_le_length (by omega),List.take_of_length_le (by omega),beN_be]
  exact Nat.mod_eq_of_lt (by omega)
 ·rw[show(14:Nat)=2+(4+(8+0)) by rfl,← List.append_assoc,← List.append_assoc,List.drop_append_of_le_length (by simp;omega),List.drop_eq_nil_of_le (by simp;omega),List.nil_append,List.take_append_of_le_length (by omega),List.take_of_length_le (by omega)]
 ·rw[← List.append_assoc,← List.append_assoc,← List.append_assoc,List.drop_append_of_le_length (by simp;omega),List.drop_eq_nil_of_le (by simp;omega),List.nil_append,List.take_append_of_le_length (by omega),List.take_of_length_le (by omega)]
 ·rw[← List.append_assoc,List.drop_append_of_le_length (by simp;omega),List.drop_eq_nil_of_le (by simp;omega),List.nil_append,List.take_append_of_le_length (by omega),List.take_of_length_le (by omega)]
theorem BRow.other{w w':World}{B:Nat}{v:Value}{l:List UInt8}(h:BRow w B v l)(hk:∀(k:Nat) (c:Array Value),w.heap[k]?=some (.cells c 5 (0,0))→w'.heap[k]?=w.heap[k]?):BRow w' B v l:=by
 refine⟨h.1,?_⟩
 rcases h.2 with h | ⟨g,cap,cur,hv,hb,hg,r⟩
 ·exact .inl h
 ·exact .inr ⟨g,cap,cur,hv,hb,(hk g cur hg).trans hg,r⟩
theorem results_row_tmp3{fn:Func}{p u v x:Tmp}{ty:TypeId}(h:fn.results=#[.cell p ty,.tmp u,.tmp v,.tmp x])(tmps:Array Value)(w:World)(g:Nat)(cs:Array Value)
  (hp:tmps.getD p undef=.pointer (some ⟨g,0,none⟩)) (hl:(loadVar ty ⟨g,0,none⟩).run Tryz.prog w=.ok (.agg cs) w) :
  (results fn tmps).run Tryz.prog w=.ok (.tuple #[.agg cs,tmps.getD u undef,tmps.getD v undef,tmps.getD x undef]) w:=by
 have hp':tmps[p]?.getD undef=.pointer (some ⟨g,0,none⟩):=by simpa using hp
 simp[results,h,hp',asAddr,hl]
theorem run_toArrW(a:Option Addr)(c:Nat)(w:World):(Instr.arrayAt 35 (.slice a 32 c)).run Tryz.prog w=.ok (.pointer a) w:=by
 simp[Instr.arrayAt,run_underlying Tryz.underlying35]
attribute [local go_sem] run_toArrW
set_option maxRecDepth 100000 in
set_option maxHeartbeats 4000000 in
theorem take_frame{w:World}{v:Value}{key b rest:List UInt8}(hr:Rd w v (frameB key b++rest))(hk:key.length=32)(hb:b.length≤4200)(hrest:rest.length≤100000) :
  Calls Tryz.prog 177 #[v] w fun e w'=>∃x,e=.returned (.tuple #[.agg (bts key).toArray,x,.int .i64 ((46+b.length:Nat):Int),.int .i64 0])∧BRow w' w.heap.size x b∧Upd [] w w':=by
 obtain⟨p0,p1,p2,p3,p4,p5⟩:=frameB_parts (rest:=rest) hk (show b.length<4294967296 by omega)
 obtain⟨f,hf⟩:∃f,f=frameB key b++rest:=⟨_,rfl⟩
 have hfl:f.length=46+b.length+rest.length:=by rw[hf,List.length_append,frameB_length hk]
 rw[← hf] at hr p0 p1 p2 p3 p4 p5
 obtain⟨av,cap,rfl,hcap,hh⟩:=id hr
 obtain⟨bk,off,rfl,hcell⟩:=hh (by omega)
 obtain⟨w1,hw1⟩:∃w1,w1=w.alloc (.cells (bts zb32).toArray 35):=⟨_,rfl⟩
 obtain⟨b2,hb2⟩:∃b2,b2=w.heap.size:=⟨_,rfl⟩
 have hc2:w1.heap[b2]?=some (.cells (bts zb32).toArray 35 (0,0)):=by rw[hw1,hb2];exact blk_alloc _
 have hu1:Upd [] w w1:=by rw[hw1];exact(Upd.refl _ _).alloc _
 have hr1:=hr.below hu1
 have cell1:∀i x,f[i]?=some x→w1.cell? ⟨bk,off+i,none⟩=some (bv x):=fun i x hx=>by
  obtain⟨hi,rfl⟩:=List.getElem?_eq_some_iff.1 hx
  exact cell_updW (hcell i hi) hu1 (by simp)
 have m0:w1.cell? ⟨bk,off,none⟩=some (.int .u8 199):=cell1 0 199 p0
 have m1:w1.cell? ⟨bk,off+1,none⟩=some (.int .u8 70):=cell1 1 70 p1
 have hat:=at_spec _ f 2 4 w1 hr1 (by omega) (by omega) (by omega) (by omega)
 rw[p2] at hat
 have hkey:=hr1.sub 14 32 32 (by omega) (by omega)
 rw[p3] at hkey
 have hdat:=hr1.sub 46 b.length b.length (by omega) (by omega)
 rw[p4] at hdat
 have hsum:=hr1.sub 6 8 (cap-6) (by omega) (by omega)
 rw[p5] at hsum
 obtain⟨N,hN⟩:∃N,N=f.length:=⟨_,rfl⟩
 obtain⟨n,hn⟩:∃n,n=b.length:=⟨_,rfl⟩
 obtain⟨E,hE⟩:∃E,E=46+n:=⟨_,rfl⟩
 rw[← hn] at hat hdat ⊢
 rw[← hN] at hat ⊢
 rw[show((4:Nat):Int)=4 from rfl,show((2:Nat):Int)=2 from rfl] at hat
 rw[← hE]
 have t0:decide ((N:Int)<46)=false:=decide_eq_false (by omega)
 have t1:decide ((4200:Int)<(n:Int))=false:=decide_eq_false (by omega)
 have t2:decide ((N:Int)<(E:Int))=false:=decide_eq_false (by omega)
 have t3:decide (N<E)=false:=decide_eq_false (by omega)
 have e1:IntKind.i64.wrap (46+(n:Int))=(E:Int):=by rw[IntKind.wrap_i64];omega
 have e2:IntKind.i64.wrap (n:Int)=(n:Int):=by rw[IntKind.wrap_i64];omega
 have g0:(0:Int)<N:=by omega
 have g1:(1:Int)<N:=by omega
 have g2:(46:Int)≤N:=by omega
 have g3:(46:Int)≤cap:=by omega
 have g4:(46:Int)≤E:=by omega
 have g5:(E:Int)≤cap:=by omega
 have g6:(14:Int)≤cap:=by omega
 have g7:¬cap=6:=by omega
 have g8:¬cap=14:=by omega
 have HAT:=Lib.hid hat
 have HKEY:=Lib.hid hkey
 have HDAT:=Lib.hid hdat
 have HSUM:=Lib.hid hsum
 have HC2:=Lib.hid hc2
 have HU1:=Lib.hid hu1
 have HW1:=Lib.hid hw1
 have HB2:=Lib.hid hb2
 have HNN:=Lib.hid hn
 have HE:=Lib.hid hE
 have HN:=Lib.hid hN
 clear hr hh hcell hc2 hu1 hr1 cell1 hat hkey hdat hsum hw1 hb2 hn hE hN p0 p1 p2 p3 p4 p5 hf hfl hcap
 go_enter Tryz.func177,Tryz.ntmps177
 go_upto_region 1 with(fail)
 have hw1:=HW1.out
 have hb2:=HB2.out
 rw[zb32_lit,← hw1,← hb2]
 clear hw1 hb2
 go_wp2_with fail
 refine HAT.out.mono ?_
 rintro e w' ⟨rfl,rfl⟩
 go_wp2_with fail
 go_quiet (fail)
 obtain⟨dv,hdv⟩:∃dv,dv=Value.slice (if E=46 then some ⟨bk,off,none⟩ else some ⟨bk,off+46,none⟩) (E-46) (E-46):=⟨_,rfl⟩
 obtain⟨wq,hwq⟩:∃wq,wq=w1.drewN nq:=⟨_,rfl⟩
 rw[← hdv,← hwq]
 have huq:Upd [] w1 wq:=by rw[hwq];exact(Upd.refl _ _).drewN _
 have hdat:Rd w1 dv b:=by
  have e1:=HE.out
  have e2:=HNN.out
  have hd:=HDAT.out
  rw[hdv,show E-46=n by omega]
  by_cases h0:E=46
  ·rw[if_pos h0]
   have hn0:b.length=0:=by omega
   obtain rfl:b=[]:=List.length_eq_zero_iff.1 hn0
   exact⟨_,_,by rw[e2],by simp,fun q=>by simp at q⟩
  ·rw[if_neg h0];exact hd
 have HCK:∀w',Upd [] w1 w'→Calls Tryz.prog 186 #[.slice (some ⟨bk,off+14,none⟩) 32 32,dv] w' fun e w''=>∃g,e=.returned (.slice (some ⟨g,0,none⟩) 8 8)∧w'.heap.size≤g∧Rd w'' (.slice (some ⟨g,0,none⟩) 8 8) (chk key b)∧Upd [] w' w'':=fun w' hu=>check_spec (HKEY.out.below hu) (hdat.below hu) (by omega)
 have HEQ:∀(w':World) g,Upd [] w1 w'→Rd w' (.slice (some ⟨g,0,none⟩) 8 8) (chk key b)→Calls Tryz.prog 226 #[.slice (some ⟨g,0,none⟩) 8 8,.slice (some ⟨bk,off+6,none⟩) 8 (cap-6)] w' fun e w''=>e=.returned (.bool true)∧w'=w'':=fun w' g hu hg=>by
  have:=equal_spec hg (HSUM.out.below hu) (by rw[chk_length];omega) (by rw[chk_length];omega)
  rw[decide_eq_true rfl] at this;exact this
 have HDA:=Lib.hid hdat
 have HUQ:=Lib.hid huq
 have HDV:=Lib.hid hdv
 clear hdv hwq huq hdat
 go_upto_region 12 with(fail)
 go_cut [54] (fun s54 wx=>s54=.bool false∧Upd [] w1 wx)
 case first=>
  go_region_law (first | (go_simp;go_at_call 186;(with_reducible refine(HCK _ ?_).mono ?_);(first | exact HUQ.out.drew | exact HUQ.out);rintro e w' ⟨g,rfl,hg1,hg2,hg3⟩;dsimp only) | (go_simp;go_at_call 226;(with_reducible refine(HEQ _ _ ?_ hg2).mono ?_);(first | exact HUQ.out.drew.trans hg3);rintro e w2 ⟨rfl,rfl⟩;dsimp only))
  all_goals
   go_wp2_with fail
   go_meet
   exact⟨rfl,by first | exact(HUQ.out.drew.trans hg3) | exact(HUQ.out.drew.trans hg3).drew⟩
 case rest=>
  rename World=>wx
  obtain⟨rfl,hux⟩:=hcut
  have hkr:∀w':World,Upd [] w1 w'→(loadCells ⟨bk,off+14,none⟩ 32).run Tryz.prog w'=.ok (bts key).toArray w':=fun w' hu=>by
   have hr:=HKEY.out.below hu
   obtain⟨ao,cp,e,_,hh⟩:=hr
   obtain⟨b',o',e2,hcell⟩:=hh (by omega)
   injection e with q1 q2 q3
   rw[← q1] at e2
   cases e2
   have:=run_loadCells_list (P:=Tryz.prog) w' ⟨bk,off+14,none⟩ (bts key) (fun j v hv=>by
    rw[bts_get] at hv
    obtain⟨c,hc,rfl⟩:=Option.map_eq_some_iff.1 hv
    obtain⟨hj,rfl⟩:=List.getElem?_eq_some_iff.1 hc
    rw[addr_add];exact hcell j hj)
   rwa [bts_length,hk] at this
  have hxd:Upd [] w1 wx.drew:=hux.drew
  have hxa:Upd [] w1 (wx.alloc (.cells #[] 5)).drew:=(hux.alloc _).drew
  have hrow:BRow (wx.alloc (.cells #[] 5)).drew wx.heap.size (.slice (some ⟨wx.heap.size,0,none⟩) 0 0) []:=
   ⟨by simp,.inr ⟨wx.heap.size,0,_,rfl,Nat.le_refl _,blk_alloc (w:=wx) _,by simp,by unfold maxLen;omega,by simp,by simp⟩⟩
  obtain⟨a,c,w',hrun,hown,hu'⟩:=bytes_app hrow (HDA.out.below hxa) (by simp;omega) (by simp)
  rw[List.length_nil,Nat.zero_add] at hrun hown
  rw[List.nil_append] at hown
  have hxw:Upd [] w1 w':=by
   have h0:Upd [] w1 w1:=Upd.refl _ _
   exact hu' w1 hux.size hxa
  have ld0:=hkr _ hxd
  have ld1:=hkr _ hxa
  have ld2:=hkr _ hxw
  have hc2':=(hxw.block _ (blk_lt HC2.out) (by simp)).trans HC2.out
  have st:=store_blkW hc2' (l:=bts key) (by rw[List.size_toArray,bts_length,bts_length,hk];rfl) (bts_one _)
  have hkl:(bts key).length=32:=by rw[bts_length,hk]
  have hik:(Tryz.prog.info? 35).map (·.size)=some (bts key).toArray.size:=by rw[List.size_toArray,bts_length,hk];exact infoI32
  have HX:Hid (w.heap.size≤wx.heap.size):=Lib.hid (Nat.le_trans HU1.out.size hux.size)
  have HOW:=Lib.hid hown
  have HC2W:=Lib.hid hc2'
  have HFU:Hid (Upd [] w (w'.setRow b2 (bts key).toArray)):=Lib.hid (upd_rowW (HU1.out.trans hxw) _ (.inr (by have:=HB2.out;omega)))
  clear hkr hxd hxa hrow hown hu' hxw hc2' hux
  go_wp2_with fail
  go_region_law (first | (refine step_append_run (by rfl) _ _ _ (by rfl) (by rfl) (by rfl) hrun ?_))
  all_goals
   go_wp2_with fail
   have hbe:=setRow_heap _ _ _ (bts key).toArray _ _ HC2W.out
   refine bodyPost_ret (results_row_tmp3 (p:=2) (u:=3) (v:=4) (x:=5) (ty:=35) (by rfl) _ _ b2 _ (by rfl) (run_loadVar_row _ b2 _ _ _ _ _ hbe Tryz.underlying35 rfl hik)) (by rfl) ?_
   refine⟨_,by rw[HE.out,HNN.out];rfl,?_,HFU.out⟩
   refine(HOW.out.low HX.out).other (fun k c e=>setRow_other _ _ _ _ ?_)
   rintro rfl
   rw[HC2W.out] at e
   injection e with e
   injection e with q1 q2
   exact absurd q2 (by decide)
end
end Go.Proofs.YtgfbepakonjbnaaGreat
end
