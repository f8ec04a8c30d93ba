/-
  KeepScans, walked.
-/
import Derived.Test.YtgfbepakonjbnaaGreatV30
set_option maxRecDepth 100000
set_option maxHeartbeats 16000000
section
set_option linter.unusedSimpArgs false
set_option linter.unusedVariables false
namespace Go.Proofs.YtgfbepakonjbnaaGreat
open Go.RowKit Go.MapKept Go.ChangeMaps
section
theorem Bt9{i n:Nat}(h:i<n):Y5 (i:Int) n=i:=by
 unfold Y5;rw[Int.emod_eq_of_lt (by omega) (by omega)];rfl
theorem Cj1(i:Nat)(hi:i<40)(w:World):Calls Tryz.prog 24 #[.int .i64 (i:Int)] w λ e w'=>e=.returned (arr (X1 (i:Int)))/\Upd [] w w':=by
 have:=Be2 (i:Int) w;rw[Bt9 hi] at this;exact this
def Ab2:List (Nat × Nat):=[(0,42),(1,43),(2,44),(3,45),(4,46),(5,47),(6,48),(7,49),(8,50)]
def Cp9(tb I n N bs os cs:Nat)(key:List UInt8)(kz:Int):Nat->Kd
 | 0=> .c (.pointer (some ⟨tb,0,none⟩))
 | 1=> .c (.int .i64 (I:Int))
 | 2=> .c (.agg (bts key).toArray)
 | 3=> .c (.slice (some ⟨bs,os,none⟩) N cs)
 | 4=> .c (.int .i64 (I:Int))
 | 5=> .c (.pointer (some ⟨bs,os+I,none⟩))
 | 6=> .c (.int .i64 kz)
 | 7=> .c (.int .i64 (n:Int))
 | 8=> .f λ w v=>Rd w v (List.replicate n 0)
 | _=> .c undef
theorem Ar9(tb I n N bs os cs:Nat)(key:List UInt8)(kz:Int):∀k,(Cp9 tb I n N bs os cs key kz k).lasts:=by
 intro k;unfold Cp9;split<;>first | trivial | exact λ w w2 v hu h=>Rd.below h hu
attribute [-go_sem] loadCells storeCells Instr.build Instr.buildSlice
theorem Bp0(ks:List Int)(v:Value)(a1:Int)(w:World)(hrd:RdL w [] v (ks.map λ i=> .int .i64 i)):Calls Tryz.prog 4 #[v,.int .i64 a1] w λ e w'=>e=.returned (.bool true)/\Upd [] w w':=by
 obtain⟨av,cv,rfl,hcv⟩:=hrd.shape;rw[List.length_map] at hcv hrd ⊢;have hT:=Au7 (k:=a1) (n:=9) (by omega);have HT:=λ w=>η (Ap1 a1 9 w (by omega) (by omega));generalize Y5 a1 9=pT at *;obtain⟨m,hm⟩:∃m:Nat,m=1+pT:=⟨_,rfl⟩;have hm1:1<=m:=by omega
 have hm2:m<=9:=by omega
 have hwT:IntKind.i64.wrap (1+(pT:Int))=(m:Int):=by rw[IntKind.wrap_i64];omega
 have hwT2:wrap64 (1+(pT:Int))=(m:Int):=by unfold wrap64;omega
 rw[show((9:Nat):Int)=9 from rfl] at HT;have HRD:=η hrd;have HM:=η (λ w=>Ay4 900 100 900 100 rfl rfl (by omega) (by omega) (by omega) (by omega) (by omega) w);clear hm hT hrd;go_enter Tryz.func4,Tryz.ntmps4
 go_wp2_with fail
 refine(Bo6 w).mono ?_;rintro e w1 ⟨rfl,hu1⟩;have HU1:=η hu1;clear hu1;rcases Nat.lt_or_ge 30 ks.length with hgt | hle
 ·have hb1:decide ((30:Int)<(ks.length:Int))=true:=decide_eq_true (by omega);have hb2:decide (30<ks.length)=true:=decide_eq_true hgt;go_wp2_with fail
  go_ret;exact⟨rfl,HU1.out⟩
 have hb1:decide ((30:Int)<(ks.length:Int))=false:=decide_eq_false (by omega);have hb2:decide (30<ks.length)=false:=decide_eq_false (by omega);go_wp2_with fail
 refine(HM.out _).mono ?_;rintro e w2 ⟨j,H0,rfl,hj,hkj,hrow,hu2⟩;have HJ:Hid (∀k,k∈j.all->w.heap.size<=k):=by show ∀k,_;exact λ k hk=>Nat.le_trans HU1.out.size (hj k hk)
 have HKJ:=η hkj;have HRM:=η hrow;have HU2:=η (HU1.out.trans hu2);clear hj hkj hrow hu2;go_wp2_with fail
 go_loopw [7] (λ i wr=>∃(I m:Nat) (H:Nat->Sec) (S:List Nat) (K:Nat->Option Pk) (R:List Rc),i=.int .i64 (I:Int)/\I<=ks.length/\m<=I/\Hid (Cj2 wr j 900 100 (2+I) H S K R)/\Hid (Ak0 S K (λ i=>Y9 (T5 (H 1)) i) m)/\Hid (Bo7 R I)/\Hid (Upd [] w wr)) (λ i _=>201-(intOf i).toNat)
 case atStart=>exact⟨0,0,H0,[],_,[],rfl,by omega,by omega,by have:=HKJ.out;simpa using HKJ,HRM,η Bo7.zero,HU2⟩
 case round=>
  obtain⟨I,mm,H,S,K,R,rfl,hI,hmI,HKJ2,HRM2,HOR,HUW⟩:=hrel;have hS50:4*S.length<=I+3:=by
   have:=HKJ2.out.2.1.tr.size;rw[List.length_map,HOR.out.len] at this;exact this
  have HBG:=η (HKJ2.out.begin HJ.out HUW.out);rcases Nat.lt_or_ge I ks.length with h4 | h4
  ·have cj:decide ((I:Int)<(ks.length:Int))=true:=decide_eq_true (by omega);go_wp2_with fail
   refine HBG.out.mono ?_;rintro e w3 ⟨g,rfl,hkt,hgT,_⟩;have hgh:g.h=798:=hkt.h;have hrm:Ak0 S K (g.T λ _=>none) mm:=by
    have e:(g.T λ _=>none)=λ i=>Y9 (T5 (H 1)) i:=funext hgT;rw[e];exact HRM2.out
   have hSS:=hkt.S HJ.out;have hrd3:RdL w3 [] (.slice av ks.length cv) (ks.map λ i=> .int .i64 i):=HRD.out.upd hkt.upd (by simp);obtain⟨kz,hkz⟩:∃x,ks[I]?=some x:=⟨_,List.getElem?_eq_getElem h4⟩;obtain⟨bs,os,rfl,hc1⟩:=hrd3.cell I (by rw[List.length_map];exact h4);have hc1':w3.cell? ⟨bs,os+I,none⟩=some (.int .i64 kz):=by
    rw[hc1,List.getElem_map];obtain⟨_,e⟩:=List.getElem?_eq_some_iff.1 hkz;rw[e]
   obtain⟨n,hn⟩:∃n,n=Y5 kz 1000:=⟨_,rfl⟩;have hn9:n<1000:=by rw[hn];exact Au7 (by omega)
   have hpz:=λ W=>Ap1 kz 1000 W (by omega) (by omega);rw[← hn,show((1000:Nat):Int)=1000 from rfl] at hpz;obtain⟨xk,hxk⟩:∃x,x=X1 (I:Int):=⟨_,rfl⟩;have hky:=λ W=>Cj1 I (by omega) W;rw[← hxk] at hky;unfold arr at hky;have hnk:=HOR.out.out I (Nat.le_refl _) (by omega);rw[← hxk] at hnk;have hkl:xk.length=32:=by rw[hxk];exact P6 _
   have hroom:4+S.length+16*mm+20<=g.h:=by omega
   have hst:∀W v,Upd [] w3 W->Rd W v (List.replicate n 0)->Calls Tryz.prog 19 #[.pointer (some ⟨g.x.tb,0,none⟩),.agg (bts xk).toArray,v] W λ e w'=>∃M' S' K' y,e=.returned (.int .i64 0)/\B8 w' g M'/\Z3 g (λ _=>none) M' S S' K K' R xk (List.replicate n 0) y/\Upd g.S W w':=λ W v hW hv=>
    Av6 (hkt.sp.below hW) (by omega) (by omega) hkt.kp (by rw[HOR.out.len];omega) xk (List.replicate n 0) v hv hkl (by rw[List.length_replicate];omega) (Ai5.fresh hrm (by omega) hroom hnk)
   have HST:Hid (∀W v,Upd [] w3 W->Rd W v (List.replicate n 0)->Calls Tryz.prog 19 #[.pointer (some ⟨g.x.tb,0,none⟩),.agg (bts xk).toArray,v] W λ e w'=>∃M' S' K' y,e=.returned (.int .i64 0)/\B8 w' g M'/\Z3 g (λ _=>none) M' S S' K K' R xk (List.replicate n 0) y/\Upd g.S W w'):=η hst;have HPZ:=η hpz;have HKY:=η hky;have HC1:=η hc1';have HN9:Hid (n<=100000):=η (by omega);have HKT:=η hkt;have HGH:=η hgh;have HRMg:=η hrm;have HSS:=η hSS;have HNK:=η hnk;have HRO:=η hroom;have HXK:=η hxk;have HI0:(0:Int)<=(I:Int):=by omega
   have HI1:(I:Int)<(ks.length:Int):=by omega
   clear hkt hgT hgh hrm hSS hrd3 hkz hc1 hc1' hn hn9 hpz hxk hky hnk hroom hst;go_upto_region 12 with(fail)
   refine Ae0 9 Ab2 (Cp9 g.x.tb I n ks.length bs os cv xk kz) (by kernel_rfl) (by kernel_rfl) (by kernel_rfl) (by decide) 134 rfl rfl ?_ ?_
   ·intro i o L tmps w' hi ho hI hL hd;have t8:tmps[8]?.getD undef=.pointer (some ⟨g.x.tb,0,none⟩):=(hI.old 8 (by rfl)).trans rfl;have t7:tmps[7]?.getD undef=.int .i64 (I:Int):=(hI.old 7 (by rfl)).trans rfl;have t0:tmps[0]?.getD undef=.slice (some ⟨bs,os,none⟩) ks.length cv:=(hI.old 0 (by rfl)).trans rfl;have hgw:=hI.gw;have c1:=D6 HC1.out hgw (by simp);obtain rfl | rfl | rfl | rfl | rfl | rfl | rfl | rfl | rfl:i=0∨i=1∨i=2∨i=3∨i=4∨i=5∨i=6∨i=7∨i=8:=by omega
    ·cases ho
     refine wpOp_step rfl (λ K hK=>?_);go_simp;exact hK _ _ (hI.ustep (Ar9 g.x.tb I n ks.length bs os cv xk kz) 0 42 (.pointer (some ⟨g.x.tb,0,none⟩)) (by decide) (by kernel_rfl) (Upd.refl _ _) (rfl))
    ·cases ho
     refine wpOp_step rfl (λ K hK=>?_);go_simp;exact hK _ _ (hI.ustep (Ar9 g.x.tb I n ks.length bs os cv xk kz) 1 43 (.int .i64 (I:Int)) (by decide) (by kernel_rfl) (Upd.refl _ _) (rfl))
    ·cases ho
     have t43:tmps[43]?.getD undef=.int .i64 (I:Int):=hI.val (1,43) (by simp[Ab2]) (hd ⟨1,.data⟩ (by simp) rfl);refine wpOp_step rfl (λ K hK=>?_);go_simp;go_at_call 24
     refine(HKY.out w').mono ?_;rintro e w2 ⟨rfl,hu⟩;exact hK _ _ (hI.ustep (Ar9 g.x.tb I n ks.length bs os cv xk kz) 2 44 (.agg (bts xk).toArray) (by decide) (by kernel_rfl) hu (rfl))
    ·cases ho
     refine wpOp_step rfl (λ K hK=>?_);go_simp;exact hK _ _ (hI.ustep (Ar9 g.x.tb I n ks.length bs os cv xk kz) 3 45 (.slice (some ⟨bs,os,none⟩) ks.length cv) (by decide) (by kernel_rfl) (Upd.refl _ _) (rfl))
    ·cases ho
     refine wpOp_step rfl (λ K hK=>?_);go_simp;exact hK _ _ (hI.ustep (Ar9 g.x.tb I n ks.length bs os cv xk kz) 4 46 (.int .i64 (I:Int)) (by decide) (by kernel_rfl) (Upd.refl _ _) (rfl))
    ·cases ho
     have t45:tmps[45]?.getD undef=.slice (some ⟨bs,os,none⟩) ks.length cv:=hI.val (3,45) (by simp[Ab2]) (hd ⟨3,.data⟩ (by simp) rfl);have t46:tmps[46]?.getD undef=.int .i64 (I:Int):=hI.val (4,46) (by simp[Ab2]) (hd ⟨4,.data⟩ (by simp) rfl);refine wpOp_step rfl (λ K hK=>?_);go_simp;exact hK _ _ (hI.ustep (Ar9 g.x.tb I n ks.length bs os cv xk kz) 5 47 (.pointer (some ⟨bs,os+I,none⟩)) (by decide) (by kernel_rfl) (Upd.refl _ _) (rfl))
    ·cases ho
     have t47:tmps[47]?.getD undef=.pointer (some ⟨bs,os+I,none⟩):=hI.val (5,47) (by simp[Ab2]) (hd ⟨5,.data⟩ (by simp) rfl);refine wpOp_step rfl (λ K hK=>?_);go_simp;exact hK _ _ (hI.ustep (Ar9 g.x.tb I n ks.length bs os cv xk kz) 6 48 (.int .i64 kz) (by decide) (by kernel_rfl) (Upd.refl _ _) (rfl))
    ·cases ho
     have t48:tmps[48]?.getD undef=.int .i64 kz:=hI.val (6,48) (by simp[Ab2]) (hd ⟨6,.data⟩ (by simp) rfl);refine wpOp_step rfl (λ K hK=>?_);go_simp;go_at_call 16
     refine(HPZ.out w').mono ?_;rintro e w2 ⟨rfl,rfl⟩;exact hK _ _ (hI.ustep (Ar9 g.x.tb I n ks.length bs os cv xk kz) 7 49 (.int .i64 (n:Int)) (by decide) (by kernel_rfl) (Upd.refl _ _) (rfl))
    ·cases ho
     have t49:tmps[49]?.getD undef=.int .i64 (n:Int):=hI.val (7,49) (by simp[Ab2]) (hd ⟨7,.data⟩ (by simp) rfl);refine wpOp_step rfl (λ K hK=>?_);have mk:=Ax4 n HN9.out w';go_simp;exact hK _ _ (hI.ustep (Ar9 g.x.tb I n ks.length bs os cv xk kz) 8 50 (_) (by decide) (by kernel_rfl) ((Upd.refl _ _).alloc _) ((Bn5 (A4 _) (by simp))))
   ·intro L tmps w' hI hall;have p50:(λ w v=>Rd w v (List.replicate n 0)) w' (tmps[50]?.getD undef):=hI.val (8,50) (by simp[Ab2]) (hall 8 (by decide));obtain⟨v50,e50⟩:∃v,tmps[50]?.getD undef=v:=⟨_,rfl⟩;rw[e50] at p50;try dsimp only at p50
    have hat:=hI.tmps_eq rfl [(42,.pointer (some ⟨g.x.tb,0,none⟩)),(43,.int .i64 (I:Int)),(44,.agg (bts xk).toArray),(45,.slice (some ⟨bs,os,none⟩) ks.length cv),(46,.int .i64 (I:Int)),(47,.pointer (some ⟨bs,os+I,none⟩)),(48,.int .i64 kz),(49,.int .i64 (n:Int)),(50,v50)] (λ j hj=>by simp[Ab2] at hj ⊢;simp[hj]) (by
     intro p hp;simp only[List.mem_cons,List.not_mem_nil,or_false] at hp;rcases hp with rfl | rfl | rfl | rfl | rfl | rfl | rfl | rfl | rfl
     ·exact hI.val (0,42) (by simp[Ab2]) (hall 0 (by decide))
     ·exact hI.val (1,43) (by simp[Ab2]) (hall 1 (by decide))
     ·exact hI.val (2,44) (by simp[Ab2]) (hall 2 (by decide))
     ·exact hI.val (3,45) (by simp[Ab2]) (hall 3 (by decide))
     ·exact hI.val (4,46) (by simp[Ab2]) (hall 4 (by decide))
     ·exact hI.val (5,47) (by simp[Ab2]) (hall 5 (by decide))
     ·exact hI.val (6,48) (by simp[Ab2]) (hall 6 (by decide))
     ·exact hI.val (7,49) (by simp[Ab2]) (hall 7 (by decide))
     ·exact e50)
    have hgw:=hI.gw;clear hI hall e50;try dsimp only at hat
    simp only[Ad8,αs,αz,αc] at hat;subst hat;refine wpOp_step rfl (λ K hK=>?_);go_simp;go_at_call 19
    refine(HST.out w' _ hgw p50).mono ?_;rintro e w7 ⟨M',S',K',y,rfl,h7,hso,hu7⟩;refine hK _ _ ?_;clear hK K;try simp only[Act.put,αs,αz,αc]
    have hkt7:Bu3 w w7 j 900 100 (2+I) g M' S' K' (U0 R ⟨y.1,y.2,xk,List.replicate n 0⟩):=⟨HKT.out.tx,h7,hso.kp,(Upd.refl [] w).late (((HKT.out.upd.trans hgw).mono (by simp)).trans hu7) λ i hi=> .inr (HSS.out.1 i hi)⟩;have hcm:=hkt7.commit (by omega) (by omega) hso.cnt (by omega);obtain⟨m',hm',hrm'⟩:=hso.row HRMg.out HNK.out (by omega) HRO.out;have HCM:=η hcm;have HRM':=η hrm';have HU7:=η hkt7.upd;clear h7 hso hu7 hkt7 hcm hrm' p50 hgw;refine Ac5 (by kernel_rfl) (by decide) ?_;refine wpOp_step rfl (λ K hK=>?_);go_simp;refine hK _ _ ?_;clear hK K;try simp only[Act.put,αs,αz,αc]
    refine Ac5 (by kernel_rfl) (by decide) ?_;refine wpOp_step rfl (λ K hK=>?_);go_simp;refine hK _ _ ?_;clear hK K;try simp only[Act.put,αs,αz,αc]
    refine Ac5 (by kernel_rfl) (by decide) ?_;refine wpOp_step rfl (λ K hK=>?_);go_simp;refine hK _ _ ?_;clear hK K;try simp only[Act.put,αs,αz,αc]
    refine Ac5 (by kernel_rfl) (by decide) ?_;refine wpOp_step rfl (λ K hK=>?_);go_simp;go_at_call 21
    refine HCM.out.mono ?_;rintro e w8 ⟨rfl,hkj8,hu8⟩;refine hK _ _ ?_;clear hK K;try simp only[Act.put,αs,αz,αc]
    refine Ac5 (by kernel_rfl) (by decide) ?_;refine wpOp_step rfl (λ K hK=>?_);go_simp;refine hK _ _ ?_;clear hK K;try simp only[Act.put,αs,αz,αc]
    refine Ac5 (by kernel_rfl) (by decide) ?_;refine wpOp_step rfl (λ K hK=>?_);go_simp;refine hK _ _ ?_;clear hK K;try simp only[Act.put,αs,αz,αc]
    refine Cq7 (by rfl) ?_;have HKJ8:=η hkj8;have HU8:=η (HU7.out.late hu8 λ i hi=>by
     rcases List.mem_cons.1 hi with rfl | q
     ·exact .inr HSS.out.2
     ·exact .inr (HJ.out i q))
    clear hkj8 hu8;go_wp2_with fail
    refine⟨⟨I+1,m',g.cur M',S',K',U0 R ⟨y.1,y.2,xk,List.replicate n 0⟩,by go_num,by omega,by omega,?_,HRM',?_,HU8⟩,by simp[intOf];omega⟩
    ·have:=HKJ8.out;rw[show(2:Int)+((I+1:Nat):Int)=2+(I:Int)+1 by omega];exact HKJ8
    ·have:=HOR.out.ins HKJ2.out.2.2 (by omega) y.1 y.2 (List.replicate n 0);rw[← HXK.out] at this;exact η this
  ·have cj:decide ((I:Int)<(ks.length:Int))=false:=decide_eq_false (by omega);obtain rfl:I=ks.length:=by omega
   have hRN:R.length=ks.length:=HOR.out.len;go_wp2_with fail
   refine HBG.out.mono ?_;rintro e w4 ⟨g,rfl,hkt,_,_⟩;have hgh:g.h=798:=hkt.h;have hSS:=hkt.S HJ.out;have hlt:=hkt.sp.lt;have HAL:=η (Cb7 hkt.sp (by omega) (by omega) hkt.kp (by omega));have HKT:=η hkt;have HSS:=η hSS;have HLT:=η hlt;have HGH:=η hgh;clear hkt hSS hlt hgh;go_wp2_with fail
   refine HAL.out.mono ?_;rintro e w5 ⟨va,rfl,hva,h5,hu5⟩;obtain⟨aa,ca,rfl⟩:=hva.shape;have hab:=hva.lt;rw[List.length_map,hRN] at hva ⊢;have HVA:=η hva.read;have HAB:=η hab;have H5:=η h5;have HZ5:=η hu5.size;have HU5:=η ((Upd.refl [] w).late (((HKT.out.upd).mono (by simp)).trans hu5) λ i hi=> .inr (HSS.out.1 i hi));have hbi:=Ax0;clear hva hab h5 hu5;go_wp2_with fail
   refine(HT _).out.mono ?_;rintro e w' ⟨rfl,rfl⟩;obtain⟨w7,hw7⟩:∃w7,w7=w5.alloc (.cells (bts z32).toArray 35):=⟨_,rfl⟩;obtain⟨b15,hb15⟩:∃b,b=w5.heap.size:=⟨_,rfl⟩;have h15:w7.heap[b15]?=some (.cells (bts z32).toArray 35 (0,0)):=by rw[hw7,hb15];exact A4 _
   have s15:=I7 h15 (l:=bts z32) (by rw[List.size_toArray]) (F7 _);rw[hw7,hb15,← Br2] at s15;have HW7:=η hw7;have HB15E:=η hb15;have hu8:Upd [] w5 (w7.setRow b15 (bts z32).toArray):=by
    have a2:Upd [b15] w7 (w7.setRow b15 (bts z32).toArray):=I8 (Upd.refl _ _) _ (.inl (by simp));have a1:Upd [] w5 w7:=by rw[hw7];exact(Upd.refl _ _).alloc _
    exact a1.late a2 (λ k hk=>by simp at hk;subst hk;exact .inr (by omega))
   have h8:=setRow_heap w7 b15 (bts z32).toArray (bts z32).toArray 35 (0,0) h15;obtain⟨w8,hw8⟩:∃w8,w8=w7.setRow b15 (bts z32).toArray:=⟨_,rfl⟩;rw[← hw8] at hu8 h8;have hb8:b15<w8.heap.size:=A3 h8;have HU8:=η hu8;have H8:=η h8;have HW8:=η hw8;have HB8:=η hb8;clear hw7 hb15 h15 hu8 h8 hw8 hb8;go_wp2_with fail
   have hw7:=HW7.out;have hb15:=HB15E.out;have hw8:=HW8.out;rw[Br2,← hw7,← hb15,← hw8];clear hw7 hb15 hw8 s15;have HRK:Hid (∀x,x∈R->x.key.length=32):=η (λ x hx=>(HKT.out.kp.m.rc.rec_ x hx).1);go_loopw [16,14] (λ i lo wr=>∃(q:Nat) (fr:Bs),i=.int .i64 (q:Int)/\q*m<=ks.length/\Hid (T6 wr w8.heap.size lo ((R.take (q*m)).map Av1))/\Hid (wr.heap[b15]?=some (.cells (bts fr).toArray 35 (0,0)))/\Hid (fr.length=32)/\
    Hid ((R.filter λ x=> !ltB x.key fr)=R.drop (q*m))/\Hid (B8 wr g λ _=>none)/\Hid (Ar7 wr w4.heap.size (.slice aa ks.length ca) (R.map Av1))/\Hid (Upd [] w wr)/\Hid (w8.heap.size<=wr.heap.size)) (λ i _ _=>41-(intOf i).toNat)
   case atStart=>exact⟨0,z32,rfl,by omega,η (by rw[Nat.zero_mul];exact T6.nil _ _),H8,η V0,η (by rw[Nat.zero_mul,List.drop_zero];exact Ar8 HRK.out),η (H5.out.below HU8.out),η (HVA.out.turn HU8.out (by simp) (by simp)),η (HU5.out.trans HU8.out),η (Nat.le_refl _)⟩
   case round=>
    obtain⟨q,fr,rfl,hqm,HRL,HB15,HFL,HFR,HSP,HRA,HUQ,HZQ⟩:=hrel;obtain⟨wq,rfl⟩:∃wq:World,wq=wr:=⟨_,rfl⟩;obtain⟨al,cl,rfl⟩:=HRL.out.shape;have hq1:q<=30:=by
     have h1:q*1<=q*m:=Nat.mul_le_mul (Nat.le_refl _) hm1;omega
    have hqb:decide ((q:Int)<40)=true:=decide_eq_true (by omega);have hqb2:decide (q<40)=true:=decide_eq_true (by omega);have hll:((R.take (q*m)).map Av1).length=q*m:=by rw[List.length_map,List.length_take];omega
    rw[hll] at HRL ⊢;have lf:=B7 (n:=32) HB15.out (by rw[A5,HFL.out]);have hsc:=Be5 HSP.out (by have:=HGH.out;omega) (by have:=HGH.out;omega) HKT.out.kp (by omega) fr HFL.out m hm1;rw[show An9 fr m R=(R.drop (q*m)).take m by unfold An9;rw[HFR.out]] at hsc;unfold arr at hsc;have HSC:=η hsc;clear hsc;go_wp2_with fail
    refine HSC.out.mono ?_;rintro e wx ⟨vx,rfl,hx,hspx,hux⟩;obtain⟨ax,cx,rfl⟩:=hx.shape;obtain⟨xn,hxn⟩:∃n,min m (ks.length-q*m)=n:=⟨_,rfl⟩;have hXl:(((R.drop (q*m)).take m).map Av1).length=xn:=by rw[← hxn,List.length_map,List.length_take,List.length_drop,hRN]
    rw[hXl] at hx ⊢;have h48:w4.heap.size<=w8.heap.size:=Nat.le_trans HZ5.out HU8.out.size;have hgS:∀k,k∈g.S->k<w4.heap.size:=HLT.out.1;have hlx:=HRL.out.under hux (λ k hk=>by have:=hgS k hk;omega);have hB8:w8.heap.size<=wx.heap.size:=Nat.le_trans HZQ.out hux.size;obtain⟨a',c',wy,S9,hrun,hly,huy,hS9⟩:=Cp8 hlx hx (by rw[hll,hXl];omega) hB8 HZQ.out;rw[hll,hXl] at hrun hly;rw[← List.map_append,← List.take_add] at hly;have hrx:=HRA.out.turn hux (λ a n c e hk=>by
     cases e
     have:=(HAB.out a rfl).1;have:=hgS _ hk;omega) (λ k hk=> .inl (hgS k hk))
    have hry:=hrx.turn huy (λ a n c e hk=>by
     cases e
     have:=(HAB.out a rfl).2;have:=(hS9 _ hk).1;have:=HU8.out.size;omega) (λ k hk=> .inr λ c e=>by
     obtain⟨_,⟨c2,h⟩,_⟩:=hS9 k hk;rw[h] at e;injection e with e;injection e with _ e _;revert e;decide)
    have h15x:=(hux.block _ (A3 HB15.out) (λ hk=>by have:=hgS _ hk;have:=HB15E.out;have:=HZ5.out;omega)).trans HB15.out;have h15y:=(huy.block _ (A3 h15x) (λ hk=>by
     obtain⟨_,⟨c2,h⟩,_⟩:=hS9 _ hk;rw[h] at h15x;injection h15x with e;injection e with _ e _;revert e;decide)).trans h15x
    have hspy:=hspx.turnedRc (λ b hb=>by obtain⟨_,⟨c,e⟩,_⟩:=hS9 b hb;exact⟨c,_,e⟩) huy;have h08:w.heap.size<=w8.heap.size:=(HU5.out.trans HU8.out).size;have huwy:=(HUQ.out.late hux (λ i hi=> .inr (HSS.out.1 i hi))).late huy (λ i hi=> .inr (Nat.le_trans h08 (hS9 i hi).1));have HLY:=η hly;have HX:=η hx;have HRY:=η hry;have H15Y:=η h15y;have HSPY:=η hspy;have HUWY:=η huwy;have HUY:=η huy;have HS9:=η hS9;have HBXY:=η (And.intro hux.size huy.size);have hgt:decide ((m:Int)<(xn:Int))=false:=decide_eq_false (by omega);have hgt2:decide (m<xn)=false:=decide_eq_false (by omega);clear hx hspx hux hlx hly huy hS9 hrx hry h15x h15y hspy huwy h48 hgS hB8 h08 hll hXl;by_cases hsh:xn<m
    ·have hlt:decide ((xn:Int)<(m:Int))=true:=decide_eq_true (by omega);have hlt2:decide (xn<m)=true:=decide_eq_true hsh;have hall:q*m+xn=ks.length:=by omega
     have htk:R.take (q*m+m)=R:=List.take_of_length_le (by omega);rw[htk,hall] at HLY;rw[hall] at hrun;have HAK:=η (Bo8 (l:=R.map Av1) (by rw[List.length_map];omega) HRY.out HLY.out.read);have hnn:((ks.length:Int) == (ks.length:Int))=true:=beq_self_eq_true _;clear htk hall;go_wp2_with (at_builtin;refine C3 rfl _ _ _ rfl rfl rfl hrun ?_)
     refine HAK.out.mono ?_;rintro e we ⟨rfl,hue⟩;have HE:=η (HUWY.out.trans hue);clear hue;go_wp2_with fail
     go_ret;exact⟨rfl,HE.out⟩
    ·have hlt:decide ((xn:Int)<(m:Int))=false:=decide_eq_false (by omega);have hlt2:decide (xn<m)=false:=decide_eq_false hsh;obtain rfl:xn=m:=by omega
     obtain⟨x,c,hxl,hxk,hc2,hx31,hfil⟩:=HOR.out.piece HKJ2.out.2.2 (by omega) (q:=q*xn) hm1 (by omega);obtain⟨ps,r1,r2,r3⟩:=HX.out.read;have hxlt:=HX.out.lt;rw[List.length_map,List.length_take,List.length_drop] at r2;obtain⟨⟨ka,da⟩,hps⟩:∃p,ps[xn-1]?=some p:=⟨_,List.getElem?_eq_getElem (by omega)⟩;have hka:=(r3 (xn-1) _ (Av1 x) hps (by rw[List.getElem?_map,hxl];rfl)).1;obtain rfl:ka=x.key:=hka;obtain⟨bx,ox,rfl,hrg⟩:=RRd.at r1 (i:=xn-1) (e:=rcC (x.key,da)) (by rw[List.getElem?_map,hps];rfl);obtain⟨kx,hkx⟩:∃kx,kx=xn-1:=⟨_,rfl⟩;rw[← hkx] at hrg;have hwk:wrap64 ((xn:Int)-1)=(kx:Int):=by unfold wrap64;omega
     have hwk2:IntKind.i64.wrap ((xn:Int)-1)=(kx:Int):=by rw[IntKind.wrap_i64];omega
     have hk0:(0:Int)<=(kx:Int):=by omega
     have hk1:(kx:Int)<(xn:Int):=by omega
     have hbS:bx∉S9:=λ hk=>by
      obtain⟨_,_,cap,e⟩:=HS9.out bx hk;have h1:=(hxlt _ rfl).1;injection e with e _ _;have h2:=(HRL.out.lt _ e).2;simp at h1 h2;omega
     have hrk:=Cb6 (E7 hrg HUY.out hbS);have l32:=F1 hrk hxk;have s15:=I7 H15Y.out (l:=bts x.key) (by rw[List.size_toArray,A5,A5,hxk,HFL.out]) (F7 _);have h15z:=setRow_heap wy b15 (bts fr).toArray (bts x.key).toArray 35 (0,0) H15Y.out;have huz:Upd [b15] wy (wy.setRow b15 (bts x.key).toArray):=I8 (Upd.refl _ _) _ (.inl (by simp));obtain⟨wz,hwz⟩:∃wz,wz=wy.setRow b15 (bts x.key).toArray:=⟨_,rfl⟩;rw[← hwz] at s15 h15z huz;have hct:(UInt8.ofNat c).toNat=c:=by rw[UInt8.toNat_ofNat'];omega
     have m0:wz.cell? ⟨b15,31,none⟩=some (.int .u8 (c:Int)):=by
      rw[A2 h15z,List.getElem?_toArray,Ab8,hx31];show some (Value.int .u8 ((UInt8.ofNat c).toNat:Int))=_
      rw[hct]
     have hks:=Bc2 h15z 31 (by omega) ((c:Int)+1);rw[show((c:Int)+1) % 256=(c:Int)+1 by omega] at hks;obtain⟨wv,hwv⟩:∃wv,wv=wz.setCell ⟨b15,31,none⟩ (.int .u8 ((c:Int)+1)):=⟨_,rfl⟩;rw[← hwv] at hks;have huv:Upd [b15] wy wv:=by rw[hwv];exact huz.set _ (.inl (by simp))
     have st:=hks.1;have hvb:=hks.2;have hset:u8I ((c:Int)+1)=UInt8.ofNat (c+1):=by
      unfold u8I;rw[show((c:Int)+1) % 256=((c+1:Nat):Int) by omega];rfl
     rw[hset] at hvb;have hl31:(x.key.set 31 (UInt8.ofNat (c+1))).length=32:=by rw[List.length_set];exact hxk
     have m1:wv.cell? ⟨b15,31,none⟩=some (.int .u8 ((c:Int)+1)):=by
      rw[A2 hvb,List.getElem?_toArray,Ab8,List.getElem?_set_self (by omega)];show some (Value.int .u8 ((UInt8.ofNat (c+1)).toNat:Int))=_
      rw[UInt8.toNat_ofNat',Nat.mod_eq_of_lt (by omega)];rfl
     have hv:(((c:Int)+1) == 0)=false:=by rw[beq_eq_false_iff_ne];omega
     have hlv:=HLY.out.under huv (λ k hk=>by simp at hk;subst hk;exact HB8.out);have hrv:=HRY.out.turn huv (λ a n c e hk=>by
      cases e
      have:=(HAB.out a rfl).2;have:=HB15E.out;simp at hk;omega) (λ k hk=> .inr λ c e=>by
      simp at hk;subst hk;rw[H15Y.out] at e;injection e with e;injection e with _ e _;revert e;decide)
     have hspv:=HSPY.out.turned9 (λ b hb=>by simp at hb;subst hb;exact⟨_,_,_,H15Y.out,.inr (.inr (.inl rfl))⟩) huv;have huwv:=HUWY.out.late huv (λ i hi=> .inr (by simp at hi;subst hi;have:=HU5.out.size;have:=HB15E.out;omega));have HLV:=η hlv;have HRV:=η hrv;have HSPV:=η hspv;have HUWV:=η huwv;have HVB:=η hvb;have HFIL:=η hfil;have HL31:=η hl31;have HZV:Hid (w8.heap.size<=wv.heap.size):=by show _<=_;have:=HBXY.out;have:=huv.size;have:=HZQ.out;omega
     have hqn:(q+1)*xn=q*xn+xn:=by rw[Nat.add_mul,Nat.one_mul]
     have h31a:decide ((0:Int)<=31)=true:=rfl;clear r1 r2 r3 hps hrg hrk hkx h15z huz hwz hct hks hwv huv hvb hset hl31 hlv hrv hspv huwv hxl hx31 hfil hxlt hbS HX HLY HRY;go_wp2_with (at_builtin;refine C3 rfl _ _ _ rfl rfl rfl hrun ?_)
     go_loopw [19] (λ k wr=>k=.int .i64 31/\wr=wz) (λ _ _=>1)
     case atStart=>exact⟨rfl,rfl⟩
     case round=>
      obtain⟨rfl,rfl⟩:=hrel;go_wp2_with fail
      have hle2:q*xn+xn<=ks.length:=by omega
      exact⟨⟨q+1,x.key.set 31 (UInt8.ofNat (c+1)),by simp,by rw[hqn];exact hle2,by rw[hqn];exact HLV,HVB,HL31,by rw[hqn];exact HFIL,HSPV,HRV,HUWV,HZV⟩,by simp[intOf];omega⟩
end
end Go.Proofs.YtgfbepakonjbnaaGreat
end
