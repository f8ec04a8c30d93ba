/-
  The document's commit: which commit stands at the next place. (Written by tools/put/rdS.py.)
-/
import Derived.Test.YtplppdbdfhkljaaGreatA14
set_option maxRecDepth 100000
set_option maxHeartbeats 16000000
section
set_option linter.unusedSimpArgs false
set_option linter.unusedVariables false
namespace Go.Proofs.YtplppdbdfhkljaaGreat
open Go.RowKit Go.MapKept Go.ChangeMaps
section
attribute [-go_sem] loadCells storeCells Instr.build run_string_add_if run_slice_l run_slice_h run_slice_string run_slice_string_h run_slice_string_l
def RstPost(w:World)(J:Jn)(D:Dk)(e:Ending)(w':World):Prop:=
 ∃v,e=.returned (.tuple #[v,.bool (decide (J.stands D≠[]))])∧PutsT w' w.heap.size v (J.stands D)∧Upd [] w w'
theorem rst_none{w w':World}{J:Jn}{D:Dk}(h:J.stands D=[])(hu:Upd [] w w'):RstPost w J D (.returned (.tuple #[.slice none 0 0,.bool false])) w':=
 ⟨_,by rw[h];rfl,by rw[h];exact PutsT.nil _ _,hu⟩
set_option maxRecDepth 100000 in
set_option maxHeartbeats 16000000 in
theorem rstands_spec{w:World}{q:QG}{J:Jn}{D:Dk}(h:RjmAt w q J D) :
  Calls Tryz.prog 75 #[.pointer (some ⟨q.jb,0,none⟩)] w (RstPost w J D):=by
 have HH:=Lib.hid h
 have hr0:=h.ok.ring0
 have hr1:=h.ok.ring1
 have hpl:=h.ok.place
 have hfit:=h.ok.fits
 have ht0:=h.ok.turn0
 have ht1:=h.ok.turn1
 have hnow:∀i,(D.now i).length=512:=fun i=>Dk.now_len h.disk.ok i
 have HATN:Hid (∀p,J.at p<D.n):=by
  show ∀p,_
  intro p
  unfold Jn.at
  have:p % J.last.ring<J.last.ring:=Nat.mod_lt _ (by omega)
  omega
 obtain⟨A0,hA0⟩:∃A,A=J.at J.place:=⟨_,rfl⟩
 have hA0':A0=2+J.place:=by rw[hA0];unfold Jn.at;rw[Nat.mod_eq_of_lt hpl]
 have HW0:Hid (IntKind.i64.wrap (2+(J.place:Int))=(A0:Int)):=by show _=_;rw[IntKind.wrap_i64,hA0'];omega
 obtain⟨hd,hhd⟩:∃b,b=J.hd D:=⟨_,rfl⟩
 have hlen:hd.length=512:=by rw[hhd];exact hnow _
 have HRD0:Hid (∀w',Upd [] w w'→Calls Tryz.prog 72 #[.pointer (some ⟨q.r.rb,0,none⟩),.int .i64 (A0:Int)] w' fun e w''=>e=.returned (.tuple #[.string (str hd),.int .i64 0])∧w'=w''):=by
  show ∀w',_
  intro w' hu
  have:=rread_spec ((HH.out.below hu).disk) (A0:Int)
  rw[Dk.On.read HH.out.disk.on (by rw[hA0];exact HATN.out _)] at this
  rw[hhd,Jn.hd,← hA0]
  exact this
 have HCC:Hid (∀w',Upd [] w w'→w'.cell? ⟨q.jb,0,none⟩=some (.pointer (some ⟨q.r.rb,0,none⟩))∧w'.cell? ⟨q.jb,4,none⟩=some (.int .i64 (J.place:Int))):=by
  show ∀w',_
  intro w' hu
  obtain⟨x0,_,_,_,x4,_⟩:=(HH.out.below hu).cells
  exact⟨x0,x4⟩
 have HHI:=Lib.hid (Jn.stHead_iff (J:=J) (D:=D) (by rw[← hhd];exact hlen) (by omega) (by omega))
 have HGI:Hid (∀k,k<J.stN D→_):=Lib.hid (fun k hk=>Jn.stGood_iff (J:=J) (D:=D) (k:=k) hk (hnow _) (by omega) (by omega))
 have HLEN:=Lib.hid hlen
 have HHD:=Lib.hid hhd
 have HNOW:=Lib.hid hnow
 have HB:=Lib.hid (And.intro hr0 (And.intro hr1 (And.intro hpl (And.intro hfit (And.intro ht0 ht1)))))
 clear h hnow hA0 hA0' hhd hlen hfit
 go_enter Tryz.func75,Tryz.ntmps75
 go_wp2_with fail
 refine wp_region_x (fun w'=>Upd [] w w') [] (by kernel_rfl) (Upd.refl _ _).drew (fun hHeld=>?_)
 generalize w.drew=w0 at hHeld ⊢
 refine wpAnyX_take (i:=0) (v:=?_) rfl (by kernel_rfl) (fun _ _ _ h=>h) hHeld (Or.inl ⟨by kernel_rfl,?_⟩) ?_
 rotate_left
 ·(intro w hSw;go_simp<;>with_reducible rfl)
 try simp only[Act.put,List.getElem_toArray,List.getElem_cons_zero,List.getElem_cons_succ,List.setIfInBounds_toArray,List.set_cons_zero,List.set_cons_succ]
 refine wpAnyX_take (i:=1) (v:=?_) rfl (by kernel_rfl) (fun _ _ _ h=>h) hHeld (Or.inl ⟨by kernel_rfl,?_⟩) ?_
 rotate_left
 ·(intro w hSw;go_simp<;>with_reducible rfl)
 try simp only[Act.put,List.getElem_toArray,List.getElem_cons_zero,List.getElem_cons_succ,List.setIfInBounds_toArray,List.set_cons_zero,List.set_cons_succ]
 refine wpAnyX_take (i:=2) (v:=?_) rfl (by kernel_rfl) (fun _ _ _ h=>h) hHeld (Or.inl ⟨by kernel_rfl,?_⟩) ?_
 rotate_left
 ·(intro w hSw;go_simp<;>with_reducible rfl)
 try simp only[Act.put,List.getElem_toArray,List.getElem_cons_zero,List.getElem_cons_succ,List.setIfInBounds_toArray,List.set_cons_zero,List.set_cons_succ]
 refine wpAnyX_take (i:=4) (v:=?_) rfl (by kernel_rfl) (fun _ _ _ h=>h) hHeld (Or.inl ⟨by kernel_rfl,?_⟩) ?_
 rotate_left
 ·(intro w hSw;go_simp<;>with_reducible rfl)
 try simp only[Act.put,List.getElem_toArray,List.getElem_cons_zero,List.getElem_cons_succ,List.setIfInBounds_toArray,List.set_cons_zero,List.set_cons_succ]
 refine wpAnyX_take (i:=5) (v:=?_) rfl (by kernel_rfl) (fun _ _ _ h=>h) hHeld (Or.inl ⟨by kernel_rfl,?_⟩) ?_
 rotate_left
 ·(intro w hSw;go_simp<;>with_reducible rfl)
 try simp only[Act.put,List.getElem_toArray,List.getElem_cons_zero,List.getElem_cons_succ,List.setIfInBounds_toArray,List.set_cons_zero,List.set_cons_succ]
 refine wpAnyX_take (i:=6) (v:=?_) rfl (by kernel_rfl) (fun _ _ _ h=>h) hHeld (Or.inl ⟨by kernel_rfl,?_⟩) ?_
 rotate_left
 ·(intro w hSw;go_simp<;>with_reducible rfl)
 try simp only[Act.put,List.getElem_toArray,List.getElem_cons_zero,List.getElem_cons_succ,List.setIfInBounds_toArray,List.set_cons_zero,List.set_cons_succ]
 refine wpAnyX_take (i:=3) (v:=?_) rfl (by kernel_rfl) (fun _ _ _ h=>h) hHeld (Or.inl ⟨by kernel_rfl,?_⟩) ?_
 rotate_left
 ·(intro w hSw;obtain⟨x0,x4⟩:=HCC.out _ hSw;go_simp<;>with_reducible rfl)
 try simp only[Act.put,List.getElem_toArray,List.getElem_cons_zero,List.getElem_cons_succ,List.setIfInBounds_toArray,List.set_cons_zero,List.set_cons_succ]
 refine wpAnyX_take (i:=7) (v:=?_) rfl (by kernel_rfl) (fun _ _ _ h=>h) hHeld (Or.inl ⟨by kernel_rfl,?_⟩) ?_
 rotate_left
 ·(intro w hSw;obtain⟨x0,x4⟩:=HCC.out _ hSw;go_simp<;>with_reducible rfl)
 try simp only[Act.put,List.getElem_toArray,List.getElem_cons_zero,List.getElem_cons_succ,List.setIfInBounds_toArray,List.set_cons_zero,List.set_cons_succ]
 refine wpAnyX_take (i:=8) (v:=?_) rfl (by kernel_rfl) (fun _ _ _ h=>h) hHeld (Or.inl ⟨by kernel_rfl,?_⟩) ?_
 rotate_left
 ·(intro w hSw;have wq:=HW0.out;go_simp<;>with_reducible rfl)
 try simp only[Act.put,List.getElem_toArray,List.getElem_cons_zero,List.getElem_cons_succ,List.setIfInBounds_toArray,List.set_cons_zero,List.set_cons_succ]
 refine wpAnyX_ready (rs:=[9]) (by kernel_rfl) (by simp) (AllReadyX.one rfl (fun K hK=>?_))
 go_simp
 go_at_call 72
 (with_reducible refine(HRD0.out _ hHeld).mono ?_)
 rintro e wl ⟨rfl,rfl⟩
 refine hK.out _ _ (fun _=>hHeld) ?_
 clear hK K
 try simp only[Act.put,List.getElem_toArray,List.getElem_cons_zero,List.getElem_cons_succ,List.setIfInBounds_toArray,List.set_cons_zero,List.set_cons_succ]
 refine wpAnyX_take (i:=10) (v:=?_) rfl (by kernel_rfl) (fun _ _ _ h=>h) hHeld (Or.inl ⟨by kernel_rfl,?_⟩) ?_
 rotate_left
 ·(intro w hSw;go_simp<;>with_reducible rfl)
 try simp only[Act.put,List.getElem_toArray,List.getElem_cons_zero,List.getElem_cons_succ,List.setIfInBounds_toArray,List.set_cons_zero,List.set_cons_succ]
 refine wpAnyX_take (i:=11) (v:=?_) rfl (by kernel_rfl) (fun _ _ _ h=>h) hHeld (Or.inl ⟨by kernel_rfl,?_⟩) ?_
 rotate_left
 ·(intro w hSw;go_simp<;>with_reducible rfl)
 try simp only[Act.put,List.getElem_toArray,List.getElem_cons_zero,List.getElem_cons_succ,List.setIfInBounds_toArray,List.set_cons_zero,List.set_cons_succ]
 refine wpAnyX_take (i:=13) (v:=?_) rfl (by kernel_rfl) (fun _ _ _ h=>h) hHeld (Or.inl ⟨by kernel_rfl,?_⟩) ?_
 rotate_left
 ·(intro w hSw;go_simp<;>with_reducible rfl)
 try simp only[Act.put,List.getElem_toArray,List.getElem_cons_zero,List.getElem_cons_succ,List.setIfInBounds_toArray,List.set_cons_zero,List.set_cons_succ]
 refine wpAnyX_take (i:=12) (v:=?_) rfl (by kernel_rfl) (fun _ _ _ h=>h) hHeld (Or.inl ⟨by kernel_rfl,?_⟩) ?_
 rotate_left
 ·(intro w hSw;go_simp<;>with_reducible rfl)
 try simp only[Act.put,List.getElem_toArray,List.getElem_cons_zero,List.getElem_cons_succ,List.setIfInBounds_toArray,List.set_cons_zero,List.set_cons_succ]
 refine wpAnyX_take (i:=14) (v:=?_) rfl (by kernel_rfl) (fun _ _ _ h=>h) hHeld (Or.inl ⟨by kernel_rfl,?_⟩) ?_
 rotate_left
 ·(intro w hSw;go_simp<;>with_reducible rfl)
 try simp only[Act.put,List.getElem_toArray,List.getElem_cons_zero,List.getElem_cons_succ,List.setIfInBounds_toArray,List.set_cons_zero,List.set_cons_succ]
 refine wpAnyX_done (by kernel_rfl) ?_ _
 obtain⟨w1,hw1⟩:∃x,x=w0:=⟨_,rfl⟩
 rw[← hw1] at hHeld ⊢
 clear hw1
 have HU1:=Lib.hid hHeld
 have H1:=Lib.hid (HH.out.below hHeld)
 clear hHeld
 obtain⟨_,c1,_,c3,_⟩:=H1.out.cells
 obtain⟨t2,ht2⟩:∃t2,t2=2*J.turn:=⟨_,rfl⟩
 obtain⟨t3,ht3⟩:∃t3,t3=2*J.turn+1:=⟨_,rfl⟩
 have hw2:IntKind.u64.wrap (2*J.turn)=t2:=by rw[IntKind.wrap_u64];omega
 have hw3:IntKind.u64.wrap (t2+1)=t3:=by rw[IntKind.wrap_u64];omega
 obtain⟨xe,hxe⟩:∃x,x=be 8 (2*J.turn+1).toNat:=⟨_,rfl⟩
 obtain⟨x2,hx2⟩:∃x,x=be 8 (2*J.turn).toNat:=⟨_,rfl⟩
 have HE3:Hid (∀w,Calls Tryz.prog 125 #[.int .u64 t3] w fun e w'=>e=.returned (.string (str xe))∧Upd [] w w'):=by
  show ∀w,_
  intro w
  have:=reightS_spec w t3.toNat (by omega)
  rw[show((t3.toNat:Nat):Int)=t3 by omega,ht3] at this
  rw[ht3,hxe];exact this
 have HE2:Hid (∀w,Calls Tryz.prog 125 #[.int .u64 t2] w fun e w'=>e=.returned (.string (str x2))∧Upd [] w w'):=by
  show ∀w,_
  intro w
  have:=reightS_spec w t2.toNat (by omega)
  rw[show((t2.toNat:Nat):Int)=t2 by omega,ht2] at this
  rw[ht2,hx2];exact this
 have HXE:=Lib.hid (And.intro hxe hx2)
 have HTT:=Lib.hid (And.intro hw2 hw3)
 clear ht2 ht3 hxe hx2
 go_wp2_with fail
 refine(HE3.out _).mono ?_
 rintro e w2 ⟨rfl,hu2⟩
 have HU2:=Lib.hid (HU1.out.trans hu2)
 clear hu2 hw2 hw3 c1 c3
 obtain⟨n,hn⟩:∃n,n=J.stN D:=⟨_,rfl⟩
 have hn1:n<65536:=by
  have:=numI_2 (J.hd D) 8
  have e:numI (J.hd D) 8 2=((J.stN D:Nat):Int):=rfl
  omega
 have HNB:Hid (∀w,Calls Tryz.prog 74 #[.string (str hd),.int .i64 8,.int .i64 2] w fun e w'=>e=.returned (.int .u64 (n:Int))∧Upd [] w w'):=by
  show ∀w,_
  intro w
  have:=rnumber_spec w hd 8 2 (by omega) (by omega) (by rw[HLEN.out];omega) (by rw[HLEN.out];omega)
  have e:numI hd 8 2=(n:Int):=by rw[hn,HHD.out];rfl
  rw[e] at this
  exact this
 have HN:=Lib.hid hn
 clear hn
 go_wp2_with fail
 refine(HNB.out _).mono ?_
 rintro e w3 ⟨rfl,hu3⟩
 have HU3:=Lib.hid (HU2.out.trans hu3)
 have H3:=Lib.hid (HH.out.below (HU2.out.trans hu3))
 clear hu3
 obtain⟨_,c1,_⟩:=H3.out.cells
 obtain⟨y1,hy1⟩:∃y,y=hd.take 8:=⟨_,rfl⟩
 obtain⟨y2,hy2⟩:∃y,y=hd.drop 504:=⟨_,rfl⟩
 have hs1:∀w,(Instr.slice 9 (.string (str hd)) none (some (.int .i64 8)) none).run Tryz.prog w=.ok (.string (str y1)) w:=fun w=>by
  have:=run_str_front hd 8 (by rw[HLEN.out];omega) w
  rw[hy1];simpa using this
 have hs2:∀w,(Instr.slice 9 (.string (str hd)) (some (.int .i64 504)) none none).run Tryz.prog w=.ok (.string (str y2)) w:=fun w=>by
  have:=run_str_back hd 504 (by rw[HLEN.out];omega) w
  rw[hy2];simpa using this
 obtain⟨b1,hb1⟩:∃c,c=decide (y1=xe):=⟨_,rfl⟩
 obtain⟨b2,hb2⟩:∃c,c=decide (y2=xe):=⟨_,rfl⟩
 have hq1:=str_cmp hb1
 have hq2:=str_cmp hb2
 have HHI2:Hid (J.stHead D↔y1=xe∧y2=xe∧1≤n∧n≤40∧n<J.last.ring):=by
  show _↔_
  rw[hy1,hy2,HHD.out,HXE.out.1,HN.out]
  exact HHI.out
 have HBB:=Lib.hid (And.intro hb1 hb2)
 clear hy1 hy2 hb1 hb2
 cases b1 with
 | false=>
  have HX:Hid (J.stands D=[]):=Lib.hid (Jn.stands_no (fun hq=>by have:=(HHI2.out.1 hq).1;exact absurd this (of_decide_eq_false HBB.out.1.symm)))
  go_wp2_with fail
  go_ret2
  exact rst_none HX.out HU3.out
 | true=>
 cases b2 with
 | false=>
  have HX:Hid (J.stands D=[]):=Lib.hid (Jn.stands_no (fun hq=>by have:=(HHI2.out.1 hq).2.1;exact absurd this (of_decide_eq_false HBB.out.2.symm)))
  go_wp2_with fail
  go_ret2
  exact rst_none HX.out HU3.out
 | true=>
 rcases Nat.lt_or_ge n 1 with hlt | hge1
 ·have d1:decide ((n:Int)<1)=true:=decide_eq_true (by omega)
  have d2:decide (n<1)=true:=decide_eq_true hlt
  have HX:Hid (J.stands D=[]):=Lib.hid (Jn.stands_no (fun hq=>by have:=(HHI2.out.1 hq).2.2.1;omega))
  clear hlt
  go_wp2_with fail
  go_ret2
  exact rst_none HX.out HU3.out
 have d1:decide ((n:Int)<1)=false:=decide_eq_false (by omega)
 have d2:decide (n<1)=false:=decide_eq_false (by omega)
 rcases Nat.lt_or_ge 40 n with hlt | hge2
 ·have d3:decide (40<(n:Int))=true:=decide_eq_true (by omega)
  have d4:decide (40<n)=true:=decide_eq_true hlt
  have HX:Hid (J.stands D=[]):=Lib.hid (Jn.stands_no (fun hq=>by have:=(HHI2.out.1 hq).2.2.2.1;omega))
  clear hlt
  go_wp2_with fail
  go_ret2
  exact rst_none HX.out HU3.out
 have d3:decide (40<(n:Int))=false:=decide_eq_false (by omega)
 have d4:decide (40<n)=false:=decide_eq_false (by omega)
 rcases Nat.lt_or_ge n J.last.ring with hlt | hge3
 rotate_left
 ·have d5:decide ((J.last.ring:Int)≤(n:Int))=true:=decide_eq_true (by omega)
  have d6:decide (J.last.ring≤n)=true:=decide_eq_true hge3
  have HX:Hid (J.stands D=[]):=Lib.hid (Jn.stands_no (fun hq=>by have:=(HHI2.out.1 hq).2.2.2.2;omega))
  clear hge3
  go_wp2_with fail
  go_ret2
  exact rst_none HX.out HU3.out
 have d5:decide ((J.last.ring:Int)≤(n:Int))=false:=decide_eq_false (by omega)
 have d6:decide (J.last.ring≤n)=false:=decide_eq_false (by omega)
 have HST:Hid (J.stHead D):=Lib.hid (HHI2.out.2 ⟨of_decide_eq_true HBB.out.1.symm,of_decide_eq_true HBB.out.2.symm,hge1,hge2,hlt⟩)
 go_wp2_with fail
 clear d1 d2 d3 d4 d5 d6 hs1 hs2 hq1 hq2 c1
 go_loopw [9,8] (fun i m wr=>∃k:Nat,k≤n∧i=.int .i64 (k:Int)∧PutsT wr w.heap.size m (J.stL D k)∧Upd [] w wr∧∀i,i<k→J.stGood D i) (fun i _ _=>n-(intOf i).toNat)
 case atStart=>exact⟨0,Nat.zero_le _,rfl,PutsT.nil _ _,HU3.out,by simp⟩
 case round=>
  obtain⟨k,hk,rfl,hp,hu,hgd⟩:=hrel
  obtain⟨am,cm,rfl⟩:=hp.at_.shape
  have HP:=Lib.hid hp
  have HU:=Lib.hid hu
  have HGD:=Lib.hid hgd
  have HJR:=Lib.hid (HH.out.below hu)
  clear hp hu hgd
  rw[Jn.stL_length]
  rcases Nat.lt_or_ge k n with hlt | hge
  ·have e1:decide ((k:Int)<(n:Int))=true:=decide_eq_true (by omega)
   have e2:decide (k<n)=true:=decide_eq_true hlt
   obtain⟨hr0,hr1,hpl,_,ht0,ht1⟩:=HB.out
   obtain⟨x,hx⟩:∃x,x=numI (J.hd D) (16+12*k) 4:=⟨_,rfl⟩
   have hx0:0≤x:=by rw[hx];exact numI_nonneg _ _ _
   have hx1:x<4294967296:=by rw[hx];exact numI_4 _ _
   obtain⟨P,hPP⟩:∃P,P=12*k:=⟨_,rfl⟩
   obtain⟨P2,hP2⟩:∃P2,P2=16+P:=⟨_,rfl⟩
   have hwm:IntKind.i64.wrap (12*(k:Int))=(P:Int):=by rw[IntKind.wrap_i64];omega
   have hwa:IntKind.i64.wrap (16+(P:Int))=(P2:Int):=by rw[IntKind.wrap_i64];omega
   have hwx:IntKind.i64.wrap x=x:=by rw[IntKind.wrap_i64];omega
   have HPK:=Lib.hid (And.intro hPP hP2)
   have HNK:Hid (∀w,Calls Tryz.prog 74 #[.string (str hd),.int .i64 (P2:Int),.int .i64 4] w fun e w'=>e=.returned (.int .u64 x)∧Upd [] w w'):=by
    show ∀w,_
    intro w
    have:=rnumber_spec w hd P2 4 (by omega) (by omega) (by rw[HLEN.out];omega) (by rw[HLEN.out];omega)
    have e:numI hd P2 4=x:=by rw[hx,HHD.out,hP2,hPP]
    rw[e] at this
    exact this
   have HX:=Lib.hid hx
   have HX01:=Lib.hid (And.intro hx0 hx1)
   have hkn:k<100:=by omega
   obtain⟨Q1,hQ1⟩:∃x,x=J.place+1:=⟨_,rfl⟩
   obtain⟨Q2,hQ2⟩:∃x,x=Q1+k:=⟨_,rfl⟩
   obtain⟨Q3,hQ3⟩:∃x,x=Q2 % J.last.ring:=⟨_,rfl⟩
   obtain⟨A,hA⟩:∃x,x=2+Q3:=⟨_,rfl⟩
   have hAat:A=J.at (J.place+1+k):=by rw[hA,hQ3,hQ2,hQ1];rfl
   have hQ3lt:Q3<J.last.ring:=by rw[hQ3];exact Nat.mod_lt _ (by omega)
   have HWW:Hid (IntKind.i64.wrap ((J.place:Int)+1)=(Q1:Int)∧IntKind.i64.wrap ((Q1:Int)+(k:Int))=(Q2:Int)∧(Q2:Int).tmod (J.last.ring:Int)=(Q3:Int)∧((Q2:Int) % (J.last.ring:Int))=(Q3:Int)∧IntKind.i64.wrap (Q3:Int)=(Q3:Int)∧IntKind.i64.wrap (2+(Q3:Int))=(A:Int)∧((J.last.ring:Int) == 0)=false∧¬(J.last.ring=0)):=by
    show _∧_∧_∧_∧_∧_∧_∧_
    rw[IntKind.wrap_i64,IntKind.wrap_i64,IntKind.wrap_i64,IntKind.wrap_i64]
    refine⟨by omega,by omega,?_,?_,by omega,by omega,by rw[beq_eq_false_iff_ne];omega,by omega⟩
    ·rw[Int.tmod_eq_emod_of_nonneg (by omega),hQ3];rfl
    ·rw[hQ3];rfl
   obtain⟨bd,hbd⟩:∃b,b=J.bd D k:=⟨_,rfl⟩
   have hbl:bd.length=512:=by rw[hbd];exact HNOW.out _
   have HBL:=Lib.hid hbl
   have HRD:Hid (∀w',Upd [] w w'→Calls Tryz.prog 72 #[.pointer (some ⟨q.r.rb,0,none⟩),.int .i64 (A:Int)] w' fun e w''=>e=.returned (.tuple #[.string (str bd),.int .i64 0])∧w'=w''):=by
    show ∀w',_
    intro w' hu
    have:=rread_spec ((HH.out.below hu).disk) (A:Int)
    rw[Dk.On.read HH.out.disk.on (by rw[hAat];exact HATN.out _)] at this
    rw[hbd,Jn.bd,← hAat]
    exact this
   have HBD:=Lib.hid hbd
   have HCJ:Hid (∀w',Upd [] w w'→w'.cell? ⟨q.jb,0,none⟩=some (.pointer (some ⟨q.r.rb,0,none⟩))∧w'.cell? ⟨q.jb,1,none⟩=some (.int .i64 (J.last.ring:Int))∧w'.cell? ⟨q.jb,3,none⟩=some (.int .u64 J.turn)∧w'.cell? ⟨q.jb,4,none⟩=some (.int .i64 (J.place:Int))∧w'.cell? ⟨q.jb,5,none⟩=some (.int .i64 (J.homes D.n:Int))):=by
    show ∀w',_
    intro w' hu
    obtain⟨y0,y1,_,y3,y4,y5,_⟩:=(HH.out.below hu).cells
    exact⟨y0,y1,y3,y4,y5⟩
   clear hr0 hr1 hpl ht0 ht1 hx hx0 hx1 hPP hP2 hQ1 hQ2 hQ3 hA hAat hQ3lt hbd hbl hkn
   go_wp2_with fail
   refine(HNK.out _).mono ?_
   rintro e w4 ⟨rfl,hu4⟩
   have HU4:=Lib.hid (HU.out.trans hu4)
   have HR4:=Lib.hid hu4
   clear hu4 hwm hwa
   go_wp2_with fail
   refine wp_region_x (fun w'=>Upd [] w4 w') [] (by kernel_rfl) (Upd.refl _ _).drew (fun hHeld=>?_)
   generalize w4.drew=w0 at hHeld ⊢
   refine wpAnyX_take (i:=0) (v:=?_) rfl (by kernel_rfl) (fun _ _ _ h=>h) hHeld (Or.inl ⟨by kernel_rfl,?_⟩) ?_
   rotate_left
   ·(intro w hSw;go_simp<;>with_reducible rfl)
   try simp only[Act.put,List.getElem_toArray,List.getElem_cons_zero,List.getElem_cons_succ,List.setIfInBounds_toArray,List.set_cons_zero,List.set_cons_succ]
   refine wpAnyX_take (i:=1) (v:=?_) rfl (by kernel_rfl) (fun _ _ _ h=>h) hHeld (Or.inl ⟨by kernel_rfl,?_⟩) ?_
   rotate_left
   ·(intro w hSw;go_simp<;>with_reducible rfl)
   try simp only[Act.put,List.getElem_toArray,List.getElem_cons_zero,List.getElem_cons_succ,List.setIfInBounds_toArray,List.set_cons_zero,List.set_cons_succ]
   refine wpAnyX_take (i:=2) (v:=?_) rfl (by kernel_rfl) (fun _ _ _ h=>h) hHeld (Or.inl ⟨by kernel_rfl,?_⟩) ?_
   rotate_left
   ·(intro w hSw;go_simp<;>with_reducible rfl)
   try simp only[Act.put,List.getElem_toArray,List.getElem_cons_zero,List.getElem_cons_succ,List.setIfInBounds_toArray,List.set_cons_zero,List.set_cons_succ]
   refine wpAnyX_take (i:=3) (v:=?_) rfl (by kernel_rfl) (fun _ _ _ h=>h) hHeld (Or.inl ⟨by kernel_rfl,?_⟩) ?_
   rotate_left
   ·(intro w hSw;obtain⟨y0,y1,y3,y4,y5⟩:=HCJ.out _ (HU4.out.trans hSw);go_simp<;>with_reducible rfl)
   try simp only[Act.put,List.getElem_toArray,List.getElem_cons_zero,List.getElem_cons_succ,List.setIfInBounds_toArray,List.set_cons_zero,List.set_cons_succ]
   refine wpAnyX_take (i:=4) (v:=?_) rfl (by kernel_rfl) (fun _ _ _ h=>h) hHeld (Or.inl ⟨by kernel_rfl,?_⟩) ?_
   rotate_left
   ·(intro w hSw;go_simp<;>with_reducible rfl)
   try simp only[Act.put,List.getElem_toArray,List.getElem_cons_zero,List.getElem_cons_succ,List.setIfInBounds_toArray,List.set_cons_zero,List.set_cons_succ]
   refine wpAnyX_take (i:=5) (v:=?_) rfl (by kernel_rfl) (fun _ _ _ h=>h) hHeld (Or.inl ⟨by kernel_rfl,?_⟩) ?_
   rotate_left
   ·(intro w hSw;go_simp<;>with_reducible rfl)
   try simp only[Act.put,List.getElem_toArray,List.getElem_cons_zero,List.getElem_cons_succ,List.setIfInBounds_toArray,List.set_cons_zero,List.set_cons_succ]
   refine wpAnyX_take (i:=6) (v:=?_) rfl (by kernel_rfl) (fun _ _ _ h=>h) hHeld (Or.inl ⟨by kernel_rfl,?_⟩) ?_
   rotate_left
   ·(intro w hSw;go_simp<;>with_reducible rfl)
   try simp only[Act.put,List.getElem_toArray,List.getElem_cons_zero,List.getElem_cons_succ,List.setIfInBounds_toArray,List.set_cons_zero,List.set_cons_succ]
   refine wpAnyX_take (i:=7) (v:=?_) rfl (by kernel_rfl) (fun _ _ _ h=>h) hHeld (Or.inl ⟨by kernel_rfl,?_⟩) ?_
   rotate_left
   ·(intro w hSw;obtain⟨y0,y1,y3,y4,y5⟩:=HCJ.out _ (HU4.out.trans hSw);go_simp<;>with_reducible rfl)
   try simp only[Act.put,List.getElem_toArray,List.getElem_cons_zero,List.getElem_cons_succ,List.setIfInBounds_toArray,List.set_cons_zero,List.set_cons_succ]
   refine wpAnyX_take (i:=8) (v:=?_) rfl (by kernel_rfl) (fun _ _ _ h=>h) hHeld (Or.inl ⟨by kernel_rfl,?_⟩) ?_
   rotate_left
   ·(intro w hSw;obtain⟨v1,v2,v3,v4,v5,v6,v7,v8⟩:=HWW.out;go_simp<;>with_reducible rfl)
   try simp only[Act.put,List.getElem_toArray,List.getElem_cons_zero,List.getElem_cons_succ,List.setIfInBounds_toArray,List.set_cons_zero,List.set_cons_succ]
   refine wpAnyX_take (i:=9) (v:=?_) rfl (by kernel_rfl) (fun _ _ _ h=>h) hHeld (Or.inl ⟨by kernel_rfl,?_⟩) ?_
   rotate_left
   ·(intro w hSw;go_simp<;>with_reducible rfl)
   try simp only[Act.put,List.getElem_toArray,List.getElem_cons_zero,List.getElem_cons_succ,List.setIfInBounds_toArray,List.set_cons_zero,List.set_cons_succ]
   refine wpAnyX_take (i:=10) (v:=?_) rfl (by kernel_rfl) (fun _ _ _ h=>h) hHeld (Or.inl ⟨by kernel_rfl,?_⟩) ?_
   rotate_left
   ·(intro w hSw;obtain⟨v1,v2,v3,v4,v5,v6,v7,v8⟩:=HWW.out;go_simp<;>with_reducible rfl)
   try simp only[Act.put,List.getElem_toArray,List.getElem_cons_zero,List.getElem_cons_succ,List.setIfInBounds_toArray,List.set_cons_zero,List.set_cons_succ]
   refine wpAnyX_take (i:=11) (v:=?_) rfl (by kernel_rfl) (fun _ _ _ h=>h) hHeld (Or.inl ⟨by kernel_rfl,?_⟩) ?_
   rotate_left
   ·(intro w hSw;go_simp<;>with_reducible rfl)
   try simp only[Act.put,List.getElem_toArray,List.getElem_cons_zero,List.getElem_cons_succ,List.setIfInBounds_toArray,List.set_cons_zero,List.set_cons_succ]
   refine wpAnyX_take (i:=12) (v:=?_) rfl (by kernel_rfl) (fun _ _ _ h=>h) hHeld (Or.inl ⟨by kernel_rfl,?_⟩) ?_
   rotate_left
   ·(intro w hSw;go_simp<;>with_reducible rfl)
   try simp only[Act.put,List.getElem_toArray,List.getElem_cons_zero,List.getElem_cons_succ,List.setIfInBounds_toArray,List.set_cons_zero,List.set_cons_succ]
   refine wpAnyX_take (i:=13) (v:=?_) rfl (by kernel_rfl) (fun _ _ _ h=>h) hHeld (Or.inl ⟨by kernel_rfl,?_⟩) ?_
   rotate_left
   ·(intro w hSw;go_simp<;>with_reducible rfl)
   try simp only[Act.put,List.getElem_toArray,List.getElem_cons_zero,List.getElem_cons_succ,List.setIfInBounds_toArray,List.set_cons_zero,List.set_cons_succ]
   refine wpAnyX_take (i:=14) (v:=?_) rfl (by kernel_rfl) (fun _ _ _ h=>h) hHeld (Or.inl ⟨by kernel_rfl,?_⟩) ?_
   rotate_left
   ·(intro w hSw;obtain⟨y0,y1,y3,y4,y5⟩:=HCJ.out _ (HU4.out.trans hSw);go_simp<;>with_reducible rfl)
   try simp only[Act.put,List.getElem_toArray,List.getElem_cons_zero,List.getElem_cons_succ,List.setIfInBounds_toArray,List.set_cons_zero,List.set_cons_succ]
   refine wpAnyX_take (i:=15) (v:=?_) rfl (by kernel_rfl) (fun _ _ _ h=>h) hHeld (Or.inl ⟨by kernel_rfl,?_⟩) ?_
   rotate_left
   ·(intro w hSw;obtain⟨v1,v2,v3,v4,v5,v6,v7,v8⟩:=HWW.out;go_simp<;>with_reducible rfl)
   try simp only[Act.put,List.getElem_toArray,List.getElem_cons_zero,List.getElem_cons_succ,List.setIfInBounds_toArray,List.set_cons_zero,List.set_cons_succ]
   refine wpAnyX_take (i:=16) (v:=?_) rfl (by kernel_rfl) (fun _ _ _ h=>h) hHeld (Or.inl ⟨by kernel_rfl,?_⟩) ?_
   rotate_left
   ·(intro w hSw;obtain⟨v1,v2,v3,v4,v5,v6,v7,v8⟩:=HWW.out;go_simp<;>with_reducible rfl)
   try simp only[Act.put,List.getElem_toArray,List.getElem_cons_zero,List.getElem_cons_succ,List.setIfInBounds_toArray,List.set_cons_zero,List.set_cons_succ]
   refine wpAnyX_ready (rs:=[17]) (by kernel_rfl) (by simp) (AllReadyX.one rfl (fun K hK=>?_))
   go_simp
   go_at_call 72
   (with_reducible refine(HRD.out _ (HU4.out.trans hHeld)).mono ?_)
   rintro e wl ⟨rfl,rfl⟩
   refine hK.out _ _ (fun _=>hHeld) ?_
   clear hK K
   try simp only[Act.put,List.getElem_toArray,List.getElem_cons_zero,List.getElem_cons_succ,List.setIfInBounds_toArray,List.set_cons_zero,List.set_cons_succ]
   refine wpAnyX_take (i:=18) (v:=?_) rfl (by kernel_rfl) (fun _ _ _ h=>h) hHeld (Or.inl ⟨by kernel_rfl,?_⟩) ?_
   rotate_left
   ·(intro w hSw;go_simp<;>with_reducible rfl)
   try simp only[Act.put,List.getElem_toArray,List.getElem_cons_zero,List.getElem_cons_succ,List.setIfInBounds_toArray,List.set_cons_zero,List.set_cons_succ]
   refine wpAnyX_take (i:=19) (v:=?_) rfl (by kernel_rfl) (fun _ _ _ h=>h) hHeld (Or.inl ⟨by kernel_rfl,?_⟩) ?_
   rotate_left
   ·(intro w hSw;go_simp<;>with_reducible rfl)
   try simp only[Act.put,List.getElem_toArray,List.getElem_cons_zero,List.getElem_cons_succ,List.setIfInBounds_toArray,List.set_cons_zero,List.set_cons_succ]
   refine wpAnyX_take (i:=21) (v:=?_) rfl (by kernel_rfl) (fun _ _ _ h=>h) hHeld (Or.inl ⟨by kernel_rfl,?_⟩) ?_
   rotate_left
   ·(intro w hSw;go_simp<;>with_reducible rfl)
   try simp only[Act.put,List.getElem_toArray,List.getElem_cons_zero,List.getElem_cons_succ,List.setIfInBounds_toArray,List.set_cons_zero,List.set_cons_succ]
   refine wpAnyX_take (i:=20) (v:=?_) rfl (by kernel_rfl) (fun _ _ _ h=>h) hHeld (Or.inl ⟨by kernel_rfl,?_⟩) ?_
   rotate_left
   ·(intro w hSw;go_simp<;>with_reducible rfl)
   try simp only[Act.put,List.getElem_toArray,List.getElem_cons_zero,List.getElem_cons_succ,List.setIfInBounds_toArray,List.set_cons_zero,List.set_cons_succ]
   refine wpAnyX_take (i:=22) (v:=?_) rfl (by kernel_rfl) (fun _ _ _ h=>h) hHeld (Or.inl ⟨by kernel_rfl,?_⟩) ?_
   rotate_left
   ·(intro w hSw;go_simp<;>with_reducible rfl)
   try simp only[Act.put,List.getElem_toArray,List.getElem_cons_zero,List.getElem_cons_succ,List.setIfInBounds_toArray,List.set_cons_zero,List.set_cons_succ]
   refine wpAnyX_done (by kernel_rfl) ?_ _
   obtain⟨w5,hw5⟩:∃x,x=w0:=⟨_,rfl⟩
   rw[← hw5] at hHeld ⊢
   clear hw5
   have HU5:=Lib.hid (HU4.out.trans hHeld)
   have HR5:=Lib.hid (HR4.out.trans hHeld)
   clear hHeld
   have HRG:Hid (J.stands D=[]∨J.stGood D k):=by
    show _∨_
    by_cases hg:J.stGood D k
    ·exact .inr hg
    ·exact .inl (Jn.stands_bad (by rw[← HN.out];exact hlt) hg)
   have HGK:Hid (J.stGood D k↔bd.take 8=x2∧x<(J.homes D.n:Int)∧∀m,m<k→numI (J.hd D) (16+12*m) 4≠x):=by
    show _↔_
    rw[HBD.out,HXE.out.2,HX.out]
    exact HGI.out k (by rw[← HN.out];exact hlt)
   obtain⟨hom,hhom⟩:∃h,h=J.homes D.n:=⟨_,rfl⟩
   rw[← hhom] at HCJ HGK
   clear hhom
   obtain⟨z8,hz8⟩:∃z,z=bd.take 8:=⟨_,rfl⟩
   have HSF:Hid (∀w,(Instr.slice 9 (.string (str bd)) none (some (.int .i64 8)) none).run Tryz.prog w=.ok (.string (str z8)) w):=by
    show ∀w,_
    intro w
    have:=run_str_front bd 8 (by rw[HBL.out];omega) w
    rw[hz8];simpa using this
   rw[← hz8] at HGK
   obtain⟨b3,hb3⟩:∃c,c=decide (z8=x2):=⟨_,rfl⟩
   have HQ3:=Lib.hid (str_cmp hb3)
   have HB3:=Lib.hid hb3
   clear hz8 hb3
   by_cases hxh:(hom:Int)≤x
   ·have f1:decide ((hom:Int)≤x)=true:=decide_eq_true hxh
    have HNO:Hid (J.stands D=[]):=by
     show _=_
     rcases HRG.out with h | h
     ·exact h
     ·have:=(HGK.out.1 h).2.1;omega
    clear hxh
    go_wp2_with fail
    refine wp_region_x (fun w'=>Upd [] w5 w') [] (by kernel_rfl) (Upd.refl _ _).drew (fun hHeld=>?_)
    generalize w5.drew=w0 at hHeld ⊢
    refine wpAnyX_take (i:=0) (v:=?_) rfl (by kernel_rfl) (fun _ _ _ h=>h) hHeld (Or.inl ⟨by kernel_rfl,?_⟩) ?_
    rotate_left
    ·(intro w hSw;go_simp<;>with_reducible rfl)
    try simp only[Act.put,List.getElem_toArray,List.getElem_cons_zero,List.getElem_cons_succ,List.setIfInBounds_toArray,List.set_cons_zero,List.set_cons_succ]
    refine wpAnyX_take (i:=1) (v:=?_) rfl (by kernel_rfl) (fun _ _ _ h=>h) hHeld (Or.inl ⟨by kernel_rfl,?_⟩) ?_
    rotate_left
    ·(intro w hSw;go_simp<;>with_reducible rfl)
    try simp only[Act.put,List.getElem_toArray,List.getElem_cons_zero,List.getElem_cons_succ,List.setIfInBounds_toArray,List.set_cons_zero,List.set_cons_succ]
    refine wpAnyX_take (i:=2) (v:=?_) rfl (by kernel_rfl) (fun _ _ _ h=>h) hHeld (Or.inl ⟨by kernel_rfl,?_⟩) ?_
    rotate_left
    ·(intro w hSw;go_simp<;>with_reducible rfl)
    try simp only[Act.put,List.getElem_toArray,List.getElem_cons_zero,List.getElem_cons_succ,List.setIfInBounds_toArray,List.set_cons_zero,List.set_cons_succ]
    refine wpAnyX_take (i:=3) (v:=?_) rfl (by kernel_rfl) (fun _ _ _ h=>h) hHeld (Or.inl ⟨by kernel_rfl,?_⟩) ?_
    rotate_left
    ·(intro w hSw;go_simp<;>with_reducible rfl)
    try simp only[Act.put,List.getElem_toArray,List.getElem_cons_zero,List.getElem_cons_succ,List.setIfInBounds_toArray,List.set_cons_zero,List.set_cons_succ]
    refine wpAnyX_take (i:=4) (v:=?_) rfl (by kernel_rfl) (fun _ _ _ h=>h) hHeld (Or.inl ⟨by kernel_rfl,?_⟩) ?_
    rotate_left
    ·(intro w hSw;obtain⟨y0,y1,y3,y4,y5⟩:=HCJ.out _ (HU5.out.trans hSw);go_simp<;>with_reducible rfl)
    try simp only[Act.put,List.getElem_toArray,List.getElem_cons_zero,List.getElem_cons_succ,List.setIfInBounds_toArray,List.set_cons_zero,List.set_cons_succ]
    refine wpAnyX_take (i:=5) (v:=?_) rfl (by kernel_rfl) (fun _ _ _ h=>h) hHeld (Or.inl ⟨by kernel_rfl,?_⟩) ?_
    rotate_left
    ·(intro w hSw;go_simp<;>with_reducible rfl)
    try simp only[Act.put,List.getElem_toArray,List.getElem_cons_zero,List.getElem_cons_succ,List.setIfInBounds_toArray,List.set_cons_zero,List.set_cons_succ]
    refine wpAnyX_take (i:=6) (v:=?_) rfl (by kernel_rfl) (fun _ _ _ h=>h) hHeld (Or.inl ⟨by kernel_rfl,?_⟩) ?_
    rotate_left
    ·(intro w hSw;go_simp<;>with_reducible rfl)
    try simp only[Act.put,List.getElem_toArray,List.getElem_cons_zero,List.getElem_cons_succ,List.setIfInBounds_toArray,List.set_cons_zero,List.set_cons_succ]
    refine wpAnyX_take (i:=7) (v:=undef) rfl (by kernel_rfl) (fun _ _ _ h=>h) hHeld (Or.inr ⟨by kernel_rfl,rfl⟩) ?_
    try simp only[Act.put,List.getElem_toArray,List.getElem_cons_zero,List.getElem_cons_succ,List.setIfInBounds_toArray,List.set_cons_zero,List.set_cons_succ]
    refine wpAnyX_take (i:=8) (v:=undef) rfl (by kernel_rfl) (fun _ _ _ h=>h) hHeld (Or.inr ⟨by kernel_rfl,rfl⟩) ?_
    try simp only[Act.put,List.getElem_toArray,List.getElem_cons_zero,List.getElem_cons_succ,List.setIfInBounds_toArray,List.set_cons_zero,List.set_cons_succ]
    refine wpAnyX_take (i:=9) (v:=undef) rfl (by kernel_rfl) (fun _ _ _ h=>h) hHeld (Or.inr ⟨by kernel_rfl,rfl⟩) ?_
    try simp only[Act.put,List.getElem_toArray,List.getElem_cons_zero,List.getElem_cons_succ,List.setIfInBounds_toArray,List.set_cons_zero,List.set_cons_succ]
    refine wpAnyX_take (i:=10) (v:=undef) rfl (by kernel_rfl) (fun _ _ _ h=>h) hHeld (Or.inr ⟨by kernel_rfl,rfl⟩) ?_
    try simp only[Act.put,List.getElem_toArray,List.getElem_cons_zero,List.getElem_cons_succ,List.setIfInBounds_toArray,List.set_cons_zero,List.set_cons_succ]
    refine wpAnyX_take (i:=11) (v:=undef) rfl (by kernel_rfl) (fun _ _ _ h=>h) hHeld (Or.inr ⟨by kernel_rfl,rfl⟩) ?_
    try simp only[Act.put,List.getElem_toArray,List.getElem_cons_zero,List.getElem_cons_succ,List.setIfInBounds_toArray,List.set_cons_zero,List.set_cons_succ]
    refine wpAnyX_take (i:=12) (v:=undef) rfl (by kernel_rfl) (fun _ _ _ h=>h) hHeld (Or.inr ⟨by kernel_rfl,rfl⟩) ?_
    try simp only[Act.put,List.getElem_toArray,List.getElem_cons_zero,List.getElem_cons_succ,List.setIfInBounds_toArray,List.set_cons_zero,List.set_cons_succ]
    refine wpAnyX_take (i:=13) (v:=undef) rfl (by kernel_rfl) (fun _ _ _ h=>h) hHeld (Or.inr ⟨by kernel_rfl,rfl⟩) ?_
    try simp only[Act.put,List.getElem_toArray,List.getElem_cons_zero,List.getElem_cons_succ,List.setIfInBounds_toArray,List.set_cons_zero,List.set_cons_succ]
    refine wpAnyX_ready (rs:=[14]) (by kernel_rfl) (by simp) (AllReadyX.one rfl (fun K hK=>?_))
    go_simp
    refine hK.out _ _ (fun _=>hHeld) ?_
    clear hK K
    try simp only[Act.put,List.getElem_toArray,List.getElem_cons_zero,List.getElem_cons_succ,List.setIfInBounds_toArray,List.set_cons_zero,List.set_cons_succ]
    refine wpAnyX_take (i:=15) (v:=undef) rfl (by kernel_rfl) (fun _ _ _ h=>h) hHeld (Or.inr ⟨by kernel_rfl,rfl⟩) ?_
    try simp only[Act.put,List.getElem_toArray,List.getElem_cons_zero,List.getElem_cons_succ,List.setIfInBounds_toArray,List.set_cons_zero,List.set_cons_succ]
    refine wpAnyX_take (i:=16) (v:=?_) rfl (by kernel_rfl) (fun _ _ _ h=>h) hHeld (Or.inl ⟨by kernel_rfl,?_⟩) ?_
    rotate_left
    ·(intro w hSw;go_simp<;>with_reducible rfl)
    try simp only[Act.put,List.getElem_toArray,List.getElem_cons_zero,List.getElem_cons_succ,List.setIfInBounds_toArray,List.set_cons_zero,List.set_cons_succ]
    refine wpAnyX_done (by kernel_rfl) ?_ _
    have HU6:=Lib.hid (HU5.out.trans hHeld)
    clear hHeld
    go_wp2_with fail
    go_ret2
    exact rst_none HNO.out HU6.out
   ·have f1:decide ((hom:Int)≤x)=false:=decide_eq_false hxh
    have HXH:Hid (x<(hom:Int)):=Lib.hid (by omega)
    go_wp2_with fail
    refine wp_region_x (fun w'=>Upd [] w5 w') [] (by kernel_rfl) (Upd.refl _ _).drew (fun hHeld=>?_)
    generalize w5.drew=w0 at hHeld ⊢
    refine wpAnyX_take (i:=0) (v:=?_) rfl (by kernel_rfl) (fun _ _ _ h=>h) hHeld (Or.inl ⟨by kernel_rfl,?_⟩) ?_
    rotate_left
    ·(intro w hSw;go_simp<;>with_reducible rfl)
    try simp only[Act.put,List.getElem_toArray,List.getElem_cons_zero,List.getElem_cons_succ,List.setIfInBounds_toArray,List.set_cons_zero,List.set_cons_succ]
    refine wpAnyX_take (i:=1) (v:=?_) rfl (by kernel_rfl) (fun _ _ _ h=>h) hHeld (Or.inl ⟨by kernel_rfl,?_⟩) ?_
    rotate_left
    ·(intro w hSw;go_simp<;>with_reducible rfl)
    try simp only[Act.put,List.getElem_toArray,List.getElem_cons_zero,List.getElem_cons_succ,List.setIfInBounds_toArray,List.set_cons_zero,List.set_cons_succ]
    refine wpAnyX_take (i:=2) (v:=?_) rfl (by kernel_rfl) (fun _ _ _ h=>h) hHeld (Or.inl ⟨by kernel_rfl,?_⟩) ?_
    rotate_left
    ·(intro w hSw;go_simp<;>with_reducible rfl)
    try simp only[Act.put,List.getElem_toArray,List.getElem_cons_zero,List.getElem_cons_succ,List.setIfInBounds_toArray,List.set_cons_zero,List.set_cons_succ]
    refine wpAnyX_take (i:=3) (v:=?_) rfl (by kernel_rfl) (fun _ _ _ h=>h) hHeld (Or.inl ⟨by kernel_rfl,?_⟩) ?_
    rotate_left
    ·(intro w hSw;go_simp<;>with_reducible rfl)
    try simp only[Act.put,List.getElem_toArray,List.getElem_cons_zero,List.getElem_cons_succ,List.setIfInBounds_toArray,List.set_cons_zero,List.set_cons_succ]
    refine wpAnyX_take (i:=4) (v:=?_) rfl (by kernel_rfl) (fun _ _ _ h=>h) hHeld (Or.inl ⟨by kernel_rfl,?_⟩) ?_
    rotate_left
    ·(intro w hSw;obtain⟨y0,y1,y3,y4,y5⟩:=HCJ.out _ (HU5.out.trans hSw);go_simp<;>with_reducible rfl)
    try simp only[Act.put,List.getElem_toArray,List.getElem_cons_zero,List.getElem_cons_succ,List.setIfInBounds_toArray,List.set_cons_zero,List.set_cons_succ]
    refine wpAnyX_take (i:=5) (v:=?_) rfl (by kernel_rfl) (fun _ _ _ h=>h) hHeld (Or.inl ⟨by kernel_rfl,?_⟩) ?_
    rotate_left
    ·(intro w hSw;go_simp<;>with_reducible rfl)
    try simp only[Act.put,List.getElem_toArray,List.getElem_cons_zero,List.getElem_cons_succ,List.setIfInBounds_toArray,List.set_cons_zero,List.set_cons_succ]
    refine wpAnyX_take (i:=6) (v:=?_) rfl (by kernel_rfl) (fun _ _ _ h=>h) hHeld (Or.inl ⟨by kernel_rfl,?_⟩) ?_
    rotate_left
    ·(intro w hSw;go_simp<;>with_reducible rfl)
    try simp only[Act.put,List.getElem_toArray,List.getElem_cons_zero,List.getElem_cons_succ,List.setIfInBounds_toArray,List.set_cons_zero,List.set_cons_succ]
    refine wpAnyX_take (i:=7) (v:=?_) rfl (by kernel_rfl) (fun _ _ _ h=>h) hHeld (Or.inl ⟨by kernel_rfl,?_⟩) ?_
    rotate_left
    ·(intro w hSw;go_simp<;>with_reducible rfl)
    try simp only[Act.put,List.getElem_toArray,List.getElem_cons_zero,List.getElem_cons_succ,List.setIfInBounds_toArray,List.set_cons_zero,List.set_cons_succ]
    refine wpAnyX_take (i:=8) (v:=?_) rfl (by kernel_rfl) (fun _ _ _ h=>h) hHeld (Or.inl ⟨by kernel_rfl,?_⟩) ?_
    rotate_left
    ·(intro w hSw;have wf:=HSF.out;go_simp<;>with_reducible rfl)
    try simp only[Act.put,List.getElem_toArray,List.getElem_cons_zero,List.getElem_cons_succ,List.setIfInBounds_toArray,List.set_cons_zero,List.set_cons_succ]
    refine wpAnyX_take (i:=9) (v:=?_) rfl (by kernel_rfl) (fun _ _ _ h=>h) hHeld (Or.inl ⟨by kernel_rfl,?_⟩) ?_
    rotate_left
    ·(intro w hSw;go_simp<;>with_reducible rfl)
    try simp only[Act.put,List.getElem_toArray,List.getElem_cons_zero,List.getElem_cons_succ,List.setIfInBounds_toArray,List.set_cons_zero,List.set_cons_succ]
    refine wpAnyX_take (i:=10) (v:=?_) rfl (by kernel_rfl) (fun _ _ _ h=>h) hHeld (Or.inl ⟨by kernel_rfl,?_⟩) ?_
    rotate_left
    ·(intro w hSw;go_simp<;>with_reducible rfl)
    try simp only[Act.put,List.getElem_toArray,List.getElem_cons_zero,List.getElem_cons_succ,List.setIfInBounds_toArray,List.set_cons_zero,List.set_cons_succ]
    refine wpAnyX_take (i:=11) (v:=?_) rfl (by kernel_rfl) (fun _ _ _ h=>h) hHeld (Or.inl ⟨by kernel_rfl,?_⟩) ?_
    rotate_left
    ·(intro w hSw;go_simp<;>with_reducible rfl)
    try simp only[Act.put,List.getElem_toArray,List.getElem_cons_zero,List.getElem_cons_succ,List.setIfInBounds_toArray,List.set_cons_zero,List.set_cons_succ]
    refine wpAnyX_take (i:=12) (v:=?_) rfl (by kernel_rfl) (fun _ _ _ h=>h) hHeld (Or.inl ⟨by kernel_rfl,?_⟩) ?_
    rotate_left
    ·(intro w hSw;obtain⟨y0,y1,y3,y4,y5⟩:=HCJ.out _ (HU5.out.trans hSw);go_simp<;>with_reducible rfl)
    try simp only[Act.put,List.getElem_toArray,List.getElem_cons_zero,List.getElem_cons_succ,List.setIfInBounds_toArray,List.set_cons_zero,List.set_cons_succ]
    refine wpAnyX_take (i:=13) (v:=?_) rfl (by kernel_rfl) (fun _ _ _ h=>h) hHeld (Or.inl ⟨by kernel_rfl,?_⟩) ?_
    rotate_left
    ·(intro w hSw;have wq:=HTT.out.1;go_simp<;>with_reducible rfl)
    try simp only[Act.put,List.getElem_toArray,List.getElem_cons_zero,List.getElem_cons_succ,List.setIfInBounds_toArray,List.set_cons_zero,List.set_cons_succ]
    refine wpAnyX_ready (rs:=[14]) (by kernel_rfl) (by simp) (AllReadyX.one rfl (fun K hK=>?_))
    go_simp
    go_at_call 125
    (with_reducible refine(HE2.out _).mono ?_)
    rintro e wl ⟨rfl,hul⟩
    refine hK.out _ _ (fun _=>hHeld.trans hul) ?_
    replace hHeld:=hHeld.trans hul
    clear hul hK K
    try simp only[Act.put,List.getElem_toArray,List.getElem_cons_zero,List.getElem_cons_succ,List.setIfInBounds_toArray,List.set_cons_zero,List.set_cons_succ]
    refine wpAnyX_take (i:=15) (v:=?_) rfl (by kernel_rfl) (fun _ _ _ h=>h) hHeld (Or.inl ⟨by kernel_rfl,?_⟩) ?_
    rotate_left
    ·(intro w hSw;have wq:=HQ3.out;go_simp<;>with_reducible rfl)
    try simp only[Act.put,List.getElem_toArray,List.getElem_cons_zero,List.getElem_cons_succ,List.setIfInBounds_toArray,List.set_cons_zero,List.set_cons_succ]
    refine wpAnyX_take (i:=16) (v:=?_) rfl (by kernel_rfl) (fun _ _ _ h=>h) hHeld (Or.inl ⟨by kernel_rfl,?_⟩) ?_
    rotate_left
    ·(intro w hSw;go_simp<;>with_reducible rfl)
    try simp only[Act.put,List.getElem_toArray,List.getElem_cons_zero,List.getElem_cons_succ,List.setIfInBounds_toArray,List.set_cons_zero,List.set_cons_succ]
    refine wpAnyX_done (by kernel_rfl) ?_ _
    obtain⟨w6,hw6⟩:∃x,x=wl:=⟨_,rfl⟩
    rw[← hw6] at hHeld ⊢
    clear hw6
    have HU6:=Lib.hid (HU5.out.trans hHeld)
    have HR6:=Lib.hid (HR5.out.trans hHeld)
    clear hHeld
    cases b3 with
    | false=>
     have HNO:Hid (J.stands D=[]):=by
      show _=_
      rcases HRG.out with h | h
      ·exact h
      ·exact absurd (HGK.out.1 h).1 (of_decide_eq_false HB3.out.symm)
     go_wp2_with fail
     go_ret2
     exact rst_none HNO.out HU6.out
    | true=>
     go_wp2_with fail
     go_loopw [13] (fun i wr2=>∃m:Nat,m≤k∧i=.int .i64 (m:Int)∧Upd [] w6 wr2∧∀j,j<m→numI (J.hd D) (16+12*j) 4≠x) (fun i _=>k-(intOf i).toNat)
     case atStart=>exact⟨0,Nat.zero_le _,rfl,Upd.refl _ _,by simp⟩
     case round=>
      obtain⟨m,hmk,rfl,hu7,hne7⟩:=hrel
      have HU7:=Lib.hid (HU6.out.trans hu7)
      have HS7:=Lib.hid hu7
      have HP7:=Lib.hid (HP.out.below (HR6.out.trans hu7))
      have HNE7:=Lib.hid hne7
      clear hu7 hne7
      rcases Nat.lt_or_ge m k with hlt2 | hge2
      ·have g1:decide ((m:Int)<(k:Int))=true:=decide_eq_true (by omega)
       have g2:decide (m<k)=true:=decide_eq_true hlt2
       have j0:(0:Int)≤(m:Int):=by omega
       have j1:(m:Int)<(k:Int):=by omega
       have hml:m<(J.stL D k).length:=by rw[Jn.stL_length];exact hlt2
       obtain⟨g',cap',da',dc',e,hd1,_⟩:=HP7.out.at_.get m hml
       cases e
       obtain⟨y,hy⟩:∃y,y=numI (J.hd D) (16+12*m) 4:=⟨_,rfl⟩
       have hv:(J.stL D k)[m].1=y:=by rw[Jn.stL_get,hy];rfl
       rw[hv] at hd1
       have HY:=Lib.hid hy
       clear hv hy
       by_cases hxy:y=x
       ·have hbe:(y == x)=true:=by rw[beq_iff_eq];exact hxy
        have hbe2:decide (y=x)=true:=decide_eq_true hxy
        have HNO:Hid (J.stands D=[]):=by
         show _=_
         rcases HRG.out with h | h
         ·exact h
         ·exact absurd (by rw[← HY.out];exact hxy) ((HGK.out.1 h).2.2 m hlt2)
        clear hxy
        go_wp2_with fail
        go_ret2
        exact rst_none HNO.out HU7.out
       ·have hbe:(y == x)=false:=by rw[beq_eq_false_iff_ne];exact hxy
        have hbe2:decide (y=x)=false:=decide_eq_false hxy
        have HXY:=Lib.hid hxy
        clear hxy
        go_wp2_with fail
        exact⟨⟨m+1,by omega,by go_num,HS7.out,fun j hj=>by
         by_cases e:j=m
         ·subst e;rw[← HY.out];exact HXY.out
         ·exact HNE7.out j (by omega)⟩,by simp[intOf];omega⟩
      ·obtain rfl:m=k:=by omega
       have g1:decide ((m:Int)<(m:Int))=false:=by simp
       have g2:decide (m<m)=false:=by simp
       have HGG:Hid (J.stGood D m):=Lib.hid (HGK.out.2 ⟨of_decide_eq_true HB3.out.symm,HXH.out,HNE7.out⟩)
       obtain⟨P20,hP20⟩:∃y,y=20+P:=⟨_,rfl⟩
       obtain⟨P28,hP28⟩:∃y,y=28+P:=⟨_,rfl⟩
       have hm40:m≤40:=by omega
       have HW9:Hid (IntKind.i64.wrap (12*(m:Int))=(P:Int)∧IntKind.i64.wrap (20+(P:Int))=(P20:Int)∧IntKind.i64.wrap (28+(P:Int))=(P28:Int)):=by
        show _∧_∧_
        rw[IntKind.wrap_i64,IntKind.wrap_i64,IntKind.wrap_i64]
        have:=HPK.out.1
        refine⟨by omega,by omega,by omega⟩
       obtain⟨y8,hy8⟩:∃y,y=(hd.drop P20).take (P28-P20):=⟨_,rfl⟩
       have ly8:y8.length=8:=by
        have h1:=HPK.out.1
        have h2:=HLEN.out
        rw[hy8,List.length_take,List.length_drop];omega
       have HMID:Hid (∀w,(Instr.slice 9 (.string (str hd)) (some (.int .i64 (P20:Int))) (some (.int .i64 (P28:Int))) none).run Tryz.prog w=.ok (.string (str y8)) w):=by
        show ∀w,_
        intro w
        have h1:=HPK.out.1
        have h2:=HLEN.out
        rw[hy8]
        exact run_str_mid hd P20 P28 (by omega) (by omega) w
       obtain⟨z9,hz9⟩:∃z,z=bd.drop 8:=⟨_,rfl⟩
       have lz9:z9.length=504:=by rw[hz9,List.length_drop,HBL.out]
       have HBK9:Hid (∀w,(Instr.slice 9 (.string (str bd)) (some (.int .i64 8)) none none).run Tryz.prog w=.ok (.string (str z9)) w):=by
        show ∀w,_
        intro w
        have:=run_str_back bd 8 (by rw[HBL.out];omega) w
        rw[hz9];simpa using this
       obtain⟨dat,hdat⟩:∃z,z=y8++z9:=⟨_,rfl⟩
       have ldat:dat.length=512:=by rw[hdat,List.length_append,ly8,lz9]
       have HADD:Hid (∀w,(Op.stringOp .add (str y8) (str z9)).run Tryz.prog w=.ok (.string (str dat)) w):=by
        show ∀w,_
        intro w
        rw[hdat];exact run_adds y8 z9 (by omega) (by omega) w
       have HPUT:Hid ((x,dat)=J.stPut D m):=by
        show _=_
        unfold Jn.stPut
        have e:y8=((J.hd D).drop (20+12*m)).take 8:=by
         rw[hy8,HHD.out,hP20,HPK.out.1,hP28,HPK.out.1,show 28+12*m-(20+12*m)=8 by omega]
        rw[st_data (by rw[← HBD.out];exact HBL.out) (by rw[← e];exact ly8),← HX.out,hdat,e,hz9,HBD.out]
       have HLDAT:=Lib.hid ldat
       clear hP20 hP28 hm40 hy8 ly8 hz9 lz9 hdat ldat
       go_wp2_with fail
       refine wp_region_x (fun w'=>Upd [] wr w') [16] (by kernel_rfl) (Upd.refl _ _).drew (fun hHeld=>?_)
       generalize wr.drew=w0 at hHeld ⊢
       refine wpAnyX_take (i:=0) (v:=?_) rfl (by kernel_rfl) (fun _ _ _ h=>h) hHeld (Or.inl ⟨by kernel_rfl,?_⟩) ?_
       rotate_left
       ·(intro w hSw;go_simp<;>with_reducible rfl)
       try simp only[Act.put,List.getElem_toArray,List.getElem_cons_zero,List.getElem_cons_succ,List.setIfInBounds_toArray,List.set_cons_zero,List.set_cons_succ]
       refine wpAnyX_take (i:=1) (v:=?_) rfl (by kernel_rfl) (fun _ _ _ h=>h) hHeld (Or.inl ⟨by kernel_rfl,?_⟩) ?_
       rotate_left
       ·(intro w hSw;go_simp<;>with_reducible rfl)
       try simp only[Act.put,List.getElem_toArray,List.getElem_cons_zero,List.getElem_cons_succ,List.setIfInBounds_toArray,List.set_cons_zero,List.set_cons_succ]
       refine wpAnyX_take (i:=2) (v:=?_) rfl (by kernel_rfl) (fun _ _ _ h=>h) hHeld (Or.inl ⟨by kernel_rfl,?_⟩) ?_
       rotate_left
       ·(intro w hSw;go_simp<;>with_reducible rfl)
       try simp only[Act.put,List.getElem_toArray,List.getElem_cons_zero,List.getElem_cons_succ,List.setIfInBounds_toArray,List.set_cons_zero,List.set_cons_succ]
       refine wpAnyX_take (i:=3) (v:=?_) rfl (by kernel_rfl) (fun _ _ _ h=>h) hHeld (Or.inl ⟨by kernel_rfl,?_⟩) ?_
       rotate_left
       ·(intro w hSw;go_simp<;>with_reducible rfl)
       try simp only[Act.put,List.getElem_toArray,List.getElem_cons_zero,List.getElem_cons_succ,List.setIfInBounds_toArray,List.set_cons_zero,List.set_cons_succ]
       refine wpAnyX_take (i:=4) (v:=?_) rfl (by kernel_rfl) (fun _ _ _ h=>h) hHeld (Or.inl ⟨by kernel_rfl,?_⟩) ?_
       rotate_left
       ·(intro w hSw;obtain⟨v1,v2,v3⟩:=HW9.out;go_simp<;>with_reducible rfl)
       try simp only[Act.put,List.getElem_toArray,List.getElem_cons_zero,List.getElem_cons_succ,List.setIfInBounds_toArray,List.set_cons_zero,List.set_cons_succ]
       refine wpAnyX_take (i:=5) (v:=?_) rfl (by kernel_rfl) (fun _ _ _ h=>h) hHeld (Or.inl ⟨by kernel_rfl,?_⟩) ?_
       rotate_left
       ·(intro w hSw;obtain⟨v1,v2,v3⟩:=HW9.out;go_simp<;>with_reducible rfl)
       try simp only[Act.put,List.getElem_toArray,List.getElem_cons_zero,List.getElem_cons_succ,List.setIfInBounds_toArray,List.set_cons_zero,List.set_cons_succ]
       refine wpAnyX_take (i:=6) (v:=?_) rfl (by kernel_rfl) (fun _ _ _ h=>h) hHeld (Or.inl ⟨by kernel_rfl,?_⟩) ?_
       rotate_left
       ·(intro w hSw;go_simp<;>with_reducible rfl)
       try simp only[Act.put,List.getElem_toArray,List.getElem_cons_zero,List.getElem_cons_succ,List.setIfInBounds_toArray,List.set_cons_zero,List.set_cons_succ]
       refine wpAnyX_take (i:=7) (v:=?_) rfl (by kernel_rfl) (fun _ _ _ h=>h) hHeld (Or.inl ⟨by kernel_rfl,?_⟩) ?_
       rotate_left
       ·(intro w hSw;obtain⟨v1,v2,v3⟩:=HW9.out;go_simp<;>with_reducible rfl)
       try simp only[Act.put,List.getElem_toArray,List.getElem_cons_zero,List.getElem_cons_succ,List.setIfInBounds_toArray,List.set_cons_zero,List.set_cons_succ]
       refine wpAnyX_take (i:=8) (v:=?_) rfl (by kernel_rfl) (fun _ _ _ h=>h) hHeld (Or.inl ⟨by kernel_rfl,?_⟩) ?_
       rotate_left
       ·(intro w hSw;obtain⟨v1,v2,v3⟩:=HW9.out;go_simp<;>with_reducible rfl)
       try simp only[Act.put,List.getElem_toArray,List.getElem_cons_zero,List.getElem_cons_succ,List.setIfInBounds_toArray,List.set_cons_zero,List.set_cons_succ]
       refine wpAnyX_take (i:=9) (v:=?_) rfl (by kernel_rfl) (fun _ _ _ h=>h) hHeld (Or.inl ⟨by kernel_rfl,?_⟩) ?_
       rotate_left
       ·(intro w hSw;have wm:=HMID.out;go_simp<;>with_reducible rfl)
       try simp only[Act.put,List.getElem_toArray,List.getElem_cons_zero,List.getElem_cons_succ,List.setIfInBounds_toArray,List.set_cons_zero,List.set_cons_succ]
       refine wpAnyX_take (i:=10) (v:=?_) rfl (by kernel_rfl) (fun _ _ _ h=>h) hHeld (Or.inl ⟨by kernel_rfl,?_⟩) ?_
       rotate_left
       ·(intro w hSw;go_simp<;>with_reducible rfl)
       try simp only[Act.put,List.getElem_toArray,List.getElem_cons_zero,List.getElem_cons_succ,List.setIfInBounds_toArray,List.set_cons_zero,List.set_cons_succ]
       refine wpAnyX_take (i:=11) (v:=?_) rfl (by kernel_rfl) (fun _ _ _ h=>h) hHeld (Or.inl ⟨by kernel_rfl,?_⟩) ?_
       rotate_left
       ·(intro w hSw;have wb:=HBK9.out;go_simp<;>with_reducible rfl)
       try simp only[Act.put,List.getElem_toArray,List.getElem_cons_zero,List.getElem_cons_succ,List.setIfInBounds_toArray,List.set_cons_zero,List.set_cons_succ]
       refine wpAnyX_take (i:=12) (v:=?_) rfl (by kernel_rfl) (fun _ _ _ h=>h) hHeld (Or.inl ⟨by kernel_rfl,?_⟩) ?_
       rotate_left
       ·(intro w hSw;have wa:=HADD.out;go_simp<;>with_reducible rfl)
       try simp only[Act.put,List.getElem_toArray,List.getElem_cons_zero,List.getElem_cons_succ,List.setIfInBounds_toArray,List.set_cons_zero,List.set_cons_succ]
       obtain⟨C,w8,hcv,hu8,hot⟩:=str_bytesT dat w0
       rw[HLDAT.out] at hcv hot
       refine wpAnyX_ready (rs:=[13]) (by kernel_rfl) (by simp) (AllReadyX.one rfl (fun K hK=>?_))
       go_simp
       refine hK.out _ _ (fun _=>hHeld.trans hu8) ?_
       clear hK K hcv
       try simp only[Act.put,List.getElem_toArray,List.getElem_cons_zero,List.getElem_cons_succ,List.setIfInBounds_toArray,List.set_cons_zero,List.set_cons_succ]
       have hsz:=Nat.le_trans HU7.out.size hHeld.size
       replace hHeld:=hHeld.trans hu8
       obtain⟨dv,hdv⟩:∃v,v=Value.slice (some ⟨w0.heap.size,0,none⟩) 512 C:=⟨_,rfl⟩
       rw[← hdv] at hot ⊢
       have hd1:dv.oneCell'=true:=by rw[hdv];rfl
       have hd9:=hot w.heap.size hsz
       clear hdv hot hu8 hsz
       refine wpAnyX_take (i:=14) (v:=?_) rfl (by kernel_rfl) (fun _ _ _ h=>h) hHeld (Or.inl ⟨by kernel_rfl,?_⟩) ?_
       rotate_left
       ·(intro w hSw;have hb:=build_P x dv hd1;go_simp<;>with_reducible rfl)
       try simp only[Act.put,List.getElem_toArray,List.getElem_cons_zero,List.getElem_cons_succ,List.setIfInBounds_toArray,List.set_cons_zero,List.set_cons_succ]
       have hsl:=slice_P x dv hd1 w8
       refine wpAnyX_ready (rs:=[15]) (by kernel_rfl) (by simp) (AllReadyX.one rfl (fun K hK=>?_))
       go_simp
       refine hK.out _ _ (fun _=>hHeld.alloc _) ?_
       clear hK K hsl
       try simp only[Act.put,List.getElem_toArray,List.getElem_cons_zero,List.getElem_cons_succ,List.setIfInBounds_toArray,List.set_cons_zero,List.set_cons_succ]
       obtain⟨v9,w9,hap,hp9,hu9⟩:=PutsT.push (a:=w) ((HU7.out.trans hHeld).alloc _) (HP7.out.below (hHeld.alloc _)) (by rw[Jn.stL_length];omega) w8.heap.size x dv dat (blk_alloc _) (hd9.below ((Upd.refl _ _).alloc _))
       rw[HPUT.out,← Jn.stL_succ] at hp9
       simp only[Jn.stL_length] at hap
       refine wpAnyX_ready (rs:=[16]) (by kernel_rfl) (by simp) (AllReadyX.one rfl (fun K hK=>?_))
       refine step_append_run (by rfl) _ _ _ (by rfl) (by rfl) (by rfl) hap ?_
       refine hK.out _ _ (noneUp_not (by kernel_rfl)) ?_
       clear hK K hap
       try simp only[Act.put,List.getElem_toArray,List.getElem_cons_zero,List.getElem_cons_succ,List.setIfInBounds_toArray,List.set_cons_zero,List.set_cons_succ]
       refine wpAnyX_free (by kernel_rfl) ?_
       refine wpAnyX_take (i:=17) (v:=?_) rfl (by kernel_rfl) (fun _ _ _ h=>h) trivial (Or.inl ⟨by kernel_rfl,?_⟩) ?_
       rotate_left
       ·(intro w hSw;go_simp<;>with_reducible rfl)
       try simp only[Act.put,List.getElem_toArray,List.getElem_cons_zero,List.getElem_cons_succ,List.setIfInBounds_toArray,List.set_cons_zero,List.set_cons_succ]
       refine wpAnyX_done (by kernel_rfl) ?_ _
       have HP9:=Lib.hid hp9
       have HU9:=Lib.hid hu9
       clear hp9 hu9 hHeld hd9
       go_wp2_with fail
       exact⟨⟨m+1,by omega,by go_num,HP9.out,HU9.out,fun i hi=>by
        by_cases e:i=m
        ·subst e;exact HGG.out
        ·exact HGD.out i (by omega)⟩,by simp[intOf];omega⟩
  ·obtain rfl:k=n:=by omega
   have e1:decide ((k:Int)<(k:Int))=false:=by simp
   have e2:decide (k<k)=false:=by simp
   have HSD:Hid (J.stands D=J.stL D k):=by
    show _=_
    rw[Jn.stands_yes HST.out (fun i hi=>HGD.out i (by rw[HN.out];exact hi)),← HN.out]
   have hne:decide (J.stands D≠[])=true:=by
    refine decide_eq_true (fun e=>?_)
    rw[HSD.out] at e
    have:=Jn.stL_length J D k
    rw[e] at this
    simp at this;omega
   have HNE:=Lib.hid hne
   clear hne
   go_wp2_with fail
   go_ret2
   refine⟨_,by rw[HNE.out];rfl,?_,HU.out⟩
   rw[HSD.out]
   have:=HP.out
   rw[Jn.stL_length] at this
   exact this
end
end Go.Proofs.YtplppdbdfhkljaaGreat
end
