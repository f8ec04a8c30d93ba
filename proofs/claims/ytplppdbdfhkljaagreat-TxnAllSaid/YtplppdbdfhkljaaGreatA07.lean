/-
  Journal.Commit's main way.
-/
import Derived.Test.YtplppdbdfhkljaaGreatA05
set_option maxRecDepth 100000
set_option maxHeartbeats 16000000
section
namespace Go.Proofs.YtplppdbdfhkljaaGreat
open Go.RowKit
set_option maxRecDepth 100000 in
set_option maxHeartbeats 16000000 in
theorem com_main{w:World}{F:Nat→Prop}{j:JG}{J:Jn}{D:Dk}(h:JnAt w F j J D)(v:Value)(l:List Put)(hp:PutsAt w v l)(hm:J.may D=0)(hf:J.fits D.n l=0)(h0:l≠[])(ht:J.turn<4611686018427387903)(hus:J.used≤5000) :
  Calls Tryz.prog 47 #[.pointer (some ⟨j.jb,0,none⟩),v] w (ComPost w F j J D l):=by
 have H:=Lib.hid h
 have HP:=Lib.hid hp
 have hb:(J.may D != 0)=false:=by simp[hm]
 obtain⟨ao,cap,rfl⟩:=hp.shape
 have hl40:l.length≤40∧l.length<J.last.ring:=by
  unfold Jn.fits at hf
  split at hf
  ·rename_i q;exact absurd hf q
  ·split at hf
   ·simp at hf
   ·rename_i q;omega
 obtain⟨hl1,hl2⟩:=hl40
 have hr1:=h.ok.ring1
 have HF:=fun n=>Lib.hid (fits_spec (h.drewN n) _ l (hp.below ((Upd.refl _ _).drewN n)) (by omega))
 have hb2:(J.fits D.n l != 0)=false:=by simp[hf]
 have hl0:0<l.length:=List.length_pos_iff.2 h0
 have hb3:((l.length:Int) == 0)=false:=by rw[beq_eq_false_iff_ne];omega
 have HM:=Lib.hid hm
 have HIN:=Lib.hid (fits_in hf)
 have HFT:=Lib.hid hf
 have H0:=Lib.hid h0
 clear h hm hf hp h0
 go_enter Tryz.func47,Tryz.ntmps47
 go_upto_if 44 with(first | (go_at_call 98;refine(mayJ_spec H.out).mono ?_;rintro e w' ⟨rfl,n,rfl⟩) | (go_at_call 99;refine(HF _).out.mono ?_;rintro e w2 ⟨rfl,hu2⟩;have HU2:=Lib.hid (((Upd.refl _ _).drewN n).trans hu2);have HJ2:=Lib.hid ((H.out.drewN n).below hu2);have hc2:=blk_cell ((H.out.drewN n).below hu2).st;clear hu2) | (go_at_call 100;refine(free_spec HJ2.out).mono ?_;rintro e w3 ⟨rfl,n3,rfl⟩))
 have hq3:Qt w2 (w2.drewN n3):=Qt.of_drewN rfl
 generalize w2.drewN n3=w3 at hq3 ⊢
 have HJ3:=Lib.hid (HJ2.out.qt hq3)
 have HU3:=Lib.hid (HU2.out.trans hq3.upd)
 have HT:=Lib.hid ht
 clear hq3 hc2 ht
 go_cut [7] (fun _ wx=>ComMid w F j J D (.slice ao l.length cap) l wx)
 case first=>
  by_cases htg:J.tight l
  ·have d1:(J.last.ring:Int)-(J.used:Int)<(l.length:Int)+1:=htg
   have HCK:=Lib.hid (ck_spec HJ3.out)
   have HNN:Hid ((J.ckD D).1.n=D.n):=by
    show _=_
    exact ckD_n J D
   have hcom:J.comD D l=(if(J.ckD D).2≠0 then J.ckD D else(J.ck D).putD (J.ckD D).1 l)∧J.com D l=(if(J.ckD D).2≠0 then J.ck D else(J.ck D).put (J.ckD D).1 l):=by
    constructor
    ·unfold Jn.comD
     rw[if_neg (by simpa using HM.out),if_neg (by simpa using HFT.out),if_neg H0.out,if_neg (by have:=HT.out;omega),if_pos htg]
    ·unfold Jn.com
     rw[if_neg (by simpa using HM.out),if_neg (by simpa using HFT.out),if_neg H0.out,if_neg (by have:=HT.out;omega),if_pos htg]
   have hck:(J.ck D).turn=J.turn∧(J.ck D).used≤5000∧(J.ck D).last.ring=J.last.ring:=by
    unfold Jn.ck Jn.settle Jn.settled Jn.hear Jn.next
    repeat' split
    all_goals exact⟨rfl,by first | exact hus | exact Nat.zero_le _,rfl⟩
   have HCOM:=Lib.hid hcom
   have HCC:=Lib.hid hck
   clear hcom hck htg
   go_wp2_with fail
   refine HCK.out.mono ?_
   rintro e w4 ⟨rfl,hJ4,hu4⟩
   have HJ4:=Lib.hid hJ4
   have HU4:=Lib.hid hu4
   clear hJ4 hu4
   by_cases he:(J.ckD D).2=0
   ·have hb4:((J.ckD D).2 != 0)=false:=by simp[he]
    have HE:=Lib.hid he
    clear he
    go_wp2_with fail
    go_meet
    refine⟨J.ck D,(J.ckD D).1,HJ4.out.mono (Gr.gr HU3.out.size),?_,?_,?_,?_,HCC.out.1,HCC.out.2.1,HCC.out.2.2,HNN.out⟩
    ·exact(PutsAt.below HP.out HU3.out).jn HJ3.out HU4.out (fun _ h=>h)
    ·exact(HU3.out.mono (by simp)).trans HU4.out
    ·rw[HCOM.out.1,if_neg (by simpa using HE.out)]
    ·rw[HCOM.out.2,if_neg (by simpa using HE.out)]
   ·have hb4:((J.ckD D).2 != 0)=true:=by simpa using he
    have HE:=Lib.hid he
    clear he
    go_wp2_with fail
    go_ret
    unfold ComPost
    rw[HCOM.out.1,HCOM.out.2,if_pos HE.out,if_pos HE.out]
    exact⟨rfl,HJ4.out.mono (Gr.gr HU3.out.size),(HU3.out.mono (by simp)).trans HU4.out⟩
  ·have d1:(l.length:Int)+1≤(J.last.ring:Int)-(J.used:Int):=by unfold Jn.tight at htg;omega
   have hcom:J.comD D l=J.putD D l∧J.com D l=J.put D l:=by
    constructor
    ·unfold Jn.comD
     rw[if_neg (by simpa using HM.out),if_neg (by simpa using HFT.out),if_neg H0.out,if_neg (by have:=HT.out;omega),if_neg htg]
    ·unfold Jn.com
     rw[if_neg (by simpa using HM.out),if_neg (by simpa using HFT.out),if_neg H0.out,if_neg (by have:=HT.out;omega),if_neg htg]
   have HCOM:=Lib.hid hcom
   clear hcom htg
   go_wp2_with fail
   go_meet
   exact⟨J,D,HJ3.out.mono Gr.old,PutsAt.below HP.out HU3.out,HU3.out.mono (by simp),HCOM.out.1,HCOM.out.2,rfl,hus,rfl,rfl⟩
 case rest=>
  obtain⟨J',D',hJx,hPx,hUx,hc1,hc2,ht',hus',hri,hnx⟩:=hcut
  have hr0:=hJx.ok.ring0
  have hpl:=hJx.ok.place
  have hr1':=hJx.ok.ring1
  have ht0:=hJx.ok.turn0
  have hat:((J'.at J'.place:Nat):Int)=((J'.at J'.place:Nat):Int):=rfl
  have k8:=hJx.cell8
  have hltx:=hJx.lt.1
  have hmk:=run_make_512
  have HJX:=Lib.hid hJx
  have HPX:=Lib.hid hPx
  have HUX:=Lib.hid hUx
  have HC1:=Lib.hid hc1
  have HC2:=Lib.hid hc2
  have HT':=Lib.hid ht'
  have HRI:=Lib.hid hri
  have HNX:=Lib.hid hnx
  clear hJx hPx hUx hc1 hc2 ht' hri hnx hat
  go_upto_region 13 with(fail)
  go_cut [8] (fun s8 wy=>∃D1 e0,D'.write ((J'.at J'.place:Nat):Int) zsec=(D1,e0)∧s8=.int .i64 e0∧JnAt wy (Gr F w.heap.size) j (J'.hear e0) D1∧PutsAt wy (.slice ao l.length cap) l∧Upd j.all w wy)
  case first=>
   go_region_held3 (fun w'=>w'.cell? ⟨j.jb,8,none⟩=some (.int .i64 (J'.place:Int))) (go_keep)
    (first
     | (go_at_call 103;(with_reducible refine(atP_spec (F:=Gr F w.heap.size) (J:=J') (D:=D') ?_ J'.place (by omega)).mono ?_);(first | exact HJX.out.below (Upd.refl _ _).drew | exact HJX.out.below ((Upd.refl _ _).alloc _).drew);rintro e w' ⟨rfl,rfl⟩)
     | (go_at_call 102;(with_reducible refine(writeJ_spec (F:=Gr F w.heap.size) (J:=J') (D:=D') ?_ _ _ zsec ?_).mono ?_);exact HJX.out.below ((Upd.refl _ _).alloc _).drew;exact rd_of_block (u8:=5) (blk_alloc _) zsec_length;rintro e w4 ⟨rfl,hJ4,hu4⟩;have HJ4:=Lib.hid hJ4;have HU4:=Lib.hid hu4;have p8:w4.cell? ⟨j.jb,8,none⟩=some (.int .i64 (J'.place:Int)):=hJ4.cell8;clear hJ4 hu4))
   all_goals
    go_wp2_with fail
    go_meet
    have hA:Upd [] wc (wc.alloc (.cells (bts zsec).toArray 5)).drew:=((Upd.refl _ _).alloc _).drew
    refine⟨_,_,rfl,rfl,HJ4.out.mono (Gr.gr2 (Nat.le_trans HUX.out.size hA.size)),?_,?_⟩
    ·exact(HPX.out.below hA).jn (HJX.out.below hA) HU4.out (by simp[JG.all])
    ·exact(HUX.out.trans (hA.mono (by simp))).trans (HU4.out.mono (by simp[JG.all]))
  case rest=>
   rename World=>wy
   obtain⟨D1,e0,hR,rfl,hJy,hPy,hUy⟩:=hcut
   clear HJX HPX HUX k8 hltx
   have HR:=Lib.hid hR
   clear hR
   by_cases he:e0=0
   ·subst he
    rw[hear_zero] at hJy
    have hb5:((0:Int) != 0)=false:=rfl
    have k7:=hJy.cell7
    have hw1:IntKind.u64.wrap (2*J'.turn)=2*J'.turn:=u64_wrap_in _ (by omega) (by have:=HT.out;have:=HT'.out;omega)
    have hw2:IntKind.u64.wrap (2*J'.turn+1)=2*J'.turn+1:=u64_wrap_in _ (by omega) (by have:=HT.out;have:=HT'.out;omega)
    have HJY:=Lib.hid hJy
    have HPY:=Lib.hid hPy
    have HUY:=Lib.hid hUy
    clear hJy hPy hUy
    go_wp2_with fail
    refine(tagged_spec (2*J'.turn+1) _ (by omega)).mono ?_
    rintro e w5 ⟨rfl,h5,hu5⟩
    have H5:=Lib.hid h5
    have HU5:=Lib.hid hu5
    clear h5 hu5
    go_wp2_with fail
    refine(lay_specI 8 wy.heap.size 512 512 8 2 rfl (l.length:Int) (tagged (2*J'.turn+1)) _ H5.out (by omega) (tagged_length _) (by omega) (by omega) (by omega)).mono ?_
    rintro e w6 ⟨rfl,h6,hu6⟩
    have H6:=Lib.hid h6
    have HU6:=Lib.hid (HU5.out.late hu6 (fun i hi=> .inr (by simp at hi;omega)))
    clear h6 hu6 hw1 hw2 H5 HU5 k7
    go_wp2_with fail
    go_loopw [76,10] (fun i m wr=>∃k:Nat,k≤l.length∧i=.int .i64 (k:Int)∧ComRel F w.heap.size wy j J' D1 l k m wr) (fun i _ _=>l.length-(intOf i).toNat)
    case atStart=>
     refine⟨0,Nat.zero_le _,rfl,D1,?_,H6.out,?_,rfl,HU6.out.mono (by simp)⟩
     ·exact(HJY.out.tight.below HU6.out).mono fun x hx=>⟨hx.1,by have:=hx.2;omega⟩
     ·exact⟨[],⟨by simp,.inl ⟨rfl,rfl⟩⟩,by simp,by simp⟩
    case round=>
     obtain⟨k,hk,rfl,Dc,hJr,hhr,hmr,hcr,hur⟩:=hrel
     by_cases hlt:k<l.length
     ·obtain⟨g,cap',cur,da,dc,e,hg0,hc1,hc2,hrd⟩:=HPY.out.getB k hlt
      have hg1:wr.heap[g]?=_:=(hur.block _ (blk_lt hg0) (HJY.out.kind hg0 (by decide) (by decide) (by decide))).trans hg0
      obtain⟨rfl,_,rfl⟩:ao=some ⟨g,0,none⟩∧l.length=l.length∧cap=cap':=by simpa using e
      have hin:=HIN.out l[k] (List.getElem_mem hlt)
      have hkd:l.drop k=l[k] :: l.drop (k+1):=List.drop_eq_getElem_cons hlt
      have hhk:hdrK J'.turn l (k+1)=hdrS (hdrK J'.turn l k) k l[k]:=by
       show hdrS _ _ (l.getD k (0,[]))=_
       rw[List.getD_eq_getElem?_getD,List.getElem?_eq_getElem hlt];rfl
      have htk:l.take (k+1)=l.take k ++ [l[k]]:=List.take_succ_eq_append_getElem hlt
      rw[hkd] at hcr
      have hhl:(hdrK J'.turn l k).length=512:=hdrK_length hl1 (fun p hp=>(HIN.out p hp).2.2) k hk
      generalize l[k]=pk at hcr hhk htk hin hc1 hc2 hrd
      obtain⟨i,sd⟩:=pk
      obtain⟨hi0,hi1,hsd⟩:=hin
      simp only at hi0 hi1 hsd hc1 hc2 hrd
      rw[hsd] at hc2 hrd
      obtain⟨ad,rfl,hdc⟩:∃ad,da=some ad∧512≤dc:=by
       obtain⟨ao2,cap2,e2,hcap,hh⟩:=id hrd
       obtain⟨b,off,rfl,_⟩:=hh (by omega)
       simp only[Value.slice.injEq] at e2
       exact⟨_,e2.1,by omega⟩
      rw[← blk_cell hg1] at hc1 hc2
      obtain⟨am,cm,hmv⟩:=hmr.own.at.shape
      rw[List.length_take,Nat.min_eq_left hk] at hmv
      subst hmv
      have hhom:((J.homes D.n:Nat):Int)≤4096:=by unfold Jn.homes;have:=H.out.disk.ok.n1;omega
      have HJR:=Lib.hid hJr
      have HHR:=Lib.hid hhr
      have HMR:=Lib.hid hmr
      have HCR:=Lib.hid hcr
      have HUR:=Lib.hid hur
      have HRD:=Lib.hid hrd
      have HHK:=Lib.hid hhk
      have HTK:=Lib.hid htk
      have HSD:=Lib.hid hsd
      clear hJr hhr hmr hcr hur hrd hhk htk hsd hkd e hg0 hg1
      have HHL:=Lib.hid hhl
      clear hhl
      go_wp2_with fail
      have hWu:Upd [] wr (wr.alloc (.cells #[.int .i64 i,.slice (some ad) 512 dc] 110)):=(Upd.refl _ _).alloc _
      have hWb:(wr.alloc (.cells #[.int .i64 i,.slice (some ad) 512 dc] 110)).heap[wr.heap.size]?=some (.cells #[.int .i64 i,.slice (some ad) 512 dc] 110 (0,0)):=blk_alloc _
      have hltb:wy.heap.size<wr.heap.size:=blk_lt HHR.out
      generalize wr.alloc (.cells #[.int .i64 i,.slice (some ad) 512 dc] 110)=W at hWu hWb ⊢
      refine(lay_specI (16+12*(k:Int)) wy.heap.size 512 512 (16+12*k) 4 (by omega) i (hdrK J'.turn l k) _ ((hWu.block _ hltb (by simp)).trans HHR.out) hi0 HHL.out (by omega) (by omega) (by omega)).mono ?_
      rintro e w7 ⟨rfl,h7,hu7⟩
      have hb7:w7.heap[wr.heap.size]?=_:=(hu7.block _ (blk_lt hWb) (by simp;omega)).trans hWb
      have hp7:=blk_cell hb7
      have HU7:=Lib.hid ((hWu.mono (by simp)).trans hu7)
      have H7:=Lib.hid h7
      have HB7:=Lib.hid hb7
      clear hWu hWb hu7 h7 hb7 hc1 hc2
      have hkl:k<40:=by omega
      go_wp2_with fail
      have HU7Y:=Lib.hid (HUR.out.late HU7.out (fun i hi=> .inr (by simp at hi;omega)))
      obtain⟨W9,hcp,h9,hu9⟩:=hdr_copy (W:=w7.drew) (hb:=wy.heap.size) (k:=k) (ad:=ad) (dc:=dc) H7.out (put_len HHL.out (by omega)) hkl (HRD.out.jn HJY.out HU7Y.out.drew (fun _ h=>h)) HSD.out (508-(16+12*k)) (by omega)
      have hb9:W9.heap[wr.heap.size]?=_:=(hu9.block _ (blk_lt HB7.out) (by simp;omega)).trans HB7.out
      have hp9:=blk_cell hb9
      have H9:=Lib.hid h9
      have HB9:=Lib.hid hb9
      have HU9:=Lib.hid (HU7.out.drew.trans hu9)
      clear h9 hb9 hu9
      go_region
      clear hcp hp7
      have HU9Y:=Lib.hid (HUR.out.late HU9.out (fun i hi=> .inr (by simp at hi;omega)))
      go_wp2_with fail
      refine(clone_spec _ sd _ (HRD.out.jn HJY.out HU9Y.out (fun _ h=>h)) (by have:=HSD.out;omega)).mono ?_
      rintro e w10 ⟨vb,rfl,hu10,ho10⟩
      obtain⟨bb,rest,hbF,rfl,hbb⟩:=ho10.own (by have:=HSD.out;omega)
      have hb10:w10.heap[wr.heap.size]?=_:=(hu10.block _ (blk_lt HB9.out) (by simp)).trans HB9.out
      have hp10:=blk_cell hb10
      have hrb:Rd w10 (.slice (some ⟨bb,0,none⟩) sd.length (sd.length+rest.length)) sd:=ho10.rd
      have HU10:=Lib.hid hu10
      have HBB:=Lib.hid hbb
      have HBF:=Lib.hid hbF
      have HB10:=Lib.hid hb10
      have HRB:=Lib.hid hrb
      clear hu10 ho10 hbb hbF hb10 hrb hp9
      go_upto_region 25 with(fail)
      have hG:∀x,(Gr F w.heap.size x∧x≠wy.heap.size)∧x<wr.heap.size→(Gr F w.heap.size x∧x≠wy.heap.size)∧x≠bb:=fun x hx=>⟨hx.1,by have:=HBF.out;have:=HU9.out.size;have:=hx.2;omega⟩
      have hkd:wy.heap.size∉j.all:=HJR.out.kind HHR.out (by decide) (by decide) (by decide)
      have HJ10:=Lib.hid (((HJR.out.tight.upd HU9.out (by simpa using hkd) (by simp)).below HU10.out).mono hG)
      have HM10:=Lib.hid (((HMR.out.tight.upd HU9.out (fun q c hq e=>by simp at hq;subst hq;rw[HHR.out] at e;simp at e) (fun q c hq hGq=>by simp at hq;subst hq;exact absurd rfl hGq.1.2)).upd HU10.out (by simp) (by simp)).mono hG)
      have HH10:=Lib.hid ((HU10.out.block _ (blk_lt H9.out) (by simp)).trans H9.out)
      have HU10Y:=Lib.hid (HU9Y.out.trans (HU10.out.mono (by simp)))
      have hB10:wy.heap.size≤w10.heap.size:=HU10Y.out.size
      have hn10:w.heap.size≤w10.heap.size:=Nat.le_trans HUY.out.size hB10
      clear hG hkd
      go_cut [10,76] from 76 to 132 (fun s10 s76 w11=>s76=.int .i64 (k:Int)∧∃am2 n2 cm2,s10=.slice am2 n2 cm2∧PutsOwnB w11 wy.heap.size (fun x=>(Gr F w.heap.size x∧x≠wy.heap.size)∧x≠bb) s10 (l.take k ++ [(i,sd)])∧JnAt w11 (fun x=>(Gr F w.heap.size x∧x≠wy.heap.size)∧x≠bb) j J' Dc∧w11.heap[wy.heap.size]?=some (.cells (bts (hdrK J'.turn l (k+1))).toArray 5 (0,0))∧w11.heap[bb]?=some (.cells (bts sd++rest).toArray 5 (0,0))∧Upd j.all wy w11)
      case first=>
       have hpc:=hp10 0
       clear hp10
       go_region_held3 (fun w'=>w'.cell? ⟨wr.heap.size,0,none⟩=some (.int .i64 i)) (go_keep)
        (first | (go_at_call 106;(with_reducible refine(clone_spec _ sd _ (HRB.out.below ((Upd.refl _ _).drew)) (by have:=HSD.out;omega)).mono ?_);rintro e w12 ⟨vc,rfl,hu12,ho12⟩;obtain⟨cb,rest2,hcF,rfl,hcb⟩:=ho12.own (by have:=HSD.out;omega);have hpc2:w12.cell? ⟨wr.heap.size,0,none⟩=some (.int .i64 i):=(by rw[World.cell?_of_block (hu12.block _ (blk_lt HB10.out) (by simp))];exact hpc);have HAP:=Lib.hid (app_step HM10.out (by rw[List.length_take];omega) hB10 hu12 i ⟨cb,rest2,hcF,rfl,hcb⟩ hn10 (Nat.lt_of_lt_of_le hltb (Nat.le_trans HU9.out.size HU10.out.size)) (blk_lt HBB.out));obtain⟨vm,w14,hrun,hm14,hk14,hl14,ho14,hu14⟩:=HAP.out;have hpc14:w14.cell? ⟨wr.heap.size,0,none⟩=some (.int .i64 i):=(by rw[World.cell?_of_block (ho14 _ (blk_lt HB10.out) (fun e=>Nat.lt_irrefl _ (HMR.out.ownlt e)))];exact hpc);obtain⟨am2,n2,cm2,rfl⟩:∃a b c,vm=.slice a b c:=hm14.shape3;have HM14:=Lib.hid hm14;have HK14:=Lib.hid hk14;have HL14:=Lib.hid hl14;have HU14:=Lib.hid hu14;clear hu12 ho12 hcF hcb hm14 hk14 hl14 hu14 ho14) | (refine step_append_run (by rfl) _ _ _ (by rfl) (by rfl) (by rfl) hrun ?_))
       all_goals
        go_wp2_with fail
        go_meet
        refine⟨rfl,_,_,_,rfl,HM14.out,HJ10.out.kept HK14.out,?_,?_,?_⟩
        ·rw[HK14.out _ (blk_lt HH10.out) (fun c e=>by rw[HH10.out] at e;simp at e),HH10.out,HHK.out];rfl
        ·rw[HK14.out _ (blk_lt HBB.out) (fun c e=>by rw[HBB.out] at e;simp at e),HBB.out]
        ·exact HU10Y.out.low HL14.out HU14.out
      case rest=>
       rename World=>w11
       obtain⟨rfl,am2,n2,cm2,rfl,hm11,hJ11,hh11,hb11,hu11⟩:=hcut
       have k7:=hJ11.cell7
       have hw1:IntKind.u64.wrap (2*J'.turn)=2*J'.turn:=u64_wrap_in _ (by omega) (by have:=HT.out;have:=HT'.out;omega)
       have HM11:=Lib.hid hm11
       have HJ11:=Lib.hid hJ11
       have HH11:=Lib.hid hh11
       have HB11:=Lib.hid hb11
       have HU11:=Lib.hid hu11
       clear hm11 hJ11 hh11 hb11 hu11 hp10
       go_wp2_with fail
       refine(lay_spec bb sd.length (sd.length+rest.length) 0 8 (2*J'.turn) sd rest _ HB11.out (by omega) rfl (by omega) (by have:=HSD.out;omega) (by have:=HSD.out;omega)).mono ?_
       rintro e w12 ⟨rfl,hb12,hu12⟩
       have hbj:bb∉j.all:=HJ11.out.kind HB11.out (by decide) (by decide) (by decide)
       have hJ12:=HJ11.out.upd hu12 (by simpa using hbj) (by simp)
       have k8:=hJ12.cell8
       have HJ12:=Lib.hid hJ12
       have HM12:=Lib.hid (HM11.out.upd hu12 (fun q c hq e=>by simp at hq;subst hq;rw[HB11.out] at e;simp at e) (fun q c hq hGq=>by simp at hq;subst hq;exact absurd rfl hGq.2))
       have hbw:wy.heap.size≠bb:=by have:=HBF.out;have:=HU9.out.size;omega
       have HH12:=Lib.hid ((hu12.block _ (blk_lt HH11.out) (by simpa using hbw)).trans HH11.out)
       have hby:wy.heap.size≤bb:=by have:=HBF.out;have:=HU9.out.size;omega
       have HU12:=Lib.hid (HU11.out.late hu12 (fun q hq=> .inr (by simp at hq;subst hq;exact hby)))
       have hrl:(ringSec J'.turn sd).length=sd.length:=by unfold ringSec;exact put_length (by have:=HSD.out;omega)
       have HR12:Hid (Rd w12 (.slice (some ⟨bb,0,none⟩) sd.length (sd.length+rest.length)) (ringSec J'.turn sd)):=by
        have ho:Own w12 5 (fun _=>True) (.slice (some ⟨bb,0,none⟩) sd.length (sd.length+rest.length)) (ringSec J'.turn sd):=⟨bb,rest,trivial,by rw[hrl],hb12⟩
        exact ho.rd
       clear hJ12 hb12 hu12 hbj hw1 k7 hbw hrl
       have HWR:=Lib.hid (writeJ_spec HJ12.out ((J'.at (J'.place+1+k):Nat):Int) _ (ringSec J'.turn sd) HR12.out)
       have HEQ:Hid (Dc.write ((J'.at (J'.place+1+k):Nat):Int) (ringSec J'.turn sd)=((Dc.write ((J'.at (J'.place+1+k):Nat):Int) (ringSec J'.turn sd)).1,(Dc.write ((J'.at (J'.place+1+k):Nat):Int) (ringSec J'.turn sd)).2)):=rfl
       have HCR2:Hid (comL J' 0 D1 l=if(Dc.write ((J'.at (J'.place+1+k):Nat):Int) (ringSec J'.turn sd)).2≠0 then((Dc.write ((J'.at (J'.place+1+k):Nat):Int) (ringSec J'.turn sd)).1,(Dc.write ((J'.at (J'.place+1+k):Nat):Int) (ringSec J'.turn sd)).2) else comL J' (k+1) (Dc.write ((J'.at (J'.place+1+k):Nat):Int) (ringSec J'.turn sd)).1 (l.drop (k+1))):=by
        show _=_
        rw[HCR.out,comL_cons]
       clear HR12 HEQ HCR
       generalize (Dc.write ((J'.at (J'.place+1+k):Nat):Int) (ringSec J'.turn sd)).1=Dn at HWR HCR2
       generalize (Dc.write ((J'.at (J'.place+1+k):Nat):Int) (ringSec J'.turn sd)).2=en at HWR HCR2
       go_wp2_with (first | (go_at_call 103;refine(atP_specI HJ12.out _ (J'.place+1+k) (by omega) (by omega)).mono ?_;rintro e w' ⟨rfl,rfl⟩))
       refine HWR.out.mono ?_
       rintro e w13 ⟨rfl,hJ13,hu13⟩
       have HJ13:=Lib.hid hJ13
       have HU13:=Lib.hid hu13
       clear hJ13 hu13
       have hz12:w.heap.size≤w12.heap.size:=Nat.le_trans HUY.out.size HU12.out.size
       have hy12:wy.heap.size<w12.heap.size:=blk_lt HH12.out
       have hG3:∀x,Gr (fun x=>(Gr F w.heap.size x∧x≠wy.heap.size)∧x≠bb) w12.heap.size x→Gr F w.heap.size x∧x≠wy.heap.size:=fun x hx=>hx.elim (fun q=>q.1) (fun q=>⟨.inr (Nat.le_trans hz12 q),by omega⟩)
       by_cases he:en=0
       ·subst he
        have hb6:((0:Int) != 0)=false:=rfl
        go_wp2_with fail
        go_roundw
        case rel=>
         refine⟨k+1,by omega,by go_num,Dn,?_,?_,?_,?_,?_⟩
         ·have q:=HJ13.out
          rw[hear_zero] at q
          exact q.mono hG3
         ·exact(HU13.out.block _ hy12 (HJ12.out.kind3 HH12.out (by decide) (by decide) (by decide))).trans HH12.out
         ·rw[HTK.out]
          exact(HM12.out.jn HJ12.out HU13.out (by simp[JG.all])).mono (fun x hx=>hx.1)
         ·rw[HCR2.out,if_neg (by simp)]
         ·exact HU12.out.trans (HU13.out.mono (by simp[JG.all]))
        case measure=>simp[intOf];omega
       ·have hb6:(en != 0)=true:=by simpa using he
        have HE:=Lib.hid he
        clear he
        go_wp2_with fail
        go_ret
        have hpd:J'.putD D' l=(Dn,en):=by
         unfold Jn.putD
         simp only[HR.out]
         rw[if_neg (by simp),HCR2.out,if_pos HE.out]
         simp only
         rw[if_pos HE.out]
        unfold ComPost
        rw[HC1.out,HC2.out]
        unfold Jn.put
        rw[hpd,if_pos HE.out]
        exact⟨rfl,HJ13.out.mono (fun x hx=>(hG3 x hx).1),HUY.out.trans (HU12.out.trans (HU13.out.mono (by simp[JG.all])))⟩
     ·obtain rfl:k=l.length:=by omega
      rw[List.drop_length] at hcr
      rw[List.take_length] at hmr
      obtain⟨am,cm,hmv⟩:=hmr.own.at.shape
      subst hmv
      have HCR:Hid (comL J' 0 D1 l=(Dc,0)):=Lib.hid hcr
      have HJR:=Lib.hid hJr
      have HHR:=Lib.hid hhr
      have HMR:=Lib.hid hmr
      have HUR:=Lib.hid hur
      have HHL:=Lib.hid (hdrK_length (t:=J'.turn) hl1 (fun p hp=>(HIN.out p hp).2.2) l.length (Nat.le_refl _))
      have HN:Hid (Dc.n=D.n):=by
       show _=_
       have e1:=comL_n J' l 0 D1
       rw[HCR.out] at e1
       have e2:=Dk.write_n D' ((J'.at J'.place:Nat):Int) zsec
       rw[HR.out] at e2
       exact e1.trans (e2.trans HNX.out)
      have hltw:wy.heap.size<wr.heap.size:=blk_lt hhr
      have hzr:w.heap.size≤wr.heap.size:=Nat.le_trans HUY.out.size hur.size
      clear hJr hhr hmr hcr hur hlt
      have HFL:=Lib.hid (flushJ_spec HJR.out)
      have HFN:=Lib.hid (Dk.flush_n Dc)
      have HFE:Hid (Dc.flush=(Dc.flush.1,Dc.flush.2)):=rfl
      generalize hq1:Dc.flush.1=D2 at HFL HFN HFE
      generalize hq2:Dc.flush.2=e2 at HFL HFE
      clear hq1 hq2
      go_wp2_with fail
      refine HFL.out.mono ?_
      rintro e w4 ⟨rfl,hJ4,hu4⟩
      have HU4:=Lib.hid hu4
      have HH4:=Lib.hid ((hu4.block _ hltw (HJR.out.kind4 HHR.out (by decide) (by decide) (by decide))).trans HHR.out)
      have HM4:=Lib.hid (HMR.out.jn HJR.out hu4 (by simp[JG.all]))
      clear HFL HMR HHR
      by_cases he2:e2=0
      ·subst he2
       rw[hear_zero] at hJ4
       have k8:=hJ4.cell8
       have HJ4:=Lib.hid hJ4
       have hz4:wr.heap.size≤w4.heap.size:=hu4.size
       clear hJ4 hu4
       have HWR:=Lib.hid (writeJ_spec HJ4.out ((J'.at J'.place:Nat):Int) (.slice (some ⟨wy.heap.size,0,none⟩) 512 512) (hdr J'.turn l) (rd_of_block HH4.out HHL.out))
       have HWN:=Lib.hid (Dk.write_n D2 ((J'.at J'.place:Nat):Int) (hdr J'.turn l))
       have HWE:Hid (D2.write ((J'.at J'.place:Nat):Int) (hdr J'.turn l)=((D2.write ((J'.at J'.place:Nat):Int) (hdr J'.turn l)).1,(D2.write ((J'.at J'.place:Nat):Int) (hdr J'.turn l)).2)):=rfl
       generalize hq1:(D2.write ((J'.at J'.place:Nat):Int) (hdr J'.turn l)).1=D3 at HWR HWN HWE
       generalize hq2:(D2.write ((J'.at J'.place:Nat):Int) (hdr J'.turn l)).2=e3 at HWR HWE
       clear hq1 hq2
       have hb6:((0:Int) != 0)=false:=rfl
       go_wp2_with (first | (go_at_call 103;refine(atP_specI HJ4.out _ J'.place rfl (by omega)).mono ?_;rintro e w' ⟨rfl,rfl⟩))
       refine HWR.out.mono ?_
       rintro e w5 ⟨rfl,hJ5,hu5⟩
       have HU5:=Lib.hid hu5
       have HM5:=Lib.hid (HM4.out.jn HJ4.out hu5 (by simp[JG.all]))
       have hz5:w4.heap.size≤w5.heap.size:=hu5.size
       clear HWR HM4 HH4
       by_cases he3:e3=0
       ·subst he3
        rw[hear_zero] at hJ5
        have HJ5:=Lib.hid hJ5
        clear hJ5 hu5 k8
        have HFL2:=Lib.hid (flushJ_spec HJ5.out)
        have HFN2:=Lib.hid (Dk.flush_n D3)
        have HFE2:Hid (D3.flush=(D3.flush.1,D3.flush.2)):=rfl
        generalize hq1:D3.flush.1=D4 at HFL2 HFN2 HFE2
        generalize hq2:D3.flush.2=e4 at HFL2 HFE2
        clear hq1 hq2
        go_wp2_with fail
        refine HFL2.out.mono ?_
        rintro e w6 ⟨rfl,hJ6,hu6⟩
        have HU6':=Lib.hid hu6
        have HM6:=Lib.hid (HM5.out.jn HJ5.out hu6 (by simp[JG.all]))
        clear HFL2 HM5
        have hGF:∀x,Gr (fun x=>Gr F w.heap.size x∧x≠wy.heap.size) w4.heap.size x→Gr F w.heap.size x:=fun x hx=>hx.elim (fun q=>q.1) (fun q=> .inr (by omega))
        have HUA:=Lib.hid (HUY.out.trans (HUR.out.trans ((HU4.out.mono (T:=j.all) (by simp[JG.all])).trans ((HU5.out.mono (T:=j.all) (by simp[JG.all])).trans (HU6'.out.mono (T:=j.all) (by simp[JG.all]))))))
        by_cases he4:e4=0
        ·subst he4
         rw[hear_zero] at hJ6
         have HJ6:=Lib.hid (hJ6.mono hGF)
         have HPO:=Lib.hid (HM6.out.own.mono (fun x hx=>(show Gr F w.heap.size x from hx.1)))
         have HNE:Hid (D4.n=D.n):=Lib.hid (HFN2.out.trans (HWN.out.trans (HFN.out.trans HN.out)))
         have HIN2:Hid (∀p∈l,0≤p.1∧p.1<(J'.homes D4.n:Int)∧p.2.length=512):=by
          show ∀p∈l,0≤p.1∧p.1<(J'.homes D4.n:Int)∧p.2.length=512
          intro p hp
          have:=HIN.out p hp
          unfold Jn.homes at this ⊢
          rw[HNE.out,HRI.out]
          exact this
         have HNO:=Lib.hid (note_spec HJ6.out (.slice am l.length cm) l HPO.out (by omega) HIN2.out (by have:=HT.out;have:=HT'.out;omega) (by omega))
         clear hJ6 hu6 HPO HIN2
         go_wp2_with fail
         refine HNO.out.mono ?_
         rintro e w7 ⟨rfl,hJ7,hu7⟩
         have HJ7:=Lib.hid hJ7
         have HU7:=Lib.hid hu7
         clear hJ7 hu7 HNO
         go_wp2_with fail
         go_ret
         have hpd:J'.putD D' l=(D4,0):=by
          unfold Jn.putD
          simp only[HR.out,HCR.out,HFE.out,HWE.out,HFE2.out,ne_eq,not_true,if_false]
         unfold ComPost
         rw[HC1.out,HC2.out]
         unfold Jn.put
         rw[hpd,if_neg (by simp)]
         exact⟨rfl,HJ7.out,HUA.out.trans (HU7.out.mono (by simp[JG.all]))⟩
        ·have hb7:(e4 != 0)=true:=by simpa using he4
         have HJ6:=Lib.hid (hJ6.mono hGF)
         have HE:=Lib.hid he4
         clear hJ6 hu6 he4
         go_wp2_with fail
         go_ret
         have hpd:J'.putD D' l=(D4,e4):=by
          unfold Jn.putD
          simp only[HR.out,HCR.out,HFE.out,HWE.out,HFE2.out,ne_eq,not_true,if_false]
         unfold ComPost
         rw[HC1.out,HC2.out]
         unfold Jn.put
         rw[hpd,if_pos HE.out]
         exact⟨rfl,HJ6.out,HUA.out⟩
       ·have hb7:(e3 != 0)=true:=by simpa using he3
        have hGF:∀x,Gr (fun x=>Gr F w.heap.size x∧x≠wy.heap.size) w4.heap.size x→Gr F w.heap.size x:=fun x hx=>hx.elim (fun q=>q.1) (fun q=> .inr (by omega))
        have HJ5:=Lib.hid (hJ5.mono hGF)
        have HE:=Lib.hid he3
        clear hJ5 hu5 he3 k8
        go_wp2_with fail
        go_ret
        have hpd:J'.putD D' l=(D3,e3):=by
         unfold Jn.putD
         simp only[HR.out,HCR.out,HFE.out,HWE.out,ne_eq,not_true,if_false]
         rw[if_pos HE.out]
        unfold ComPost
        rw[HC1.out,HC2.out]
        unfold Jn.put
        rw[hpd,if_pos HE.out]
        exact⟨rfl,HJ5.out,HUY.out.trans (HUR.out.trans ((HU4.out.mono (T:=j.all) (by simp[JG.all])).trans (HU5.out.mono (T:=j.all) (by simp[JG.all]))))⟩
      ·have hb6:(e2 != 0)=true:=by simpa using he2
       have HJ4:=Lib.hid (hJ4.mono (fun x hx=>(show Gr F w.heap.size x from hx.1)))
       have HE:=Lib.hid he2
       clear hJ4 hu4 he2
       go_wp2_with fail
       go_ret
       have hpd:J'.putD D' l=(D2,e2):=by
        unfold Jn.putD
        simp only[HR.out,HCR.out,HFE.out,ne_eq,not_true,if_false]
        rw[if_pos HE.out]
       unfold ComPost
       rw[HC1.out,HC2.out]
       unfold Jn.put
       rw[hpd,if_pos HE.out]
       exact⟨rfl,HJ4.out,HUY.out.trans (HUR.out.trans (HU4.out.mono (T:=j.all) (by simp[JG.all])))⟩
   ·have hb5:(e0 != 0)=true:=by simpa using he
    have HE:=Lib.hid he
    have HJY:=Lib.hid hJy
    have HUY:=Lib.hid hUy
    clear hJy hUy hPy he
    go_wp2_with fail
    go_ret
    have hpd:J'.putD D' l=(D1,e0):=by unfold Jn.putD;simp only[HR.out];rw[if_pos HE.out]
    unfold ComPost
    rw[HC1.out,HC2.out]
    unfold Jn.put
    rw[hpd,if_pos HE.out]
    exact⟨rfl,HJY.out,HUY.out⟩
end Go.Proofs.YtplppdbdfhkljaaGreat
end
