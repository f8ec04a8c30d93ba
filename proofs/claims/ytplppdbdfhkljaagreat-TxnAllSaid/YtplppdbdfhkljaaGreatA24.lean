/-
  TxnAll: the power has been cut and both have opened anew (plain).
-/
import Derived.Test.YtplppdbdfhkljaaGreatA23
set_option maxRecDepth 100000
set_option maxHeartbeats 16000000
section
set_option linter.unusedSimpArgs false
set_option linter.unusedVariables false
namespace Go.Proofs.YtplppdbdfhkljaaGreat
open Go.RowKit Go.MapKept Go.ChangeMaps
theorem All7.reopened{w wr:World}{g:DG}{r:RG}{ta xa:Nat}{D:Dk}{n:Nat}{gs:Nat→Gn}{sl:Nat→Sl}{K:Int}(h:All7 w wr g r ta xa D n gs sl K)(hK:K≤1000){w1 w2 w3 w4:World}{jb ab:Nat}{q:QG}{D':Dk}{J':Jn}
  (hu1:Upd [g.db,g.lb,g.mb] wr w1) (hu2:Upd r.all w1 w2) (hb1:w2.heap.size≤jb) (hb2:w2.heap.size≤ab) (hc3:CoAt w3 AnyF g D' n gs sl) (hj:JnAt w3 AnyF ⟨jb,ab,g,AnyF⟩ J' D')
  (ho:OpenR (D.power []) D' (some J') 0) (hL:Live D' J') (hon:D'.On) (hn:D'.n=(D.power []).n) (ht:J'.turn=(gs (n-1)).J.turn) (hr:J'.last.ring=(gs (n-1)).J.last.ring) (hm:J'.last.number≤(gs (n-1)).J.last.number+1) (hu3:Upd [g.db,g.lb,g.mb] w2 w3)
  (hd3:DoAt w3 r (D.power []) n gs sl) (hqr:q.r=r) (hqb:∀k,k∈q.own→w3.heap.size≤k) (hd4:DoAt w4 r D' n gs sl) (hq:RjmAt w4 q J' D') (hu4:Upd r.all w3 w4) :
  All7 w w4 g r ta xa D' (n+1) (upF gs n ⟨jb,ab,q,J'⟩) sl (K+1):=by
 obtain⟨a1,a2,a3,a4⟩:=arr_kd
 have hs1:=hu1.size
 have hs2:=hu2.size
 have hs3:=hu3.size
 have hs4:=hu4.size
 have hpos:=h.pu.pos
 obtain⟨g1,g2,g3,g4,g5⟩:=h.pu.gen (n-1) (by omega)
 obtain⟨c1,c2,c3⟩:=h.co.disk.kinds
 obtain⟨r1,r2,r3⟩:=h.dd.rdk.kinds
 obtain⟨s1,s2,s3⟩:=hd3.rdk.kinds
 have hl:D'.lives=D.lives+1:=by
  obtain⟨_,_,_,_,_,_,_,e⟩:=open_both ho (power_on D) hd3.rdk.ok (by omega) (by omega)
  rw[← live_lives hL,e,power_lives h.pu hK]
 have hgb:∀k,k∈[g.db,g.lb,g.mb]→kd wr k∈codeT:=fun k hk=>by
  simp at hk
  rcases hk with rfl | rfl | rfl
  ·rw[c1];decide
  ·rw[c2];decide
  ·rw[c3];decide
 have hrb:∀k,k∈r.all→kd wr k∈docT:=fun k hk=>by
  simp[RG.all] at hk
  rcases hk with rfl | rfl | rfl
  ·rw[r1];decide
  ·rw[r2];decide
  ·rw[r3];decide
 have hrb3:∀k,k∈r.all→kd w3 k∈docT:=fun k hk=>by
  simp[RG.all] at hk
  rcases hk with rfl | rfl | rfl
  ·rw[s1];decide
  ·rw[s2];decide
  ·rw[s3];decide
 have key:∀{k:Nat} {c:Array Value} {t:TypeId},wr.heap[k]?=some (.cells c t (0,0))→some t∉codeT→some t∉docT→w4.heap[k]?=some (.cells c t (0,0)):=fun {k c t} e n1 n2=>by
  have m1:k∉[g.db,g.lb,g.mb]:=fun z=>by have:=hgb k z;rw[kd_cells e] at this;exact n1 this
  have m2:k∉r.all:=fun z=>by have:=hrb k z;rw[kd_cells e] at this;exact n2 this
  have hk:=blk_lt e
  rw[hu4.block k (by omega) m2,hu3.block k (by omega) m1,hu2.block k (by omega) m2,hu1.block k hk m1]
  exact e
 have hco:=co_gen (y:=⟨jb,ab,q,J'⟩) h.co hc3 (by show wr.heap.size≤jb;omega) (by show wr.heap.size≤ab;omega) hj
 have hdo:=do_gen (y:=⟨jb,ab,q,J'⟩) (K:=K) h.dd hd4 h.pu.gensl (fun k hk=>by have:=hqb k hk;omega) hqr hq
 have hup:=h.up.size
 have hlo:∀k,k∈[g.db,g.lb,g.mb]→w.heap.size≤k:=fun k hk=>h.lo k (.inl hk)
 have hlr:∀k,k∈r.all→w.heap.size≤k:=fun k hk=>h.lo k (.inr (.inl hk))
 refine⟨hco.doc hu4 hrb3,hdo,pu_gen h.pu hK hL hon (hn.trans rfl) (by show J'.turn≤K;omega) (by show J'.last.ring=20;omega) (by show J'.last.number≤K+1;omega) hl,fun k hk=>?_,key h.at_ a1 a2,key h.ax a3 a4,h.hi,?_⟩
 ·rcases hk with z | z | ⟨i,hi,z⟩ | ⟨i,hi,z⟩
  ·exact hlo k z
  ·exact hlr k z
  ·by_cases e:i=n
   ·subst e
    rw[upF_same] at z
    rcases z with z | z | z
    ·have e1:k=jb:=z
     omega
    ·have e1:k=ab:=z
     omega
    ·have:=hqb k z
     omega
   ·rw[upF_ne _ _ e] at z
    exact h.lo k (.inr (.inr (.inl ⟨i,by omega,z⟩)))
  ·exact h.lo k (.inr (.inr (.inr ⟨i,hi,z⟩)))
 ·exact(((h.up.late hu1 fun k hk=> .inr (hlo k hk)).late hu2 fun k hk=> .inr (hlr k hk)).late hu3 fun k hk=> .inr (hlo k hk)).late hu4 fun k hk=> .inr (hlr k hk)
end Go.Proofs.YtplppdbdfhkljaaGreat
end
section
set_option linter.unusedSimpArgs false
set_option linter.unusedVariables false
namespace Go.Proofs.YtplppdbdfhkljaaGreat
open Go.RowKit Go.MapKept Go.ChangeMaps Go.Deep
set_option maxRecDepth 100000 in
set_option maxHeartbeats 16000000 in
theorem all7_spec{w:World}{v:Value}{l:List Op7}(HV:OpIn7 w v l) :
  Calls Tryz.prog 4 #[v] w fun e w'=>e=.returned (.bool true)∧Upd [] w w':=by
 obtain⟨av,cv,rfl,hcv,hcell⟩:=HV
 have HCELL:=Lib.hid hcell
 clear hcell
 go_enter Tryz.func4,Tryz.ntmps4
 go_wp2_with fail
 refine(begun7_spec w).mono ?_
 rintro e w1 ⟨rfl,hu1⟩
 by_cases h120:120<l.length
 ·have e1:decide (120<(l.length:Int))=true:=decide_eq_true (by omega)
  have e2:decide (120<l.length)=true:=decide_eq_true h120
  go_wp2_with fail
  go_ret
  exact⟨rfl,hu1⟩
 have e1:decide (120<(l.length:Int))=false:=decide_eq_false (by omega)
 have e2:decide (120<l.length)=false:=decide_eq_false h120
 have HU1:=Lib.hid hu1
 clear hu1
 go_wp2_with fail
 refine(made7_spec w1).mono ?_
 rintro e w2 ⟨g,jb,ab,J,D,rfl,hM⟩
 have HM:=Lib.hid hM
 clear hM
 go_wp2_with fail
 refine(rnew_spec 72 (by omega) (by omega) w2).mono ?_
 rintro e w3 ⟨r,rfl,hr1,hr2,hu3⟩
 have HRL:=Lib.hid hr1
 have HR3:=Lib.hid hr2
 have HU3:=Lib.hid hu3
 clear hr1 hr2 hu3
 go_wp2_with fail
 refine(rformat_spec HR3.out 20 (by omega) (by omega) (by show 20+10≤72;omega)).mono ?_
 rintro e w4 ⟨rfl,hr4,hu4⟩
 have HR4:=Lib.hid hr4
 have HU4:=Lib.hid hu4
 clear hr4 hu4
 go_wp2_with fail
 obtain⟨m1,m2,m3,m4,m5,m6,m7,m8,m9,m10,m11⟩:=HM.out
 have hon0:((Dk.new 72).fmt 20).On:=by
  obtain⟨a,_,_,b⟩:=fmt_live (n:=72) (ring:=20) (by omega) (by omega) (by omega) (by omega) (by omega)
  exact⟨a.held.calm.off,b⟩
 obtain⟨J0,a1,a2,a3,a4,a5,a6,a7⟩:=open_both m3 hon0 HR4.out.ok (by omega) (by omega)
 have hop:=ropen_spec HR4.out a1 a2 a3 a4
 rw[a5,a6] at hop
 have HOP:=Lib.hid hop
 have HLV:Hid (D.lives=0):=Lib.hid (by rw[← live_lives m4,a7];exact fmt_lives (by omega) (by omega) (by omega) (by omega) (by omega))
 clear hop a1 a2 a3 a4 a5 a6 a7 hon0 m1 m2 m3 m4 m5 m6 m7 m8 m9 m10 m11
 refine HOP.out.mono ?_
 rintro e w5 ⟨q,rfl,rfl,hqb,hq5,hu5⟩
 have hu25:Upd [] w2 w5:=(HU3.out.late HU4.out (fun k hk=> .inr (HRL.out k hk))).late hu5 (fun k hk=> .inr (HRL.out k hk))
 have hs23:=HU3.out.size
 have hs34:=HU4.out.size
 have hs12:=HM.out.2.2.2.2.2.2.2.2.2.2.size
 have hs01:=HU1.out.size
 have HQB:Hid (∀k,k∈q.all→w.heap.size≤k):=Lib.hid (fun k hk=>by
  unfold QG.all at hk
  rw[List.mem_append] at hk
  rcases hk with hk | hk
  ·have:=hqb k hk;omega
  ·have:=HRL.out k hk;omega)
 have HJB:Hid (∀k,k∈(JG.mk jb ab g AnyF).all→w.heap.size≤k):=Lib.hid (fun k hk=>by
  obtain⟨b1,b2,b3,b4,b5⟩:=HM.out.1
  have z1:w1.heap.size≤jb:=b1
  have z2:w1.heap.size≤ab:=b2
  have z3:w1.heap.size≤g.db:=b3
  have z4:w1.heap.size≤g.lb:=b4
  have z5:w1.heap.size≤g.mb:=b5
  simp[JG.all] at hk
  rcases hk with rfl | rfl | rfl | rfl | rfl<;>omega)
 obtain⟨ta,hta⟩:∃b,b=w5.heap.size:=⟨_,rfl⟩
 obtain⟨w6,hw6⟩:∃z,z=w5.alloc (.cells #[.pointer none,.pointer none,.pointer none] 80):=⟨_,rfl⟩
 obtain⟨xa,hxa⟩:∃b,b=w6.heap.size:=⟨_,rfl⟩
 obtain⟨w7,hw7⟩:∃z,z=w6.alloc (.cells #[.pointer none,.pointer none,.pointer none] 82):=⟨_,rfl⟩
 have hu56:Upd [] w5 w6:=by rw[hw6];exact(Upd.refl _ _).alloc _
 have hu67:Upd [] w6 w7:=by rw[hw7];exact(Upd.refl _ _).alloc _
 have ht6:w6.heap[ta]?=some (.cells (arrT (fun _=>⟨0,0,⟨0,0⟩,0,none⟩) 0) 80 (0,0)):=by rw[hw6,hta];exact blk_alloc _
 have hx7:w7.heap[xa]?=some (.cells (arrX (fun _=>⟨0,0,⟨0,0⟩,0,none⟩) 0) 82 (0,0)):=by rw[hw7,hxa];exact blk_alloc _
 have ht7:=(hu67.block _ (blk_lt ht6) (by simp)).trans ht6
 have hst:St7 w7 g jb ab q J D w.heap.size 0 (fun _=>⟨0,0,⟨0,0⟩,0,none⟩):=
  ⟨HM.out.2.1.below ((hu25.trans hu56).trans hu67),(hq5.upd hu56 (by simp)).upd hu67 (by simp),fun i hi=>by omega,fun i l hi=>by omega⟩
 have HST:=Lib.hid hst
 have HT7:=Lib.hid ht7
 have HX7:=Lib.hid hx7
 have hs5:=hu5.size
 have hs56:=hu56.size
 have HHI:Hid (w.heap.size≤ta∧w.heap.size≤xa):=Lib.hid ⟨by omega,by omega⟩
 have HU7:=Lib.hid ((((HU1.out.trans HM.out.2.2.2.2.2.2.2.2.2.2).trans hu25).trans hu56).trans hu67)
 have hxa2:xa=w5.heap.size+1:=by rw[hxa,hw6];simp
 have HWW:=Lib.hid (And.intro hw6 (And.intro hta (And.intro hw7 hxa2)))
 have HF:Hid (J.may D=0∧J.used≤5000∧J.homes D.n=50):=Lib.hid ⟨HM.out.2.2.2.1.held.may,by have:=HM.out.2.2.2.2.2.2.2.2.2.1;omega,by unfold Jn.homes;rw[HM.out.2.2.2.2.2.1,HM.out.2.2.2.2.2.2.2.1]⟩
 clear hqb hq5 hu5 hu25 hs23 hs34 hs12 hs01 hta hw6 hxa hxa2 hw7 hu56 hu67 ht6 hx7 ht7 hst hs5 hs56 HU3 HU4 HR3 HR4 HOP HRL
 go_wp2_with fail
 obtain⟨hw6,hta,hw7,hxa⟩:=HWW.out
 rw[← hxa,← hta,← hw6,← hw7]
 clear hw6 hta hw7 hxa HWW
 obtain⟨a1,a2,a3,a4⟩:=arr_kd
 have HKD:=Lib.hid (And.intro a1 (And.intro a2 (And.intro a3 a4)))
 clear a1 a2 a3 a4
 go_loopw [10] (fun i wr=>∃(k:Nat) (sl:Nat→Sl),k≤3∧i=.int .i64 (k:Int)∧St7 wr g jb ab q J D w.heap.size k sl∧wr.heap[ta]?=some (.cells (arrT sl k) 80 (0,0))∧wr.heap[xa]?=some (.cells (arrX sl k) 82 (0,0))∧Upd [] w wr) (fun i _=>3-(intOf i).toNat)
 case atStart=>exact⟨0,_,by omega,rfl,HST.out,HT7.out,HX7.out,HU7.out⟩
 case round=>
  obtain⟨k,sl,hk,rfl,H,hT,hX,hU⟩:=hrel
  have HH:=Lib.hid H
  have HT:=Lib.hid hT
  have HX:=Lib.hid hX
  have HU:=Lib.hid hU
  clear H hT hX hU
  rcases Nat.lt_or_ge k 3 with hlt | hge
  ·as_aux_lemma=>
    have b1:decide ((k:Int)<3)=true:=decide_eq_true (by omega)
    have b2:decide (k<3)=true:=decide_eq_true hlt
    have i0:(0:Int)≤(k:Int):=by omega
    have i1:(k:Int)<3:=by omega
    have hsz:=HU.out.size
    go_wp2_with fail
    refine(begin_ok HH.out.jn (fun _ _=>trivial) HF.out.1 HF.out.2.1).mono ?_
    rintro e w1' ⟨⟨tb,wb,F⟩,rfl,ht1,ht2,htx,hj1,hu1,hF⟩
    obtain rfl:F=AnyF:=hF
    have t1:w1'.heap[ta]?=_:=(hu1.block _ (blk_lt HT.out) (fun z=>by have:=HH.out.jn.codes _ z;rw[kd_cells HT.out] at this;exact HKD.out.1 this)).trans HT.out
    have x1:w1'.heap[xa]?=_:=(hu1.block _ (blk_lt HX.out) (fun z=>by have:=HH.out.jn.codes _ z;rw[kd_cells HX.out] at this;exact HKD.out.2.2.1 this)).trans HX.out
    have hne:ta≠xa:=fun e=>by
     have e1:=kd_cells t1
     rw[e,kd_cells x1] at e1
     exact absurd e1 (by decide)
    obtain⟨w2',hw2⟩:∃z,z=w1'.setCell ⟨ta,k,none⟩ (.pointer (some ⟨tb,0,none⟩)):=⟨_,rfl⟩
    have hu2:Upd [ta] w1' w2':=by rw[hw2];exact(Upd.refl _ _).set _ (.inl (by simp))
    have t2:=blk_set t1 k (.pointer (some ⟨tb,0,none⟩))
    rw[← hw2] at t2
    have x2:=(hu2.block _ (blk_lt x1) (by simpa using Ne.symm hne)).trans x1
    have hk1:∀z,z∈[ta]→kd w1' z∉codeT:=fun z hz=>by rw[List.mem_singleton.1 hz,kd_cells t1];exact HKD.out.1
    have hk2:∀z,z∈[ta]→kd w1' z∉docT:=fun z hz=>by rw[List.mem_singleton.1 hz,kd_cells t1];exact HKD.out.2.1
    have hq2:RjmAt w2' q J D:=(HH.out.jq.upd hu1 (fun b hb hq=>jn_rq HH.out.jn HH.out.jq hq hb)).far hu2 hk2
    have hbg:=rbegin_spec hq2 HF.out.1 (by rw[HF.out.2.2];omega)
    rw[HF.out.2.2] at hbg
    have cT:w1'.cell? ⟨ta,k,none⟩=some (.pointer none):=by rw[blk_cell t1];exact arrT_old sl k hlt
    have fT:w1'.frozen? ⟨ta,k,none⟩=false:=blk_free t1 k
    have HBG:=Lib.hid hbg
    have HW2:=Lib.hid hw2
    have HX2:=Lib.hid x2
    have HT2:=Lib.hid t2
    have HALL:=Lib.hid (And.intro ht1 (And.intro ht2 (And.intro htx (And.intro hj1 (And.intro hu1 (And.intro hu2 (And.intro hk1 hk2)))))))
    clear ht1 ht2 htx hj1 hu1 t1 x1 hw2 hu2 t2 x2 hk1 hk2 hq2 hbg
    go_wp2_with fail
    rw[← HW2.out]
    refine HBG.out.mono ?_
    rintro e w3' ⟨x,rfl,h3,h4,hx,hu3⟩
    obtain⟨ht1,ht2,htx,hj1,hu1,hu2,hk1,hk2⟩:=HALL.out
    have hs2:=hu2.size
    have hst:=HH.out.next (by omega) ht1 ht2 htx hj1 hu1 (Nat.le_trans hs2 h3) (Nat.le_trans hs2 h4) hx (hu2.trans (hu3.mono (by simp))) hk1 hk2
    have x3:=(hu3.block _ (blk_lt HX2.out) (by simp)).trans HX2.out
    have t3:=(hu3.block _ (blk_lt HT2.out) (by simp)).trans HT2.out
    have cX:w3'.cell? ⟨xa,k,none⟩=some (.pointer none):=by rw[blk_cell x3];exact arrX_old sl k hlt
    have fX:w3'.frozen? ⟨xa,k,none⟩=false:=blk_free x3 k
    have HS3:=Lib.hid hst
    have HX3:=Lib.hid x3
    have HT3:=Lib.hid t3
    have HU3:Hid (Upd [] w w3'):=Lib.hid (((HU.out.late hu1 fun z hz=> .inr (HJB.out z hz)).late hu2 fun z hz=> .inr (by rw[List.mem_singleton.1 hz];exact HHI.out.1)).trans hu3)
    clear ht1 ht2 htx hj1 hu1 hu2 hk1 hk2 hs2 h3 h4 hx hu3 hst x3 t3 cT fT
    go_wp2_with fail
    have hu4:Upd [xa] w3' (w3'.setCell ⟨xa,k,none⟩ (.pointer (some ⟨x.tb,0,none⟩))):=(Upd.refl _ _).set _ (.inl (by simp))
    have x4:=blk_set HX3.out k (.pointer (some ⟨x.tb,0,none⟩))
    have eX:(arrX sl k).setIfInBounds k (.pointer (some ⟨x.tb,0,none⟩))=arrX (upF sl k (firstS J tb wb x)) (k+1):=arrX_set sl (firstS J tb wb x) k hlt
    have eT:(arrT sl k).setIfInBounds k (.pointer (some ⟨tb,0,none⟩))=arrT (upF sl k (firstS J tb wb x)) (k+1):=arrT_set sl (firstS J tb wb x) k hlt
    rw[eX] at x4
    have t4:=(hu4.block _ (blk_lt HT3.out) (by simpa using hne)).trans HT3.out
    rw[eT] at t4
    go_roundw
    case rel=>exact⟨k+1,upF sl k (firstS J tb wb x),by omega,by go_num,HS3.out.far hu4 (fun z hz=>by rw[List.mem_singleton.1 hz,kd_cells HX3.out];exact HKD.out.2.2.1) (fun z hz=>by rw[List.mem_singleton.1 hz,kd_cells HX3.out];exact HKD.out.2.2.2),t4,x4,HU3.out.late hu4 (fun z hz=> .inr (by rw[List.mem_singleton.1 hz];exact HHI.out.2))⟩
    case measure=>simp[intOf];omega
  obtain rfl:k=3:=by omega
  have b1:decide (((3:Nat):Int)<3)=false:=by decide
  have hA:All7 w wr g q.r ta xa D 1 (fun _=>⟨jb,ab,q,J⟩) sl 5:=
   ⟨HH.out.co,HH.out.doc,HH.out.pu HM.out.2.2.2.1 HM.out.2.2.2.2.1 HM.out.2.2.2.2.2.1 HM.out.2.2.2.2.2.2.1 HM.out.2.2.2.2.2.2.2.1 HM.out.2.2.2.2.2.2.2.2.1 HM.out.2.2.2.2.2.2.2.2.2.1 HLV.out,HH.out.blk HJB.out HQB.out,HT.out,HX.out,HHI.out,HU.out⟩
  have HA:=Lib.hid hA
  clear hge hA
  obtain⟨w8,hw8⟩:∃z:World,z=wr:=⟨_,rfl⟩
  rw[← hw8] at HA ⊢
  clear hw8 HH HT HX HU
  go_wp2_with fail
  go_loopw [4,6,11] (fun jv rv i wr=>∃(I:Nat) (D:Dk) (n:Nat) (gs:Nat→Gn) (sl:Nat→Sl),I≤l.length∧i=.int .i64 (I:Int)∧jv=.pointer (some ⟨(gs (n-1)).jb,0,none⟩)∧rv=.pointer (some ⟨(gs (n-1)).q.jb,0,none⟩)∧All7 w wr g q.r ta xa D n gs sl (5+(I:Int))) (fun _ _ i _=>l.length-(intOf i).toNat)
  case atStart=>exact⟨0,D,1,fun _=>⟨jb,ab,q,J⟩,sl,by omega,rfl,rfl,rfl,HA.out.more (by omega)⟩
  case round=>
   clear HA HM HQB HJB HHI HF HLV HU1 HU7 HST HT7 HX7
   obtain⟨I,D,n,gs,sl,hI,rfl,rfl,rfl,H⟩:=hrel
   rcases Nat.lt_or_ge I l.length with hlt | hge
   ·have b1:decide ((I:Int)<(l.length:Int))=true:=decide_eq_true (by omega)
    have b2:decide (I<l.length)=true:=decide_eq_true hlt
    have i0:(0:Int)≤(I:Int):=by omega
    have i1:(I:Int)<(l.length:Int):=by omega
    obtain⟨vb,off,rfl,hcell⟩:=HCELL.out (by omega)
    obtain⟨c0,c1,c2,c3,hR⟩:=hcell I hlt
    have hag:Agree w wr:=fun k hk=>H.up.block k hk (by simp)
    have HAG:=Lib.hid hag
    replace c0:=hag.cell c0
    replace c1:=hag.cell c1
    replace c2:=hag.cell c2
    replace c3:=hag.cell c3
    clear hcell hag
    generalize l[I]=op at *
    obtain⟨oK,oT,oI,oV,oB⟩:=op
    replace hR:Rd w oV oB:=hR
    replace c0:wr.cell? ⟨vb,off+I*4,none⟩=some (.int .i64 oK):=c0
    replace c1:wr.cell? ⟨vb,off+I*4+1,none⟩=some (.int .i64 oT):=c1
    replace c2:wr.cell? ⟨vb,off+I*4+2,none⟩=some (.int .i64 oI):=c2
    replace c3:wr.cell? ⟨vb,off+I*4+3,none⟩=some oV:=c3
    obtain⟨ba,bc,hV,hbc,_⟩:=id hR
    subst hV
    obtain⟨wA,hwA⟩:∃z,z=wr.alloc (.cells #[.int .i64 oK,.int .i64 oT,.int .i64 oI,.slice ba oB.length bc] 86):=⟨_,rfl⟩
    have hA:=H.below (w':=wA) (by rw[hwA];exact(Upd.refl _ _).alloc _)
    obtain⟨bo,hbo⟩:∃b,b=wr.heap.size:=⟨_,rfl⟩
    have hob:wA.heap[bo]?=some (.cells #[.int .i64 oK,.int .i64 oT,.int .i64 oI,.slice ba oB.length bc] 86 (0,0)):=by rw[hwA,hbo];exact blk_alloc _
    have HA:=Lib.hid hA
    have HOB:=Lib.hid hob
    have HR:=Lib.hid hR
    have HWA:=Lib.hid (And.intro hwA hbo)
    have HCE:Hid (∀w':World,w'.heap[bo]?=some (.cells #[.int .i64 oK,.int .i64 oT,.int .i64 oI,.slice ba oB.length bc] 86 (0,0))→w'.cell? ⟨bo,0,none⟩=some (.int .i64 oK)∧w'.cell? ⟨bo,1,none⟩=some (.int .i64 oT)∧w'.cell? ⟨bo,2,none⟩=some (.int .i64 oI)∧w'.cell? ⟨bo,3,none⟩=some (.slice ba oB.length bc)):=Lib.hid (fun w' h=>⟨by rw[blk_cell h];rfl,by rw[blk_cell h];rfl,by rw[blk_cell h];rfl,by rw[blk_cell h];rfl⟩)
    clear H hwA hbo hob hA hR
    by_cases h600:600<oB.length
    ·have d1:decide (600<(oB.length:Int))=true:=decide_eq_true (by omega)
     have d2:decide (600<oB.length)=true:=decide_eq_true h600
     go_wp2_with fail
     obtain⟨hwA,hbo⟩:=HWA.out
     rw[← hwA,← hbo]
     go_ret
     exact⟨rfl,HA.out.up⟩
    have d1:decide (600<(oB.length:Int))=false:=decide_eq_false (by omega)
    have d2:decide (600<oB.length)=false:=decide_eq_false h600
    obtain⟨ti,hti⟩:∃t,t=placeN oT 3:=⟨_,rfl⟩
    have ht3:ti<3:=by rw[hti];exact placeN_lt (by omega)
    have HPT:=Lib.hid (place_spec oT 3 wA (by omega) (by omega))
    rw[← hti] at HPT
    obtain⟨p,hp⟩:∃p,p=placeN oK 7:=⟨_,rfl⟩
    have HPK:=Lib.hid (place_spec oK 7 wA (by omega) (by omega))
    rw[← hp] at HPK
    clear hti hp
    go_wp2_with fail
    obtain⟨hwA,hbo⟩:=HWA.out
    rw[← hwA,← hbo]
    clear hwA hbo c0 c1 c2 c3 HWA
    refine HPT.out.mono ?_
    rintro e w' ⟨rfl,rfl⟩
    obtain⟨y0,y1,y2,y3⟩:=HCE.out _ HOB.out
    go_wp2_with fail
    refine HPK.out.mono ?_
    rintro e w' ⟨rfl,rfl⟩
    have j0:(0:Int)≤(ti:Int):=by omega
    have j1:(ti:Int)<3:=by omega
    clear y0 y1 y2 y3 HPT HPK
    have HI:Hid ((5:Int)+(I:Int)≤130):=Lib.hid (by omega)
    by_cases p0:p=0
    ·as_aux_lemma=>
      subst p0
      have HCB:=Lib.hid (co_begin HA.out.co HA.out.pu)
      go_wp2_with fail
      refine HCB.out.mono ?_
      rintro e w1' ⟨tb,wb,rfl,h1,h2,ht,hc1,hu1⟩
      have hy:n-1<n:=by have:=HA.out.pu.pos;omega
      have hd1:=HA.out.dd.code hu1 (fun k hk=>(HA.out.co.jn _ hy).codes k hk)
      have HDB:=Lib.hid (do_begin hd1 HA.out.pu)
      have HB1:=Lib.hid (And.intro h1 (And.intro h2 (And.intro ht (And.intro hc1 hu1))))
      clear h1 h2 ht hc1 hu1 hy hd1
      go_wp2_with fail
      refine HDB.out.mono ?_
      rintro e w2' ⟨x,rfl,h3,h4,hx,hu2⟩
      obtain⟨h1,h2,ht,hc1,hu1⟩:=HB1.out
      obtain⟨t2,x2,hne,hall⟩:=HA.out.begun ht3 h1 h2 ht hc1 hu1 h3 h4 hx hu2
      have hu3:Upd [ta] w2' (w2'.setCell ⟨ta,ti,none⟩ (.pointer (some ⟨tb,0,none⟩))):=(Upd.refl _ _).set _ (.inl (by simp))
      have x3:=(hu3.block _ (blk_lt x2) (by simpa using Ne.symm hne)).trans x2
      have cT:w2'.cell? ⟨ta,ti,none⟩=some (.pointer (some ⟨(sl ti).tb,0,none⟩)):=by rw[blk_cell t2];exact arrT_get sl ti ht3
      have fT:w2'.frozen? ⟨ta,ti,none⟩=false:=blk_free t2 ti
      have cX:(w2'.setCell ⟨ta,ti,none⟩ (.pointer (some ⟨tb,0,none⟩))).cell? ⟨xa,ti,none⟩=some (.pointer (some ⟨(sl ti).x.tb,0,none⟩)):=by rw[blk_cell x3];exact arrX_get sl ti ht3
      have fX:(w2'.setCell ⟨ta,ti,none⟩ (.pointer (some ⟨tb,0,none⟩))).frozen? ⟨xa,ti,none⟩=false:=blk_free x3 ti
      have cX4:((w2'.setCell ⟨ta,ti,none⟩ (.pointer (some ⟨tb,0,none⟩))).setCell ⟨xa,ti,none⟩ (.pointer (some ⟨x.tb,0,none⟩))).cell? ⟨xa,ti,none⟩=some (.pointer (some ⟨x.tb,0,none⟩)):=by
       rw[blk_cell hall.ax]
       have:=arrX_get (upF sl ti (newS gs n tb wb x)) ti ht3
       rw[upF_same] at this
       exact this
      have HALL:=Lib.hid hall
      clear h1 h2 ht hc1 hu1 h3 h4 hx hu2 t2 x2 hall hu3 x3
      go_wp2_with fail
      clear cT fT cX fX cX4
      obtain⟨wF,hwF⟩:∃z,z=((w2'.setCell ⟨ta,ti,none⟩ (.pointer (some ⟨tb,0,none⟩))).setCell ⟨xa,ti,none⟩ (.pointer (some ⟨x.tb,0,none⟩))):=⟨_,rfl⟩
      rw[← hwF] at HALL ⊢
      clear hwF
      have hdt:=do_touched (HALL.out).dd (HALL.out).pu ht3
      have hct:=co_touched (HALL.out).co (HALL.out).pu ht3
      rw[upF_same] at hdt hct
      have HDT:=Lib.hid hdt
      have HCT:=Lib.hid hct
      clear hdt hct
      refine HDT.out.mono ?_
      rintro e w' ⟨rfl,rfl⟩
      have cT4:wF.cell? ⟨ta,ti,none⟩=some (.pointer (some ⟨(upF sl ti (newS gs n tb wb x) ti).tb,0,none⟩)):=by rw[blk_cell (HALL.out).at_];exact arrT_get _ ti ht3
      rw[upF_same] at cT4
      go_wp2_with fail
      refine HCT.out.mono ?_
      rintro e wE ⟨rfl,huE⟩
      go_wp2_with fail
      go_roundw
      case rel=>
       repeat apply Exists.intro
       exact⟨⟨I+1,D,n,gs,upF sl ti (newS gs n tb wb x),by omega,by go_num,rfl,rfl,((HALL.out).below huE).more (by omega)⟩,rfl⟩
      case measure=>simp[intOf];omega
    by_cases p6:p=6
    ·as_aux_lemma=>
      subst p6
      have HCP:=Lib.hid (co_power HA.out.co)
      go_wp2_with fail
      refine HCP.out.mono ?_
      rintro e w1' ⟨rfl,hc1,hu1⟩
      have hgb:∀(w':World) (D':Dk),DiskAt w' AnyF g D'→∀k,k∈[g.db,g.lb,g.mb]→kd w' k∈codeT:=fun w' D' hd k hk=>by
       obtain⟨z1,z2,z3⟩:=hd.kinds
       simp at hk
       rcases hk with rfl | rfl | rfl
       ·rw[z1];decide
       ·rw[z2];decide
       ·rw[z3];decide
      have hrb:∀(w':World) (D':Dk),RdkAt w' q.r D'→∀k,k∈q.r.all→kd w' k∈docT:=fun w' D' hd k hk=>by
       obtain⟨z1,z2,z3⟩:=hd.kinds
       simp[RG.all] at hk
       rcases hk with rfl | rfl | rfl
       ·rw[z1];decide
       ·rw[z2];decide
       ·rw[z3];decide
      have HGB:=Lib.hid hgb
      have HRB:=Lib.hid hrb
      have hd1:=HA.out.dd.code hu1 (hgb _ _ HA.out.co.disk)
      have HD1:=Lib.hid hd1
      have HDP:=Lib.hid (do_power hd1)
      have HC1:=Lib.hid (And.intro hc1 hu1)
      clear hc1 hu1 hgb hrb hd1
      go_wp2_with fail
      refine HDP.out.mono ?_
      rintro e w2' ⟨rfl,hd2,hu2⟩
      have hc2:=HC1.out.1.doc hu2 (HRB.out _ _ HD1.out.rdk)
      have hpos:=HA.out.pu.pos
      obtain⟨g1,g2,g3,g4,g5⟩:=HA.out.pu.gen (n-1) (by omega)
      have hI5:=HI.out
      have HCO:=Lib.hid (co_open hc2 (HA.out.pu.live.held.power []).1 (power_on D) (by show(gs (n-1)).J.last.number≤2000;omega) (by show(gs (n-1)).J.turn≤2000;omega))
      have HC2:=Lib.hid hc2
      have HD2:=Lib.hid hd2
      have HU2:=Lib.hid hu2
      clear hd2 hu2 hc2 g1 g2 g3 g4 g5 hpos hI5
      go_wp2_with fail
      refine HCO.out.mono ?_
      rintro e w3' ⟨jb',ab',D',J',rfl,hb1,hb2,hc3,hj,ho,hL,hon,hn,ht,hr,hm,hu3⟩
      have hd3:=HD2.out.code hu3 (HGB.out _ _ HC2.out.disk)
      have hpos:=HA.out.pu.pos
      obtain⟨g1,g2,g3,g4,g5⟩:=HA.out.pu.gen (n-1) (by omega)
      have hI5:=HI.out
      have ht':J'.turn=(gs (n-1)).J.turn:=ht
      have hm':J'.last.number≤(gs (n-1)).J.last.number+1:=hm
      have HDO:=Lib.hid (do_open hd3 ho (power_on D) hn (by omega) (by omega))
      have H3:=Lib.hid (And.intro hb1 (And.intro hb2 (And.intro hc3 (And.intro hj (And.intro ho (And.intro hL (And.intro hon (And.intro hn (And.intro ht' (And.intro hr (And.intro hm' (And.intro hu3 hd3))))))))))))
      clear hb1 hb2 hc3 hj ho hL hon hn ht hr hm hu3 hd3 ht' hm' g1 g2 g3 g4 g5 hpos hI5
      go_wp2_with fail
      refine HDO.out.mono ?_
      rintro e w4' ⟨q',hqr,rfl,hqb,hd4,hq4,hu4⟩
      obtain⟨hb1,hb2,hc3,hj,ho,hL,hon,hn,ht,hr,hm,hu3,hd3⟩:=H3.out
      have hall:=HA.out.reopened (by have:=HI.out;omega) HC1.out.2 HU2.out hb1 hb2 hc3 hj ho hL hon hn ht hr hm hu3 hd3 hqr hqb hd4 hq4 hu4
      have cX4:w4'.cell? ⟨xa,ti,none⟩=some (.pointer (some ⟨(sl ti).x.tb,0,none⟩)):=by rw[blk_cell hall.ax];exact arrX_get sl ti ht3
      have HALL:=Lib.hid hall
      clear hb1 hb2 hc3 hj ho hL hon hn ht hr hm hu3 hd3 hqr hqb hd4 hq4 hu4 hall
      go_wp2_with fail
      clear cX4
      have hdt:=do_touched (HALL.out).dd (HALL.out).pu ht3
      have hct:=co_touched (HALL.out).co (HALL.out).pu ht3
      have HDT:=Lib.hid hdt
      have HCT:=Lib.hid hct
      clear hdt hct
      refine HDT.out.mono ?_
      rintro e w' ⟨rfl,rfl⟩
      have cT4:w4'.cell? ⟨ta,ti,none⟩=some (.pointer (some ⟨(sl ti).tb,0,none⟩)):=by rw[blk_cell (HALL.out).at_];exact arrT_get _ ti ht3
      go_wp2_with fail
      refine HCT.out.mono ?_
      rintro e wE ⟨rfl,huE⟩
      go_wp2_with fail
      go_roundw
      case rel=>
       repeat apply Exists.intro
       exact⟨⟨I+1,D',n+1,upF gs n ⟨jb',ab',q',J'⟩,sl,by omega,by go_num,by rw[Nat.add_sub_cancel,upF_same],by rw[Nat.add_sub_cancel,upF_same],((HALL.out).below huE).more (by omega)⟩,rfl⟩
      case measure=>simp[intOf];omega
    as_aux_lemma=>
     have q0:((p:Int) == 0)=false:=by simpa using p0
     have q6:((p:Int) == 6)=false:=by simpa using (by omega:(p:Int)≠6)
     have q0':(p == 0)=false:=by simpa using p0
     have q6':(p == 6)=false:=by simpa using p6
     have HCL:Hid (∀w',Upd [] wA w'→(w'.cell? ⟨ta,ti,none⟩=some (.pointer (some ⟨(sl ti).tb,0,none⟩))∧w'.cell? ⟨xa,ti,none⟩=some (.pointer (some ⟨(sl ti).x.tb,0,none⟩)))∧w'.cell? ⟨bo,0,none⟩=some (.int .i64 oK)∧w'.cell? ⟨bo,1,none⟩=some (.int .i64 oT)∧w'.cell? ⟨bo,2,none⟩=some (.int .i64 oI)∧w'.cell? ⟨bo,3,none⟩=some (.slice ba oB.length bc)):=Lib.hid (fun w' hu=>by
      have h1:=HA.out.below hu
      exact⟨⟨by rw[blk_cell h1.at_];exact arrT_get sl ti ht3,by rw[blk_cell h1.ax];exact arrX_get sl ti ht3⟩,HCE.out _ ((hu.block _ (blk_lt HOB.out) (by simp)).trans HOB.out)⟩)
     go_wp2_with fail
     refine wp_region_xL (fun w'=>Upd [] wA w') [7] (by kernel_rfl) (by simp only[List.size_toArray,List.length_cons,List.length_nil,Nat.reduceAdd];exact rfl) (by simp only[List.replicate_succ,List.replicate_zero];exact rfl) (Upd.refl _ _).drew (fun hHeld=>?_)
     generalize wA.drew=w0 at hHeld ⊢
     refine takeL (i:=0) (v:=?_) rfl rfl (by kernel_rfl) (fun _ _ _ h=>h) hHeld (Or.inl ⟨by kernel_rfl,?_⟩) (by dsimp only[List.set_cons_succ,List.set_cons_zero]) (by dsimp only[List.set_cons_succ,List.set_cons_zero]) ?_
     rotate_left
     ·(intro w hSw;go_simp<;>with_reducible rfl)
     refine takeL (i:=1) (v:=?_) rfl rfl (by kernel_rfl) (fun _ _ _ h=>h) hHeld (Or.inl ⟨by kernel_rfl,?_⟩) (by dsimp only[List.set_cons_succ,List.set_cons_zero]) (by dsimp only[List.set_cons_succ,List.set_cons_zero]) ?_
     rotate_left
     ·(intro w hSw;go_simp<;>with_reducible rfl)
     refine takeL (i:=2) (v:=?_) rfl rfl (by kernel_rfl) (fun _ _ _ h=>h) hHeld (Or.inl ⟨by kernel_rfl,?_⟩) (by dsimp only[List.set_cons_succ,List.set_cons_zero]) (by dsimp only[List.set_cons_succ,List.set_cons_zero]) ?_
     rotate_left
     ·(intro w hSw;obtain⟨⟨z1,z2⟩,z3,z4,z5,z6⟩:=HCL.out _ hSw;go_simp<;>with_reducible rfl)
     refine takeL (i:=3) (v:=?_) rfl rfl (by kernel_rfl) (fun _ _ _ h=>h) hHeld (Or.inl ⟨by kernel_rfl,?_⟩) (by dsimp only[List.set_cons_succ,List.set_cons_zero]) (by dsimp only[List.set_cons_succ,List.set_cons_zero]) ?_
     rotate_left
     ·(intro w hSw;go_simp<;>with_reducible rfl)
     refine takeL (i:=4) (v:=?_) rfl rfl (by kernel_rfl) (fun _ _ _ h=>h) hHeld (Or.inl ⟨by kernel_rfl,?_⟩) (by dsimp only[List.set_cons_succ,List.set_cons_zero]) (by dsimp only[List.set_cons_succ,List.set_cons_zero]) ?_
     rotate_left
     ·(intro w hSw;go_simp<;>with_reducible rfl)
     refine takeL (i:=5) (v:=?_) rfl rfl (by kernel_rfl) (fun _ _ _ h=>h) hHeld (Or.inl ⟨by kernel_rfl,?_⟩) (by dsimp only[List.set_cons_succ,List.set_cons_zero]) (by dsimp only[List.set_cons_succ,List.set_cons_zero]) ?_
     rotate_left
     ·(intro w hSw;obtain⟨⟨z1,z2⟩,z3,z4,z5,z6⟩:=HCL.out _ hSw;go_simp<;>with_reducible rfl)
     refine takeL (i:=6) (v:=?_) rfl rfl (by kernel_rfl) (fun _ _ _ h=>h) hHeld (Or.inl ⟨by kernel_rfl,?_⟩) (by dsimp only[List.set_cons_succ,List.set_cons_zero]) (by dsimp only[List.set_cons_succ,List.set_cons_zero]) ?_
     rotate_left
     ·(intro w hSw;obtain⟨⟨z1,z2⟩,z3,z4,z5,z6⟩:=HCL.out _ hSw;go_simp<;>with_reducible rfl)
     refine wpAnyX_ready (rs:=[7]) (by kernel_rfl) (by simp) (AllReadyX.one rfl (fun K hK=>?_))
     go_simp
     go_at_call 36
     have hA0:=HA.out.below hHeld
     have hb7:∀w',(∀k,k<w.heap.size→w'.heap[k]?=w0.heap[k]?)→Rd w' (.slice ba oB.length bc) oB:=fun w' h=>
      (show Agree w w' from fun k hk=>(h k hk).trans (hA0.up.block k hk (by simp))).rd HR.out
     have hdo:=do7_spec hA0.co hA0.dd hA0.pu (by have:=HI.out;omega) ht3 hA0.lo hA0.up.size oK oT oI _ oB hb7 (by omega)
     (with_reducible refine hdo.mono ?_)
     rintro e w1' ⟨rfl,hdn⟩
     obtain⟨D',gs',sl',hall,hsm⟩:=hA0.did hdn
     have HALL:=Lib.hid hall
     have HSM:=Lib.hid hsm
     refine hK.out _ _ (noneUp_any (by kernel_rfl)) ?_
     clear hA0 hb7 hdo hdn hall hsm hHeld hK K
     try simp only[Act.put,List.getElem_toArray,List.getElem_cons_zero,List.getElem_cons_succ,List.setIfInBounds_toArray,List.set_cons_zero,List.set_cons_succ]
     refine wpAnyX_free (by kernel_rfl) ?_
     refine takeL (i:=8) (v:=?_) rfl rfl (by kernel_rfl) (fun _ _ _ h=>h) trivial (Or.inl ⟨by kernel_rfl,?_⟩) (by dsimp only[List.set_cons_succ,List.set_cons_zero]) (by dsimp only[List.set_cons_succ,List.set_cons_zero]) ?_
     rotate_left
     ·(intro w hSw;go_simp<;>with_reducible rfl)
     refine wpAnyX_done (by kernel_rfl) ?_ _
     have cX4:w1'.cell? ⟨xa,ti,none⟩=some (.pointer (some ⟨(sl' ti).x.tb,0,none⟩)):=by rw[blk_cell HALL.out.ax];exact arrX_get sl' ti ht3
     go_wp2_with fail
     clear cX4
     have hdt:=do_touched (HALL.out).dd (HALL.out).pu ht3
     have hct:=co_touched (HALL.out).co (HALL.out).pu ht3
     have HDT:=Lib.hid hdt
     have HCT:=Lib.hid hct
     clear hdt hct
     refine HDT.out.mono ?_
     rintro e w' ⟨rfl,rfl⟩
     have cT4:w1'.cell? ⟨ta,ti,none⟩=some (.pointer (some ⟨(sl' ti).tb,0,none⟩)):=by rw[blk_cell (HALL.out).at_];exact arrT_get _ ti ht3
     go_wp2_with fail
     refine HCT.out.mono ?_
     rintro e wE ⟨rfl,huE⟩
     go_wp2_with fail
     go_roundw
     case rel=>
      repeat apply Exists.intro
      exact⟨⟨I+1,D',n,gs',sl',by omega,by go_num,by rw[(HSM.out _).1],by rw[(HSM.out _).2],((HALL.out).below huE).more (by omega)⟩,rfl⟩
     case measure=>simp[intOf];omega
   ·obtain rfl:I=l.length:=by omega
    have b1:decide ((l.length:Int)<(l.length:Int))=false:=by simp
    have b2:decide (l.length<l.length)=false:=by simp
    have HLR:=Lib.hid (lread_spec H.co.disk H.dd.rdk)
    have HU:=Lib.hid H.up
    clear H hge
    go_wp2_with fail
    refine HLR.out.mono ?_
    rintro e wZ ⟨rfl,huZ⟩
    go_wp2_with fail
    go_ret
    exact⟨rfl,HU.out.trans huZ⟩
end Go.Proofs.YtplppdbdfhkljaaGreat
end
