/-
  The document's disk in memory: Flush.
-/
import Derived.Test.YtplppdbdfhkljaaGreatA10
import Derived.BigQuiet
import Derived.BigRegion
import Derived.Laws.IdiomStrings
set_option maxRecDepth 100000
set_option maxHeartbeats 16000000
section
set_option linter.unusedSimpArgs false
set_option linter.unusedVariables false
namespace Go.Proofs.YtplppdbdfhkljaaGreat
open Go.RowKit Go.MapKept Go.ChangeMaps
def Dk.fl(D:Dk)(q:Nat):Dk:={ D with last:=fun j=>if j<q then D.now j else D.last j,wait:=fun j=>if j<q then none else D.wait j }
theorem RdkAt.lists{w:World}{g:RG}{D D':Dk}(h:RdkAt w g D)(hn:D'.n=D.n)(h1:lastL D'=lastL D)(h2:waitL D'=waitL D)(hl:D'.lives=D.lives)(ho:D'.off=false)(ha:D'.armed = -1)(hw:D'.way=none)(hok:D'.Ok):RdkAt w g D':=by
 obtain⟨x,hx⟩:=h.st
 exact⟨⟨x,by rw[hn,hl];exact hx⟩,by rw[h1];exact h.last,by rw[h2];exact h.wait,ho,ha,hw,hok,h.ne⟩
theorem lists_ext{D D':Dk}(hn:D'.n=D.n)(h:∀i,i<D.n→D'.last i=D.last i∧D'.wait i=D.wait i):lastL D'=lastL D∧waitL D'=waitL D:=by
 unfold lastL waitL
 rw[hn]
 exact⟨List.map_congr_left fun i hi=>by rw[(h i (List.mem_range.1 hi)).1],List.map_congr_left fun i hi=>by rw[(h i (List.mem_range.1 hi)).2]⟩
theorem Dk.fl_ok{D:Dk}(h:D.Ok)(q:Nat):(D.fl q).Ok:=by
 refine⟨h.n0,h.n1,fun i=>?_,fun i s hs=>?_,h.armed0,h.armed1,h.part,h.way,h.front⟩
 ·show(if i<q then D.now i else D.last i).length=512
  split
  ·unfold Dk.now
   cases e:D.wait i with
   | none=>exact h.last i
   | some s=>exact(h.wait i s e).2
  ·exact h.last i
 ·have:(if i<q then none else D.wait i)=some s:=hs
  split at this
  ·cases this
  ·exact h.wait i s this
theorem Dk.fl_zero(D:Dk):D.fl 0=D:=by
 have h1:(fun j=>if j<0 then D.now j else D.last j)=D.last:=by funext j;rw[if_neg (by omega)]
 have h2:(fun j=>if j<0 then none else D.wait j)=D.wait:=by funext j;rw[if_neg (by omega)]
 unfold Dk.fl
 rw[h1,h2]
theorem Dk.fl_other(D:Dk){q i:Nat}(hi:i≠q):(D.fl (q+1)).last i=(D.fl q).last i∧(D.fl (q+1)).wait i=(D.fl q).wait i:=by
 refine⟨?_,?_⟩
 ·show(if i<q+1 then D.now i else D.last i)=if i<q then D.now i else D.last i
  by_cases e:i<q
  ·rw[if_pos (by omega),if_pos e]
  ·rw[if_neg (by omega),if_neg e]
 ·show(if i<q+1 then none else D.wait i)=if i<q then none else D.wait i
  by_cases e:i<q
  ·rw[if_pos (by omega),if_pos e]
  ·rw[if_neg (by omega),if_neg e]
theorem Dk.fl_last(D:Dk)(q:Nat):(D.fl (q+1)).last q=D.now q:=by show(if q<q+1 then D.now q else _)=_;rw[if_pos (by omega)]
theorem Dk.fl_wait(D:Dk)(q:Nat):(D.fl (q+1)).wait q=none:=by show(if q<q+1 then none else _)=_;rw[if_pos (by omega)]
theorem Dk.fl_now(D:Dk)(q:Nat):(D.fl q).wait q=D.wait q:=by show(if q<q then none else D.wait q)=_;rw[if_neg (by omega)]
theorem Dk.fl_skip(D:Dk){q:Nat}(h:D.wait q=none):lastL (D.fl (q+1))=lastL (D.fl q)∧waitL (D.fl (q+1))=waitL (D.fl q):=lists_ext rfl fun i _=>by
 by_cases e:i=q
 ·subst e
  refine⟨?_,by rw[Dk.fl_wait,Dk.fl_now,h]⟩
  rw[Dk.fl_last]
  show D.now i=if i<i then D.now i else D.last i
  rw[if_neg (by omega)]
  unfold Dk.now;rw[h];rfl
 ·exact D.fl_other e
def f9(rb lb wb cl cw n q:Nat)(v:ByteArray):List (Nat × Nat × Value):=[(0,28,.pointer (some ⟨rb,0,none⟩)),(1,29,.pointer (some ⟨rb,0,none⟩)),(2,30,.pointer (some ⟨rb,0,none⟩)),(3,31,.slice (some ⟨lb,0,none⟩) n cl),(4,32,.int .i64 (q:Int)),(5,33,.pointer (some ⟨rb,0,none⟩)),(6,34,.pointer (some ⟨rb,0,none⟩)),(7,35,.pointer (some ⟨rb,1,none⟩)),(8,36,.slice (some ⟨wb,0,none⟩) n cw),(9,37,.int .i64 (q:Int)),(10,38,.pointer (some ⟨rb,0,none⟩)),(11,39,.pointer (some ⟨rb,0,none⟩)),(12,40,.pointer (some ⟨rb,1,none⟩)),(13,41,.slice (some ⟨wb,0,none⟩) n cw),(14,42,.int .i64 (q:Int)),(15,43,.pointer (some ⟨wb,q,none⟩)),(16,44,.string v),(17,45,.pointer (some ⟨lb,q,none⟩)),(19,46,.pointer (some ⟨wb,q,none⟩))]
set_option maxRecDepth 100000 in
set_option maxHeartbeats 4000000 in
theorem rflush_spec{w:World}{g:RG}{D:Dk}(h:RdkAt w g D) :
  Calls Tryz.prog 70 #[.pointer (some ⟨g.rb,0,none⟩)] w fun e w'=>e=.returned (.int .i64 0)∧D.flush.2=0∧RdkAt w' g D.flush.1∧Upd g.all w w':=by
 have hfl:D.flush=({ D with last:=D.now,wait:=fun _=>none },0):=by
  unfold Dk.flush Dk.step
  rw[if_neg (by rw[h.off];decide),if_neg (by rw[h.armed];decide),if_neg (by rw[h.armed];decide)]
 have HFL:=Lib.hid hfl
 obtain⟨x,hx⟩:=id h.st
 have c2:w.cell? ⟨g.rb,2,none⟩=some (.bool false):=by rw[blk_cell hx];rfl
 have H:=Lib.hid h
 have HG:=Lib.hid (rgoes_spec h)
 obtain⟨n,hn⟩:∃n,n=D.n:=⟨_,rfl⟩
 have hnb:n<1000000:=by have:=H.out.ok.n1;omega
 have HN:=Lib.hid hn
 clear h hfl hx hn
 go_enter Tryz.func70,Tryz.ntmps70
 go_wp2_with fail
 refine HG.out.mono ?_
 rintro e w' ⟨rfl,rfl⟩
 go_wp2_with fail
 clear c2
 go_loopw [3] (fun i wr=>∃q:Nat,i=.int .i64 (q:Int)∧q≤n∧Hid (RdkAt wr g (D.fl q))∧Hid (Upd g.all w wr)) (fun i _=>n+1-(intOf i).toNat)
 case atStart=>exact⟨0,rfl,by omega,Lib.hid (by rw[Dk.fl_zero];exact H.out),Lib.hid (Upd.refl _ _)⟩
 case round=>
  obtain⟨q,rfl,hq,HR,HU⟩:=hrel
  obtain⟨wq,rfl⟩:∃wq:World,wq=wr:=⟨_,rfl⟩
  obtain⟨x,hx⟩:=id HR.out.st
  have hnq:(D.fl q).n=n:=HN.out.symm
  rw[hnq] at hx
  have c0:wq.cell? ⟨g.rb,0,none⟩=some (.slice (some ⟨g.lb,0,none⟩) n g.cl):=by rw[blk_cell hx];rfl
  have c1:wq.cell? ⟨g.rb,1,none⟩=some (.slice (some ⟨g.wb,0,none⟩) n g.cw):=by rw[blk_cell hx];rfl
  have HX:=Lib.hid hx
  clear hx
  rcases Nat.lt_or_ge q n with h4 | h4
  ·have cj:decide ((q:Int)<(n:Int))=true:=decide_eq_true (by omega)
   have cj2:decide (q<n)=true:=decide_eq_true h4
   have hq0:(0:Int)≤(q:Int):=by omega
   have hq1:(q:Int)<(n:Int):=by omega
   have hqD:q<D.n:=by have:=HN.out;omega
   have hqD':q<(D.fl q).n:=hqD
   have k1:=HR.out.wait.cell (waitL_get hqD')
   have hwq:(D.fl q).wait q=D.wait q:=D.fl_now q
   rw[hwq] at k1
   have hnx:∀i,i<D.n→i≠q→(D.fl (q+1)).last i=(D.fl q).last i∧(D.fl (q+1)).wait i=(D.fl q).wait i:=fun i _ hi=>D.fl_other hi
   have hl1:=D.fl_last q
   have hw1':=D.fl_wait q
   rcases hwt:D.wait q with _ | s
   ·rw[hwt] at k1
    unfold wtV at k1
    rw[str_nil] at k1
    have hls:=D.fl_skip hwt
    have HRN:=Lib.hid (HR.out.lists (D':=D.fl (q+1)) rfl hls.1 hls.2 rfl H.out.off H.out.armed H.out.way (Dk.fl_ok H.out.ok _))
    clear hls hnx hl1 hw1' hwt hwq hqD hqD'
    go_wp2_with fail
    exact⟨⟨q+1,by go_num,by omega,HRN,HU⟩,by simp[intOf];omega⟩
   ·rw[hwt] at k1
    have hsl:=(H.out.ok.wait q s hwt).2
    have hne:=str_full hsl
    obtain⟨v,hv⟩:∃v,v=str s:=⟨_,rfl⟩
    replace k1:wq.cell? ⟨g.wb,q,none⟩=some (.string (str s)):=k1
    rw[← hv] at k1 hne
    have hrn:=HR.out.nes
    have k0:=HR.out.last.cell (lastL_get hqD')
    have HC0:Hid (wq.drew.cell? ⟨g.rb,0,none⟩=some (.slice (some ⟨g.lb,0,none⟩) n g.cl)):=Lib.hid c0
    have HC1:Hid (wq.drew.cell? ⟨g.rb,1,none⟩=some (.slice (some ⟨g.wb,0,none⟩) n g.cw)):=Lib.hid c1
    have HK1:Hid (wq.drew.cell? ⟨g.wb,q,none⟩=some (.string v)):=Lib.hid k1
    have HM0:Hid (wq.drew.cell? ⟨g.lb,q,none⟩=some _):=Lib.hid k0
    have HF0:Hid (wq.drew.frozen? ⟨g.lb,q,none⟩=false):=Lib.hid (HR.out.last.free q)
    obtain⟨wa1,hwa1⟩:∃w',w'=(wq.setCell ⟨g.lb,q,none⟩ (.string v)).drew:=⟨_,rfl⟩
    have hu1:Upd [g.lb] wq wa1:=by rw[hwa1];exact((Upd.refl [g.lb] wq).set (.string v) (.inl (by simp))).drew
    have sl1:StrBl wa1 g.lb ((lastL (D.fl q)).set q (.string v)):=by rw[hwa1];exact HR.out.last.set (by rw[lastL_length];exact hqD') _
    have sw1:StrBl wa1 g.wb (waitL (D.fl q)):=HR.out.wait.upd hu1 (by simpa using Ne.symm HR.out.ne)
    have x1:=(hu1.block _ (blk_lt HX.out) (by simpa using hrn.1)).trans HX.out
    have HM1:=Lib.hid (sw1.cell (waitL_get hqD'))
    have HF1:=Lib.hid (sw1.free q)
    obtain⟨wa2,hwa2⟩:∃w',w'=wa1.setCell ⟨g.wb,q,none⟩ (.string ⟨#[]⟩):=⟨_,rfl⟩
    have hu2:Upd [g.wb] wa1 wa2:=by rw[hwa2];exact(Upd.refl [g.wb] wa1).set _ (.inl (by simp))
    have sl2:StrBl wa2 g.lb ((lastL (D.fl q)).set q (.string v)):=sl1.upd hu2 (by simpa using HR.out.ne)
    have sw2:StrBl wa2 g.wb ((waitL (D.fl q)).set q (.string ⟨#[]⟩)):=by rw[hwa2];exact sw1.set (by rw[waitL_length];exact hqD') _
    have x2:=(hu2.block _ (blk_lt x1) (by simpa using hrn.2)).trans x1
    have e1:(lastL (D.fl q)).set q (.string v)=lastL (D.fl (q+1)):=by
     refine List.ext_getElem? fun k=>?_
     rcases Nat.lt_or_ge k D.n with hk | hk
     ·rw[lastL_get (D:=D.fl (q+1)) hk]
      by_cases e:k=q
      ·subst e
       rw[List.getElem?_set_self (by rw[lastL_length];exact hqD'),hl1]
       unfold Dk.now strV;rw[hwt,hv];rfl
      ·rw[List.getElem?_set_ne (Ne.symm e),lastL_get (D:=D.fl q) hk,(hnx k hk e).1]
     ·rw[List.getElem?_eq_none (by rw[List.length_set,lastL_length];exact hk),List.getElem?_eq_none (by rw[lastL_length];exact hk)]
    have e2:(waitL (D.fl q)).set q (.string ⟨#[]⟩)=waitL (D.fl (q+1)):=by
     refine List.ext_getElem? fun k=>?_
     rcases Nat.lt_or_ge k D.n with hk | hk
     ·rw[waitL_get (D:=D.fl (q+1)) hk]
      by_cases e:k=q
      ·subst e
       rw[List.getElem?_set_self (by rw[waitL_length];exact hqD'),hw1']
       rfl
      ·rw[List.getElem?_set_ne (Ne.symm e),waitL_get (D:=D.fl q) hk,(hnx k hk e).2]
     ·rw[List.getElem?_eq_none (by rw[List.length_set,waitL_length];exact hk),List.getElem?_eq_none (by rw[waitL_length];exact hk)]
    rw[e1] at sl2
    rw[e2] at sw2
    have HRN:Hid (RdkAt wa2 g (D.fl (q+1))):=Lib.hid ⟨⟨x,by rw[show(D.fl (q+1)).n=n from HN.out.symm];exact x2⟩,sl2,sw2,H.out.off,H.out.armed,H.out.way,Dk.fl_ok H.out.ok _,HR.out.ne⟩
    have HUN:Hid (Upd g.all w wa2):=Lib.hid (HU.out.trans ((hu1.mono (by simp[RG.all])).trans (hu2.mono (by simp[RG.all]))))
    have HW1E:=Lib.hid hwa1
    have HW2E:=Lib.hid hwa2
    clear hnx hl1 hw1' hwt hwq hqD hqD' hsl hv hrn k0 hwa1 hu1 sl1 sw1 x1 hwa2 hu2 sl2 sw2 x2 e1 e2
    go_upto_region 9 with(fail)
    clear c0 c1 k1 hne
    refine wp_region_w (fun L=>(if L 18=true then(if L 20=true then wa2 else wa1) else wq.drew)) (f9 g.rb g.lb g.wb g.cl g.cw n q v) (by kernel_rfl) (by kernel_rfl) 47 rfl rfl rfl ?_ ?_
    ·intro i o L tmps w' ho hI hL hd hcl
     have hi:i<21:=(Array.getElem?_eq_some_iff.1 ho).1
     have t0:tmps[0]?.getD undef=.pointer (some ⟨g.rb,0,none⟩):=(hI.old 0 (by rfl)).trans rfl
     have t3:tmps[3]?.getD undef=.int .i64 (q:Int):=(hI.old 3 (by rfl)).trans rfl
     obtain rfl | rfl | rfl | rfl | rfl | rfl | rfl | rfl | rfl | rfl | rfl | rfl | rfl | rfl | rfl | rfl | rfl | rfl | rfl | rfl | rfl:i=0∨i=1∨i=2∨i=3∨i=4∨i=5∨i=6∨i=7∨i=8∨i=9∨i=10∨i=11∨i=12∨i=13∨i=14∨i=15∨i=16∨i=17∨i=18∨i=19∨i=20:=by omega
     ·cases ho
      have g18:L 18=false:=hcl.not_up (i:=0) (s:=18) 21 (by kernel_rfl) hL
      have g20:L 20=false:=hcl.not_up (i:=0) (s:=20) 21 (by kernel_rfl) hL
      have hw0:w'=wq.drew:=by rw[hI.wd];simp[g18,g20]
      have c0:w'.cell? ⟨g.rb,0,none⟩=some (.slice (some ⟨g.lb,0,none⟩) n g.cl):=by rw[hw0];exact HC0.out
      have c1:w'.cell? ⟨g.rb,1,none⟩=some (.slice (some ⟨g.wb,0,none⟩) n g.cw):=by rw[hw0];exact HC1.out
      have k1:w'.cell? ⟨g.wb,q,none⟩=some (.string v):=by rw[hw0];exact HK1.out
      have HW0:=Lib.hid hw0
      clear hw0
      refine wpOp_step rfl (fun K hK=>?_)
      go_simp
      exact hK _ _ (hI.val_step 0 28 (.pointer (some ⟨g.rb,0,none⟩)) (by decide) (by rw[hI.wd];rfl) (by simp[f9]) (by kernel_rfl))
     ·cases ho
      have t28:tmps[28]?.getD undef=.pointer (some ⟨g.rb,0,none⟩):=hI.val (0,28,_) (by simp[f9]) (hd ⟨0,.data⟩ (by simp) rfl)
      have g18:L 18=false:=hcl.not_up (i:=1) (s:=18) 21 (by kernel_rfl) hL
      have g20:L 20=false:=hcl.not_up (i:=1) (s:=20) 21 (by kernel_rfl) hL
      have hw0:w'=wq.drew:=by rw[hI.wd];simp[g18,g20]
      have c0:w'.cell? ⟨g.rb,0,none⟩=some (.slice (some ⟨g.lb,0,none⟩) n g.cl):=by rw[hw0];exact HC0.out
      have c1:w'.cell? ⟨g.rb,1,none⟩=some (.slice (some ⟨g.wb,0,none⟩) n g.cw):=by rw[hw0];exact HC1.out
      have k1:w'.cell? ⟨g.wb,q,none⟩=some (.string v):=by rw[hw0];exact HK1.out
      have HW0:=Lib.hid hw0
      clear hw0
      refine wpOp_step rfl (fun K hK=>?_)
      go_simp
      exact hK _ _ (hI.val_step 1 29 (.pointer (some ⟨g.rb,0,none⟩)) (by decide) (by rw[hI.wd];rfl) (by simp[f9]) (by kernel_rfl))
     ·cases ho
      have t29:tmps[29]?.getD undef=.pointer (some ⟨g.rb,0,none⟩):=hI.val (1,29,_) (by simp[f9]) (hd ⟨1,.data⟩ (by simp) rfl)
      have g18:L 18=false:=hcl.not_up (i:=2) (s:=18) 21 (by kernel_rfl) hL
      have g20:L 20=false:=hcl.not_up (i:=2) (s:=20) 21 (by kernel_rfl) hL
      have hw0:w'=wq.drew:=by rw[hI.wd];simp[g18,g20]
      have c0:w'.cell? ⟨g.rb,0,none⟩=some (.slice (some ⟨g.lb,0,none⟩) n g.cl):=by rw[hw0];exact HC0.out
      have c1:w'.cell? ⟨g.rb,1,none⟩=some (.slice (some ⟨g.wb,0,none⟩) n g.cw):=by rw[hw0];exact HC1.out
      have k1:w'.cell? ⟨g.wb,q,none⟩=some (.string v):=by rw[hw0];exact HK1.out
      have HW0:=Lib.hid hw0
      clear hw0
      refine wpOp_step rfl (fun K hK=>?_)
      go_simp
      exact hK _ _ (hI.val_step 2 30 (.pointer (some ⟨g.rb,0,none⟩)) (by decide) (by rw[hI.wd];rfl) (by simp[f9]) (by kernel_rfl))
     ·cases ho
      have t30:tmps[30]?.getD undef=.pointer (some ⟨g.rb,0,none⟩):=hI.val (2,30,_) (by simp[f9]) (hd ⟨2,.data⟩ (by simp) rfl)
      have g18:L 18=false:=hcl.not_up (i:=3) (s:=18) 21 (by kernel_rfl) hL
      have g20:L 20=false:=hcl.not_up (i:=3) (s:=20) 21 (by kernel_rfl) hL
      have hw0:w'=wq.drew:=by rw[hI.wd];simp[g18,g20]
      have c0:w'.cell? ⟨g.rb,0,none⟩=some (.slice (some ⟨g.lb,0,none⟩) n g.cl):=by rw[hw0];exact HC0.out
      have c1:w'.cell? ⟨g.rb,1,none⟩=some (.slice (some ⟨g.wb,0,none⟩) n g.cw):=by rw[hw0];exact HC1.out
      have k1:w'.cell? ⟨g.wb,q,none⟩=some (.string v):=by rw[hw0];exact HK1.out
      have HW0:=Lib.hid hw0
      clear hw0
      refine wpOp_step rfl (fun K hK=>?_)
      go_simp
      exact hK _ _ (hI.val_step 3 31 (.slice (some ⟨g.lb,0,none⟩) n g.cl) (by decide) (by rw[hI.wd];rfl) (by simp[f9]) (by kernel_rfl))
     ·cases ho
      have g18:L 18=false:=hcl.not_up (i:=4) (s:=18) 21 (by kernel_rfl) hL
      have g20:L 20=false:=hcl.not_up (i:=4) (s:=20) 21 (by kernel_rfl) hL
      have hw0:w'=wq.drew:=by rw[hI.wd];simp[g18,g20]
      have c0:w'.cell? ⟨g.rb,0,none⟩=some (.slice (some ⟨g.lb,0,none⟩) n g.cl):=by rw[hw0];exact HC0.out
      have c1:w'.cell? ⟨g.rb,1,none⟩=some (.slice (some ⟨g.wb,0,none⟩) n g.cw):=by rw[hw0];exact HC1.out
      have k1:w'.cell? ⟨g.wb,q,none⟩=some (.string v):=by rw[hw0];exact HK1.out
      have HW0:=Lib.hid hw0
      clear hw0
      refine wpOp_step rfl (fun K hK=>?_)
      go_simp
      exact hK _ _ (hI.val_step 4 32 (.int .i64 (q:Int)) (by decide) (by rw[hI.wd];rfl) (by simp[f9]) (by kernel_rfl))
     ·cases ho
      have g18:L 18=false:=hcl.not_up (i:=5) (s:=18) 21 (by kernel_rfl) hL
      have g20:L 20=false:=hcl.not_up (i:=5) (s:=20) 21 (by kernel_rfl) hL
      have hw0:w'=wq.drew:=by rw[hI.wd];simp[g18,g20]
      have c0:w'.cell? ⟨g.rb,0,none⟩=some (.slice (some ⟨g.lb,0,none⟩) n g.cl):=by rw[hw0];exact HC0.out
      have c1:w'.cell? ⟨g.rb,1,none⟩=some (.slice (some ⟨g.wb,0,none⟩) n g.cw):=by rw[hw0];exact HC1.out
      have k1:w'.cell? ⟨g.wb,q,none⟩=some (.string v):=by rw[hw0];exact HK1.out
      have HW0:=Lib.hid hw0
      clear hw0
      refine wpOp_step rfl (fun K hK=>?_)
      go_simp
      exact hK _ _ (hI.val_step 5 33 (.pointer (some ⟨g.rb,0,none⟩)) (by decide) (by rw[hI.wd];rfl) (by simp[f9]) (by kernel_rfl))
     ·cases ho
      have t33:tmps[33]?.getD undef=.pointer (some ⟨g.rb,0,none⟩):=hI.val (5,33,_) (by simp[f9]) (hd ⟨5,.data⟩ (by simp) rfl)
      have g18:L 18=false:=hcl.not_up (i:=6) (s:=18) 21 (by kernel_rfl) hL
      have g20:L 20=false:=hcl.not_up (i:=6) (s:=20) 21 (by kernel_rfl) hL
      have hw0:w'=wq.drew:=by rw[hI.wd];simp[g18,g20]
      have c0:w'.cell? ⟨g.rb,0,none⟩=some (.slice (some ⟨g.lb,0,none⟩) n g.cl):=by rw[hw0];exact HC0.out
      have c1:w'.cell? ⟨g.rb,1,none⟩=some (.slice (some ⟨g.wb,0,none⟩) n g.cw):=by rw[hw0];exact HC1.out
      have k1:w'.cell? ⟨g.wb,q,none⟩=some (.string v):=by rw[hw0];exact HK1.out
      have HW0:=Lib.hid hw0
      clear hw0
      refine wpOp_step rfl (fun K hK=>?_)
      go_simp
      exact hK _ _ (hI.val_step 6 34 (.pointer (some ⟨g.rb,0,none⟩)) (by decide) (by rw[hI.wd];rfl) (by simp[f9]) (by kernel_rfl))
     ·cases ho
      have t34:tmps[34]?.getD undef=.pointer (some ⟨g.rb,0,none⟩):=hI.val (6,34,_) (by simp[f9]) (hd ⟨6,.data⟩ (by simp) rfl)
      have g18:L 18=false:=hcl.not_up (i:=7) (s:=18) 21 (by kernel_rfl) hL
      have g20:L 20=false:=hcl.not_up (i:=7) (s:=20) 21 (by kernel_rfl) hL
      have hw0:w'=wq.drew:=by rw[hI.wd];simp[g18,g20]
      have c0:w'.cell? ⟨g.rb,0,none⟩=some (.slice (some ⟨g.lb,0,none⟩) n g.cl):=by rw[hw0];exact HC0.out
      have c1:w'.cell? ⟨g.rb,1,none⟩=some (.slice (some ⟨g.wb,0,none⟩) n g.cw):=by rw[hw0];exact HC1.out
      have k1:w'.cell? ⟨g.wb,q,none⟩=some (.string v):=by rw[hw0];exact HK1.out
      have HW0:=Lib.hid hw0
      clear hw0
      refine wpOp_step rfl (fun K hK=>?_)
      go_simp
      exact hK _ _ (hI.val_step 7 35 (.pointer (some ⟨g.rb,1,none⟩)) (by decide) (by rw[hI.wd];rfl) (by simp[f9]) (by kernel_rfl))
     ·cases ho
      have t35:tmps[35]?.getD undef=.pointer (some ⟨g.rb,1,none⟩):=hI.val (7,35,_) (by simp[f9]) (hd ⟨7,.data⟩ (by simp) rfl)
      have g18:L 18=false:=hcl.not_up (i:=8) (s:=18) 21 (by kernel_rfl) hL
      have g20:L 20=false:=hcl.not_up (i:=8) (s:=20) 21 (by kernel_rfl) hL
      have hw0:w'=wq.drew:=by rw[hI.wd];simp[g18,g20]
      have c0:w'.cell? ⟨g.rb,0,none⟩=some (.slice (some ⟨g.lb,0,none⟩) n g.cl):=by rw[hw0];exact HC0.out
      have c1:w'.cell? ⟨g.rb,1,none⟩=some (.slice (some ⟨g.wb,0,none⟩) n g.cw):=by rw[hw0];exact HC1.out
      have k1:w'.cell? ⟨g.wb,q,none⟩=some (.string v):=by rw[hw0];exact HK1.out
      have HW0:=Lib.hid hw0
      clear hw0
      refine wpOp_step rfl (fun K hK=>?_)
      go_simp
      exact hK _ _ (hI.val_step 8 36 (.slice (some ⟨g.wb,0,none⟩) n g.cw) (by decide) (by rw[hI.wd];rfl) (by simp[f9]) (by kernel_rfl))
     ·cases ho
      have g20:L 20=false:=hcl.not_up (i:=9) (s:=20) 21 (by kernel_rfl) hL
      cases g18:L 18 with
      | false=>
       have g20:L 20=false:=hcl.not_up (i:=18) (s:=20) 21 (by kernel_rfl) g18
       have hw0:w'=wq.drew:=by rw[hI.wd];simp[g18,g20]
       have c0:w'.cell? ⟨g.rb,0,none⟩=some (.slice (some ⟨g.lb,0,none⟩) n g.cl):=by rw[hw0];exact HC0.out
       have c1:w'.cell? ⟨g.rb,1,none⟩=some (.slice (some ⟨g.wb,0,none⟩) n g.cw):=by rw[hw0];exact HC1.out
       have k1:w'.cell? ⟨g.wb,q,none⟩=some (.string v):=by rw[hw0];exact HK1.out
       have HW0:=Lib.hid hw0
       clear hw0
       refine wpOp_step rfl (fun K hK=>?_)
       go_simp
       exact hK _ _ (hI.val_step 9 37 (.int .i64 (q:Int)) (by decide) (by rw[hI.wd];rfl) (by simp[f9]) (by kernel_rfl))
      | true=>
       have hw0:w'=wa1:=by rw[hI.wd];simp[g18,g20]
       have HW0:=Lib.hid hw0
       clear hw0
       refine wpOp_step rfl (fun K hK=>?_)
       go_simp
       exact hK _ _ (hI.val_step 9 37 (.int .i64 (q:Int)) (by decide) (by rw[hI.wd];rfl) (by simp[f9]) (by kernel_rfl))
     ·cases ho
      have g18:L 18=false:=hcl.not_up (i:=10) (s:=18) 21 (by kernel_rfl) hL
      have g20:L 20=false:=hcl.not_up (i:=10) (s:=20) 21 (by kernel_rfl) hL
      have hw0:w'=wq.drew:=by rw[hI.wd];simp[g18,g20]
      have c0:w'.cell? ⟨g.rb,0,none⟩=some (.slice (some ⟨g.lb,0,none⟩) n g.cl):=by rw[hw0];exact HC0.out
      have c1:w'.cell? ⟨g.rb,1,none⟩=some (.slice (some ⟨g.wb,0,none⟩) n g.cw):=by rw[hw0];exact HC1.out
      have k1:w'.cell? ⟨g.wb,q,none⟩=some (.string v):=by rw[hw0];exact HK1.out
      have HW0:=Lib.hid hw0
      clear hw0
      refine wpOp_step rfl (fun K hK=>?_)
      go_simp
      exact hK _ _ (hI.val_step 10 38 (.pointer (some ⟨g.rb,0,none⟩)) (by decide) (by rw[hI.wd];rfl) (by simp[f9]) (by kernel_rfl))
     ·cases ho
      have t38:tmps[38]?.getD undef=.pointer (some ⟨g.rb,0,none⟩):=hI.val (10,38,_) (by simp[f9]) (hd ⟨10,.data⟩ (by simp) rfl)
      have g18:L 18=false:=hcl.not_up (i:=11) (s:=18) 21 (by kernel_rfl) hL
      have g20:L 20=false:=hcl.not_up (i:=11) (s:=20) 21 (by kernel_rfl) hL
      have hw0:w'=wq.drew:=by rw[hI.wd];simp[g18,g20]
      have c0:w'.cell? ⟨g.rb,0,none⟩=some (.slice (some ⟨g.lb,0,none⟩) n g.cl):=by rw[hw0];exact HC0.out
      have c1:w'.cell? ⟨g.rb,1,none⟩=some (.slice (some ⟨g.wb,0,none⟩) n g.cw):=by rw[hw0];exact HC1.out
      have k1:w'.cell? ⟨g.wb,q,none⟩=some (.string v):=by rw[hw0];exact HK1.out
      have HW0:=Lib.hid hw0
      clear hw0
      refine wpOp_step rfl (fun K hK=>?_)
      go_simp
      exact hK _ _ (hI.val_step 11 39 (.pointer (some ⟨g.rb,0,none⟩)) (by decide) (by rw[hI.wd];rfl) (by simp[f9]) (by kernel_rfl))
     ·cases ho
      have t39:tmps[39]?.getD undef=.pointer (some ⟨g.rb,0,none⟩):=hI.val (11,39,_) (by simp[f9]) (hd ⟨11,.data⟩ (by simp) rfl)
      have g18:L 18=false:=hcl.not_up (i:=12) (s:=18) 21 (by kernel_rfl) hL
      have g20:L 20=false:=hcl.not_up (i:=12) (s:=20) 21 (by kernel_rfl) hL
      have hw0:w'=wq.drew:=by rw[hI.wd];simp[g18,g20]
      have c0:w'.cell? ⟨g.rb,0,none⟩=some (.slice (some ⟨g.lb,0,none⟩) n g.cl):=by rw[hw0];exact HC0.out
      have c1:w'.cell? ⟨g.rb,1,none⟩=some (.slice (some ⟨g.wb,0,none⟩) n g.cw):=by rw[hw0];exact HC1.out
      have k1:w'.cell? ⟨g.wb,q,none⟩=some (.string v):=by rw[hw0];exact HK1.out
      have HW0:=Lib.hid hw0
      clear hw0
      refine wpOp_step rfl (fun K hK=>?_)
      go_simp
      exact hK _ _ (hI.val_step 12 40 (.pointer (some ⟨g.rb,1,none⟩)) (by decide) (by rw[hI.wd];rfl) (by simp[f9]) (by kernel_rfl))
     ·cases ho
      have t40:tmps[40]?.getD undef=.pointer (some ⟨g.rb,1,none⟩):=hI.val (12,40,_) (by simp[f9]) (hd ⟨12,.data⟩ (by simp) rfl)
      have g18:L 18=false:=hcl.not_up (i:=13) (s:=18) 21 (by kernel_rfl) hL
      have g20:L 20=false:=hcl.not_up (i:=13) (s:=20) 21 (by kernel_rfl) hL
      have hw0:w'=wq.drew:=by rw[hI.wd];simp[g18,g20]
      have c0:w'.cell? ⟨g.rb,0,none⟩=some (.slice (some ⟨g.lb,0,none⟩) n g.cl):=by rw[hw0];exact HC0.out
      have c1:w'.cell? ⟨g.rb,1,none⟩=some (.slice (some ⟨g.wb,0,none⟩) n g.cw):=by rw[hw0];exact HC1.out
      have k1:w'.cell? ⟨g.wb,q,none⟩=some (.string v):=by rw[hw0];exact HK1.out
      have HW0:=Lib.hid hw0
      clear hw0
      refine wpOp_step rfl (fun K hK=>?_)
      go_simp
      exact hK _ _ (hI.val_step 13 41 (.slice (some ⟨g.wb,0,none⟩) n g.cw) (by decide) (by rw[hI.wd];rfl) (by simp[f9]) (by kernel_rfl))
     ·cases ho
      have g18:L 18=false:=hcl.not_up (i:=14) (s:=18) 21 (by kernel_rfl) hL
      have g20:L 20=false:=hcl.not_up (i:=14) (s:=20) 21 (by kernel_rfl) hL
      have hw0:w'=wq.drew:=by rw[hI.wd];simp[g18,g20]
      have c0:w'.cell? ⟨g.rb,0,none⟩=some (.slice (some ⟨g.lb,0,none⟩) n g.cl):=by rw[hw0];exact HC0.out
      have c1:w'.cell? ⟨g.rb,1,none⟩=some (.slice (some ⟨g.wb,0,none⟩) n g.cw):=by rw[hw0];exact HC1.out
      have k1:w'.cell? ⟨g.wb,q,none⟩=some (.string v):=by rw[hw0];exact HK1.out
      have HW0:=Lib.hid hw0
      clear hw0
      refine wpOp_step rfl (fun K hK=>?_)
      go_simp
      exact hK _ _ (hI.val_step 14 42 (.int .i64 (q:Int)) (by decide) (by rw[hI.wd];rfl) (by simp[f9]) (by kernel_rfl))
     ·cases ho
      have t41:tmps[41]?.getD undef=.slice (some ⟨g.wb,0,none⟩) n g.cw:=hI.val (13,41,_) (by simp[f9]) (hd ⟨13,.data⟩ (by simp) rfl)
      have t42:tmps[42]?.getD undef=.int .i64 (q:Int):=hI.val (14,42,_) (by simp[f9]) (hd ⟨14,.data⟩ (by simp) rfl)
      have g18:L 18=false:=hcl.not_up (i:=15) (s:=18) 21 (by kernel_rfl) hL
      have g20:L 20=false:=hcl.not_up (i:=15) (s:=20) 21 (by kernel_rfl) hL
      have hw0:w'=wq.drew:=by rw[hI.wd];simp[g18,g20]
      have c0:w'.cell? ⟨g.rb,0,none⟩=some (.slice (some ⟨g.lb,0,none⟩) n g.cl):=by rw[hw0];exact HC0.out
      have c1:w'.cell? ⟨g.rb,1,none⟩=some (.slice (some ⟨g.wb,0,none⟩) n g.cw):=by rw[hw0];exact HC1.out
      have k1:w'.cell? ⟨g.wb,q,none⟩=some (.string v):=by rw[hw0];exact HK1.out
      have HW0:=Lib.hid hw0
      clear hw0
      refine wpOp_step rfl (fun K hK=>?_)
      go_simp
      exact hK _ _ (hI.val_step 15 43 (.pointer (some ⟨g.wb,q,none⟩)) (by decide) (by rw[hI.wd];rfl) (by simp[f9]) (by kernel_rfl))
     ·cases ho
      have t43:tmps[43]?.getD undef=.pointer (some ⟨g.wb,q,none⟩):=hI.val (15,43,_) (by simp[f9]) (hd ⟨15,.data⟩ (by simp) rfl)
      have g18:L 18=false:=hcl.not_up (i:=16) (s:=18) 21 (by kernel_rfl) hL
      have g20:L 20=false:=hcl.not_up (i:=16) (s:=20) 21 (by kernel_rfl) hL
      have hw0:w'=wq.drew:=by rw[hI.wd];simp[g18,g20]
      have c0:w'.cell? ⟨g.rb,0,none⟩=some (.slice (some ⟨g.lb,0,none⟩) n g.cl):=by rw[hw0];exact HC0.out
      have c1:w'.cell? ⟨g.rb,1,none⟩=some (.slice (some ⟨g.wb,0,none⟩) n g.cw):=by rw[hw0];exact HC1.out
      have k1:w'.cell? ⟨g.wb,q,none⟩=some (.string v):=by rw[hw0];exact HK1.out
      have HW0:=Lib.hid hw0
      clear hw0
      refine wpOp_step rfl (fun K hK=>?_)
      go_simp
      exact hK _ _ (hI.val_step 16 44 (.string v) (by decide) (by rw[hI.wd];rfl) (by simp[f9]) (by kernel_rfl))
     ·cases ho
      have t31:tmps[31]?.getD undef=.slice (some ⟨g.lb,0,none⟩) n g.cl:=hI.val (3,31,_) (by simp[f9]) (hd ⟨3,.data⟩ (by simp) rfl)
      have t32:tmps[32]?.getD undef=.int .i64 (q:Int):=hI.val (4,32,_) (by simp[f9]) (hd ⟨4,.data⟩ (by simp) rfl)
      have g18:L 18=false:=hcl.not_up (i:=17) (s:=18) 21 (by kernel_rfl) hL
      have g20:L 20=false:=hcl.not_up (i:=17) (s:=20) 21 (by kernel_rfl) hL
      have hw0:w'=wq.drew:=by rw[hI.wd];simp[g18,g20]
      have c0:w'.cell? ⟨g.rb,0,none⟩=some (.slice (some ⟨g.lb,0,none⟩) n g.cl):=by rw[hw0];exact HC0.out
      have c1:w'.cell? ⟨g.rb,1,none⟩=some (.slice (some ⟨g.wb,0,none⟩) n g.cw):=by rw[hw0];exact HC1.out
      have k1:w'.cell? ⟨g.wb,q,none⟩=some (.string v):=by rw[hw0];exact HK1.out
      have HW0:=Lib.hid hw0
      clear hw0
      refine wpOp_step rfl (fun K hK=>?_)
      go_simp
      exact hK _ _ (hI.val_step 17 45 (.pointer (some ⟨g.lb,q,none⟩)) (by decide) (by rw[hI.wd];rfl) (by simp[f9]) (by kernel_rfl))
     ·cases ho
      have t45:tmps[45]?.getD undef=.pointer (some ⟨g.lb,q,none⟩):=hI.val (17,45,_) (by simp[f9]) (hd ⟨17,.data⟩ (by simp) rfl)
      have t44:tmps[44]?.getD undef=.string v:=hI.val (16,44,_) (by simp[f9]) (hd ⟨16,.data⟩ (by simp) rfl)
      have g18:L 18=false:=hcl.not_up (i:=18) (s:=18) 21 (by kernel_rfl) hL
      have g20:L 20=false:=hcl.not_up (i:=18) (s:=20) 21 (by kernel_rfl) hL
      have hw0:w'=wq.drew:=by rw[hI.wd];simp[g18,g20]
      have c0:w'.cell? ⟨g.rb,0,none⟩=some (.slice (some ⟨g.lb,0,none⟩) n g.cl):=by rw[hw0];exact HC0.out
      have c1:w'.cell? ⟨g.rb,1,none⟩=some (.slice (some ⟨g.wb,0,none⟩) n g.cw):=by rw[hw0];exact HC1.out
      have k1:w'.cell? ⟨g.wb,q,none⟩=some (.string v):=by rw[hw0];exact HK1.out
      have HW0:=Lib.hid hw0
      clear hw0
      refine wpOp_step rfl (fun K hK=>?_)
      rw[HW0.out]
      have m0:=HM0.out
      have f0:=HF0.out
      go_simp
      rw[← HW1E.out]
      exact hK _ _ (hI.none_step 18 (by simp[upL,g18,g20]) (by kernel_rfl))
     ·cases ho
      have t36:tmps[36]?.getD undef=.slice (some ⟨g.wb,0,none⟩) n g.cw:=hI.val (8,36,_) (by simp[f9]) (hd ⟨8,.data⟩ (by simp) rfl)
      have t37:tmps[37]?.getD undef=.int .i64 (q:Int):=hI.val (9,37,_) (by simp[f9]) (hd ⟨9,.data⟩ (by simp) rfl)
      have g18:L 18=true:=hcl.dep_up (i:=19) (s:=18) rfl hd 21 (by kernel_rfl) (by decide)
      have g20:L 20=false:=hcl.not_up (i:=19) (s:=20) 21 (by kernel_rfl) hL
      have hw0:w'=wa1:=by rw[hI.wd];simp[g18,g20]
      have HW0:=Lib.hid hw0
      clear hw0
      refine wpOp_step rfl (fun K hK=>?_)
      go_simp
      exact hK _ _ (hI.val_step 19 46 (.pointer (some ⟨g.wb,q,none⟩)) (by decide) (by rw[hI.wd];rfl) (by simp[f9]) (by kernel_rfl))
     ·cases ho
      have t46:tmps[46]?.getD undef=.pointer (some ⟨g.wb,q,none⟩):=hI.val (19,46,_) (by simp[f9]) (hd ⟨19,.data⟩ (by simp) rfl)
      have g18:L 18=true:=hcl.dep_up (i:=20) (s:=18) rfl hd 21 (by kernel_rfl) (by decide)
      have g20:L 20=false:=hcl.not_up (i:=20) (s:=20) 21 (by kernel_rfl) hL
      have hw0:w'=wa1:=by rw[hI.wd];simp[g18,g20]
      have HW0:=Lib.hid hw0
      clear hw0
      refine wpOp_step rfl (fun K hK=>?_)
      rw[HW0.out]
      have m1:=HM1.out
      have f1:=HF1.out
      go_simp
      rw[← HW2E.out]
      exact hK _ _ (hI.none_step 20 (by simp[upL,g18,g20]) (by kernel_rfl))
    ·intro Lu tmps w9 hI hall
     have hat:=hI.fin rfl (fun t ht=>hall _ (by have h9:=List.all_eq_true.1 (show((f9 g.rb g.lb g.wb g.cl g.cw n q v).all fun t=>decide (t.1<21))=true from rfl) t ht;simpa using h9))
     have hw9:w9=wa2:=by rw[hI.wd];simp[hall 18 (by decide),hall 20 (by decide)]
     clear hI hall
     simp only[f9,List.map_cons,List.map_nil,sets,List.setIfInBounds_toArray,List.set_cons_zero,List.set_cons_succ] at hat
     rw[hat]
     clear hat tmps
     subst hw9
     go_wp2_with fail
     exact⟨⟨q+1,by go_num,by omega,HRN,HUN⟩,by simp[intOf];omega⟩
  ·have cj:decide ((q:Int)<(n:Int))=false:=decide_eq_false (by omega)
   have cj2:decide (q<n)=false:=decide_eq_false (by omega)
   have hqn:q=D.n:=by have:=HN.out;omega
   have hls:=lists_ext (D:=D.fl q) (D':={ D with last:=D.now,wait:=fun _=>none }) rfl fun i hi=>by
    refine⟨?_,?_⟩
    ·show D.now i=if i<q then D.now i else D.last i
     rw[if_pos (by rw[hqn];exact hi)]
    ·show none=if i<q then none else D.wait i
     rw[if_pos (by rw[hqn];exact hi)]
   have hok:({ D with last:=D.now,wait:=fun _=>none }:Dk).Ok:=by
    have:=Dk.fl_ok H.out.ok q
    refine⟨H.out.ok.n0,H.out.ok.n1,fun i=>?_,fun i s hs=>(by have hs:none=some s:=hs;cases hs),H.out.ok.armed0,H.out.ok.armed1,H.out.ok.part,H.out.ok.way,H.out.ok.front⟩
    show(D.now i).length=512
    unfold Dk.now
    cases e:D.wait i with
    | none=>exact H.out.ok.last i
    | some s=>exact(H.out.ok.wait i s e).2
   have HRN:=Lib.hid (HR.out.lists (D':={ D with last:=D.now,wait:=fun _=>none }) rfl hls.1 hls.2 rfl H.out.off H.out.armed H.out.way hok)
   clear hls hok hqn
   go_wp2_with fail
   go_ret
   rw[HFL.out]
   exact⟨rfl,rfl,HRN.out,HU.out⟩
def Dk.pw(D:Dk)(q:Nat):Dk:={ D with wait:=fun j=>if j<q then none else D.wait j }
theorem Dk.pw_zero(D:Dk):D.pw 0=D:=by
 have h2:(fun j=>if j<0 then none else D.wait j)=D.wait:=by funext j;rw[if_neg (by omega)]
 unfold Dk.pw
 rw[h2]
theorem Dk.pw_ok{D:Dk}(h:D.Ok)(q:Nat):(D.pw q).Ok:=by
 refine⟨h.n0,h.n1,h.last,fun i s hs=>?_,h.armed0,h.armed1,h.part,h.way,h.front⟩
 have:(if i<q then none else D.wait i)=some s:=hs
 split at this
 ·cases this
 ·exact h.wait i s this
theorem Dk.pw_now(D:Dk)(q:Nat):(D.pw q).wait q=D.wait q:=by show(if q<q then none else D.wait q)=_;rw[if_neg (by omega)]
theorem Dk.pw_wait(D:Dk)(q:Nat):(D.pw (q+1)).wait q=none:=by show(if q<q+1 then none else _)=_;rw[if_pos (by omega)]
theorem Dk.pw_other(D:Dk){q i:Nat}(hi:i≠q):(D.pw (q+1)).wait i=(D.pw q).wait i:=by
 show(if i<q+1 then none else D.wait i)=if i<q then none else D.wait i
 by_cases e:i<q
 ·rw[if_pos (by omega),if_pos e]
 ·rw[if_neg (by omega),if_neg e]
theorem Dk.pw_skip(D:Dk){q:Nat}(h:D.wait q=none):waitL (D.pw (q+1))=waitL (D.pw q):=(lists_ext (D:=D.pw q) (D':=D.pw (q+1)) rfl fun i _=>⟨rfl,by
 by_cases e:i=q
 ·subst e;rw[Dk.pw_wait,Dk.pw_now,h]
 ·exact D.pw_other e⟩).2
theorem Dk.pw_set(D:Dk){q:Nat}(hq:q<D.n):(waitL (D.pw q)).set q (.string ⟨#[]⟩)=waitL (D.pw (q+1)):=by
 refine List.ext_getElem? fun k=>?_
 rcases Nat.lt_or_ge k D.n with hk | hk
 ·rw[waitL_get (D:=D.pw (q+1)) hk]
  by_cases e:k=q
  ·subst e
   rw[List.getElem?_set_self (by rw[waitL_length];exact hq),Dk.pw_wait]
   rfl
  ·rw[List.getElem?_set_ne (Ne.symm e),waitL_get (D:=D.pw q) hk,D.pw_other e]
 ·rw[List.getElem?_eq_none (by rw[List.length_set,waitL_length];exact hk),List.getElem?_eq_none (by rw[waitL_length];exact hk)]
theorem Dk.power_nil{D:Dk}(hw:D.way=none):D.power [] = { D with wait:=fun _=>none,off:=false,armed:=-1,way:=none,front:=[],lives:=wrap64 (D.lives+1) }:=by
 have:(fun i=>if D.way=some i then D.front++(D.kept [] i).drop D.front.length else D.kept [] i)=D.last:=by
  funext i
  rw[hw,if_neg (by simp)]
  unfold Dk.kept
  rw[if_neg (by simp)]
 unfold Dk.power
 rw[this]
theorem Dk.pw_power{D:Dk}(hw:D.way=none){q:Nat}(hq:D.n≤q):lastL (D.power [])=lastL (D.pw q)∧waitL (D.power [])=waitL (D.pw q):=by
 rw[Dk.power_nil hw]
 refine lists_ext rfl fun i hi=>⟨rfl,?_⟩
 have hi:i<D.n:=hi
 show none=if i<q then none else D.wait i
 rw[if_pos (by omega)]
set_option maxRecDepth 100000 in
set_option maxHeartbeats 4000000 in
theorem rpower_spec{w:World}{g:RG}{D:Dk}(h:RdkAt w g D) :
  Calls Tryz.prog 34 #[.pointer (some ⟨g.rb,0,none⟩),.slice none 0 0] w fun e w'=>e=.returned (.tuple #[])∧RdkAt w' g (D.power [])∧Upd g.all w w':=by
 have H:=Lib.hid h
 obtain⟨n,hn⟩:∃n,n=D.n:=⟨_,rfl⟩
 have hnb:n<1000000:=by have:=H.out.ok.n1;omega
 have HN:=Lib.hid hn
 clear h hn
 go_enter Tryz.func34,Tryz.ntmps34
 go_wp2_with fail
 go_loopw [5,4] (fun i k wr=>∃q m:Nat,i=.int .i64 (q:Int)∧k=.int .i64 (m:Int)∧m≤q∧q≤n∧Hid (RdkAt wr g (D.pw q))∧Hid (Upd g.all w wr)) (fun i _ _=>n+1-(intOf i).toNat)
 case atStart=>exact⟨0,0,rfl,rfl,by omega,by omega,Lib.hid (by rw[Dk.pw_zero];exact H.out),Lib.hid (Upd.refl _ _)⟩
 case round=>
  obtain⟨q,m,rfl,rfl,hmq,hq,HR,HU⟩:=hrel
  obtain⟨wq,rfl⟩:∃wq:World,wq=wr:=⟨_,rfl⟩
  obtain⟨x,hx⟩:=id HR.out.st
  have hnq:(D.pw q).n=n:=HN.out.symm
  rw[hnq,show(D.pw q).lives=D.lives from rfl] at hx
  have c0:wq.cell? ⟨g.rb,0,none⟩=some (.slice (some ⟨g.lb,0,none⟩) n g.cl):=by rw[blk_cell hx];rfl
  have c1:wq.cell? ⟨g.rb,1,none⟩=some (.slice (some ⟨g.wb,0,none⟩) n g.cw):=by rw[blk_cell hx];rfl
  have HX:=Lib.hid hx
  clear hx
  rcases Nat.lt_or_ge q n with h4 | h4
  ·have cj:decide ((q:Int)<(n:Int))=true:=decide_eq_true (by omega)
   have cj2:decide (q<n)=true:=decide_eq_true h4
   have hm0:decide ((m:Int)<0)=false:=decide_eq_false (by omega)
   have hq0:(0:Int)≤(q:Int):=by omega
   have hq1:(q:Int)<(n:Int):=by omega
   have hqD:q<D.n:=by have:=HN.out;omega
   have hqD':q<(D.pw q).n:=hqD
   have k1:=HR.out.wait.cell (waitL_get hqD')
   rw[Dk.pw_now] at k1
   rcases hwt:D.wait q with _ | s
   ·rw[hwt] at k1
    unfold wtV at k1
    rw[str_nil] at k1
    have HRN:=Lib.hid (HR.out.lists (D':=D.pw (q+1)) rfl rfl (D.pw_skip hwt) rfl H.out.off H.out.armed H.out.way (Dk.pw_ok H.out.ok _))
    clear hwt hqD hqD'
    go_wp2_with fail
    exact⟨⟨q+1,m,by go_num,rfl,by omega,by omega,HRN,HU⟩,by simp[intOf];omega⟩
   ·rw[hwt] at k1
    have hne:=str_full (H.out.ok.wait q s hwt).2
    obtain⟨v,hv⟩:∃v,v=str s:=⟨_,rfl⟩
    replace k1:wq.cell? ⟨g.wb,q,none⟩=some (.string (str s)):=k1
    rw[← hv] at k1 hne
    have hrn:=HR.out.nes
    have f1:=HR.out.wait.free q
    obtain⟨wa,hwa⟩:∃w',w'=wq.setCell ⟨g.wb,q,none⟩ (.string ⟨#[]⟩):=⟨_,rfl⟩
    have hu:Upd [g.wb] wq wa:=by rw[hwa];exact(Upd.refl [g.wb] wq).set _ (.inl (by simp))
    have sl:StrBl wa g.lb (lastL (D.pw q)):=HR.out.last.upd hu (by simpa using HR.out.ne)
    have sw:StrBl wa g.wb (waitL (D.pw (q+1))):=by rw[hwa,← D.pw_set hqD];exact HR.out.wait.set (by rw[waitL_length];exact hqD') _
    have x2:=(hu.block _ (blk_lt HX.out) (by simpa using hrn.2)).trans HX.out
    have HRN:Hid (RdkAt wa g (D.pw (q+1))):=Lib.hid ⟨⟨x,by rw[show(D.pw (q+1)).n=n from HN.out.symm];exact x2⟩,sl,sw,H.out.off,H.out.armed,H.out.way,Dk.pw_ok H.out.ok _,HR.out.ne⟩
    have HUN:Hid (Upd g.all w wa):=Lib.hid (HU.out.trans (hu.mono (by simp[RG.all])))
    have HWA:=Lib.hid hwa
    clear hv hwt hqD hqD' hrn hwa hu sl sw x2
    go_wp2_with fail
    have hwa:=HWA.out
    rw[← hwa]
    exact⟨⟨q+1,m+1,by go_num,by go_num,by omega,by omega,HRN,HUN⟩,by simp[intOf];omega⟩
  ·have cj:decide ((q:Int)<(n:Int))=false:=decide_eq_false (by omega)
   have cj2:decide (q<n)=false:=decide_eq_false (by omega)
   have hqn:D.n≤q:=by have:=HN.out;omega
   have hx:=HX.out
   have c2:wq.cell? ⟨g.rb,2,none⟩=some (.bool false):=by rw[blk_cell hx];rfl
   have c3:wq.cell? ⟨g.rb,3,none⟩=some (.int .i64 (-1)):=by rw[blk_cell hx];rfl
   have c5:wq.cell? ⟨g.rb,5,none⟩=some (.int .i64 (-1)):=by rw[blk_cell hx];rfl
   have c8:wq.cell? ⟨g.rb,8,none⟩=some (.int .i64 D.lives):=by rw[blk_cell hx];rfl
   have f2:=blk_free hx 2
   have f3:=blk_free hx 3
   have f5:=blk_free hx 5
   have f8:=blk_free hx 8
   have HRP:Hid (∀w',w'.heap[g.rb]?=some (.cells #[.slice (some ⟨g.lb,0,none⟩) n g.cl,.slice (some ⟨g.wb,0,none⟩) n g.cw,.bool false,.int .i64 (-1),.int .i64 0,.int .i64 (-1),.string (str []),.int .i64 x,.int .i64 (wrap64 (D.lives+1))] 141 (0,0))→Upd [g.rb] wq w'→RdkAt w' g (D.power [])∧Upd g.all w w'):=Lib.hid fun w' hb hu=>by
    have hrn:=HR.out.nes
    have hl:=Dk.pw_power H.out.way hqn
    refine⟨⟨⟨x,?_⟩,?_,?_,?_,?_,?_,?_,HR.out.ne⟩,HU.out.trans (hu.mono (by simp[RG.all]))⟩
    ·rw[hb,Dk.power_nil H.out.way,HN.out]
    ·rw[hl.1];exact HR.out.last.upd hu (by simpa using Ne.symm hrn.1)
    ·rw[hl.2];exact HR.out.wait.upd hu (by simpa using Ne.symm hrn.2)
    ·rw[Dk.power_nil H.out.way]
    ·rw[Dk.power_nil H.out.way]
    ·rw[Dk.power_nil H.out.way]
    ·rw[Dk.power_nil H.out.way]
     refine⟨H.out.ok.n0,H.out.ok.n1,H.out.ok.last,fun i s hs=>(by have hs:none=some s:=hs;cases hs),by show(-1:Int)≤-1;omega,by show(-1:Int)≤_;omega,H.out.ok.part,fun i hi=>(by have hi:none=some i:=hi;cases hi),by show([]:List UInt8).length≤512;simp⟩
   clear hx hqn
   go_wp2_with fail
   go_end0
   refine⟨rfl,HRP.out _ ?_ ((((((Upd.refl [g.rb] wq).set _ (.inl (by simp))).set _ (.inl (by simp))).set _ (.inl (by simp))).set _ (.inl (by simp))))⟩
   rw[blk_set (blk_set (blk_set (blk_set HX.out 2 (.bool false)) 3 (.int .i64 (-1))) 5 (.int .i64 (-1))) 8 _]
   rfl
end Go.Proofs.YtplppdbdfhkljaaGreat
end
section
set_option linter.unusedSimpArgs false
set_option linter.unusedVariables false
namespace Go.Proofs.YtplppdbdfhkljaaGreat
open Go.RowKit
theorem add_byte(x c:Nat)(hx:x*256+255<18446744073709551616)(hc:c<256):IntKind.u64.wrap (IntKind.u64.wrap ((x:Int)*256)+IntKind.u64.wrap (c:Int))=((x*256+c:Nat):Int):=by
 rw[u64_wrap_in ((x:Int)*256) (by omega) (by omega),u64_wrap_in (c:Int) (by omega) (by omega),u64_wrap_in _ (by omega) (by omega)]
 omega
set_option maxHeartbeats 400000 in
theorem rat_spec(v:Value)(b:List UInt8)(a n:Nat)(w:World)(hr:Rd w v b)(h1:1≤n)(h8:n≤8)(hl:a+n≤b.length)(hb:b.length≤1000000) :
  Calls Tryz.prog 126 #[v,.int .i64 (a:Int),.int .i64 (n:Int)] w fun e w'=>e=.returned (.tuple #[.int .u64 (num b a n:Int),.int .i64 0])∧w=w':=by
 obtain⟨ao,cap,rfl,hc,hh⟩:=hr
 obtain⟨bk,off,rfl,hcell⟩:=hh (by omega)
 clear hh
 have hcell':∀i,i<n→w.cell? ⟨bk,off+(a+i),none⟩=some (.int .u8 ((b[a+i]?.getD 0).toNat:Int)):=by
  intro i hi
  have:=hcell (a+i) (by omega)
  rw[this]
  simp[bv,List.getElem?_eq_getElem (show a+i<b.length by omega)]
 have HC:=Lib.hid hcell'
 clear hcell hcell'
 go_enter Tryz.func126,Tryz.ntmps126
 go_wp2
 go_loop [8,9] (fun x i=>∃k:Nat,k≤n∧i=.int .i64 (k:Int)∧x=.int .u64 (beN ((b.drop a).take k):Int)) (fun _ i=>n-(intOf i).toNat)
 case atStart=>exact⟨0,by omega,rfl,rfl⟩
 case round=>
  obtain⟨k,hk,rfl,rfl⟩:=hrel
  by_cases hlt:k<n
  ·have hck:=HC.out k hlt
   have hx:=beN_lt ((b.drop a).take k)
   have hlen:((b.drop a).take k).length=k:=by simp;omega
   rw[hlen] at hx
   have hx7:beN ((b.drop a).take k)<256 ^ 7:=Nat.lt_of_lt_of_le hx (Nat.pow_le_pow_right (by omega) (by omega))
   have hstep:beN ((b.drop a).take (k+1))=beN ((b.drop a).take k)*256+(b[a+k]?.getD 0).toNat:=by
    have hkl:k<(b.drop a).length:=by simp;omega
    rw[List.take_succ_eq_append_getElem hkl,beN_snoc]
    simp[List.getElem?_eq_getElem (show a+k<b.length by omega)]
   have hor:=add_byte (beN ((b.drop a).take k)) (b[a+k]?.getD 0).toNat (by omega) (UInt8.toNat_lt _)
   rw[← hstep] at hor
   have HOR:=Lib.hid hor
   clear hor hstep hx hx7 hlen
   go_wp2
   go_round
   case rel=>exact⟨k+1,by omega,by go_num,congrArg (Value.int IntKind.u64) HOR.out⟩
   case measure=>simp[intOf];omega
  ·obtain rfl:k=n:=by omega
   go_wp2
   go_ret2
   exact⟨rfl,rfl⟩
end Go.Proofs.YtplppdbdfhkljaaGreat
end
section
set_option linter.unusedSimpArgs false
set_option linter.unusedVariables false
namespace Go.Proofs.YtplppdbdfhkljaaGreat
open Go.RowKit Go.MapKept Go.ChangeMaps

end Go.Proofs.YtplppdbdfhkljaaGreat
end
section
section
set_option linter.unusedSimpArgs false
set_option linter.unusedVariables false
namespace Go.Proofs.YtplppdbdfhkljaaGreat
open Go.RowKit Go.MapKept Go.ChangeMaps
def an(a b:Int):Int:=bits .and .u32 a b
def ad(a b:Int):Int:=(a+b) % 4294967296
def nt(a:Int):Int:=bits .xor .u32 (if IntKind.u32.signed=true then -1 else IntKind.u32.max) a
structure W8 where
 a:Int
 b:Int
 c:Int
 d:Int
 e:Int
 f:Int
 g:Int
 h:Int
structure Hs where
 st:W8
 wait:List UInt8
 n:Nat
def hs0:Hs:=⟨⟨1779033703,3144134277,1013904242,2773480762,1359893119,2600822924,528734635,1541459225⟩,List.replicate 64 0,0⟩
end Go.Proofs.YtplppdbdfhkljaaGreat
end
section
set_option linter.unusedSimpArgs false
set_option linter.unusedVariables false
namespace Go.Proofs.YtplppdbdfhkljaaGreat
open Go.RowKit Go.MapKept Go.ChangeMaps
def wv(x:Int):Value:=.int .u32 x
def wvs(l:List Int):List Value:=l.map wv
theorem storeW1{w:World}{b:Nat}{C:Array Value}{T:TypeId}(h:w.heap[b]?=some (.cells C T (0,0)))(i:Nat){v:Value}(hi:i<C.size)(h1:v.oneCell'=true):(storeCells ⟨b,i,none⟩ [v] 0).run Tryz.prog w=.ok () (w.setCell ⟨b,i,none⟩ v):=by
 have hc:w.cell? ⟨b,i,none⟩=some C[i]:=by rw[blk_cell h];simp[hi]
 have hf:=blk_free h i
 have:=run_storeCells_cells (P:=Tryz.prog) b i [v] 0 w (by simp[hc]) (by simpa using hf) (by simpa using h1)
 simpa [World.setCells] using this
attribute [-go_sem] loadCells storeCells Instr.build
end Go.Proofs.YtplppdbdfhkljaaGreat
end
section
set_option linter.unusedSimpArgs false
set_option linter.unusedVariables false
namespace Go.Proofs.YtplppdbdfhkljaaGreat
open Go.RowKit Go.MapKept Go.ChangeMaps
attribute [-go_sem] loadCells storeCells Instr.build
end Go.Proofs.YtplppdbdfhkljaaGreat
end
end
section
set_option linter.unusedSimpArgs false
set_option linter.unusedVariables false
namespace Go.Proofs.YtplppdbdfhkljaaGreat
open Go.RowKit Go.MapKept Go.ChangeMaps
section
attribute [-go_sem] loadCells storeCells Instr.build
def hcl(l:List Int)(wait:List UInt8)(n:Nat):List Value:=.bool true :: (wvs l++(bts wait ++ [.int .u64 (n:Int)]))
end
end Go.Proofs.YtplppdbdfhkljaaGreat
end
section
section
set_option linter.unusedSimpArgs false
set_option linter.unusedVariables false
namespace Go.Proofs.YtplppdbdfhkljaaGreat
open Go.RowKit Go.MapKept Go.ChangeMaps
attribute [-go_sem] loadCells storeCells Instr.build
theorem cell_updW{w w':World}{S:List Nat}{a:Addr}{v:Value}(h:w.cell? a=some v)(hu:Upd S w w')(hS:a.block∉S):w'.cell? a=some v:=by
 rw[World.cell?_of_block (w:=w) (hu.block _ (block_lt_of_cell h) hS)];exact h
end Go.Proofs.YtplppdbdfhkljaaGreat
end
section
set_option linter.unusedSimpArgs false
set_option linter.unusedVariables false
namespace Go.Proofs.YtplppdbdfhkljaaGreat
open Go.RowKit Go.MapKept Go.ChangeMaps
attribute [-go_sem] loadCells storeCells Instr.build
end Go.Proofs.YtplppdbdfhkljaaGreat
end
section
set_option linter.unusedSimpArgs false
set_option linter.unusedVariables false
namespace Go.Proofs.YtplppdbdfhkljaaGreat
open Go.RowKit Go.MapKept Go.ChangeMaps
attribute [-go_sem] loadCells storeCells Instr.build
end Go.Proofs.YtplppdbdfhkljaaGreat
end
end
section
section
set_option linter.unusedSimpArgs false
set_option linter.unusedVariables false
namespace Go.Proofs.YtplppdbdfhkljaaGreat
open Go.RowKit Go.MapKept Go.ChangeMaps
attribute [-go_sem] loadCells storeCells Instr.build
end Go.Proofs.YtplppdbdfhkljaaGreat
end
section
set_option linter.unusedSimpArgs false
set_option linter.unusedVariables false
namespace Go.Proofs.YtplppdbdfhkljaaGreat
open Go.RowKit Go.MapKept Go.ChangeMaps
attribute [local go_sem] loadCells storeCells
theorem append_noneB{w:World}{a:Option Addr}{n c c2:Nat}(hn:n≤c)(ty:TypeId):(Builtin.append_ #[34,34] ty #[.slice a n c,.slice none 0 c2]).run Tryz.prog w=.ok (.slice a n c) w:=by
 obtain⟨i0,hi,hz,hz1,hz2⟩:=info_parts infoU8
 cases a<;>simp[Builtin.append_,run_underlying Tryz.underlying34,sizeOf,typeInfo,zeroValue,hi,hz,Builtin.lenOf,hn,Question.forced,run_firstCells_none,storeCells]
def BRow(w:World)(B:Nat)(v:Value)(l:List UInt8):Prop:=w.ownsRow B 5 1 v l.length (bts l)
theorem BRow.nil(w:World)(B:Nat):BRow w B (.slice none 0 0) []:=World.ownsRow_nil _ _ _ _
theorem BRow.shape{w:World}{B:Nat}{v:Value}{l:List UInt8}(h:BRow w B v l):∃a c,v=.slice a l.length c∧l.length≤c∧(0<l.length→∃g,a=some ⟨g,0,none⟩∧B≤g):=by
 rcases h.2 with⟨rfl,h0⟩ | ⟨g,cap,cur,rfl,hb,hg,hc,_⟩
 ·exact⟨none,0,by rw[h0],by omega,fun q=>by omega⟩
 ·exact⟨_,_,rfl,hc,fun _=>⟨g,rfl,hb⟩⟩
theorem BRow.keep{w w':World}{B:Nat}{v:Value}{l:List UInt8}(h:BRow w B v l)(hu:Upd [] w w'):BRow w' B v l:=by
 refine⟨h.1,?_⟩
 rcases h.2 with h | ⟨g,cap,cur,hv,hb,hg,r⟩
 ·exact .inl h
 ·exact .inr ⟨g,cap,cur,hv,hb,(hu.block g (blk_lt hg) (by simp)).trans hg,r⟩
theorem BRow.rd{w:World}{B:Nat}{v:Value}{l:List UInt8}(h:BRow w B v l):Rd w v l:=(ownN_of_row h).rd
theorem bytes_app{w:World}{B:Nat}{v x:Value}{l lx:List UInt8}(hp:BRow w B v l)(hx:Rd w x lx)(hln:l.length+lx.length≤100000)(hB:B≤w.heap.size) :
  ∃a c w',(∀ty,(Builtin.append_ #[34,34] ty #[v,x]).run Tryz.prog w=.ok (.slice a (l.length+lx.length) c) w')∧BRow w' B (.slice a (l.length+lx.length) c) (l++lx)∧
   (∀w0:World,w0.heap.size≤B→Upd [] w0 w→Upd [] w0 w'):=by
 obtain⟨ao,cap,rfl,hcx,hh⟩:=hx.cells
 obtain⟨i0,hi0,hz0,hz1,hz2⟩:=info_parts infoU8
 by_cases hao:ao=none
 ·subst hao
  have h0:lx.length=0:=by
   rcases Nat.eq_zero_or_pos lx.length with q | q
   ·exact q
   ·obtain⟨_,e,_⟩:=hh q;cases e
  obtain rfl:lx=[]:=List.length_eq_zero_iff.1 h0
  obtain⟨a,c,rfl,hc,_⟩:=hp.shape
  exact⟨a,c,w,fun ty=>append_noneB hc ty,by rw[List.append_nil];exact hp,fun _ _ h=>h⟩
 ·obtain⟨ad,rfl⟩:∃ad,ao=some ad:=by cases ao with | none=>exact absurd rfl hao | some ad=>exact⟨ad,rfl⟩
  obtain⟨v',w',hrun,hown,hg,_⟩:=run_append_own (P:=Tryz.prog) w B 34 0 5 i0 (.int .u8 0) 1 1 Tryz.underlying34 hi0 hz0 hz1 hz2 rfl (by decide) v l.length _ hp ad lx.length cap (bts lx) (by rw[bts_length,Nat.mul_one])
   (fun k u hj=>by
    obtain⟨ad',e,hc⟩:=hh (by have:=(List.getElem?_eq_some_iff.1 hj).1;rw[bts_length] at this;omega)
    cases e;exact hc k u hj) (bts_one _) (by unfold maxLen;omega) (by omega) hB
  have hsh:∃a c,v'=.slice a (l.length+lx.length) c:=by
   rcases hown.2 with⟨h,h0⟩ | ⟨g,cap,cur,h,_⟩
   ·exact⟨none,0,by rw[h,h0]⟩
   ·exact⟨_,_,h⟩
  obtain⟨a,c',rfl⟩:=hsh
  refine⟨a,c',w',fun _=>hrun,?_,fun w0 h0 hu=>?_⟩
  ·unfold BRow
   rw[List.length_append,show bts (l++lx)=bts l++bts lx by simp[bts]]
   exact hown
  ·refine⟨hg.os.trans hu.os,hg.tape.trans hu.tape,hg.output.trans hu.output,Nat.le_trans hu.size hg.size,fun k hk hs=>?_⟩
   have hk2:k<w.heap.size:=Nat.lt_of_lt_of_le hk hu.size
   rw[hg.block k hk2 (fun e=>?_)]
   ·exact hu.block k hk hs
   ·rcases hp.2 with⟨rfl,_⟩ | ⟨g,cap,cur,rfl,hb,_⟩
    ·simp[Value.ownBlock] at e
    ·simp[Value.ownBlock] at e;omega
end Go.Proofs.YtplppdbdfhkljaaGreat
end
section
set_option linter.unusedSimpArgs false
set_option linter.unusedVariables false
namespace Go.Proofs.YtplppdbdfhkljaaGreat
open Go.RowKit Go.MapKept Go.ChangeMaps
end Go.Proofs.YtplppdbdfhkljaaGreat
end
section
set_option linter.unusedSimpArgs false
set_option linter.unusedVariables false
namespace Go.Proofs.YtplppdbdfhkljaaGreat
open Go.RowKit Go.MapKept Go.ChangeMaps
attribute [-go_sem] loadCells storeCells Instr.build
theorem BRow.low{w:World}{B B':Nat}{v:Value}{l:List UInt8}(h:BRow w B v l)(hB:B'≤B):BRow w B' v l:=by
 refine⟨h.1,?_⟩
 rcases h.2 with h | ⟨g,cap,cur,hv,hb,r⟩
 ·exact .inl h
 ·exact .inr ⟨g,cap,cur,hv,Nat.le_trans hB hb,r⟩
end Go.Proofs.YtplppdbdfhkljaaGreat
end
end
section
set_option linter.unusedSimpArgs false
set_option linter.unusedVariables false
namespace Go.Proofs.YtplppdbdfhkljaaGreat
open Go.RowKit Go.MapKept Go.ChangeMaps
section
attribute [-go_sem] loadCells storeCells Instr.build
theorem run_toArrW(a:Option Addr)(c:Nat)(w:World):(Instr.arrayAt 56 (.slice a 32 c)).run Tryz.prog w=.ok (.pointer a) w:=by
 simp[Instr.arrayAt,run_underlying Tryz.underlying56]
attribute [local go_sem] run_toArrW
end
section
attribute [-go_sem] loadCells storeCells Instr.build
theorem be_cons(k V:Nat):be (k+1) V=UInt8.ofNat (V / 256 ^ k) :: be k V:=by
 unfold be
 rw[List.range_succ_eq_map,List.map_cons,List.map_map]
 have h2:(List.range k).map ((fun i=>UInt8.ofNat (V / 256 ^ (k+1-1-i))) ∘ Nat.succ)=(List.range k).map fun i=>UInt8.ofNat (V / 256 ^ (k-1-i)):=List.map_congr_left fun i hi=>by
  show UInt8.ofNat (V / 256 ^ (k+1-1-(i+1)))=_
  rw[show k+1-1-(i+1)=k-1-i by omega]
 rw[h2]
 simp
theorem row_one(w:World)(x:Nat)(xi:Int)(hxi:xi=(x:Int))(hx:x<256):BRow (w.alloc (.cells #[.int .u8 xi] 5)) w.heap.size (.slice (some ⟨w.heap.size,0,none⟩) 1 1) [UInt8.ofNat x]:=by
 have e:(#[.int .u8 xi]:Array Value)=(bts [UInt8.ofNat x]).toArray:=by
  show _=#[bv (UInt8.ofNat x)]
  unfold bv
  rw[UInt8.toNat_ofNat',hxi,Nat.mod_eq_of_lt (by omega)]
 rw[e]
 exact⟨by simp,.inr ⟨w.heap.size,1,_,rfl,Nat.le_refl _,blk_alloc _,by simp[bts],by unfold maxLen;omega,by simp,by simp;rfl⟩⟩
set_option maxRecDepth 100000 in
set_option maxHeartbeats 2000000 in
theorem rput_spec{w:World}{v:Value}{l:List UInt8}(hr:Rd w v l)(hl:l.length≤10000)(n V:Nat)(h1:1≤n)(h8:n≤8)(hV:V<256 ^ n) :
  Calls Tryz.prog 114 #[v,.int .u64 (V:Int),.int .i64 (n:Int)] w fun e w'=>∃a c,e=.returned (.tuple #[.slice a (l.length+n) c,.int .i64 0])∧BRow w' w.heap.size (.slice a (l.length+n) c) (l++be n V)∧Upd [] w w':=by
 have HR:=Lib.hid hr
 have HV:=Lib.hid hV
 have b1:decide ((n:Int)<1)=false:=decide_eq_false (by omega)
 have b2:decide ((8:Int)<(n:Int))=false:=decide_eq_false (by omega)
 have b3:decide (8<n)=false:=decide_eq_false (by omega)
 obtain⟨av,cv,rfl,_⟩:=hr
 clear hV
 go_enter Tryz.func114,Tryz.ntmps114
 go_wp2_with fail
 go_loopw [1,8,9] (fun s1 s8 s9 wr=>∃q x:Nat,q≤n∧s9=.int .i64 (q:Int)∧s1=.int .u64 (x:Int)∧Hid (x=V / 256 ^ q)∧(∃a c,s8=.slice a q c∧Hid (BRow wr w.heap.size (.slice a q c) (be q V)))∧Hid (Upd [] w wr)) (fun _ _ s9 _=>n-(intOf s9).toNat)
 case atStart=>exact⟨0,V,by omega,rfl,rfl,Lib.hid (by simp),⟨_,_,rfl,Lib.hid (BRow.nil _ _)⟩,Lib.hid (Upd.refl _ _)⟩
 case round=>
  obtain⟨q,x,hq,rfl,rfl,HX,⟨a,c,rfl,HB⟩,HU⟩:=hrel
  obtain⟨wq,rfl⟩:∃wq:World,wq=wr:=⟨_,rfl⟩
  rcases Nat.lt_or_ge q n with h4 | h4
  ·have cj:decide ((q:Int)<(n:Int))=true:=decide_eq_true (by omega)
   have cj2:decide (q<n)=true:=decide_eq_true h4
   have HS:Hid (x<18446744073709551616):=Lib.hid (by
    have h1:V / 256 ^ q≤V:=Nat.div_le_self _ _
    have h2:256 ^ n≤256 ^ 8:=Nat.pow_le_pow_right (by omega) h8
    have:=HX.out;have:=HV.out;omega)
   have hbk:=HB.out.keep ((Upd.refl [] wq).alloc (.cells #[.int .u8 ((x:Int) % 256)] 5))
   obtain⟨a',c',w',hrun,hown,hu'⟩:=bytes_app (row_one wq (x % 256) ((x:Int) % 256) (by omega) (by omega)) (show Rd _ (.slice a q c) (be q V) from hbk.rd) (by simp[be_length];omega) (by simp)
   rw[be_length,List.length_singleton] at hrun hown
   have eb:[UInt8.ofNat (x % 256)]++be q V=be (q+1) V:=by
    rw[be_cons,HX.out]
    show [_]++be q V=[_]++be q V
    congr 2
    apply UInt8.toNat_inj.1
    rw[UInt8.toNat_ofNat',UInt8.toNat_ofNat']
    omega
   rw[eb,Nat.add_comm 1 q] at hown
   rw[Nat.add_comm 1 q] at hrun
   have hwq:w.heap.size≤wq.heap.size:=by have:=HU.out.size;omega
   have HBN:=Lib.hid (hown.low hwq)
   have HUN:=Lib.hid (hu' w hwq (HU.out.alloc _))
   have HXN:Hid (x / 256=V / 256 ^ (q+1)):=Lib.hid (by rw[HX.out,Nat.div_div_eq_div_mul,Nat.pow_succ])
   clear hbk hown hu' eb hwq
   go_wp2_with (at_builtin;refine wpList_append_run rfl _ _ _ rfl rfl rfl hrun ?_)
   exact⟨⟨q+1,x / 256,by omega,by go_num,by rw[u64_wrap_in _ (by omega) (by have:=HS.out;omega)];congr 1,HXN,⟨_,_,rfl,HBN⟩,HUN⟩,by simp[intOf];omega⟩
  ·have cj:decide ((q:Int)<(n:Int))=false:=decide_eq_false (by omega)
   have cj2:decide (q<n)=false:=decide_eq_false (by omega)
   obtain rfl:q=n:=by omega
   obtain rfl:x=0:=by rw[HX.out];exact Nat.div_eq_of_lt HV.out
   have hrow:BRow (wq.alloc (.cells #[] 5)) wq.heap.size (.slice (some ⟨wq.heap.size,0,none⟩) 0 0) []:=
    ⟨by simp,.inr ⟨wq.heap.size,0,_,rfl,Nat.le_refl _,blk_alloc (w:=wq) _,by simp,by unfold maxLen;omega,by simp,by simp⟩⟩
   have hua:Upd [] w (wq.alloc (.cells #[] 5)):=HU.out.alloc _
   obtain⟨a1,c1,w1,hrun1,hown1,hu1⟩:=bytes_app hrow (HR.out.below hua) (by simp;omega) (by simp)
   rw[List.length_nil,Nat.zero_add] at hrun1 hown1
   rw[List.nil_append] at hown1
   have hwq:w.heap.size≤wq.heap.size:=by have:=HU.out.size;omega
   have hu1q:=hu1 wq (Nat.le_refl _) ((Upd.refl [] wq).alloc _)
   have hu1w:=hu1 w hwq hua
   obtain⟨a2,c2,w2,hrun2,hown2,hu2⟩:=bytes_app hown1 (show Rd w1 (.slice a q c) (be q V) from(HB.out.rd).below hu1q) (by rw[be_length];omega) (by have:=hu1q.size;omega)
   rw[be_length] at hrun2 hown2
   have HO:=Lib.hid (hown2.low hwq)
   have HU2:=Lib.hid (hu2 w hwq hu1w)
   clear hrow hua hown1 hu1 hu1q hu1w hown2 hu2 hwq
   go_wp2_with (at_builtin;first | refine wpList_append_run rfl _ _ _ rfl rfl rfl hrun1 ?_ | refine wpList_append_run rfl _ _ _ rfl rfl rfl hrun2 ?_)
   go_ret2
   exact⟨_,_,rfl,HO.out,HU2.out⟩
end
section
attribute [-go_sem] loadCells storeCells Instr.build
set_option maxRecDepth 100000 in
set_option maxHeartbeats 1000000 in
theorem reight_spec(w:World)(V:Nat)(hV:V<18446744073709551616) :
  Calls Tryz.prog 144 #[.int .u64 (V:Int)] w fun e w'=>∃a c,e=.returned (.slice a 8 c)∧BRow w' w.heap.size (.slice a 8 c) (be 8 V)∧Upd [] w w':=by
 have HP:=Lib.hid (rput_spec (w:=w) (BRow.nil w w.heap.size).rd (by simp) 8 V (by omega) (by omega) (by omega))
 clear hV
 go_enter Tryz.func144,Tryz.ntmps144
 go_wp2_with fail
 refine HP.out.mono ?_
 rintro e w1 ⟨a,c,rfl,hb,hu⟩
 rw[List.nil_append] at hb
 rw[List.length_nil,Nat.zero_add] at hb
 have HB:=Lib.hid hb
 have HU:=Lib.hid hu
 clear hb hu
 go_wp2_with fail
 go_ret
 exact⟨_,_,rfl,HB.out,HU.out⟩
set_option maxRecDepth 100000 in
set_option maxHeartbeats 1000000 in
theorem reightS_spec(w:World)(V:Nat)(hV:V<18446744073709551616) :
  Calls Tryz.prog 125 #[.int .u64 (V:Int)] w fun e w'=>e=.returned (.string (str (be 8 V)))∧Upd [] w w':=by
 have HP:=Lib.hid (reight_spec w V hV)
 clear hV
 go_enter Tryz.func125,Tryz.ntmps125
 go_wp2_with fail
 refine HP.out.mono ?_
 rintro e w1 ⟨a,c,rfl,hb,hu⟩
 have hcv:=run_str hb.rd (by rw[be_length];omega)
 have HU:=Lib.hid hu
 clear hb hu
 go_wp2_with fail
 go_ret
 exact⟨rfl,HU.out⟩
end
section
attribute [-go_sem] loadCells storeCells Instr.build
set_option maxRecDepth 100000 in
set_option maxHeartbeats 1000000 in
theorem rnumber_spec(w:World)(b:List UInt8)(a n:Nat)(h1:1≤n)(h8:n≤8)(hl:a+n≤b.length)(hb:b.length≤100000) :
  Calls Tryz.prog 74 #[.string (str b),.int .i64 (a:Int),.int .i64 (n:Int)] w fun e w'=>e=.returned (.int .u64 (numI b a n))∧Upd [] w w':=by
 have hcv:=run_bytes_of_string (P:=Tryz.prog) w 9 34 5 (str b) Tryz.underlying9 Tryz.underlying34 Tryz.underlying5
 obtain⟨C,hC⟩:∃C,C=grownCap w (str b).size 0 5:=⟨_,rfl⟩
 have hCs:(str b).size≤C:=by rw[hC];exact grownCap_ge _ _ _ _
 rw[← hC] at hcv
 obtain⟨Z,hZ⟩:∃Z,Z=bytesRow (str b) C:=⟨_,rfl⟩
 rw[← hZ] at hcv
 have hu:Upd [] w (w.drew.alloc (.cells Z 5 (Z.size,Z.size+1))):=((Upd.refl [] w).drew).alloc _
 have hrd:Rd (w.drew.alloc (.cells Z 5 (Z.size,Z.size+1))) (.slice (some ⟨w.heap.size,0,none⟩) (str b).size C) b:=by
  rw[str_size] at hCs ⊢
  refine⟨_,_,rfl,hCs,fun _=>⟨_,_,rfl,fun i hi=>?_⟩⟩
  have hbk:(w.drew.alloc (.cells Z 5 (Z.size,Z.size+1))).heap[w.heap.size]?=some (.cells Z 5 (Z.size,Z.size+1)):=blk_alloc (w:=w.drew) _
  rw[Nat.zero_add,blk_cell hbk,hZ,bytesRow_at _ _ _ (by show i<b.toArray.size;simpa using hi)]
  unfold bv
  show some (Value.int .u8 ((b.toArray[i]'_).toNat:Int))=_
  simp
 have HA:=Lib.hid (rat_spec _ b a n _ hrd h1 h8 hl (by omega))
 have HU:=Lib.hid hu
 clear hu hrd hZ hC hCs h1 h8 hl hb
 go_enter Tryz.func74,Tryz.ntmps74
 go_wp2_with fail
 refine HA.out.mono ?_
 rintro e w1 ⟨rfl,rfl⟩
 go_wp2_with fail
 go_ret
 exact⟨rfl,HU.out⟩
end
end Go.Proofs.YtplppdbdfhkljaaGreat
end
