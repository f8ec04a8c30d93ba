/-
  TxnAll: an operation on both sides (cofferlaw7.do). (Written by tools/put/rtK.py.)
-/
import Derived.Test.YtplppdbdfhkljaaGreatA22
import Derived.Test.YtplppdbdfhkljaaGreatA10
import Derived.Deep.Slices
import Derived.Deep.Strs
set_option maxRecDepth 100000
set_option maxHeartbeats 16000000
section
set_option linter.unusedSimpArgs false
set_option linter.unusedVariables false
namespace Go.Proofs.YtplppdbdfhkljaaGreat
open Go.RowKit Go.MapKept Go.ChangeMaps
section
attribute [-go_sem] loadCells storeCells Instr.build Instr.buildSlice run_string_add_if run_slice_l run_slice_h run_slice_string run_slice_string_h run_slice_string_l
set_option maxRecDepth 100000 in
set_option maxHeartbeats 16000000 in
theorem do7_spec{w:World}{g:DG}{r:RG}{D:Dk}{n:Nat}{gs:Nat→Gn}{sl:Nat→Sl}{K:Int}(co:CoAt w AnyF g D n gs sl)(dd:DoAt w r D n gs sl)(pu:PuAt D n gs sl K)(hK:K≤900){i:Nat}(hi:i<3){B:Nat}(hlo:∀k,Blk g r n gs sl k→B≤k)(hBw:B≤w.heap.size)
  (kind T I:Int) (bv:Value) (b:List UInt8) (hb:∀w',(∀k,k<B→w'.heap[k]?=w.heap[k]?)→Rd w' bv b) (hbl:b.length≤600) :
  Calls Tryz.prog 36 #[.pointer (some ⟨(sl i).tb,0,none⟩),.pointer (some ⟨(sl i).x.tb,0,none⟩),.agg #[.int .i64 kind,.int .i64 T,.int .i64 I,bv]] w fun e w'=>e=.returned (.bool true)∧Do7 w g r n gs sl K w':=by
 have HCO:=Lib.hid co
 have HDD:=Lib.hid dd
 have HPU:=Lib.hid pu
 have HLO:=Lib.hid hlo
 have HBW:=Lib.hid hBw
 obtain⟨ba,bc,rfl,hbc,_⟩:=hb w (fun _ _=>rfl)
 have HRB:=Lib.hid hb
 obtain⟨p,hp⟩:∃p,p=placeN kind 7:=⟨_,rfl⟩
 have hp7:p<7:=by rw[hp];exact placeN_lt (by omega)
 have HPL:Hid (∀w,Calls Tryz.prog 6 #[.int .i64 kind,.int .i64 7] w fun e w'=>e=.returned (.int .i64 (p:Int))∧w=w'):=by
  show ∀w,_
  intro w
  rw[hp];exact place_spec kind 7 w (by omega) (by omega)
 have HGN:Hid ((sl i).live≠none→(sl i).gen<n):=Lib.hid (fun h=>by
  cases hl:(sl i).live with
  | none=>exact absurd hl h
  | some p=>exact(pu.sl i hi p.1 p.2 hl).1)
 obtain⟨bl,hbl2⟩:∃n,n=b.length:=⟨_,rfl⟩
 rw[← hbl2] at HRB ⊢
 have hbl6:bl≤600:=by omega
 have HBL:=Lib.hid hbl2
 have HOB:Hid ((w.alloc (.cells #[.int .i64 kind,.int .i64 T,.int .i64 I,.slice ba bl bc] 86)).heap[w.heap.size]?=some (.cells #[.int .i64 kind,.int .i64 T,.int .i64 I,.slice ba bl bc] 86 (0,0))):=Lib.hid (blk_alloc _)
 have HU1:Hid (Upd [] w (w.alloc (.cells #[.int .i64 kind,.int .i64 T,.int .i64 I,.slice ba bl bc] 86))):=Lib.hid ((Upd.refl _ _).alloc _)
 clear co dd pu hlo hb hp hbc hBw hbl hbl2
 go_enter Tryz.func36,Tryz.ntmps36
 go_wp2_with fail
 refine(HPL.out _).mono ?_
 rintro e wz ⟨rfl,rfl⟩
 generalize w.alloc (.cells #[.int .i64 kind,.int .i64 T,.int .i64 I,.slice ba bl bc] 86)=w1 at HOB HU1 ⊢
 obtain⟨ob,hob⟩:∃b,b=w.heap.size:=⟨_,rfl⟩
 rw[← hob] at HOB ⊢
 have HCE:Hid (∀w':World,w'.heap[ob]?=some (.cells #[.int .i64 kind,.int .i64 T,.int .i64 I,.slice ba bl bc] 86 (0,0))→w'.cell? ⟨ob,0,none⟩=some (.int .i64 kind)∧w'.cell? ⟨ob,2,none⟩=some (.int .i64 I)∧w'.cell? ⟨ob,3,none⟩=some (.slice ba bl bc)):=Lib.hid (fun w' h=>⟨by rw[blk_cell h];rfl,by rw[blk_cell h];rfl,by rw[blk_cell h];rfl⟩)
 have HC1:=Lib.hid (HCO.out.below HU1.out)
 have HD1:=Lib.hid (HDD.out.below HU1.out)
 have HLOW:Hid (∀w',UpB (Blk g r n gs sl) w w'→∀k,k<B→w'.heap[k]?=w.heap[k]?):=Lib.hid (fun w' hu k hk=>hu.keep (Nat.lt_of_lt_of_le hk HBW.out) (fun q=>by have:=HLO.out k q;omega))
 have HB1:Hid (UpB (Blk g r n gs sl) w w1):=Lib.hid (.below HU1.out)
 have HDEC:Hid (some 86∉codeT∧some 86∉docT∧some 5∉docT):=Lib.hid ⟨by decide,by decide,by decide⟩
 clear hob hp7
 by_cases p1:p=1
 ·as_aux_lemma=>
   subst p1
   obtain⟨x0,x2,x3⟩:=HCE.out w1 HOB.out
   have HR1:=Lib.hid (HRB.out w1 (HLOW.out _ HB1.out))
   have HFL:=Lib.hid (full_spec _ b w1 HR1.out)
   go_wp2_with fail
   refine HFL.out.mono ?_
   rintro e w2 ⟨rfl,hw2⟩
   have hu2:Upd [] w1 w2:=by rw[← hw2];exact(Upd.refl _ _).alloc _
   have hx2:w2.heap[w1.heap.size]?=some (.cells (bts (pad b)).toArray 5 (0,0)):=by rw[← hw2];exact blk_alloc _
   obtain⟨xb,hxb⟩:∃x,x=w1.heap.size:=⟨_,rfl⟩
   rw[← hxb] at hx2 ⊢
   have HXB:Hid (w.heap.size≤xb):=Lib.hid (by rw[hxb];exact HU1.out.size)
   have hC2:CoAt w2 (fun k=>k≠xb) g D n gs sl:=(HC1.out.tight.below hu2).mono (fun k hk e=>by have:=hk.2;omega)
   have HD2:=Lib.hid (HD1.out.below hu2)
   have hrx:Rd w2 (.slice (some ⟨xb,0,none⟩) 512 512) (pad b):=rd_of_block hx2 (pad_length b)
   have HX2:=Lib.hid hx2
   have HW:=Lib.hid (co_write hC2 HPU.out hi (fun k hk=>by have:=blk_lt hx2;omega) I _ (pad b) hrx (by rw[pad_length];omega))
   have HOB2:=Lib.hid ((hu2.block _ (blk_lt HOB.out) (by simp)).trans HOB.out)
   have HB2:=Lib.hid (HB1.out.trans (.below hu2))
   have HC2:=Lib.hid hC2
   obtain⟨_,y2,y3⟩:=HCE.out w2 HOB2.out
   obtain⟨E,hE⟩:∃E,E=wE (sl i) I (pad b).length:=⟨_,rfl⟩
   rw[← hE] at HW
   have HE:=Lib.hid hE
   clear hw2 hu2 hx2 hxb hC2 hrx hE x0 x2 x3
   go_wp2_with fail
   refine HW.out.mono ?_
   rintro e w3 ⟨rfl,hc3,S3,hu3,hS3⟩
   have hk3:∀k,k∈S3→kd w2 k=none:=fun k hk=>by
    obtain⟨a,rfl⟩:=hS3 k hk
    exact((HC2.out.tx i hi).lt.2.2 a).2.1
   have hx3:w3.heap[xb]?=_:=(hu3.block _ (blk_lt HX2.out) (fun q=>by have:=hk3 _ q;rw[kd_cells HX2.out] at this;exact absurd this (by decide))).trans HX2.out
   have hob3:w3.heap[ob]?=_:=(hu3.block _ (blk_lt HOB2.out) (fun q=>by have:=hk3 _ q;rw[kd_cells HOB2.out] at this;exact absurd this (by decide))).trans HOB2.out
   have HSP:=Lib.hid (spoil_spec (w:=w3) (.inr ⟨xb,512,512,_,rfl,hx3,by rw[List.size_toArray,bts_length,pad_length],by omega,by unfold maxLen;omega⟩))
   have HC3:=Lib.hid hc3
   have HD3:=Lib.hid (HD2.out.code hu3 (fun k hk=>by rw[hk3 k hk];decide))
   have HB3:=Lib.hid (HB2.out.trans (.of hu3 (fun k hk=>slBlk hi (.inr (.inl (hS3 k hk))))))
   have HX3:=Lib.hid hx3
   have HOB3:=Lib.hid hob3
   clear hc3 hu3 hS3 hk3 hx3 hob3 y2 y3
   go_wp2_with fail
   refine HSP.out.mono ?_
   rintro e w4 ⟨rfl,_,S4,hu4,hS4⟩
   have hk4:∀k,k∈S4→k=xb:=fun k hk=>by have:=(hS4 k hk).1;simp[Value.ownBlock] at this;exact this.symm
   have hkx:kd w3 xb=some 5:=kd_cells HX3.out
   have HC4:=Lib.hid ((HC3.out.bytes hu4 (fun k hk=>by rw[hk4 k hk];exact⟨by simp,hkx⟩)).mono (G:=AnyF) (fun _ _=>trivial))
   have HD4:=Lib.hid (HD3.out.world hu4 (fun k hk=>by rw[hk4 k hk,hkx];exact HDEC.out.2.2))
   have HB4:=Lib.hid (HB3.out.late hu4 (fun k hk=> .inr (by rw[hk4 k hk];exact HXB.out)))
   have hnx:ob≠xb:=fun q=>by
    have h1:=kd_cells HOB3.out
    rw[q,hkx] at h1;exact absurd h1 (by decide)
   have HOB4:=Lib.hid ((hu4.block _ (blk_lt HOB3.out) (fun q=>hnx (hk4 _ q))).trans HOB3.out)
   have HCW:Hid (∀w',Upd [] w4 w'→w'.cell? ⟨ob,2,none⟩=some (.int .i64 I)∧w'.cell? ⟨ob,3,none⟩=some (.slice ba bl bc)):=Lib.hid (fun w' hu=>(HCE.out w' ((hu.block _ (blk_lt HOB4.out) (by simp)).trans HOB4.out)).2)
   clear hu4 hS4 hk4 hkx hnx
   go_wp2_with fail
   refine wp_region_xL (fun w'=>Upd [] w4 w') [8] (by kernel_rfl) (by simp only[List.size_toArray,List.length_cons,List.length_nil,Nat.reduceAdd];exact rfl) (by simp only[List.replicate_succ,List.replicate_zero];exact rfl) (Upd.refl _ _).drew (fun hHeld=>?_)
   generalize w4.drew=w0 at hHeld ⊢
   refine takeNL (i:=0) (v:=?_) rfl rfl (by kernel_rfl) (fun _ _ _ h=>h) (fun _=>hHeld) (Or.inl ⟨by kernel_rfl,?_⟩) (by dsimp only[List.set_cons_succ,List.set_cons_zero]) (by dsimp only[List.set_cons_succ,List.set_cons_zero]) ?_
   rotate_left
   ·(intro w hSw;go_simp<;>with_reducible rfl)
   refine takeL (i:=1) (v:=?_) rfl rfl (by kernel_rfl) (fun _ _ _ h=>h) hHeld (Or.inl ⟨by kernel_rfl,?_⟩) (by dsimp only[List.set_cons_succ,List.set_cons_zero]) (by dsimp only[List.set_cons_succ,List.set_cons_zero]) ?_
   rotate_left
   ·(intro w hSw;go_simp<;>with_reducible rfl)
   refine takeL (i:=2) (v:=?_) rfl rfl (by kernel_rfl) (fun _ _ _ h=>h) hHeld (Or.inl ⟨by kernel_rfl,?_⟩) (by dsimp only[List.set_cons_succ,List.set_cons_zero]) (by dsimp only[List.set_cons_succ,List.set_cons_zero]) ?_
   rotate_left
   ·(intro w hSw;go_simp<;>with_reducible rfl)
   refine takeL (i:=3) (v:=?_) rfl rfl (by kernel_rfl) (fun _ _ _ h=>h) hHeld (Or.inl ⟨by kernel_rfl,?_⟩) (by dsimp only[List.set_cons_succ,List.set_cons_zero]) (by dsimp only[List.set_cons_succ,List.set_cons_zero]) ?_
   rotate_left
   ·(intro w hSw;obtain⟨y2,y3⟩:=HCW.out _ hSw;go_simp<;>with_reducible rfl)
   refine takeL (i:=4) (v:=?_) rfl rfl (by kernel_rfl) (fun _ _ _ h=>h) hHeld (Or.inl ⟨by kernel_rfl,?_⟩) (by dsimp only[List.set_cons_succ,List.set_cons_zero]) (by dsimp only[List.set_cons_succ,List.set_cons_zero]) ?_
   rotate_left
   ·(intro w hSw;go_simp<;>with_reducible rfl)
   refine takeL (i:=5) (v:=?_) rfl rfl (by kernel_rfl) (fun _ _ _ h=>h) hHeld (Or.inl ⟨by kernel_rfl,?_⟩) (by dsimp only[List.set_cons_succ,List.set_cons_zero]) (by dsimp only[List.set_cons_succ,List.set_cons_zero]) ?_
   rotate_left
   ·(intro w hSw;obtain⟨y2,y3⟩:=HCW.out _ hSw;go_simp<;>with_reducible rfl)
   refine wpAnyX_ready (rs:=[6]) (by kernel_rfl) (by simp) (AllReadyX.one rfl (fun K hK=>?_))
   go_simp
   go_at_call 65
   (with_reducible refine(full_spec _ b _ (HRB.out _ (HLOW.out _ (HB4.out.trans (.below hHeld))))).mono ?_)
   rintro e w5 ⟨rfl,hw5⟩
   have hu5:Upd [] w4 w5:=by rw[← hw5];exact hHeld.alloc _
   have hx5:w5.heap[w0.heap.size]?=some (.cells (bts (pad b)).toArray 5 (0,0)):=by rw[← hw5];exact blk_alloc _
   refine hK.out _ _ (fun _=>hu5) ?_
   have hcv:=str_any (rd_of_block hx5 (pad_length b))
   have HU5:=Lib.hid hu5
   clear hw5 hu5 hx5 hK K
   try simp only[Act.put,List.getElem_toArray,List.getElem_cons_zero,List.getElem_cons_succ,List.setIfInBounds_toArray,List.set_cons_zero,List.set_cons_succ]
   have hrn:=hcv
   refine wpAnyX_ready (rs:=[7]) (by kernel_rfl) (by simp) (AllReadyX.one rfl (fun K hK=>?_))
   go_simp
   refine hK.out _ _ (fun _=>HU5.out) ?_
   clear hK K hrn
   try simp only[Act.put,List.getElem_toArray,List.getElem_cons_zero,List.getElem_cons_succ,List.setIfInBounds_toArray,List.set_cons_zero,List.set_cons_succ]
   refine wpAnyX_ready (rs:=[8]) (by kernel_rfl) (by simp) (AllReadyX.one rfl (fun K hK=>?_))
   go_simp
   go_at_call 88
   (with_reducible refine(do_write (HD4.out.below HU5.out) HPU.out hi I (pad b)).mono ?_)
   rintro e w6 ⟨rfl,hd6,S6,hu6,hS6⟩
   rw[← HE.out]
   refine hK.out _ _ (noneUp_any (by kernel_rfl)) ?_
   have HC6:=Lib.hid ((HC4.out.below HU5.out).doc hu6 (fun k hk=>by rw[hS6 k hk,((HD4.out.below HU5.out).tx i hi).kinds.2.1];decide))
   have HD6:=Lib.hid hd6
   have HB6:=Lib.hid ((HB4.out.trans (.below HU5.out)).trans (.of hu6 (fun k hk=>slBlk hi (.inr (.inr (.inr (hS6 k hk)))))))
   clear hd6 hu6 hS6 hHeld hcv hK K
   try simp only[Act.put,List.getElem_toArray,List.getElem_cons_zero,List.getElem_cons_succ,List.setIfInBounds_toArray,List.set_cons_zero,List.set_cons_succ]
   refine wpAnyX_free (by kernel_rfl) ?_
   refine takeL (i:=9) (v:=?_) rfl rfl (by kernel_rfl) (fun _ _ _ h=>h) trivial (Or.inl ⟨by kernel_rfl,?_⟩) (by dsimp only[List.set_cons_succ,List.set_cons_zero]) (by dsimp only[List.set_cons_succ,List.set_cons_zero]) ?_
   rotate_left
   ·(intro w hSw;go_simp<;>with_reducible rfl)
   refine takeL (i:=10) (v:=?_) rfl rfl (by kernel_rfl) (fun _ _ _ h=>h) trivial (Or.inl ⟨by kernel_rfl,?_⟩) (by dsimp only[List.set_cons_succ,List.set_cons_zero]) (by dsimp only[List.set_cons_succ,List.set_cons_zero]) ?_
   rotate_left
   ·(intro w hSw;go_simp<;>with_reducible rfl)
   refine wpAnyX_done (by kernel_rfl) ?_ _
   go_wp2_with fail
   go_ret
   exact⟨by first | rfl | simp,D,gs,_,HC6.out,HD6.out,(pu_write HPU.out hi I (pad b)).mono (by omega),sameB_wS gs sl i I (pad b),HB6.out⟩
 by_cases p2:p=2
 ·as_aux_lemma=>
   subst p2
   obtain⟨x0,x2,x3⟩:=HCE.out w1 HOB.out
   have htw:=twin_exact _ b w1 (HRB.out w1 (HLOW.out _ HB1.out)) (by have:=HBL.out;omega)
   rw[← HBL.out] at htw
   have HTW:=Lib.hid htw
   clear htw
   go_wp2_with fail
   refine HTW.out.mono ?_
   rintro e w2 ⟨tk,rfl,htk,_,hu2⟩
   have HC2:=Lib.hid (HC1.out.below hu2)
   have HD2:=Lib.hid (HD1.out.below hu2)
   have HOB2:=Lib.hid ((hu2.block _ (blk_lt HOB.out) (by simp)).trans HOB.out)
   have HB2:=Lib.hid (HB1.out.trans (.below hu2))
   have HTK2:=Lib.hid htk
   obtain⟨E,hE⟩:∃E,E=wE (sl i) I b.length:=⟨_,rfl⟩
   have HE:=Lib.hid hE
   clear x0 x2 x3 htk hu2 hE
   go_wp2_with fail
   have hu0:Upd [] w2 w2.drew:=(Upd.refl _ _).drew
   refine wp_region_xL (fun w'=>w'.heap[ob]?=some (.cells #[.int .i64 kind,.int .i64 T,.int .i64 I,.slice ba bl bc] 86 (0,0))∧(∀k,k<B→w'.heap[k]?=w.heap[k]?)∧w'.heap[tk]?=some (.cells (bts b++tw3 3).toArray 5 (0,0))) [] (by kernel_rfl) (by simp only[List.size_toArray,List.length_cons,List.length_nil,Nat.reduceAdd];exact rfl) (by simp only[List.replicate_succ,List.replicate_zero];exact rfl) ⟨HOB2.out,HLOW.out _ (HB2.out.trans (.below hu0)),HTK2.out⟩ (fun hHeld=>?_)
   generalize w2.drew=w0 at hHeld hu0 ⊢
   have HC0:=Lib.hid (HC2.out.below hu0)
   have HD0:=Lib.hid (HD2.out.below hu0)
   have HB0:=Lib.hid (HB2.out.trans (.below hu0))
   clear hu0
   refine takeL (i:=0) (v:=?_) rfl rfl (by kernel_rfl) (fun _ _ _ h=>h) hHeld (Or.inl ⟨by kernel_rfl,?_⟩) (by dsimp only[List.set_cons_succ,List.set_cons_zero]) (by dsimp only[List.set_cons_succ,List.set_cons_zero]) ?_
   rotate_left
   ·(intro w hSw;go_simp<;>with_reducible rfl)
   refine takeL (i:=1) (v:=?_) rfl rfl (by kernel_rfl) (fun _ _ _ h=>h) hHeld (Or.inl ⟨by kernel_rfl,?_⟩) (by dsimp only[List.set_cons_succ,List.set_cons_zero]) (by dsimp only[List.set_cons_succ,List.set_cons_zero]) ?_
   rotate_left
   ·(intro w hSw;go_simp<;>with_reducible rfl)
   refine takeL (i:=2) (v:=?_) rfl rfl (by kernel_rfl) (fun _ _ _ h=>h) hHeld (Or.inl ⟨by kernel_rfl,?_⟩) (by dsimp only[List.set_cons_succ,List.set_cons_zero]) (by dsimp only[List.set_cons_succ,List.set_cons_zero]) ?_
   rotate_left
   ·(intro w hSw;obtain⟨_,y2,y3⟩:=HCE.out _ hSw.1;go_simp<;>with_reducible rfl)
   refine takeL (i:=3) (v:=?_) rfl rfl (by kernel_rfl) (fun _ _ _ h=>h) hHeld (Or.inl ⟨by kernel_rfl,?_⟩) (by dsimp only[List.set_cons_succ,List.set_cons_zero]) (by dsimp only[List.set_cons_succ,List.set_cons_zero]) ?_
   rotate_left
   ·(intro w hSw;go_simp<;>with_reducible rfl)
   refine takeL (i:=5) (v:=?_) rfl rfl (by kernel_rfl) (fun _ _ _ h=>h) hHeld (Or.inl ⟨by kernel_rfl,?_⟩) (by dsimp only[List.set_cons_succ,List.set_cons_zero]) (by dsimp only[List.set_cons_succ,List.set_cons_zero]) ?_
   rotate_left
   ·(intro w hSw;go_simp<;>with_reducible rfl)
   refine takeL (i:=6) (v:=?_) rfl rfl (by kernel_rfl) (fun _ _ _ h=>h) hHeld (Or.inl ⟨by kernel_rfl,?_⟩) (by dsimp only[List.set_cons_succ,List.set_cons_zero]) (by dsimp only[List.set_cons_succ,List.set_cons_zero]) ?_
   rotate_left
   ·(intro w hSw;go_simp<;>with_reducible rfl)
   refine takeL (i:=7) (v:=?_) rfl rfl (by kernel_rfl) (fun _ _ _ h=>h) hHeld (Or.inl ⟨by kernel_rfl,?_⟩) (by dsimp only[List.set_cons_succ,List.set_cons_zero]) (by dsimp only[List.set_cons_succ,List.set_cons_zero]) ?_
   rotate_left
   ·(intro w hSw;obtain⟨_,y2,y3⟩:=HCE.out _ hSw.1;go_simp<;>with_reducible rfl)
   refine takeL (i:=8) (v:=?_) rfl rfl (by kernel_rfl) (fun _ _ _ h=>h) hHeld (Or.inl ⟨by kernel_rfl,?_⟩) (by dsimp only[List.set_cons_succ,List.set_cons_zero]) (by dsimp only[List.set_cons_succ,List.set_cons_zero]) ?_
   rotate_left
   ·(intro w hSw;go_simp<;>with_reducible rfl)
   refine takeL (i:=9) (v:=?_) rfl rfl (by kernel_rfl) (fun _ _ _ h=>h) hHeld (Or.inl ⟨by kernel_rfl,?_⟩) (by dsimp only[List.set_cons_succ,List.set_cons_zero]) (by dsimp only[List.set_cons_succ,List.set_cons_zero]) ?_
   rotate_left
   ·(intro w hSw;obtain⟨_,y2,y3⟩:=HCE.out _ hSw.1;go_simp<;>with_reducible rfl)
   refine takeL (i:=10) (v:=?_) rfl rfl (by kernel_rfl) (fun _ _ _ h=>h) hHeld (Or.inl ⟨by kernel_rfl,?_⟩) (by dsimp only[List.set_cons_succ,List.set_cons_zero]) (by dsimp only[List.set_cons_succ,List.set_cons_zero]) ?_
   rotate_left
   ·(intro w hSw;have hcv:=str_any (HRB.out _ hSw.2.1);go_simp<;>with_reducible rfl)
   refine wpAnyX_ready (rs:=[4]) (by kernel_rfl) (by simp) (AllReadyX.one rfl (fun K hK=>?_))
   go_simp
   go_at_call 64
   have hrt:=twin_rd hHeld.2.2
   rw[← HBL.out] at hrt
   have hAny:∀k,w0.heap.size≤k→AnyF k:=fun _ _=>trivial
   (with_reducible refine(co_write HC0.out HPU.out hi hAny I _ b hrt (by have:=HBL.out;omega)).mono ?_)
   rintro e w3 ⟨rfl,hc3,S3,hu3,hS3⟩
   rw[← HE.out]
   have hk3:∀k,k∈S3→kd w0 k=none:=fun k hk=>by
    obtain⟨a,rfl⟩:=hS3 k hk
    exact((HC0.out.tx i hi).lt.2.2 a).2.1
   have HB3:=Lib.hid (HB0.out.trans (.of hu3 (fun k hk=>slBlk hi (.inr (.inl (hS3 k hk))))))
   have hh1:w3.heap[ob]?=_:=(hu3.block _ (blk_lt hHeld.1) (fun q=>by have:=hk3 _ q;rw[kd_cells hHeld.1] at this;exact absurd this (by decide))).trans hHeld.1
   have hh2:w3.heap[tk]?=_:=(hu3.block _ (blk_lt hHeld.2.2) (fun q=>by have:=hk3 _ q;rw[kd_cells hHeld.2.2] at this;exact absurd this (by decide))).trans hHeld.2.2
   have HC3:=Lib.hid hc3
   have HD3:=Lib.hid (HD0.out.code hu3 (fun k hk=>by rw[hk3 k hk];decide))
   refine hK.out _ _ (fun _=>⟨hh1,HLOW.out _ HB3.out,hh2⟩) ?_
   replace hHeld:=And.intro hh1 (And.intro (HLOW.out _ HB3.out) hh2)
   clear hAny hrt hc3 hu3 hS3 hk3 hh1 hh2 hK K
   try simp only[Act.put,List.getElem_toArray,List.getElem_cons_zero,List.getElem_cons_succ,List.setIfInBounds_toArray,List.set_cons_zero,List.set_cons_succ]
   refine wpAnyX_ready (rs:=[11]) (by kernel_rfl) (by simp) (AllReadyX.one rfl (fun K hK=>?_))
   go_simp
   go_at_call 88
   (with_reducible refine(do_write HD3.out HPU.out hi I b).mono ?_)
   rintro e w4 ⟨rfl,hd4,S4,hu4,hS4⟩
   rw[← HE.out]
   have hk4:∀k,k∈S4→kd w3 k=some 9:=fun k hk=>by rw[hS4 k hk];exact(HD3.out.tx i hi).kinds.2.1
   have HB4:=Lib.hid (HB3.out.trans (.of hu4 (fun k hk=>slBlk hi (.inr (.inr (.inr (hS4 k hk)))))))
   have hh1:w4.heap[ob]?=_:=(hu4.block _ (blk_lt hHeld.1) (fun q=>by have:=hk4 _ q;rw[kd_cells hHeld.1] at this;exact absurd this (by decide))).trans hHeld.1
   have hh2:w4.heap[tk]?=_:=(hu4.block _ (blk_lt hHeld.2.2) (fun q=>by have:=hk4 _ q;rw[kd_cells hHeld.2.2] at this;exact absurd this (by decide))).trans hHeld.2.2
   have HC4:=Lib.hid (HC3.out.doc hu4 (fun k hk=>by rw[hk4 k hk];decide))
   have HD4:=Lib.hid hd4
   refine hK.out _ _ (fun _=>⟨hh1,HLOW.out _ HB4.out,hh2⟩) ?_
   replace hHeld:=And.intro hh1 (And.intro (HLOW.out _ HB4.out) hh2)
   clear hd4 hu4 hS4 hk4 hh1 hh2 hK K
   try simp only[Act.put,List.getElem_toArray,List.getElem_cons_zero,List.getElem_cons_succ,List.setIfInBounds_toArray,List.set_cons_zero,List.set_cons_succ]
   refine takeL (i:=12) (v:=?_) rfl rfl (by kernel_rfl) (fun _ _ _ h=>h) hHeld (Or.inl ⟨by kernel_rfl,?_⟩) (by dsimp only[List.set_cons_succ,List.set_cons_zero]) (by dsimp only[List.set_cons_succ,List.set_cons_zero]) ?_
   rotate_left
   ·(intro w hSw;go_simp<;>with_reducible rfl)
   refine takeL (i:=13) (v:=?_) rfl rfl (by kernel_rfl) (fun _ _ _ h=>h) hHeld (Or.inl ⟨by kernel_rfl,?_⟩) (by dsimp only[List.set_cons_succ,List.set_cons_zero]) (by dsimp only[List.set_cons_succ,List.set_cons_zero]) ?_
   rotate_left
   ·(intro w hSw;go_simp<;>with_reducible rfl)
   refine takeL (i:=14) (v:=?_) rfl rfl (by kernel_rfl) (fun _ _ _ h=>h) hHeld (Or.inl ⟨by kernel_rfl,?_⟩) (by dsimp only[List.set_cons_succ,List.set_cons_zero]) (by dsimp only[List.set_cons_succ,List.set_cons_zero]) ?_
   rotate_left
   ·(intro w hSw;go_simp<;>with_reducible rfl)
   refine takeL (i:=15) (v:=?_) rfl rfl (by kernel_rfl) (fun _ _ _ h=>h) hHeld (Or.inl ⟨by kernel_rfl,?_⟩) (by dsimp only[List.set_cons_succ,List.set_cons_zero]) (by dsimp only[List.set_cons_succ,List.set_cons_zero]) ?_
   rotate_left
   ·(intro w hSw;go_simp<;>with_reducible rfl)
   refine takeL (i:=16) (v:=?_) rfl rfl (by kernel_rfl) (fun _ _ _ h=>h) hHeld (Or.inl ⟨by kernel_rfl,?_⟩) (by dsimp only[List.set_cons_succ,List.set_cons_zero]) (by dsimp only[List.set_cons_succ,List.set_cons_zero]) ?_
   rotate_left
   ·(intro w hSw;obtain⟨_,y2,y3⟩:=HCE.out _ hSw.1;go_simp<;>with_reducible rfl)
   refine wpAnyX_ready (rs:=[17]) (by kernel_rfl) (by simp) (AllReadyX.one rfl (fun K hK=>?_))
   go_simp
   go_at_call 18
   have hky:=kept_yes hHeld.2.2 (HRB.out _ hHeld.2.1) (by have:=HBL.out;omega)
   rw[← HBL.out] at hky
   (with_reducible refine hky.mono ?_)
   rintro e w5 ⟨rfl,hu5⟩
   have HB5:=Lib.hid (HB4.out.trans (.below hu5))
   have HC5:=Lib.hid (HC4.out.below hu5)
   have HD5:=Lib.hid (HD4.out.below hu5)
   have hh1:w5.heap[ob]?=_:=(hu5.block _ (blk_lt hHeld.1) (by simp)).trans hHeld.1
   have hh2:w5.heap[tk]?=_:=(hu5.block _ (blk_lt hHeld.2.2) (by simp)).trans hHeld.2.2
   refine hK.out _ _ (fun _=>⟨hh1,HLOW.out _ HB5.out,hh2⟩) ?_
   replace hHeld:=And.intro hh1 (And.intro (HLOW.out _ HB5.out) hh2)
   clear hky hu5 hh1 hh2 hK K
   try simp only[Act.put,List.getElem_toArray,List.getElem_cons_zero,List.getElem_cons_succ,List.setIfInBounds_toArray,List.set_cons_zero,List.set_cons_succ]
   refine takeL (i:=18) (v:=?_) rfl rfl (by kernel_rfl) (fun _ _ _ h=>h) hHeld (Or.inl ⟨by kernel_rfl,?_⟩) (by dsimp only[List.set_cons_succ,List.set_cons_zero]) (by dsimp only[List.set_cons_succ,List.set_cons_zero]) ?_
   rotate_left
   ·(intro w hSw;go_simp<;>with_reducible rfl)
   refine takeL (i:=19) (v:=?_) rfl rfl (by kernel_rfl) (fun _ _ _ h=>h) hHeld (Or.inl ⟨by kernel_rfl,?_⟩) (by dsimp only[List.set_cons_succ,List.set_cons_zero]) (by dsimp only[List.set_cons_succ,List.set_cons_zero]) ?_
   rotate_left
   ·(intro w hSw;go_simp<;>with_reducible rfl)
   refine wpAnyX_done (by kernel_rfl) ?_ _
   go_wp2_with fail
   go_ret
   exact⟨by first | rfl | simp,D,gs,_,HC5.out,HD5.out,(pu_write HPU.out hi I b).mono (by omega),sameB_wS gs sl i I b,HB5.out⟩
 by_cases p3:p=3
 ·as_aux_lemma=>
   subst p3
   obtain⟨x0,x2,x3⟩:=HCE.out w1 HOB.out
   obtain⟨R,hR⟩:∃R,R=rV (sl i) gs D I:=⟨_,rfl⟩
   have HR:=Lib.hid hR
   have hcr:=co_read HC1.out.tight HPU.out hi I
   rw[← hR] at hcr
   have HCR:=Lib.hid hcr
   clear hcr hR
   go_wp2_with fail
   refine HCR.out.mono ?_
   rintro e w2 ⟨v,rfl,ho,hc2,S2,hu2,hS2⟩
   have hk2:∀k,k∈S2→kd w1 k=some 162:=fun k hk=>by
    obtain⟨a,rfl⟩:=hS2 k hk
    exact(HC1.out.jn _ (HGN.out a)).kinds.1
   have hob2:w2.heap[ob]?=_:=(hu2.block _ (blk_lt HOB.out) (fun q=>by have:=hk2 _ q;rw[kd_cells HOB.out] at this;exact absurd this (by decide))).trans HOB.out
   have HC2:=Lib.hid hc2
   have HO2:=Lib.hid ho
   have HD2:=Lib.hid (HD1.out.code hu2 (fun k hk=>by rw[hk2 k hk];decide))
   have HB2:=Lib.hid (HB1.out.trans (.of hu2 (fun k hk=> .inr (.inr (.inl ⟨_,HGN.out (hS2 k hk).1,.inl (hS2 k hk).2⟩)))))
   obtain⟨y0,y2,y3⟩:=HCE.out w2 hob2
   have hdr:Calls Tryz.prog 90 #[.pointer (some ⟨(sl i).x.tb,0,none⟩),.int .i64 I] w2 fun e w'=>e=.returned (.tuple #[.string (str R.1),.int .i64 R.2])∧Upd [] w2 w':=by
    rw[HR.out];exact do_read HD2.out HPU.out hi I
   have HDR:=Lib.hid hdr
   have HOB2:=Lib.hid hob2
   clear hc2 ho hu2 hS2 hk2 hob2 hdr x0 x2 x3
   obtain⟨r1,r2⟩:=R
   go_wp2_with fail
   refine HDR.out.mono ?_
   rintro e w3 ⟨rfl,hu3⟩
   have ho3:OwnN w3 5 (fun k=>w1.heap.size≤k) v r1:=HO2.out.world (fun k c _ hk=>hu3.block _ (blk_lt hk) (by simp))
   have hcv:=str_any ho3.rd
   obtain⟨hs1,hs2⟩:=ownN_spR ho3
   have HSP:=Lib.hid (spoil_spec hs1)
   have HS2:=Lib.hid hs2
   have HC3:=Lib.hid (HC2.out.below hu3)
   have HD3:=Lib.hid (HD2.out.below hu3)
   have HB3:=Lib.hid (HB2.out.trans (.below hu3))
   clear y0 y2 y3 hu3 ho3 hs1 hs2
   go_wp2_with fail
   refine HSP.out.mono ?_
   rintro e w4 ⟨rfl,_,S4,hu4,hS4⟩
   have hk4:∀k,k∈S4→w1.heap.size≤k∧kd w3 k=some 5:=fun k hk=>by
    obtain⟨a,c,hc⟩:=hS4 k hk
    exact⟨HS2.out k a,kd_cells hc⟩
   have HC4:=Lib.hid ((HC3.out.bytes hu4 (fun k hk=>⟨fun q=>by have:=q.2;have:=(hk4 k hk).1;omega,(hk4 k hk).2⟩)).mono (G:=AnyF) (fun _ _=>trivial))
   have HD4:=Lib.hid (HD3.out.world hu4 (fun k hk=>by rw[(hk4 k hk).2];exact HDEC.out.2.2))
   have HB4:=Lib.hid (HB3.out.late hu4 (fun k hk=> .inr (Nat.le_trans HU1.out.size (hk4 k hk).1)))
   clear hu4 hS4 hk4 hcv
   go_wp2_with fail
   go_ret
   exact⟨by first | rfl | simp,D,gs,sl,HC4.out,HD4.out,HPU.out.mono (by omega),SameB.refl gs sl,HB4.out⟩
 by_cases p4:p=4
 ·as_aux_lemma=>
   subst p4
   obtain⟨x0,x2,x3⟩:=HCE.out w1 HOB.out
   obtain⟨E,hE⟩:∃E,E=cE (sl i) gs D:=⟨_,rfl⟩
   have HE:=Lib.hid hE
   have hcr:=co_commit HC1.out HPU.out (by omega) hi (fun _ _=>trivial)
   rw[← hE] at hcr
   have HCR:=Lib.hid hcr
   clear hcr hE
   go_wp2_with fail
   refine HCR.out.mono ?_
   rintro e w2 ⟨rfl,hc2,S2,hu2,hS2⟩
   have hk2:∀k,k∈S2→kd w1 k∈codeT:=fun k hk=>by
    obtain⟨a,q⟩:=hS2 k hk
    rcases q with rfl | q
    ·rw[(HC1.out.tx i hi).lt.2.1];decide
    ·exact(HC1.out.jn _ (HGN.out a)).codes k q
   have HC2:=Lib.hid hc2
   have HD2:=Lib.hid (HD1.out.code hu2 hk2)
   have HB2:=Lib.hid (HB1.out.trans (.of hu2 (fun k hk=>by
    obtain⟨a,q⟩:=hS2 k hk
    rcases q with rfl | q
    ·exact slBlk hi (.inl rfl)
    ·exact jnBlk (HGN.out a) q)))
   have hdr:=do_commit HD2.out HPU.out (by omega) hi
   rw[← HE.out] at hdr
   have HDR:=Lib.hid hdr
   clear hc2 hu2 hS2 hk2 hdr x0 x2 x3
   go_wp2_with fail
   refine HDR.out.mono ?_
   rintro e w3 ⟨rfl,hd3,S3,hu3,hS3⟩
   have hk3:∀k,k∈S3→kd w2 k∈docT:=fun k hk=>by
    rcases hS3 k hk with rfl | ⟨a,q⟩
    ·rw[(HD2.out.tx i hi).kinds.1];decide
    ·exact(HD2.out.jq _ (HGN.out a)).1.docs k q
   have HC3:=Lib.hid (HC2.out.doc hu3 hk3)
   have HD3:=Lib.hid hd3
   have HB3:=Lib.hid (HB2.out.trans (.of hu3 (fun k hk=>by
    rcases hS3 k hk with rfl | ⟨a,q⟩
    ·exact slBlk hi (.inr (.inr (.inl rfl)))
    ·exact rqBlk (HGN.out a) (HD2.out.jq _ (HGN.out a)).2 q)))
   clear hd3 hu3 hS3 hk3
   go_wp2_with fail
   go_ret
   exact⟨by first | rfl | simp,_,_,_,HC3.out,HD3.out,pu_commit HPU.out (by omega) hi,sameB_cS gs sl i D,HB3.out⟩
 as_aux_lemma=>
  obtain⟨x0,x2,x3⟩:=HCE.out w1 HOB.out
  have HCR:=Lib.hid (co_abort HC1.out HPU.out hi)
  have q1:((p:Int) == 1)=false:=by simpa using (by omega:(p:Int)≠1)
  have q2:((p:Int) == 2)=false:=by simpa using (by omega:(p:Int)≠2)
  have q3:((p:Int) == 3)=false:=by simpa using (by omega:(p:Int)≠3)
  have q4:((p:Int) == 4)=false:=by simpa using (by omega:(p:Int)≠4)
  go_wp2_with fail
  refine HCR.out.mono ?_
  rintro e w2 ⟨rfl,hc2,S2,hu2,hS2⟩
  have hk2:∀k,k∈S2→kd w1 k∈codeT:=fun k hk=>by
   rw[hS2 k hk,(HC1.out.tx i hi).lt.2.1];decide
  have HD2:=Lib.hid (HD1.out.code hu2 hk2)
  have HB2:=Lib.hid (HB1.out.trans (.of hu2 (fun k hk=>slBlk hi (.inl (hS2 k hk)))))
  obtain⟨⟨C,hC,hx⟩,hd3,hu3⟩:=do_over HD2.out HPU.out hi
  have st1:=storeW1 hx 3 (v:=.bool true) (by omega) rfl
  have HC3:=Lib.hid (CoAt.doc hc2 hu3 (fun k hk=>by rw[List.mem_singleton.1 hk,(HD2.out.tx i hi).kinds.1];decide))
  have HD3:=Lib.hid hd3
  have HB3:=Lib.hid (HB2.out.trans (.of hu3 (fun k hk=>slBlk hi (.inr (.inr (.inl (List.mem_singleton.1 hk)))))))
  clear hc2 hu2 hS2 hk2 x0 x2 x3 hC hx hd3 hu3
  go_wp2_with fail
  go_ret
  exact⟨rfl,D,gs,_,HC3.out,HD3.out,(pu_over HPU.out i).mono (by omega),sameB_over gs sl i,HB3.out⟩
end
theorem run_build_1(w:World):(Instr.buildSlice 34 1 #[(0,.int .u8 1)]).run Tryz.prog w=.ok (.slice (some ⟨w.heap.size,0,none⟩) 1 1) (w.alloc (.cells #[.int .u8 1] 5)):=by kernel_rfl
theorem run_build_2(w:World):(Instr.buildSlice 34 1 #[(0,.int .u8 2)]).run Tryz.prog w=.ok (.slice (some ⟨w.heap.size,0,none⟩) 1 1) (w.alloc (.cells #[.int .u8 2] 5)):=by kernel_rfl
theorem wrE_zero{M:Nat→Option Sec}{hm:Nat}{i:Nat}{n:Nat}(h0:i<hm)(h1:n=512)(h2:(M i).isSome=true∨cntM M hm<40):wrE M hm (i:Int) n=0:=by
 unfold wrE
 rw[if_neg (by omega),if_neg (by omega),if_neg]
 rintro⟨a,b⟩
 rw[Int.toNat_natCast] at a
 rcases h2 with q | q
 ·rw[a] at q;simp at q
 ·omega
theorem wrM_zero{M:Nat→Option Sec}{hm:Nat}{i:Nat}{b:List UInt8}(h:wrE M hm (i:Int) b.length=0):wrM M hm (i:Int) b=fun k=>if k=i then some b else M k:=by
 unfold wrM;rw[if_pos h,Int.toNat_natCast]
set_option maxRecDepth 100000 in
set_option maxHeartbeats 2000000 in
theorem begun7_spec(w:World):Calls Tryz.prog 27 #[] w fun e w'=>e=.returned (.bool true)∧Upd [] w w':=by
 have hb1:=run_build_1
 have hb2:=run_build_2
 have HN:=Lib.hid (made_hi 64 16 (by omega) (by omega) (by omega) (by omega) (by omega) w)
 go_enter Tryz.func27,Tryz.ntmps27
 go_wp2_with fail
 refine HN.out.mono ?_
 rintro e w1 ⟨j,rfl,hj,⟨J1,D1,hr1,_⟩,hu1⟩
 have HJ:=Lib.hid hj
 have HB:=Lib.hid (begin_hi hr1)
 have HR1:=Lib.hid hr1
 have HU1:=Lib.hid hu1
 clear hj hr1 hu1
 go_wp2_with fail
 refine HB.out.mono ?_
 rintro e w2 ⟨x,rfl,hx1,hx2,hx,hr2,hu2,hfx⟩
 have HFX:=Lib.hid hfx
 clear hfx
 have HNX:=Lib.hid (HR1.out.at_.late hx2)
 have HX2:=Lib.hid hx
 have HU2:=Lib.hid (HU1.out.lateJ hu2 HJ.out)
 have HB2:=Lib.hid (begin_hi hr2)
 have HR2:=Lib.hid hr2
 have HXL:Hid (w.heap.size≤x.tb∧w.heap.size≤x.wb):=⟨Nat.le_trans HU1.out.size hx1,Nat.le_trans HU1.out.size hx2⟩
 clear hx1 hx2 hx hr2 hu2
 go_wp2_with fail
 refine HB2.out.mono ?_
 rintro e w3 ⟨y,rfl,hy1,hy2,hy,hr3,hu3,hfy⟩
 have HFY:=Lib.hid hfy
 clear hfy
 have HNY:=Lib.hid (HR2.out.at_.late hy2)
 have HX3:=Lib.hid (HX2.out.jn HR2.out.at_ HNX.out hu3 (fun _ q=>q))
 have HY3:=Lib.hid hy
 have HU3:=Lib.hid (HU2.out.lateJ hu3 HJ.out)
 have HNE:Hid (y.wb≠x.wb):=by have:=HX2.out.lt.2;show _≠_;omega
 have HNT:Hid (y.tb≠x.tb):=by have:=HX2.out.lt.1;show _≠_;omega
 have HYL:Hid (w.heap.size≤y.tb∧w.heap.size≤y.wb):=⟨Nat.le_trans HU2.out.size hy1,Nat.le_trans HU2.out.size hy2⟩
 have HR3:=Lib.hid hr3
 clear hy1 hy2 hy hr3 hu3
 go_wp2_with fail
 refine(full_spec _ [1] _ (rd_row (blk_alloc _) rfl)).mono ?_
 rintro e w4 ⟨rfl,h4⟩
 have HU34:Hid (Upd [] w3 w4):=by show Upd _ _ _;rw[← h4];exact((Upd.refl _ _).alloc _).alloc _
 have hb4:w4.heap[w3.heap.size+1]?=some (.cells (bts (pad [1])).toArray 5 (0,0)):=by rw[← h4];exact blk_alloc2 _ _
 have HW4:=Lib.hid (write_hi (HR3.out.below HU34.out) (HX3.out.below HU34.out) HFX.out HNX.out (MOk.none _) 3 _ (pad [1]) (rd_row hb4 (pad_length _)) (by rw[pad_length];omega))
 have e4:wrE (fun _=>none) (64-2-16) 3 (pad [1]).length=0:=wrE_zero (i:=3) (by omega) (pad_length _) (.inr (by rw[cntM_none];omega))
 have e4':wrM (fun _=>none) (64-2-16) 3 (pad [1])=fun k=>if k=3 then some (pad [1]) else none:=wrM_zero (i:=3) e4
 have HE4:=Lib.hid e4
 have HM4:=Lib.hid e4'
 clear h4 hb4 e4 e4'
 go_wp2_with fail
 refine HW4.out.mono ?_
 rintro e w5 ⟨rfl,hx5,hr5,hu5⟩
 have HX5:=Lib.hid hx5
 have HR5:=Lib.hid hr5
 have HY5:=Lib.hid ((HY3.out.below HU34.out).other (HX3.out.below HU34.out) HNE.out hu5)
 have HU5:=Lib.hid ((HU3.out.trans HU34.out).late hu5 (fun q hq=>by simp at hq;subst hq;exact .inr HXL.out.2))
 rw[HE4.out]
 clear hx5 hr5 hu5
 go_wp2_with fail
 refine(full_spec _ [2] _ (rd_row (blk_alloc _) rfl)).mono ?_
 rintro e w6 ⟨rfl,h6⟩
 have HU56:Hid (Upd [] w5 w6):=by show Upd _ _ _;rw[← h6];exact((Upd.refl _ _).alloc _).alloc _
 have hb6:w6.heap[w5.heap.size+1]?=some (.cells (bts (pad [2])).toArray 5 (0,0)):=by rw[← h6];exact blk_alloc2 _ _
 have HW6:=Lib.hid (write_hi (HR5.out.below HU56.out) (HY5.out.below HU56.out) HFY.out HNY.out (MOk.none _) 3 _ (pad [2]) (rd_row hb6 (pad_length _)) (by rw[pad_length];omega))
 clear h6 hb6
 go_wp2_with fail
 refine HW6.out.mono ?_
 rintro e w7 ⟨rfl,hy7,hr7,hu7⟩
 have HX7:=Lib.hid ((HX5.out.below HU56.out).other (HY5.out.below HU56.out) (Ne.symm HNE.out) hu7)
 have HR7:=Lib.hid hr7
 have HY7:=Lib.hid hy7
 have HU7:=Lib.hid ((HU5.out.trans HU56.out).late hu7 (fun q hq=>by simp at hq;subst hq;exact .inr HYL.out.2))
 have hox:MOk (wrM (fun _=>none) (64-2-16) 3 (pad [1])) (64-2-16):=(MOk.none _).wr _ _
 have hcx:cntM (wrM (fun _=>none) (64-2-16) 3 (pad [1])) (64-2-16)=1:=by
  rw[HM4.out,cntM_put (MOk.none _) (by omega),cntM_none];rfl
 have HC:=Lib.hid (commit_hi HR7.out HX7.out HNX.out hox (by omega) (by omega) (by omega) (by omega) (by omega))
 have HCX:=Lib.hid hcx
 clear hy7 hr7 hu7 hox hcx
 go_wp2_with fail
 refine HC.out.mono ?_
 rintro e w8 ⟨rfl,hov8,⟨J8,D8,t8,hr8,ht8⟩,hu8⟩
 have HY8:=Lib.hid (HY7.out.over HX7.out.st HNT.out HR7.out.at_ HNY.out hu8 (fun k hk=>by simpa using hk))
 have HU8:=Lib.hid (HU7.out.late hu8 (fun q hq=>by
  have:=HXL.out;have:=HJ.out
  simp[JG.all] at hq
  obtain⟨k1,k2,k3,k4,k5⟩:=HJ.out
  rcases hq with rfl | rfl | rfl | rfl | rfl | rfl
  ·exact .inr HXL.out.1
  ·exact .inr k1
  ·exact .inr k2
  ·exact .inr k3
  ·exact .inr k4
  ·exact .inr k5))
 have hoy:MOk (wrM (fun _=>none) (64-2-16) 3 (pad [2])) (64-2-16):=(MOk.none _).wr _ _
 have HL:=Lib.hid (commit_late hr8 HY8.out HNY.out hoy (by omega) (by rw[ht8,HCX.out];decide))
 have HR8:=Lib.hid hr8
 clear hov8 hr8 ht8 hu8 hoy
 go_wp2_with fail
 refine HL.out.mono ?_
 rintro e w9 ⟨rfl,hov9,hr9,hu9⟩
 have HO9:=Lib.hid (commitT_over hov9)
 have HU9:=Lib.hid (HU8.out.late hu9 (fun q hq=>by
  obtain⟨k1,k2,k3,k4,k5⟩:=HJ.out
  simp[JG.all] at hq
  rcases hq with rfl | rfl | rfl | rfl | rfl | rfl
  ·exact .inr HYL.out.1
  ·exact .inr k1
  ·exact .inr k2
  ·exact .inr k3
  ·exact .inr k4
  ·exact .inr k5))
 clear hov9 hr9 hu9
 go_wp2_with fail
 refine HO9.out.mono ?_
 rintro e w10 ⟨rfl,n10,rfl⟩
 go_wp2_with fail
 go_ret
 exact⟨rfl,HU9.out.drewN _⟩
theorem live_lives{D:Dk}{J:Jn}(h:Live D J):J.lives=D.lives:=by
 have:=h.held.may
 unfold Jn.may at this
 split at this
 ·exact absurd this (by decide)
 ·omega
theorem fmt_lives{n ring:Nat}(h0:32≤n)(h1:n≤4096)(r0:8≤ring)(r1:ring≤1024)(r2:ring+10≤n):((Dk.new n).fmt ring).lives=0:=by
 obtain⟨a,_⟩:=fmt_live h0 h1 r0 r1 r2
 exact(live_lives a).symm
def Made7(w w':World)(g:DG)(jb ab:Nat)(J:Jn)(D:Dk):Prop:=
 JG.Late ⟨jb,ab,g,AnyF⟩ w∧JnAt w' AnyF ⟨jb,ab,g,AnyF⟩ J D∧OpenR ((Dk.new 72).fmt 20) D (some J) 0∧Live D J∧D.On∧D.n=72∧J.turn=1∧J.last.ring=20∧J.last.number≤2∧J.used=0∧Upd [] w w'
set_option maxRecDepth 100000 in
set_option maxHeartbeats 2000000 in
theorem made7_spec(w:World) :
  Calls Tryz.prog 28 #[.int .i64 72,.int .i64 20] w fun e w'=>∃(g:DG) (jb ab:Nat) (J:Jn) (D:Dk),e=.returned (.tuple #[.pointer (some ⟨g.db,0,none⟩),.pointer (some ⟨jb,0,none⟩)])∧Made7 w w' g jb ab J D:=by
 have HN:=Lib.hid (new_hi 72 (by omega) (by omega) w)
 go_enter Tryz.func28,Tryz.ntmps28
 go_wp2_with fail
 refine HN.out.mono ?_
 rintro e w1 ⟨g,rfl,hd1,hg1,hg2,hg3,hu1⟩
 have HG:Hid (g.Late w):=⟨hg1,hg2,hg3⟩
 have HF:=Lib.hid (fmt_ok hd1 ⟨rfl,rfl⟩ 20 (by omega) (by omega) (by show 20+10≤72;omega))
 have HU1:=Lib.hid hu1
 clear hd1 hg1 hg2 hg3 hu1
 go_wp2_with fail
 refine HF.out.mono ?_
 rintro e w2 ⟨rfl,hd2,hu2⟩
 obtain⟨a1,a2,a3,a4⟩:=fmt_live (n:=72) (ring:=20) (by omega) (by omega) (by omega) (by omega) (by omega)
 have HO:=Lib.hid (open_main hd2.any a1.held.calm.off)
 have HL:=Lib.hid (And.intro a1.held (And.intro a4 a3))
 have HU2:=Lib.hid (HU1.out.lateD hu2 HG.out)
 clear hd2 hu2 a1 a2 a3 a4
 go_wp2_with fail
 refine HO.out.mono ?_
 rintro e w3 ⟨D',r,err,ho,hat,hu3⟩
 rcases HL.out.1.open ⟨by show(1:Int)<_;omega,by show(1:Int)<_;omega⟩ ho with⟨rfl,J',rfl,q1,q2,q3,q4,q5,q6,q7,q8⟩ | ⟨_,_,q,_⟩
 ·obtain⟨jb,ab,rfl,hj1,hj2,hj3⟩:=hat
  have HM:Hid (Made7 w w3 g jb ab J' D'):=
   Lib.hid ⟨⟨Nat.le_trans HU2.out.size hj1,Nat.le_trans HU2.out.size hj2,HG.out⟩,hj3.any,ho,q1,⟨q1.held.calm.off,q8 HL.out.2.1⟩,q7.trans HL.out.2.2,q4,q5,by have:(Jn.fresh 20).last.number=1:=rfl;omega,q3,HU2.out.lateD hu3 HG.out⟩
  clear hj1 hj2 hj3 ho q1 q2 q3 q4 q5 q6 q7 q8 hu3
  go_wp2_with fail
  go_ret2
  exact⟨g,jb,ab,J',D',rfl,HM.out⟩
 ·exact absurd HL.out.2.1 q
structure St7(w:World)(g:DG)(jb ab:Nat)(q:QG)(J:Jn)(D:Dk)(B:Nat)(k:Nat)(sl:Nat→Sl):Prop where
 jn:JnAt w AnyF ⟨jb,ab,g,AnyF⟩ J D
 jq:RjmAt w q J D
 tx:∀i,i<k→(sl i).live=some (J.turn,fun _=>none)∧(sl i).gen=0∧TxAt w ⟨(sl i).tb,(sl i).wb,AnyF⟩ jb (J.turn-1) (fun _=>none)∧(sl i).wb∉(JG.mk jb ab g AnyF).all∧RtAt w (sl i).x q.jb J.turn (fun _=>none) 50 false∧(sl i).x.ob∉q.all∧B≤(sl i).tb∧B≤(sl i).wb∧B≤(sl i).x.tb∧B≤(sl i).x.ob
 nd:∀i l,i<k→l<k→i≠l→(sl i).tb≠(sl l).tb∧(sl i).wb≠(sl l).wb∧(sl i).x.tb≠(sl l).x.tb∧(sl i).x.ob≠(sl l).x.ob
def firstS(J:Jn)(tb wb:Nat)(x:XG):Sl:=⟨tb,wb,x,0,some (J.turn,fun _=>none)⟩
theorem jn_rq{w:World}{F:Nat→Prop}{j:JG}{q:QG}{J J2:Jn}{D D2:Dk}(h:JnAt w F j J D)(hq:RjmAt w q J2 D2){k:Nat}(h1:k∈j.all):k∉q.all:=fun h2=>code_doc _ (h.codes k h1) (hq.docs k h2)
theorem JnAt.far{w w':World}{F:Nat→Prop}{j:JG}{J:Jn}{D:Dk}(h:JnAt w F j J D){S:List Nat}(hu:Upd S w w')(hS:∀k,k∈S→kd w k∉codeT):JnAt w' F j J D:=by
 have hn:∀k,k∈j.all→k∉S:=fun k hk q=>hS k q (h.codes k hk)
 obtain⟨l1,l2⟩:=h.lt
 obtain⟨l3,l4,l5⟩:=h.disk.lt
 exact h.world (hu.block _ l1 (hn _ (by simp[JG.all]))) (hu.block _ l2 (hn _ (by simp[JG.all]))) (hu.block _ l3 (hn _ (by simp[JG.all]))) (hu.block _ l4 (hn _ (by simp[JG.all]))) (hu.block _ l5 (hn _ (by simp[JG.all])))
  (fun k c _ e=>hu.block _ (blk_lt e) (fun q=>by have:=hS k q;rw[kd_cells e] at this;exact this (by decide)))
theorem TxAt.far{w w':World}{t:TG}{jb:Nat}{T:Int}{M:Nat→Option Sec}(h:TxAt w t jb T M){S:List Nat}(hu:Upd S w w')(hS:∀k,k∈S→kd w k∉codeT):TxAt w' t jb T M:=
 h.upd hu (fun q=>by have:=hS _ q;rw[h.codes.1] at this;exact this (by decide)) (fun q=>by have:=hS _ q;rw[h.codes.2] at this;exact this (by decide)) (fun k c q e=>by have:=hS k q;rw[kd_cells e] at this;exact this (by decide))
theorem RtAt.far{w w':World}{x:XG}{jb:Nat}{T:Int}{M:Nat→Option Sec}{hm:Nat}{ov:Bool}(h:RtAt w x jb T M hm ov){S:List Nat}(hu:Upd S w w')(hS:∀k,k∈S→kd w k∉docT):RtAt w' x jb T M hm ov:=
 h.upd hu (fun q=>by have:=hS _ q;rw[h.kinds.1] at this;exact this (by decide)) (fun q=>by have:=hS _ q;rw[h.kinds.2] at this;exact this (by decide))
theorem RjmAt.far{w w':World}{q:QG}{J:Jn}{D:Dk}(h:RjmAt w q J D){S:List Nat}(hu:Upd S w w')(hS:∀k,k∈S→kd w k∉docT):RjmAt w' q J D:=h.upd hu (fun k hk z=>hS k z (h.docs k hk))
theorem St7.far{w w':World}{g:DG}{jb ab:Nat}{q:QG}{J:Jn}{D:Dk}{B k:Nat}{sl:Nat→Sl}(h:St7 w g jb ab q J D B k sl){S:List Nat}(hu:Upd S w w')(h1:∀k,k∈S→kd w k∉codeT)(h2:∀k,k∈S→kd w k∉docT):St7 w' g jb ab q J D B k sl:=
 ⟨h.jn.far hu h1,h.jq.far hu h2,fun i hi=>by
  obtain⟨a1,a2,a3,a4,a5,a6⟩:=h.tx i hi
  exact⟨a1,a2,a3.far hu h1,a4,a5.far hu h2,a6⟩,h.nd⟩
theorem St7.next{w w1 w2:World}{g:DG}{jb ab:Nat}{q:QG}{J:Jn}{D:Dk}{B k:Nat}{sl:Nat→Sl}(h:St7 w g jb ab q J D B k sl)(hB:B≤w.heap.size){tb wb:Nat}{x:XG}(h1:w.heap.size≤tb)(h2:w.heap.size≤wb)
  (ht:TxAt w1 ⟨tb,wb,AnyF⟩ jb (J.turn-1) (fun _=>none)) (hj:JnAt w1 AnyF ⟨jb,ab,g,AnyF⟩ J D) (hu1:Upd (JG.mk jb ab g AnyF).all w w1) (h3:w1.heap.size≤x.tb) (h4:w1.heap.size≤x.ob) (hr:RtAt w2 x q.jb J.turn (fun _=>none) 50 false) {S:List Nat} (hu2:Upd S w1 w2) (hS1:∀k,k∈S→kd w1 k∉codeT) (hS2:∀k,k∈S→kd w1 k∉docT) :
  St7 w2 g jb ab q J D B (k+1) (upF sl k (firstS J tb wb x)):=by
 have hs1:=hu1.size
 have hs2:=hu2.size
 have hq1:RjmAt w1 q J D:=h.jq.upd hu1 (fun b hb hq=>jn_rq h.jn h.jq hq hb)
 refine⟨hj.far hu2 hS1,hq1.far hu2 hS2,fun i hi=>?_,fun i l hi hl hne=>?_⟩
 ·by_cases e:i=k
  ·subst e
   rw[upF_same]
   refine⟨rfl,rfl,ht.far hu2 hS1,h.jn.late h2,hr,fun hq=>?_,?_,?_,?_,?_⟩
   ·have:=h.jq.lt _ hq
    have e1:(firstS J tb wb x).x.ob=x.ob:=rfl
    omega
   ·show B≤tb;omega
   ·show B≤wb;omega
   ·show B≤x.tb;omega
   ·show B≤x.ob;omega
  ·rw[upF_ne _ _ e]
   obtain⟨a1,a2,a3,a4,a5,a6,a7⟩:=h.tx i (by omega)
   have hx:=a5.kinds
   refine⟨a1,a2,(a3.jn h.jn a4 hu1 (fun _ z=>z)).far hu2 hS1,a4,(a5.upd hu1 (fun z=>?_) (fun z=>?_)).far hu2 hS2,a6,a7⟩
   ·have hk:=h.jn.codes _ z
    rw[hx.1] at hk;exact absurd hk (by decide)
   ·have hk:=h.jn.codes _ z
    rw[hx.2] at hk;exact absurd hk (by decide)
 ·have hold:∀i,i<k→(sl i).tb<w.heap.size∧(sl i).wb<w.heap.size∧(sl i).x.tb<w.heap.size∧(sl i).x.ob<w.heap.size:=fun i hi=>by
   obtain⟨_,_,a3,_,a5,_⟩:=h.tx i hi
   have e1:=a3.lt
   have e2:=a5.lt
   exact⟨e1.1,e1.2,e2.1,e2.2⟩
  have f1:(firstS J tb wb x).tb=tb:=rfl
  have f2:(firstS J tb wb x).wb=wb:=rfl
  have f3:(firstS J tb wb x).x=x:=rfl
  by_cases e:i=k
  ·subst e
   rw[upF_same,upF_ne _ _ (Ne.symm hne),f1,f2,f3]
   obtain⟨b1,b2,b3,b4⟩:=hold l (by omega)
   refine⟨?_,?_,?_,?_⟩<;>omega
  ·by_cases e2:l=k
   ·subst e2
    rw[upF_same,upF_ne _ _ e,f1,f2,f3]
    obtain⟨b1,b2,b3,b4⟩:=hold i (by omega)
    refine⟨?_,?_,?_,?_⟩<;>omega
   ·rw[upF_ne _ _ e,upF_ne _ _ e2]
    exact h.nd i l (by omega) (by omega) hne
theorem St7.co{w:World}{g:DG}{jb ab:Nat}{q:QG}{J:Jn}{D:Dk}{B:Nat}{sl:Nat→Sl}(h:St7 w g jb ab q J D B 3 sl):CoAt w AnyF g D 1 (fun _=>⟨jb,ab,q,J⟩) sl:=by
 refine⟨h.jn.disk,fun i hi=>h.jn,fun i k hi hk hne=>absurd (show i=k by omega) hne,fun i hi=>?_,fun i k hi hk hne=>⟨(h.nd i k hi hk hne).1,fun _ _=>(h.nd i k hi hk hne).2.1⟩⟩
 obtain⟨a1,a2,a3,a4,_⟩:=h.tx i hi
 unfold CoSl
 rw[a1]
 refine⟨by omega,a3,fun e=>a4 ?_,fun k hk e=>a4 ?_⟩
 ·rw[e];simp[JG.all]
 ·rw[e];simp[JG.all]
theorem St7.doc{w:World}{g:DG}{jb ab:Nat}{q:QG}{J:Jn}{D:Dk}{B:Nat}{sl:Nat→Sl}(h:St7 w g jb ab q J D B 3 sl):DoAt w q.r D 1 (fun _=>⟨jb,ab,q,J⟩) sl:=by
 refine⟨h.jq.disk,fun i hi=>⟨h.jq,rfl⟩,fun i k hi hk hne=>absurd (show i=k by omega) hne,fun i hi=>?_,fun i k hi hk hne=>(h.nd i k hi hk hne).2.2⟩
 obtain⟨a1,a2,_,_,a5,a6,_⟩:=h.tx i hi
 unfold DoSl
 rw[a1]
 refine⟨a5,fun e=>a6 ?_,fun e=>a6 ?_,fun k hk e=>a6 ?_⟩
 ·rw[e];simp[QG.all,RG.all]
 ·rw[e];simp[QG.all,RG.all]
 ·rw[e];simp[QG.all,QG.own]
theorem St7.pu{w:World}{g:DG}{jb ab:Nat}{q:QG}{J:Jn}{D:Dk}{B:Nat}{sl:Nat→Sl}(h:St7 w g jb ab q J D B 3 sl)(hL:Live D J)(hon:D.On)(hn:D.n=72)(h1:J.turn=1)(h2:J.last.ring=20)(h3:J.last.number≤2)(h4:J.used=0)(h5:D.lives=0):PuAt D 1 (fun _=>⟨jb,ab,q,J⟩) sl 5:=by
 refine⟨by omega,hL,hon,hn,fun i hi=>⟨held_hu hL.held,h2,by show J.last.number≤5;omega,by show J.turn≤5;omega,by show J.used≤5000;omega⟩,fun i hi=>by omega,by omega,fun i hi T M hl=>?_⟩
 obtain⟨a1,a2,_⟩:=h.tx i hi
 rw[a1] at hl
 cases hl
 exact⟨by omega,MOk.none _,by rw[cntM_none];omega⟩
theorem St7.blk{w:World}{g:DG}{jb ab:Nat}{q:QG}{J:Jn}{D:Dk}{B:Nat}{sl:Nat→Sl}(h:St7 w g jb ab q J D B 3 sl)(h1:∀k,k∈(JG.mk jb ab g AnyF).all→B≤k)(h2:∀k,k∈q.all→B≤k):∀k,Blk g q.r 1 (fun _=>⟨jb,ab,q,J⟩) sl k→B≤k:=fun k hk=>by
 rcases hk with a | a | ⟨i,hi,a⟩ | ⟨i,hi,a⟩
 ·exact h1 k (by simp only[List.mem_cons,List.not_mem_nil,or_false] at a;rcases a with a | a | a<;>rw[a]<;>simp[JG.all])
 ·exact h2 k (by simp[QG.all,a])
 ·rcases a with a | a | a
  ·rw[a];exact h1 _ (by simp[JG.all])
  ·rw[a];exact h1 _ (by simp[JG.all])
  ·exact h2 k (by simp[QG.all];exact .inl a)
 ·obtain⟨_,_,_,_,_,_,b1,b2,b3,b4⟩:=h.tx i hi
  rcases a with a | ⟨_,a⟩ | a | a<;>rw[a]<;>assumption
def arrT(sl:Nat→Sl)(k:Nat):Array Value:=#[if 0<k then .pointer (some ⟨(sl 0).tb,0,none⟩) else .pointer none,if 1<k then .pointer (some ⟨(sl 1).tb,0,none⟩) else .pointer none,if 2<k then .pointer (some ⟨(sl 2).tb,0,none⟩) else .pointer none]
def arrX(sl:Nat→Sl)(k:Nat):Array Value:=#[if 0<k then .pointer (some ⟨(sl 0).x.tb,0,none⟩) else .pointer none,if 1<k then .pointer (some ⟨(sl 1).x.tb,0,none⟩) else .pointer none,if 2<k then .pointer (some ⟨(sl 2).x.tb,0,none⟩) else .pointer none]
theorem three{P:Nat→Prop}(h0:P 0)(h1:P 1)(h2:P 2):∀k,k<3→P k
 | 0,_=>h0
 | 1,_=>h1
 | 2,_=>h2
 | _+3,h=>absurd h (by omega)
theorem arrT_set(sl:Nat→Sl)(s:Sl):∀k,k<3→(arrT sl k).setIfInBounds k (.pointer (some ⟨s.tb,0,none⟩))=arrT (upF sl k s) (k+1):=three (by rfl) (by rfl) (by rfl)
theorem arrX_set(sl:Nat→Sl)(s:Sl):∀k,k<3→(arrX sl k).setIfInBounds k (.pointer (some ⟨s.x.tb,0,none⟩))=arrX (upF sl k s) (k+1):=three (by rfl) (by rfl) (by rfl)
theorem arrT_put(sl:Nat→Sl)(s:Sl):∀k,k<3→(arrT sl 3).setIfInBounds k (.pointer (some ⟨s.tb,0,none⟩))=arrT (upF sl k s) 3:=three (by rfl) (by rfl) (by rfl)
theorem arrX_put(sl:Nat→Sl)(s:Sl):∀k,k<3→(arrX sl 3).setIfInBounds k (.pointer (some ⟨s.x.tb,0,none⟩))=arrX (upF sl k s) 3:=three (by rfl) (by rfl) (by rfl)
theorem arrT_get(sl:Nat→Sl):∀k,k<3→(arrT sl 3)[k]?=some (.pointer (some ⟨(sl k).tb,0,none⟩)):=three (by rfl) (by rfl) (by rfl)
theorem arrX_get(sl:Nat→Sl):∀k,k<3→(arrX sl 3)[k]?=some (.pointer (some ⟨(sl k).x.tb,0,none⟩)):=three (by rfl) (by rfl) (by rfl)
theorem arrT_old(sl:Nat→Sl):∀k,k<3→(arrT sl k)[k]?=some (.pointer none):=three (by rfl) (by rfl) (by rfl)
theorem arrX_old(sl:Nat→Sl):∀k,k<3→(arrX sl k)[k]?=some (.pointer none):=three (by rfl) (by rfl) (by rfl)
theorem arrT_same{gs gs':Nat→Gn}{sl sl':Nat→Sl}(h:SameB gs gs' sl sl'):arrT sl' 3=arrT sl 3:=by unfold arrT;rw[(h.2 0).1,(h.2 1).1,(h.2 2).1]
theorem arrX_same{gs gs':Nat→Gn}{sl sl':Nat→Sl}(h:SameB gs gs' sl sl'):arrX sl' 3=arrX sl 3:=by unfold arrX;rw[(h.2 0).2.1,(h.2 1).2.1,(h.2 2).2.1]
end Go.Proofs.YtplppdbdfhkljaaGreat
end
section
namespace Go.Proofs.YtplppdbdfhkljaaGreat
open Go.ChangeShapes Go.WideShapes Go.ChangeAt Go.RowKit Go.Deep
section
structure Op7 where
 K:Int
 T:Int
 I:Int
 V:Value
 B:List UInt8
def OpIn7(w:World)(v:Value)(l:List Op7):Prop:=
 ∃ao cap,v=.slice ao l.length cap∧l.length≤cap∧(0<l.length→∃b off,ao=some ⟨b,off,none⟩∧∀i (h:i<l.length),w.cell? ⟨b,off+i*4,none⟩=some (.int .i64 l[i].K)∧w.cell? ⟨b,off+i*4+1,none⟩=some (.int .i64 l[i].T)∧w.cell? ⟨b,off+i*4+2,none⟩=some (.int .i64 l[i].I)∧w.cell? ⟨b,off+i*4+3,none⟩=some l[i].V∧Rd w l[i].V l[i].B)
def Agree(w w':World):Prop:=∀k,k<w.heap.size→w'.heap[k]?=w.heap[k]?
theorem Agree.cell{w w':World}(h:Agree w w'){a:Addr}{u:Value}(c:w.cell? a=some u):w'.cell? a=some u:=by
 rw[World.cell?_of_block (w:=w) (h _ (block_lt_of_cell c))];exact c
theorem Agree.rd{w w':World}(h:Agree w w'){v:Value}{l:List UInt8}(hr:Rd w v l):Rd w' v l:=by
 obtain⟨ao,cap,e,hc,hh⟩:=hr
 refine⟨ao,cap,e,hc,fun hp=>?_⟩
 obtain⟨b,off,e2,hcell⟩:=hh hp
 exact⟨b,off,e2,fun i hi=>h.cell (hcell i hi)⟩
section
variable {H:Type} {enc:TypeId × Value→H} {W:World}
set_option maxRecDepth 100000 in
theorem rdT_ops7{fuel:Nat}{v:Value}{x:DataW H × List MemPlace}(h:DataW.trod enc Tryz.prog W 0 (fun _=>true) true fuel 70 [v]=some x):∃l:List Op7,OpIn7 W v l:=by
 have hce:Tryz.prog.cellsOf 86=4:=by kernel_rfl
 have hci:Tryz.prog.cellsOf 3=1:=by kernel_rfl
 have hcb:Tryz.prog.cellsOf 34=1:=by kernel_rfl
 rcases open_slice Tryz.underlying70 h with⟨e,_⟩ | ⟨a,len,cap,m,n,D,Pl,e,_,hl,_,hm,_,hx⟩
 ·cases e;exact⟨[],none,0,rfl,Nat.le_refl _,fun q=>by simp at q⟩
 ·cases e
  simp only[if_true] at hm
  subst hm
  rw[hce] at hx
  by_cases hp:0<len
  ·have cells:∀i,i<len→∃u0 u1 u2 u3,W.cell? (a.add (i*4))=some u0∧W.cell? ((a.add (i*4)).add 1)=some u1∧W.cell? ((a.add (i*4)).add 2)=some u2∧W.cell? ((a.add (i*4)).add 3)=some u3∧DataW.trod enc Tryz.prog W 0 (fun _=>true) true n 86 [u0,u1,u2,u3]=some (D i,Pl i):=by
    intro i hi
    obtain⟨cs,c1,c2⟩:=hx i (by omega)
    obtain⟨_,hlen,hc⟩:=World.cells?_some c1
    match cs,hlen,hc,c2 with
    | [u0,u1,u2,u3],_,hc,c2=>
     refine⟨u0,u1,u2,u3,?_,by simpa using hc 1 (by omega),by simpa using hc 2 (by omega),by simpa using hc 3 (by omega),c2⟩
     have:=hc 0 (by omega)
     rw[show(a.add (i*4)).add 0=a.add (i*4) from by unfold Addr.add;split<;>simp_all] at this
     simpa using this
   have hsp:a.spot=none:=by
    obtain⟨u0,_,_,_,c0,_⟩:=cells 0 hp
    have:=World.cell?_spot c0
    cases a;simpa [Addr.add] using this
   obtain⟨b,off,spot⟩:=a
   simp at hsp;subst hsp
   obtain⟨l,hlen,hl2⟩:=list_of (p:=fun i (c:Op7)=>W.cell? ⟨b,off+i*4,none⟩=some (.int .i64 c.K)∧W.cell? ⟨b,off+i*4+1,none⟩=some (.int .i64 c.T)∧W.cell? ⟨b,off+i*4+2,none⟩=some (.int .i64 c.I)∧W.cell? ⟨b,off+i*4+3,none⟩=some c.V∧Rd W c.V c.B) len (fun i hi=>by
    obtain⟨u0,u1,u2,u3,c0,c1,c2,c3,ht⟩:=cells i hi
    obtain⟨xs,n',_,_,_,hln,hf⟩:=DataW.trod_struct Tryz.underlying86 ht
    match xs,hln,hf with
    | [y0,y1,y2,y3],_,hf=>
     have t0':DataW.trod enc Tryz.prog W 0 (fun _=>true) true n' 3 [u0]=some y0:=by simpa [hci] using hf 0 _ rfl
     have t1':DataW.trod enc Tryz.prog W 0 (fun _=>true) true n' 3 [u1]=some y1:=by simpa [hci] using hf 1 _ rfl
     have t2':DataW.trod enc Tryz.prog W 0 (fun _=>true) true n' 3 [u2]=some y2:=by simpa [hci] using hf 2 _ rfl
     have t3':DataW.trod enc Tryz.prog W 0 (fun _=>true) true n' 34 [u3]=some y3:=by simpa [hcb] using hf 3 _ rfl
     obtain⟨k0,e0,_,_⟩:=DataW.trod_int Tryz.underlying3 t0'
     obtain⟨k1,e1,_,_⟩:=DataW.trod_int Tryz.underlying3 t1'
     obtain⟨k2,e2,_,_⟩:=DataW.trod_int Tryz.underlying3 t2'
     obtain⟨B,hB⟩:=rdT_bytes t3'
     cases e0;cases e1;cases e2
     rw[addr_add] at c0 c1 c2 c3
     rw[addr_add] at c1 c2 c3
     exact⟨⟨k0,k1,k2,u3,B⟩,c0,c1,c2,c3,hB⟩)
   exact⟨l,_,m,by rw[hlen],by omega,fun _=>⟨b,off,rfl,hl2⟩⟩
  ·obtain rfl:len=0:=by omega
   exact⟨[],some a,m,rfl,by simp,fun q=>by simp at q⟩
set_option maxRecDepth 100000 in
theorem rd_ops7{r:Reach}{b0:Nat}{v:Value}{d:DataW H}{ps:List MemPlace}(hval:Value.okWide Tryz.prog W r b0 70 v)(hd:DataW.Trod enc Tryz.prog W 0 (fun _=>true) true 70 v d ps):∃l:List Op7,OpIn7 W v l:=by
 obtain⟨fuel,h⟩:=slice_cells Tryz.underlying70 hval hd
 exact rdT_ops7 h
end
end
end Go.Proofs.YtplppdbdfhkljaaGreat
end
section
set_option linter.unusedSimpArgs false
set_option linter.unusedVariables false
namespace Go.Proofs.YtplppdbdfhkljaaGreat
open Go.RowKit Go.MapKept Go.ChangeMaps
structure All7(w wr:World)(g:DG)(r:RG)(ta xa:Nat)(D:Dk)(n:Nat)(gs:Nat→Gn)(sl:Nat→Sl)(K:Int):Prop where
 co:CoAt wr AnyF g D n gs sl
 dd:DoAt wr r D n gs sl
 pu:PuAt D n gs sl K
 lo:∀k,Blk g r n gs sl k→w.heap.size≤k
 at_:wr.heap[ta]?=some (.cells (arrT sl 3) 80 (0,0))
 ax:wr.heap[xa]?=some (.cells (arrX sl 3) 82 (0,0))
 hi:w.heap.size≤ta∧w.heap.size≤xa
 up:Upd [] w wr
theorem All7.below{w wr w':World}{g:DG}{r:RG}{ta xa:Nat}{D:Dk}{n:Nat}{gs:Nat→Gn}{sl:Nat→Sl}{K:Int}(h:All7 w wr g r ta xa D n gs sl K)(hu:Upd [] wr w'):All7 w w' g r ta xa D n gs sl K:=
 ⟨h.co.below hu,h.dd.below hu,h.pu,h.lo,(hu.block _ (blk_lt h.at_) (by simp)).trans h.at_,(hu.block _ (blk_lt h.ax) (by simp)).trans h.ax,h.hi,h.up.trans hu⟩
theorem All7.more{w wr:World}{g:DG}{r:RG}{ta xa:Nat}{D:Dk}{n:Nat}{gs:Nat→Gn}{sl:Nat→Sl}{K K':Int}(h:All7 w wr g r ta xa D n gs sl K)(hK:K≤K'):All7 w wr g r ta xa D n gs sl K':=
 ⟨h.co,h.dd,h.pu.mono hK,h.lo,h.at_,h.ax,h.hi,h.up⟩
theorem arr_kd:some 80∉codeT∧some 80∉docT∧some 82∉codeT∧some 82∉docT:=⟨by decide,by decide,by decide,by decide⟩
theorem All7.did{w wr w':World}{g:DG}{r:RG}{ta xa:Nat}{D:Dk}{n:Nat}{gs:Nat→Gn}{sl:Nat→Sl}{K:Int}(h:All7 w wr g r ta xa D n gs sl K)(hd:Do7 wr g r n gs sl K w') :
  ∃D' gs' sl',All7 w w' g r ta xa D' n gs' sl' (K+1)∧(∀i,(gs' i).jb=(gs i).jb∧(gs' i).q=(gs i).q):=by
 obtain⟨D',gs',sl',c,d,p,s,u⟩:=hd
 obtain⟨a1,a2,a3,a4⟩:=arr_kd
 have n1:¬Blk g r n gs sl ta:=fun q=>by
  have:=(blk_kd h.co h.dd q).2.2
  rw[kd_cells h.at_] at this
  exact this.elim a1 a2
 have n2:¬Blk g r n gs sl xa:=fun q=>by
  have:=(blk_kd h.co h.dd q).2.2
  rw[kd_cells h.ax] at this
  exact this.elim a3 a4
 refine⟨D',gs',sl',⟨c,d,p,fun k hk=>h.lo k (s.blk hk),?_,?_,h.hi,?_⟩,fun i=>⟨(s.1 i).1,(s.1 i).2.2⟩⟩
 ·rw[u.keep (blk_lt h.at_) n1,arrT_same s];exact h.at_
 ·rw[u.keep (blk_lt h.ax) n2,arrX_same s];exact h.ax
 ·obtain⟨S,h1,h2⟩:=u
  exact h.up.late h1 fun k hk=>(h2 k hk).elim (fun q=> .inr (h.lo k q)) (fun q=> .inr (Nat.le_trans h.up.size q))
theorem CoAt.far{w w':World}{F:Nat→Prop}{g:DG}{D:Dk}{n:Nat}{gs:Nat→Gn}{sl:Nat→Sl}(h:CoAt w F g D n gs sl){S:List Nat}(hu:Upd S w w')(hS:∀k,k∈S→kd w k∉codeT):CoAt w' F g D n gs sl:=
 h.world (fun k hk hc _=>hu.block k hk fun q=>hS k q hc) fun k c _ e=>hu.block k (blk_lt e) fun q=>by
  have:=hS k q
  rw[kd_cells e] at this
  exact this (by decide)
theorem All7.begun{w wr:World}{g:DG}{r:RG}{ta xa:Nat}{D:Dk}{n:Nat}{gs:Nat→Gn}{sl:Nat→Sl}{K:Int}(h:All7 w wr g r ta xa D n gs sl K){i:Nat}(hi:i<3){w1 w2:World}{tb wb:Nat}{x:XG}
  (h1:wr.heap.size≤tb) (h2:wr.heap.size≤wb) (ht:TxAt w1 ⟨tb,wb,AnyF⟩ (gs (n-1)).jb ((gs (n-1)).J.turn-1) (fun _=>none)) (hc1:CoAt w1 AnyF g D n gs sl) (hu1:Upd ((gs (n-1)).j g).all wr w1)
  (h3:w1.heap.size≤x.tb) (h4:w1.heap.size≤x.ob) (hx:RtAt w2 x (gs (n-1)).q.jb (gs (n-1)).J.turn (fun _=>none) 50 false) (hu2:Upd [] w1 w2) :
  w2.heap[ta]?=some (.cells (arrT sl 3) 80 (0,0))∧w2.heap[xa]?=some (.cells (arrX sl 3) 82 (0,0))∧ta≠xa∧
  All7 w ((w2.setCell ⟨ta,i,none⟩ (.pointer (some ⟨tb,0,none⟩))).setCell ⟨xa,i,none⟩ (.pointer (some ⟨x.tb,0,none⟩))) g r ta xa D n gs (upF sl i (newS gs n tb wb x)) K:=by
 obtain⟨a1,a2,a3,a4⟩:=arr_kd
 have hy:n-1<n:=by have:=h.pu.pos;omega
 have hj:=h.co.jn _ hy
 have hne:ta≠xa:=fun e=>by
  have e1:=kd_cells h.at_
  rw[e,kd_cells h.ax] at e1
  exact absurd e1 (by decide)
 have t1:w1.heap[ta]?=_:=(hu1.block _ (blk_lt h.at_) (fun q=>by have:=hj.codes _ q;rw[kd_cells h.at_] at this;exact a1 this)).trans h.at_
 have x1:w1.heap[xa]?=_:=(hu1.block _ (blk_lt h.ax) (fun q=>by have:=hj.codes _ q;rw[kd_cells h.ax] at this;exact a3 this)).trans h.ax
 have t2:w2.heap[ta]?=_:=(hu2.block _ (blk_lt t1) (by simp)).trans t1
 have x2:w2.heap[xa]?=_:=(hu2.block _ (blk_lt x1) (by simp)).trans x1
 have hd1:DoAt w1 r D n gs sl:=h.dd.code hu1 (fun k hk=>hj.codes k hk)
 have hc2:=hc1.below hu2
 have hd2:=hd1.below hu2
 have hs1:=hu1.size
 have hs2:=hu2.size
 have co2:=co_new h.co hc2 h.pu (x:=x) h1 h2 (ht.below hu2) i
 have do2:=do_new (tb:=tb) (wb:=wb) hd1 hd2 h3 h4 hx i
 have hu3:Upd [ta] w2 (w2.setCell ⟨ta,i,none⟩ (.pointer (some ⟨tb,0,none⟩))):=(Upd.refl _ _).set _ (.inl (by simp))
 have t3:=blk_set t2 i (.pointer (some ⟨tb,0,none⟩))
 have x3:=(hu3.block _ (blk_lt x2) (by simpa using Ne.symm hne)).trans x2
 have hu4:Upd [xa] (w2.setCell ⟨ta,i,none⟩ (.pointer (some ⟨tb,0,none⟩))) ((w2.setCell ⟨ta,i,none⟩ (.pointer (some ⟨tb,0,none⟩))).setCell ⟨xa,i,none⟩ (.pointer (some ⟨x.tb,0,none⟩))):=(Upd.refl _ _).set _ (.inl (by simp))
 have x4:=blk_set x3 i (.pointer (some ⟨x.tb,0,none⟩))
 have t4:=(hu4.block _ (blk_lt t3) (by simpa using hne)).trans t3
 refine⟨t2,x2,hne,⟨(co2.far hu3 ?_).far hu4 ?_,(do2.world hu3 ?_).world hu4 ?_,pu_new h.pu i tb wb x,fun k hk=>?_,?_,?_,h.hi,?_⟩⟩
 ·intro k hk;rw[List.mem_singleton.1 hk,kd_cells t2];exact a1
 ·intro k hk;rw[List.mem_singleton.1 hk,kd_cells x3];exact a3
 ·intro k hk;rw[List.mem_singleton.1 hk,kd_cells t2];exact a2
 ·intro k hk;rw[List.mem_singleton.1 hk,kd_cells x3];exact a4
 ·have hup:=h.up.size
  rcases hk with q | q | q | ⟨l,hl,q⟩
  ·exact h.lo k (.inl q)
  ·exact h.lo k (.inr (.inl q))
  ·exact h.lo k (.inr (.inr (.inl q)))
  ·by_cases e:l=i
   ·subst e
    rw[upF_same] at q
    rcases q with q | ⟨_,q⟩ | q | q
    ·have e1:(newS gs n tb wb x).tb=tb:=rfl
     omega
    ·have e1:(newS gs n tb wb x).wb=wb:=rfl
     omega
    ·have e1:(newS gs n tb wb x).x.tb=x.tb:=rfl
     omega
    ·have e1:(newS gs n tb wb x).x.ob=x.ob:=rfl
     omega
   ·rw[upF_ne _ _ e] at q
    exact h.lo k (slBlk hl q)
 ·rw[← arrT_put sl (newS gs n tb wb x) i hi];exact t4
 ·rw[← arrX_put sl (newS gs n tb wb x) i hi];exact x4
 ·have hh:=h.hi
  have hup:=h.up.size
  exact((((h.up.late hu1 fun k hk=> .inr (h.lo k (jnBlk hy hk))).trans hu2).late hu3 fun k hk=> .inr (by rw[List.mem_singleton.1 hk];exact hh.1)).late hu4 fun k hk=> .inr (by rw[List.mem_singleton.1 hk];exact hh.2))
end Go.Proofs.YtplppdbdfhkljaaGreat
end
