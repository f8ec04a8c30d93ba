/-
  The document's transaction in memory: Begin, Touched, Read, Write. (Written by tools/put/rtA.py.)
-/
import Derived.Test.YtplppdbdfhkljaaGreatA18
set_option maxRecDepth 100000
set_option maxHeartbeats 16000000
section
set_option linter.unusedSimpArgs false
set_option linter.unusedVariables false
namespace Go.Proofs.YtplppdbdfhkljaaGreat
open Go.RowKit Go.MapKept Go.ChangeMaps
section
attribute [-go_sem] loadCells storeCells Instr.build Instr.buildSlice run_string_add_if run_slice_l run_slice_h run_slice_string run_slice_string_h run_slice_string_l
structure XG where
 tb:Nat
 ob:Nat
def ownL(M:Nat→Option Sec)(h:Nat):List Value:=(List.range h).map fun i=>wtV (M i)
theorem ownL_length(M:Nat→Option Sec)(h:Nat):(ownL M h).length=h:=by unfold ownL;rw[List.length_map,List.length_range]
theorem ownL_get{M:Nat→Option Sec}{h i:Nat}(hi:i<h):(ownL M h)[i]?=some (wtV (M i)):=by unfold ownL;rw[List.getElem?_map,List.getElem?_range hi];rfl
theorem ownL_set{M:Nat→Option Sec}{h i:Nat}{s:Sec}(hi:i<h):(ownL M h).set i (strV s)=ownL (fun k=>if k=i then some s else M k) h:=by
 apply List.ext_getElem?
 intro k
 rw[List.getElem?_set,ownL_length]
 by_cases e:i=k
 ·subst e
  rw[if_pos rfl,if_pos hi,ownL_get hi]
  simp[wtV]
 ·rw[if_neg e]
  by_cases hk:k<h
  ·rw[ownL_get hk,ownL_get hk]
   simp[Ne.symm e]
  ·rw[List.getElem?_eq_none (by rw[ownL_length];omega),List.getElem?_eq_none (by rw[ownL_length];omega)]
structure RtAt(w:World)(x:XG)(jb:Nat)(T:Int)(M:Nat→Option Sec)(hm:Nat)(ov:Bool):Prop where
 st:w.heap[x.tb]?=some (.cells #[.pointer (some ⟨jb,0,none⟩),.int .u64 T,.slice (some ⟨x.ob,0,none⟩) hm hm,.bool ov] 154 (0,0))
 own:StrBl w x.ob (ownL M hm)
 hm1:hm≤5000
theorem RtAt.upd{w w':World}{x:XG}{jb:Nat}{T:Int}{M:Nat→Option Sec}{hm:Nat}{ov:Bool}(h:RtAt w x jb T M hm ov){S:List Nat}(hu:Upd S w w')(h0:x.tb∉S)(h1:x.ob∉S):RtAt w' x jb T M hm ov:=
 ⟨(hu.block _ (blk_lt h.st) h0).trans h.st,h.own.upd hu h1,h.hm1⟩
theorem RtAt.below{w w':World}{x:XG}{jb:Nat}{T:Int}{M:Nat→Option Sec}{hm:Nat}{ov:Bool}(h:RtAt w x jb T M hm ov)(hu:Upd [] w w'):RtAt w' x jb T M hm ov:=h.upd hu (by simp) (by simp)
theorem RtAt.lt{w:World}{x:XG}{jb:Nat}{T:Int}{M:Nat→Option Sec}{hm:Nat}{ov:Bool}(h:RtAt w x jb T M hm ov):x.tb<w.heap.size∧x.ob<w.heap.size:=⟨blk_lt h.st,h.own.lt⟩
theorem RtAt.ne{w:World}{x:XG}{jb:Nat}{T:Int}{M:Nat→Option Sec}{hm:Nat}{ov:Bool}(h:RtAt w x jb T M hm ov):x.tb≠x.ob:=by
 intro e
 obtain⟨r,hr⟩:=h.own
 have:=h.st
 rw[e,hr] at this
 simp at this
theorem RtAt.cells{w:World}{x:XG}{jb:Nat}{T:Int}{M:Nat→Option Sec}{hm:Nat}{ov:Bool}(h:RtAt w x jb T M hm ov):w.cell? ⟨x.tb,0,none⟩=some (.pointer (some ⟨jb,0,none⟩))∧w.cell? ⟨x.tb,1,none⟩=some (.int .u64 T)∧w.cell? ⟨x.tb,2,none⟩=some (.slice (some ⟨x.ob,0,none⟩) hm hm)∧w.cell? ⟨x.tb,3,none⟩=some (.bool ov):=by
 have h0:=h.st
 exact⟨by rw[blk_cell h0];rfl,by rw[blk_cell h0];rfl,by rw[blk_cell h0];rfl,by rw[blk_cell h0];rfl⟩
theorem run_make_str(n:Nat)(hn:n≤100000)(w:World):(Instr.makeSlice 139 (.int .i64 (n:Int)) (.int .i64 (n:Int))).run Tryz.prog w =
  .ok (.slice (some ⟨w.heap.size,0,none⟩) n n) (w.alloc (.cells (List.replicate n (Value.string ⟨#[]⟩)).toArray 9)):=by
 obtain⟨i0,hi,hz0,hz1,hz2⟩:=info_parts infoS9
 have:=run_make (P:=Tryz.prog) w 139 9 i0 (.string ⟨#[]⟩) Tryz.underlying139 hi hz0 .i64 .i64 n n (by omega) (by omega) (by rw[hz2];omega) (by omega)
 rw[this,hz1]
 simp only[Int.toNat_natCast,Nat.mul_one]
 rw[madeCells_one (.string ⟨#[]⟩) rfl n]
theorem build_rt(jb:Nat)(T:Int)(b n c:Nat)(w:World):(Instr.build 154 #[(0,.pointer (some ⟨jb,0,none⟩)),(1,.int .u64 T),(2,.slice (some ⟨b,0,none⟩) n c)]).run Tryz.prog w =
  .ok (.agg #[.pointer (some ⟨jb,0,none⟩),.int .u64 T,.slice (some ⟨b,0,none⟩) n c,.bool false]) w:=run_build w _ _ _ (by kernel_rfl)
theorem ownL_none(h:Nat):ownL (fun _=>none) h=List.replicate h (.string ⟨#[]⟩):=by
 unfold ownL;rw[show(fun(i:Nat)=>wtV ((fun _=>none:Nat→Option Sec) i))=fun _=>Value.string ⟨#[]⟩ from rfl,List.map_const',List.length_range]
set_option maxRecDepth 100000 in
set_option maxHeartbeats 4000000 in
theorem rbegin_spec{w:World}{q:QG}{J:Jn}{D:Dk}(h:RjmAt w q J D)(hm:J.may D=0)(hh:J.homes D.n≤5000) :
  Calls Tryz.prog 32 #[.pointer (some ⟨q.jb,0,none⟩)] w fun e w'=>∃x:XG,e=.returned (.tuple #[.pointer (some ⟨x.tb,0,none⟩),.int .i64 0])∧w.heap.size≤x.tb∧w.heap.size≤x.ob∧RtAt w' x q.jb J.turn (fun _=>none) (J.homes D.n) false∧Upd [] w w':=by
 have HO:=Lib.hid (rover_spec h)
 rw[show decide (J.may D≠0)=false by simp[hm]] at HO
 have HH:=Lib.hid h
 have HHM:=Lib.hid hh
 clear h hm hh
 go_enter Tryz.func32,Tryz.ntmps32
 go_wp2_with fail
 refine HO.out.mono ?_
 rintro e w1 ⟨rfl,hu1⟩
 have HU1:=Lib.hid hu1
 obtain⟨hom,hhom⟩:∃h,h=J.homes D.n:=⟨_,rfl⟩
 have HC:Hid (∀w',Upd [] w1 w'→w'.cell? ⟨q.jb,3,none⟩=some (.int .u64 J.turn)∧w'.cell? ⟨q.jb,5,none⟩=some (.int .i64 (hom:Int))):=by
  show ∀w',_
  intro w' hu
  obtain⟨_,_,_,x3,_,x5,_⟩:=((HH.out.below hu1).below hu).cells
  rw[hhom]
  exact⟨x3,x5⟩
 have hmk:=run_make_str hom (by rw[hhom];have:=HHM.out;omega)
 obtain⟨Z,hZ⟩:∃Z,Z=(List.replicate hom (Value.string ⟨#[]⟩)).toArray:=⟨_,rfl⟩
 rw[← hZ] at hmk
 have HZ:=Lib.hid hZ
 have HHO:=Lib.hid hhom
 clear hu1 hhom hZ
 go_wp2_with fail
 refine wp_region_xL (fun w'=>Upd [] w1 w') [] (by kernel_rfl) (by simp only[List.size_toArray,List.length_cons,List.length_nil,Nat.reduceAdd];exact rfl) (by simp only[List.replicate_succ,List.replicate_zero];exact rfl) (Upd.refl _ _).drew (fun hHeld=>?_)
 generalize w1.drew=w0 at hHeld ⊢
 refine takeL (i:=0) (v:=?_) rfl rfl (by kernel_rfl) (fun _ _ _ h=>h) hHeld (Or.inl ⟨by kernel_rfl,?_⟩) (by dsimp only[List.set_cons_succ,List.set_cons_zero]) (by dsimp only[List.set_cons_succ,List.set_cons_zero]) ?_
 rotate_left
 ·(intro w hSw;go_simp<;>with_reducible rfl)
 refine takeL (i:=1) (v:=?_) rfl rfl (by kernel_rfl) (fun _ _ _ h=>h) hHeld (Or.inl ⟨by kernel_rfl,?_⟩) (by dsimp only[List.set_cons_succ,List.set_cons_zero]) (by dsimp only[List.set_cons_succ,List.set_cons_zero]) ?_
 rotate_left
 ·(intro w hSw;go_simp<;>with_reducible rfl)
 refine takeL (i:=2) (v:=?_) rfl rfl (by kernel_rfl) (fun _ _ _ h=>h) hHeld (Or.inl ⟨by kernel_rfl,?_⟩) (by dsimp only[List.set_cons_succ,List.set_cons_zero]) (by dsimp only[List.set_cons_succ,List.set_cons_zero]) ?_
 rotate_left
 ·(intro w hSw;go_simp<;>with_reducible rfl)
 refine takeL (i:=3) (v:=?_) rfl rfl (by kernel_rfl) (fun _ _ _ h=>h) hHeld (Or.inl ⟨by kernel_rfl,?_⟩) (by dsimp only[List.set_cons_succ,List.set_cons_zero]) (by dsimp only[List.set_cons_succ,List.set_cons_zero]) ?_
 rotate_left
 ·(intro w hSw;go_simp<;>with_reducible rfl)
 refine takeL (i:=5) (v:=?_) rfl rfl (by kernel_rfl) (fun _ _ _ h=>h) hHeld (Or.inl ⟨by kernel_rfl,?_⟩) (by dsimp only[List.set_cons_succ,List.set_cons_zero]) (by dsimp only[List.set_cons_succ,List.set_cons_zero]) ?_
 rotate_left
 ·(intro w hSw;go_simp<;>with_reducible rfl)
 refine takeL (i:=6) (v:=?_) rfl rfl (by kernel_rfl) (fun _ _ _ h=>h) hHeld (Or.inl ⟨by kernel_rfl,?_⟩) (by dsimp only[List.set_cons_succ,List.set_cons_zero]) (by dsimp only[List.set_cons_succ,List.set_cons_zero]) ?_
 rotate_left
 ·(intro w hSw;go_simp<;>with_reducible rfl)
 refine takeL (i:=7) (v:=?_) rfl rfl (by kernel_rfl) (fun _ _ _ h=>h) hHeld (Or.inl ⟨by kernel_rfl,?_⟩) (by dsimp only[List.set_cons_succ,List.set_cons_zero]) (by dsimp only[List.set_cons_succ,List.set_cons_zero]) ?_
 rotate_left
 ·(intro w hSw;go_simp<;>with_reducible rfl)
 refine takeL (i:=4) (v:=?_) rfl rfl (by kernel_rfl) (fun _ _ _ h=>h) hHeld (Or.inl ⟨by kernel_rfl,?_⟩) (by dsimp only[List.set_cons_succ,List.set_cons_zero]) (by dsimp only[List.set_cons_succ,List.set_cons_zero]) ?_
 rotate_left
 ·(intro w hSw;obtain⟨x3,x5⟩:=HC.out _ hSw;go_simp<;>with_reducible rfl)
 refine takeL (i:=8) (v:=?_) rfl rfl (by kernel_rfl) (fun _ _ _ h=>h) hHeld (Or.inl ⟨by kernel_rfl,?_⟩) (by dsimp only[List.set_cons_succ,List.set_cons_zero]) (by dsimp only[List.set_cons_succ,List.set_cons_zero]) ?_
 rotate_left
 ·(intro w hSw;obtain⟨x3,x5⟩:=HC.out _ hSw;go_simp<;>with_reducible rfl)
 have hmk0:=hmk w0
 clear hmk
 refine wpAnyX_ready (rs:=[9]) (by kernel_rfl) (by simp) (AllReadyX.one rfl (fun K hK=>?_))
 go_simp
 refine hK.out _ _ (fun _=>hHeld.alloc _) ?_
 clear hK K hmk0
 try simp only[Act.put,List.getElem_toArray,List.getElem_cons_zero,List.getElem_cons_succ,List.setIfInBounds_toArray,List.set_cons_zero,List.set_cons_succ]
 have HB:Hid ((w0.alloc (.cells Z 9)).heap[w0.heap.size]?=some (.cells Z 9 (0,0))):=Lib.hid (blk_alloc _)
 have HS0:Hid (w1.heap.size≤w0.heap.size):=Lib.hid hHeld.size
 replace hHeld:=hHeld.alloc (.cells Z 9)
 generalize w0.alloc (.cells Z 9)=w2 at HB hHeld ⊢
 obtain⟨ob,hob⟩:∃b,b=w0.heap.size:=⟨_,rfl⟩
 rw[← hob] at HB HS0 ⊢
 clear hob
 refine takeL (i:=10) (v:=?_) rfl rfl (by kernel_rfl) (fun _ _ _ h=>h) hHeld (Or.inl ⟨by kernel_rfl,?_⟩) (by dsimp only[List.set_cons_succ,List.set_cons_zero]) (by dsimp only[List.set_cons_succ,List.set_cons_zero]) ?_
 rotate_left
 ·(intro w hSw;have hb:=build_rt q.jb J.turn ob hom hom;go_simp<;>with_reducible rfl)
 refine wpAnyX_ready (rs:=[11]) (by kernel_rfl) (by simp) (AllReadyX.one rfl (fun K hK=>?_))
 go_simp
 refine hK.out _ _ (fun _=>hHeld.alloc _) ?_
 clear hK K
 try simp only[Act.put,List.getElem_toArray,List.getElem_cons_zero,List.getElem_cons_succ,List.setIfInBounds_toArray,List.set_cons_zero,List.set_cons_succ]
 refine takeL (i:=12) (v:=?_) rfl rfl (by kernel_rfl) (fun _ _ _ h=>h) (hHeld.alloc _) (Or.inl ⟨by kernel_rfl,?_⟩) (by dsimp only[List.set_cons_succ,List.set_cons_zero]) (by dsimp only[List.set_cons_succ,List.set_cons_zero]) ?_
 rotate_left
 ·(intro w hSw;go_simp<;>with_reducible rfl)
 refine takeL (i:=13) (v:=?_) rfl rfl (by kernel_rfl) (fun _ _ _ h=>h) (hHeld.alloc _) (Or.inl ⟨by kernel_rfl,?_⟩) (by dsimp only[List.set_cons_succ,List.set_cons_zero]) (by dsimp only[List.set_cons_succ,List.set_cons_zero]) ?_
 rotate_left
 ·(intro w hSw;go_simp<;>with_reducible rfl)
 refine wpAnyX_done (by kernel_rfl) ?_ _
 have HU2:=Lib.hid (HU1.out.trans (hHeld.alloc (.cells #[.pointer (some ⟨q.jb,0,none⟩),.int .u64 J.turn,.slice (some ⟨ob,0,none⟩) hom hom,.bool false] 154)))
 have HB2:Hid ((w2.alloc (.cells #[.pointer (some ⟨q.jb,0,none⟩),.int .u64 J.turn,.slice (some ⟨ob,0,none⟩) hom hom,.bool false] 154)).heap[ob]?=some (.cells Z 9 (0,0))):=Lib.hid ((blk_alloc_ne (blk_lt HB.out)).trans HB.out)
 have HT2:Hid ((w2.alloc (.cells #[.pointer (some ⟨q.jb,0,none⟩),.int .u64 J.turn,.slice (some ⟨ob,0,none⟩) hom hom,.bool false] 154)).heap[w2.heap.size]?=some (.cells #[.pointer (some ⟨q.jb,0,none⟩),.int .u64 J.turn,.slice (some ⟨ob,0,none⟩) hom hom,.bool false] 154 (0,0))):=Lib.hid (blk_alloc _)
 have HSZ:Hid (w.heap.size≤w2.heap.size∧w.heap.size≤ob):=Lib.hid ⟨Nat.le_trans HU1.out.size hHeld.size,Nat.le_trans HU1.out.size HS0.out⟩
 clear hHeld
 go_wp2_with fail
 go_ret2
 refine⟨⟨w2.heap.size,ob⟩,rfl,HSZ.out.1,HSZ.out.2,⟨?_,⟨[],?_⟩,by rw[← HHO.out];have:=HHM.out;rw[← HHO.out] at this;exact this⟩,HU2.out⟩
 ·rw[← HHO.out];exact HT2.out
 ·rw[← HHO.out,ownL_none,List.append_nil,← HZ.out];exact HB2.out
theorem cntM_succ(M:Nat→Option Sec)(k:Nat):cntM M (k+1)=cntM M k+(if(M k).isSome then 1 else 0):=by
 unfold cntM keysM
 rw[List.range_succ,List.filter_append,List.length_append]
 by_cases h:(M k).isSome=true
 ·simp[h]
 ·simp[h]
theorem wtV_ne{o:Option Sec}(h:∀s,o=some s→s.length=512):∃u:ByteArray,wtV o=.string u∧u.toList.isEmpty = !o.isSome:=by
 cases o with
 | none=>exact⟨str [],rfl,by rw[str_toList];rfl⟩
 | some s=>exact⟨str s,rfl,by rw[str_full (h s rfl)];rfl⟩
set_option maxRecDepth 100000 in
set_option maxHeartbeats 4000000 in
theorem rtouched_spec{w:World}{x:XG}{jb:Nat}{T:Int}{M:Nat→Option Sec}{hm:Nat}{ov:Bool}(h:RtAt w x jb T M hm ov)(ho:MOk M hm) :
  Calls Tryz.prog 37 #[.pointer (some ⟨x.tb,0,none⟩)] w fun e w'=>e=.returned (.int .i64 (if ov then 0 else(cntM M hm:Int)))∧w=w':=by
 obtain⟨_,_,c2,c3⟩:=h.cells
 have HH:=Lib.hid h
 have HMO:=Lib.hid ho
 have hm5:=h.hm1
 have hm0:(0:Int)≤(hm:Int):=by omega
 clear h ho
 go_enter Tryz.func37,Tryz.ntmps37
 go_wp2_with fail
 cases ov with
 | true=>
  go_loop [3,4] (fun c i=>c=.int .i64 0∧i=.int .i64 0) (fun _ _=>0)
  case atStart=>exact⟨rfl,rfl⟩
  case round=>
   obtain⟨rfl,rfl⟩:=hrel
   rcases Nat.eq_zero_or_pos hm with h0 | h0
   ·have e1:decide ((0:Int)<(hm:Int))=false:=decide_eq_false (by omega)
    have e2:decide (0<hm)=false:=decide_eq_false (by omega)
    clear h0
    go_wp2_with fail
    go_ret
    exact⟨rfl,rfl⟩
   ·have e1:decide ((0:Int)<(hm:Int))=true:=decide_eq_true (by omega)
    have e2:decide (0<hm)=true:=decide_eq_true h0
    go_wp2_with fail
    go_ret
    exact⟨rfl,rfl⟩
 | false=>
  go_loop [3,4] (fun c i=>∃k:Nat,k≤hm∧i=.int .i64 (k:Int)∧c=.int .i64 ((cntM M k:Nat):Int)) (fun _ i=>hm-(intOf i).toNat)
  case atStart=>exact⟨0,by omega,rfl,rfl⟩
  case round=>
   obtain⟨k,hk,rfl,rfl⟩:=hrel
   rcases Nat.lt_or_ge k hm with hlt | hge
   ·have e1:decide ((k:Int)<(hm:Int))=true:=decide_eq_true (by omega)
    have e2:decide (k<hm)=true:=decide_eq_true hlt
    have i0:(0:Int)≤(k:Int):=by omega
    have i1:(k:Int)<(hm:Int):=by omega
    obtain⟨u,hu1,hu2⟩:=wtV_ne (o:=M k) (fun s hs=>(HMO.out k s hs).2)
    have co:=HH.out.own.cell (ownL_get (M:=M) hlt)
    rw[hu1] at co
    have hcl:=cntM_le M k
    have HS:=Lib.hid (cntM_succ M k)
    cases hs:(M k).isSome with
    | true=>
     rw[hs] at hu2
     have hu2':u.toList.isEmpty=false:=hu2
     rw[hs] at HS
     clear hs hu1
     go_wp2_with fail
     go_round
     case rel=>exact⟨k+1,by omega,by go_num,by rw[HS.out];go_num⟩
     case measure=>simp[intOf];omega
    | false=>
     rw[hs] at hu2
     have hu2':u.toList.isEmpty=true:=hu2
     rw[hs] at HS
     clear hs hu1
     go_wp2_with fail
     go_round
     case rel=>exact⟨k+1,by omega,by go_num,by rw[HS.out];go_num⟩
     case measure=>simp[intOf];omega
   ·obtain rfl:k=hm:=by omega
    have e1:decide ((k:Int)<(k:Int))=false:=by simp
    have e2:decide (k<k)=false:=by simp
    go_wp2_with fail
    go_ret
    exact⟨rfl,rfl⟩
end
section
attribute [-go_sem] loadCells storeCells Instr.build Instr.buildSlice run_string_add_if run_slice_l run_slice_h run_slice_string run_slice_string_h run_slice_string_l
set_option maxRecDepth 100000 in
set_option maxHeartbeats 4000000 in
theorem rtread_over{w:World}{x:XG}{jb:Nat}{T:Int}{M:Nat→Option Sec}{hm:Nat}(h:RtAt w x jb T M hm true)(i:Int) :
  Calls Tryz.prog 90 #[.pointer (some ⟨x.tb,0,none⟩),.int .i64 i] w fun e w'=>e=.returned (.tuple #[.string (str []),.int .i64 5])∧w=w':=by
 obtain⟨_,_,_,c3⟩:=h.cells
 clear h
 go_enter Tryz.func90,Tryz.ntmps90
 go_wp2_with fail
 go_ret2
 exact⟨rfl,rfl⟩
set_option maxRecDepth 100000 in
set_option maxHeartbeats 4000000 in
theorem rtread_spec{w:World}{x:XG}{q:QG}{J:Jn}{D:Dk}{T:Int}{M:Nat→Option Sec}{hm:Nat}(h:RtAt w x q.jb T M hm false)(hj:RjmAt w q J D)(ho:MOk M hm)(i:Int) :
  Calls Tryz.prog 90 #[.pointer (some ⟨x.tb,0,none⟩),.int .i64 i] w fun e w'=>e=.returned (.tuple #[strV (readTx J D M i).1,.int .i64 (readTx J D M i).2.1])∧Upd [] w w':=by
 obtain⟨c0,_,c2,c3⟩:=h.cells
 have HH:=Lib.hid h
 have HMO:=Lib.hid ho
 have HJ:=Lib.hid (rjread_spec hj i)
 clear h ho hj
 rcases Int.lt_or_le i 0 with hneg | hpos
 ·have e1:decide (i<0)=true:=decide_eq_true hneg
  have e2:decide (0≤i)=false:=decide_eq_false (by omega)
  have HR:Hid (readTx J D M i=J.read D i):=by show _=_;unfold readTx;rw[if_neg (by omega)]
  clear hneg
  go_enter Tryz.func90,Tryz.ntmps90
  go_wp2_with fail
  refine HJ.out.mono ?_
  rintro e w1 ⟨rfl,hu1⟩
  have HU:=Lib.hid hu1
  clear hu1
  go_wp2_with fail
  go_ret2
  exact⟨by rw[HR.out];rfl,HU.out⟩
 obtain⟨k,rfl⟩:=Int.eq_ofNat_of_zero_le hpos
 have e2:decide (0≤(k:Int))=true:=decide_eq_true (by omega)
 have e3:decide ((k:Int)<0)=false:=by simp
 rcases Nat.lt_or_ge k hm with hlt | hge
 ·have f1:decide ((k:Int)<(hm:Int))=true:=decide_eq_true (by omega)
  have f2:decide (k<hm)=true:=decide_eq_true hlt
  have i0:(0:Int)≤(k:Int):=by omega
  have i1:(k:Int)<(hm:Int):=by omega
  obtain⟨u,hu1,hu2⟩:=wtV_ne (o:=M k) (fun s hs=>(HMO.out k s hs).2)
  have co:=HH.out.own.cell (ownL_get (M:=M) hlt)
  rw[hu1] at co
  cases hs:M k with
  | some s=>
   have hu2':u.toList.isEmpty=false:=by rw[hu2,hs];rfl
   have HR:Hid (Value.string u=strV (readTx J D M (k:Int)).1∧(readTx J D M (k:Int)).2.1=0):=by
    show _∧_
    have e:readTx J D M (k:Int)=(s,0,J.done):=by
     unfold readTx
     rw[Int.toNat_natCast,if_pos ⟨by omega,by rw[hs];rfl⟩,hs];rfl
    rw[e,← hu1,hs]
    exact⟨rfl,rfl⟩
   clear hu1 hu2 hs
   go_enter Tryz.func90,Tryz.ntmps90
   go_wp2_with fail
   go_ret2
   exact⟨by rw[HR.out.1,HR.out.2];rfl,Upd.refl _ _⟩
  | none=>
   have hu2':u.toList.isEmpty=true:=by rw[hu2,hs];rfl
   have HR:Hid (readTx J D M (k:Int)=J.read D (k:Int)):=by show _=_;unfold readTx;rw[Int.toNat_natCast,if_neg (by rw[hs];simp)]
   clear hu1 hu2 hs
   go_enter Tryz.func90,Tryz.ntmps90
   go_wp2_with fail
   refine HJ.out.mono ?_
   rintro e w1 ⟨rfl,hu1⟩
   have HU:=Lib.hid hu1
   clear hu1
   go_wp2_with fail
   go_ret2
   exact⟨by rw[HR.out];rfl,HU.out⟩
 ·have f1:decide ((k:Int)<(hm:Int))=false:=decide_eq_false (by omega)
  have f2:decide (k<hm)=false:=decide_eq_false (by omega)
  have HR:Hid (readTx J D M (k:Int)=J.read D (k:Int)):=by
   show _=_
   unfold readTx
   rw[Int.toNat_natCast,if_neg]
   rintro⟨_,hs⟩
   obtain⟨s,hs⟩:=Option.isSome_iff_exists.1 hs
   have:=(HMO.out k s hs).1
   omega
  clear hge
  go_enter Tryz.func90,Tryz.ntmps90
  go_wp2_with fail
  refine HJ.out.mono ?_
  rintro e w1 ⟨rfl,hu1⟩
  have HU:=Lib.hid hu1
  clear hu1
  go_wp2_with fail
  go_ret2
  exact⟨by rw[HR.out];rfl,HU.out⟩
set_option maxRecDepth 100000 in
set_option maxHeartbeats 4000000 in
theorem rtwrite_over{w:World}{x:XG}{jb:Nat}{T:Int}{M:Nat→Option Sec}{hm:Nat}(h:RtAt w x jb T M hm true)(i:Int)(u:ByteArray) :
  Calls Tryz.prog 88 #[.pointer (some ⟨x.tb,0,none⟩),.int .i64 i,.string u] w fun e w'=>e=.returned (.int .i64 5)∧w=w':=by
 obtain⟨_,_,_,c3⟩:=h.cells
 clear h
 go_enter Tryz.func88,Tryz.ntmps88
 go_wp2_with fail
 go_ret
 exact⟨rfl,rfl⟩
set_option maxRecDepth 100000 in
set_option maxHeartbeats 4000000 in
theorem rtwrite_spec{w:World}{x:XG}{jb:Nat}{T:Int}{M:Nat→Option Sec}{hm:Nat}(h:RtAt w x jb T M hm false)(ho:MOk M hm)(i:Int)(b:List UInt8) :
  Calls Tryz.prog 88 #[.pointer (some ⟨x.tb,0,none⟩),.int .i64 i,.string (str b)] w fun e w'=>e=.returned (.int .i64 (wrE M hm i b.length))∧RtAt w' x jb T (wrM M hm i b) hm false∧Upd [x.ob] w w':=by
 obtain⟨c0,_,c2,c3⟩:=h.cells
 have HH:=Lib.hid h
 have HMO:=Lib.hid ho
 have HTC:=Lib.hid (rtouched_spec h ho)
 have hsz:=str_size b
 obtain⟨v,hv⟩:∃v,v=str b:=⟨_,rfl⟩
 rw[← hv] at hsz ⊢
 have HV:=Lib.hid hv
 have hbad:∀E,wrE M hm i b.length=E→E≠0→RtAt w x jb T (wrM M hm i b) hm false:=fun E e1 e2=>by
  unfold wrM
  rw[if_neg (by rw[e1];exact e2)];exact HH.out
 have HBAD:=Lib.hid hbad
 have hm5:=h.hm1
 clear h ho hv hbad
 rcases Int.lt_or_le i 0 with hneg | hpos
 ·have e1:decide (i<0)=true:=decide_eq_true hneg
  have HE:Hid (wrE M hm i b.length=1):=by show _=_;unfold wrE;rw[if_pos (.inl hneg)]
  clear hneg
  go_enter Tryz.func88,Tryz.ntmps88
  go_wp2_with fail
  go_ret
  exact⟨by rw[HE.out];rfl,HBAD.out 1 HE.out (by decide),Upd.refl _ _⟩
 obtain⟨k,rfl⟩:=Int.eq_ofNat_of_zero_le hpos
 have e1:decide ((k:Int)<0)=false:=by simp
 rcases Nat.lt_or_ge k hm with hlt | hge
 rotate_left
 ·have f1:decide ((hm:Int)≤(k:Int))=true:=decide_eq_true (by omega)
  have f2:decide (hm≤k)=true:=decide_eq_true hge
  have HE:Hid (wrE M hm (k:Int) b.length=1):=by show _=_;unfold wrE;rw[if_pos (.inr (by omega))]
  clear hge
  go_enter Tryz.func88,Tryz.ntmps88
  go_wp2_with fail
  go_ret
  exact⟨by rw[HE.out];rfl,HBAD.out 1 HE.out (by decide),Upd.refl _ _⟩
 have f1:decide ((hm:Int)≤(k:Int))=false:=decide_eq_false (by omega)
 have f2:decide (hm≤k)=false:=decide_eq_false (by omega)
 have i0:(0:Int)≤(k:Int):=by omega
 have i1:(k:Int)<(hm:Int):=by omega
 by_cases hb:b.length=512
 rotate_left
 ·have d5:((v.size:Int) != 512)=true:=by rw[hsz];simp;omega
  have d6:(v.size != 512)=true:=by rw[hsz];simpa using hb
  have HE:Hid (wrE M hm (k:Int) b.length=9):=by show _=_;unfold wrE;rw[if_neg (by omega),if_pos hb]
  clear hb hsz
  go_enter Tryz.func88,Tryz.ntmps88
  go_wp2_with fail
  go_ret
  exact⟨by rw[HE.out];rfl,HBAD.out 9 HE.out (by decide),Upd.refl _ _⟩
 have hs1:v.size=512:=by rw[hsz,hb]
 clear hsz
 obtain⟨u,hu1,hu2⟩:=wtV_ne (o:=M k) (fun s hs=>(HMO.out k s hs).2)
 have co:=HH.out.own.cell (ownL_get (M:=M) hlt)
 rw[hu1] at co
 have HLT:=Lib.hid hlt
 have hgo:wrE M hm (k:Int) b.length=0→RtAt (w.setCell ⟨x.ob,k,none⟩ (.string v)) x jb T (wrM M hm (k:Int) b) hm false∧Upd [x.ob] w (w.setCell ⟨x.ob,k,none⟩ (.string v)):=fun e0=>by
  have hu:Upd [x.ob] w (w.setCell ⟨x.ob,k,none⟩ (.string v)):=(Upd.refl _ _).set _ (.inl (by simp))
  refine⟨⟨(hu.block _ (blk_lt HH.out.st) (by simpa using HH.out.ne)).trans HH.out.st,?_,HH.out.hm1⟩,hu⟩
  have e:wrM M hm (k:Int) b=fun j=>if j=k then some b else M j:=by unfold wrM;rw[if_pos e0,Int.toNat_natCast]
  rw[e,← ownL_set HLT.out,HV.out]
  exact HH.out.own.set (by rw[ownL_length];exact HLT.out) _
 have HGO:=Lib.hid hgo
 have st1:(storeCells ⟨x.ob,k,none⟩ [.string v] 0).run Tryz.prog w=.ok () (w.setCell ⟨x.ob,k,none⟩ (.string v)):=by
  obtain⟨r,hr⟩:=HH.out.own
  exact storeW1 hr k (by have:=ownL_length M hm;simp;omega) rfl
 cases hs:M k with
 | some s=>
  have hu2':u.toList.isEmpty=false:=by rw[hu2,hs];rfl
  have HE:Hid (wrE M hm (k:Int) b.length=0):=by show _=_;unfold wrE;rw[if_neg (by omega),if_neg (by simpa using hb),Int.toNat_natCast,if_neg (by rw[hs];simp)]
  clear hu1 hu2 hs hgo hlt hb
  go_enter Tryz.func88,Tryz.ntmps88
  go_wp2_with fail
  go_ret
  exact⟨by rw[HE.out];rfl,HGO.out HE.out⟩
 | none=>
  have hu2':u.toList.isEmpty=true:=by rw[hu2,hs];rfl
  obtain⟨c,hc⟩:∃c,c=cntM M hm:=⟨_,rfl⟩
  have HTC2:Hid (Calls Tryz.prog 37 #[.pointer (some ⟨x.tb,0,none⟩)] w fun e w'=>e=.returned (.int .i64 (c:Int))∧w=w'):=by
   have:=HTC.out
   rw[if_neg (by simp),← hc] at this
   exact Lib.hid this
  by_cases h40:40≤c
  ·have g1:decide (40≤(c:Int))=true:=decide_eq_true (by omega)
   have g2:decide (40≤c)=true:=decide_eq_true h40
   have HE:Hid (wrE M hm (k:Int) b.length=2):=by show _=_;unfold wrE;rw[if_neg (by omega),if_neg (by simpa using hb),Int.toNat_natCast,if_pos ⟨hs,by rw[← hc];exact h40⟩]
   clear hu1 hu2 hs hgo hlt hb h40 hc
   go_enter Tryz.func88,Tryz.ntmps88
   go_wp2_with fail
   refine HTC2.out.mono ?_
   rintro e w1 ⟨rfl,rfl⟩
   go_wp2_with fail
   go_ret
   exact⟨by rw[HE.out];rfl,HBAD.out 2 HE.out (by decide),Upd.refl _ _⟩
  ·have g1:decide (40≤(c:Int))=false:=decide_eq_false (by omega)
   have g2:decide (40≤c)=false:=decide_eq_false h40
   have HE:Hid (wrE M hm (k:Int) b.length=0):=by show _=_;unfold wrE;rw[if_neg (by omega),if_neg (by simpa using hb),Int.toNat_natCast,if_neg (fun q=>h40 (by rw[hc];exact q.2))]
   clear hu1 hu2 hs hgo hlt hb h40 hc
   go_enter Tryz.func88,Tryz.ntmps88
   go_wp2_with fail
   refine HTC2.out.mono ?_
   rintro e w1 ⟨rfl,rfl⟩
   go_wp2_with fail
   go_ret
   exact⟨by rw[HE.out];rfl,HGO.out HE.out⟩
end
end Go.Proofs.YtplppdbdfhkljaaGreat
end
