/-
  The document's transaction: Commit. (Written by tools/put/rtC.py.)
-/
import Derived.Test.YtplppdbdfhkljaaGreatA19
import Derived.Test.YtplppdbdfhkljaaGreatA20
import Derived.Lib.BufferRead
set_option maxRecDepth 100000
set_option maxHeartbeats 16000000
section
set_option linter.unusedSimpArgs false
set_option linter.unusedVariables false
namespace Go.Proofs.YtplppdbdfhkljaaGreat
open Go.RowKit Go.MapKept Go.ChangeMaps
section
attribute [-go_sem] loadCells storeCells Instr.build Instr.buildSlice run_string_add_if run_slice_l run_slice_h run_slice_string run_slice_string_h run_slice_string_l
theorem txL_some{M:Nat→Option Sec}{k:Nat}{s:Sec}(h:M k=some s):txL M (k+1)=txL M k ++ [((k:Int),s)]:=by
 unfold txL keysM
 rw[List.range_succ,List.filter_append,List.map_append]
 simp[h]
theorem txL_no{M:Nat→Option Sec}{k:Nat}(h:M k=none):txL M (k+1)=txL M k:=by
 unfold txL keysM
 rw[List.range_succ,List.filter_append,List.map_append]
 simp[h]
theorem txL_good{M:Nat→Option Sec}{hm:Nat}(ho:MOk M hm)(h40:cntM M hm≤40):PutsGood hm (txL M hm):=by
 refine⟨fun p hp=>?_,?_,by rw[txL_length];omega⟩
 ·unfold txL at hp
  obtain⟨i,hi,rfl⟩:=List.mem_map.1 hp
  obtain⟨s,hs⟩:=Option.isSome_iff_exists.1 ((mem_keysM ho).1 hi)
  obtain⟨a,b⟩:=ho i s hs
  refine⟨by show(0:Int)≤(i:Int);omega,by show(i:Int)<(hm:Int);omega,?_⟩
  show((M i).getD []).length=512
  rw[hs];exact b
 ·unfold txL
  rw[List.map_map]
  have hf:((fun p:Put=>p.1) ∘ fun(i:Nat)=>(((i:Int),(M i).getD []):Put))=fun(i:Nat)=>(i:Int):=rfl
  rw[hf]
  have:=keysM_nodup M hm
  rw[List.nodup_iff_pairwise_ne] at this ⊢
  rw[List.pairwise_map]
  exact this.imp (fun h e=>h (by omega))
theorem PutsT.hi{w:World}{B:Nat}{v:Value}{l:List Put}(h:PutsT w B v l):PutsHi w B v l:=by
 obtain⟨ps,h1,h2,h3⟩:=h
 refine⟨ps,h1,h2,fun k p hp=>?_⟩
 obtain⟨q,a,b,⟨bb,off,n,c,C,fr,e1,e2,e3,e4⟩⟩:=h3 k p hp
 refine⟨q,a,b,e4,fun b' off' n' c' e=>?_⟩
 rw[e1] at e
 cases e
 exact e2
set_option maxRecDepth 100000 in
set_option maxHeartbeats 4000000 in
theorem rtcommit_over{w:World}{x:XG}{jb:Nat}{T:Int}{M:Nat→Option Sec}{hm:Nat}(h:RtAt w x jb T M hm true) :
  Calls Tryz.prog 91 #[.pointer (some ⟨x.tb,0,none⟩)] w fun e w'=>e=.returned (.int .i64 5)∧w=w':=by
 obtain⟨_,_,_,c3⟩:=h.cells
 clear h
 go_enter Tryz.func91,Tryz.ntmps91
 go_wp2_with fail
 go_ret
 exact⟨rfl,rfl⟩
set_option maxRecDepth 100000 in
set_option maxHeartbeats 8000000 in
theorem rtcommit_spec{w:World}{x:XG}{q:QG}{J:Jn}{D:Dk}{T:Int}{M:Nat→Option Sec}{hm:Nat}(h:RtAt w x q.jb T M hm false)(hj:RjmAt w q J D)(ho:MOk M hm)(hh:J.homes D.n=hm)(h40:cntM M hm≤40)(hx1:x.tb∉q.all)(hx2:x.ob∉q.all)
  (hnum:J.last.number<4611686018427387000) (htn:J.turn<4611686018427387000) (hu:J.used=0↔J.keys D.n=[]) :
  Calls Tryz.prog 91 #[.pointer (some ⟨x.tb,0,none⟩)] w fun e w'=>e=.returned (.int .i64 (J.txD D (T-1) (txL M hm)).2)∧RtAt w' x q.jb T M hm true∧RjmAt w' q (J.txJ D (T-1) (txL M hm)) (J.txD D (T-1) (txL M hm)).1∧Upd (x.tb :: q.all) w w':=by
 obtain⟨c0,c1,c2,c3⟩:=h.cells
 have HH:=Lib.hid h
 have HJ:=Lib.hid hj
 have HMO:=Lib.hid ho
 have HX:=Lib.hid (And.intro hx1 hx2)
 have HLIM:=Lib.hid (And.intro hnum (And.intro htn (And.intro hu (And.intro hh h40))))
 have hm5:=h.hm1
 have st1:=storeW1 h.st 3 (v:=.bool true) (by simp) rfl
 obtain⟨w1,hw1⟩:∃w1,w1=w.setCell ⟨x.tb,3,none⟩ (.bool true):=⟨_,rfl⟩
 have hu1:Upd [x.tb] w w1:=by rw[hw1];exact(Upd.refl _ _).set _ (.inl (by simp))
 have hR1:RtAt w1 x q.jb T M hm true:=by
  refine⟨?_,h.own.upd hu1 (by simpa using Ne.symm h.ne),h.hm1⟩
  rw[hw1]
  exact blk_set h.st 3 (.bool true)
 have hJ1:RjmAt w1 q J D:=hj.upd hu1 (fun k hk=>by simp;rintro rfl;exact hx1 hk)
 have HS1:Hid (w1.heap.size=w.heap.size):=Lib.hid (by rw[hw1];simp)
 rw[← hw1] at st1
 have HU1:=Lib.hid hu1
 have HR1:=Lib.hid hR1
 have HJ1:=Lib.hid hJ1
 clear h hj ho hx1 hx2 hnum htn hu hh h40 hw1 hu1 hR1 hJ1 c0 c1 c2
 go_enter Tryz.func91,Tryz.ntmps91
 go_wp2_with fail
 clear c3 st1
 have HC:Hid (∀w',Upd [] w1 w'→w'.cell? ⟨x.tb,0,none⟩=some (.pointer (some ⟨q.jb,0,none⟩))∧w'.cell? ⟨x.tb,1,none⟩=some (.int .u64 T)∧w'.cell? ⟨q.jb,3,none⟩=some (.int .u64 J.turn)):=by
  show ∀w',_
  intro w' hu
  obtain⟨a0,a1,_⟩:=(HR1.out.below hu).cells
  obtain⟨_,_,_,b3,_⟩:=(HJ1.out.below hu).cells
  exact⟨a0,a1,b3⟩
 obtain⟨bt,hbt⟩:∃b,b=(J.turn != T):=⟨_,rfl⟩
 have HBT:=Lib.hid hbt
 clear hbt
 refine wp_region_xL (fun w'=>Upd [] w1 w') [] (by kernel_rfl) (by simp only[List.size_toArray,List.length_cons,List.length_nil,Nat.reduceAdd];exact rfl) (by simp only[List.replicate_succ,List.replicate_zero];exact rfl) (Upd.refl _ _).drew (fun hHeld=>?_)
 generalize w1.drew=w0 at hHeld ⊢
 refine takeL (i:=0) (v:=?_) rfl rfl (by kernel_rfl) (fun _ _ _ h=>h) hHeld (Or.inl ⟨by kernel_rfl,?_⟩) (by dsimp only[List.set_cons_succ,List.set_cons_zero]) (by dsimp only[List.set_cons_succ,List.set_cons_zero]) ?_
 rotate_left
 ·(intro w hSw;go_simp<;>with_reducible rfl)
 refine takeL (i:=1) (v:=?_) rfl rfl (by kernel_rfl) (fun _ _ _ h=>h) hHeld (Or.inl ⟨by kernel_rfl,?_⟩) (by dsimp only[List.set_cons_succ,List.set_cons_zero]) (by dsimp only[List.set_cons_succ,List.set_cons_zero]) ?_
 rotate_left
 ·(intro w hSw;go_simp<;>with_reducible rfl)
 refine takeL (i:=2) (v:=?_) rfl rfl (by kernel_rfl) (fun _ _ _ h=>h) hHeld (Or.inl ⟨by kernel_rfl,?_⟩) (by dsimp only[List.set_cons_succ,List.set_cons_zero]) (by dsimp only[List.set_cons_succ,List.set_cons_zero]) ?_
 rotate_left
 ·(intro w hSw;go_simp<;>with_reducible rfl)
 refine takeL (i:=7) (v:=?_) rfl rfl (by kernel_rfl) (fun _ _ _ h=>h) hHeld (Or.inl ⟨by kernel_rfl,?_⟩) (by dsimp only[List.set_cons_succ,List.set_cons_zero]) (by dsimp only[List.set_cons_succ,List.set_cons_zero]) ?_
 rotate_left
 ·(intro w hSw;go_simp<;>with_reducible rfl)
 refine takeL (i:=8) (v:=?_) rfl rfl (by kernel_rfl) (fun _ _ _ h=>h) hHeld (Or.inl ⟨by kernel_rfl,?_⟩) (by dsimp only[List.set_cons_succ,List.set_cons_zero]) (by dsimp only[List.set_cons_succ,List.set_cons_zero]) ?_
 rotate_left
 ·(intro w hSw;go_simp<;>with_reducible rfl)
 refine takeL (i:=9) (v:=?_) rfl rfl (by kernel_rfl) (fun _ _ _ h=>h) hHeld (Or.inl ⟨by kernel_rfl,?_⟩) (by dsimp only[List.set_cons_succ,List.set_cons_zero]) (by dsimp only[List.set_cons_succ,List.set_cons_zero]) ?_
 rotate_left
 ·(intro w hSw;go_simp<;>with_reducible rfl)
 refine takeL (i:=3) (v:=?_) rfl rfl (by kernel_rfl) (fun _ _ _ h=>h) hHeld (Or.inl ⟨by kernel_rfl,?_⟩) (by dsimp only[List.set_cons_succ,List.set_cons_zero]) (by dsimp only[List.set_cons_succ,List.set_cons_zero]) ?_
 rotate_left
 ·(intro w hSw;obtain⟨a0,a1,b3⟩:=HC.out _ hSw;go_simp<;>with_reducible rfl)
 refine takeL (i:=4) (v:=?_) rfl rfl (by kernel_rfl) (fun _ _ _ h=>h) hHeld (Or.inl ⟨by kernel_rfl,?_⟩) (by dsimp only[List.set_cons_succ,List.set_cons_zero]) (by dsimp only[List.set_cons_succ,List.set_cons_zero]) ?_
 rotate_left
 ·(intro w hSw;go_simp<;>with_reducible rfl)
 refine takeL (i:=5) (v:=?_) rfl rfl (by kernel_rfl) (fun _ _ _ h=>h) hHeld (Or.inl ⟨by kernel_rfl,?_⟩) (by dsimp only[List.set_cons_succ,List.set_cons_zero]) (by dsimp only[List.set_cons_succ,List.set_cons_zero]) ?_
 rotate_left
 ·(intro w hSw;go_simp<;>with_reducible rfl)
 refine takeL (i:=6) (v:=?_) rfl rfl (by kernel_rfl) (fun _ _ _ h=>h) hHeld (Or.inl ⟨by kernel_rfl,?_⟩) (by dsimp only[List.set_cons_succ,List.set_cons_zero]) (by dsimp only[List.set_cons_succ,List.set_cons_zero]) ?_
 rotate_left
 ·(intro w hSw;obtain⟨a0,a1,b3⟩:=HC.out _ hSw;go_simp<;>with_reducible rfl)
 refine takeL (i:=10) (v:=?_) rfl rfl (by kernel_rfl) (fun _ _ _ h=>h) hHeld (Or.inl ⟨by kernel_rfl,?_⟩) (by dsimp only[List.set_cons_succ,List.set_cons_zero]) (by dsimp only[List.set_cons_succ,List.set_cons_zero]) ?_
 rotate_left
 ·(intro w hSw;obtain⟨a0,a1,b3⟩:=HC.out _ hSw;go_simp<;>with_reducible rfl)
 refine takeL (i:=11) (v:=?_) rfl rfl (by kernel_rfl) (fun _ _ _ h=>h) hHeld (Or.inl ⟨by kernel_rfl,?_⟩) (by dsimp only[List.set_cons_succ,List.set_cons_zero]) (by dsimp only[List.set_cons_succ,List.set_cons_zero]) ?_
 rotate_left
 ·(intro w hSw;have hbt:=HBT.out.symm;go_simp<;>with_reducible rfl)
 refine wpAnyX_done (by kernel_rfl) ?_ _
 have HU2:=Lib.hid hHeld
 have HR2:=Lib.hid (HR1.out.below hHeld)
 have HJ2:=Lib.hid (HJ1.out.below hHeld)
 clear hHeld
 cases bt with
 | true=>
  have hne:J.turn-1≠T-1:=by have:=HBT.out;simp at this;omega
  have HTX:Hid (J.txD D (T-1) (txL M hm)=(D,10)∧J.txJ D (T-1) (txL M hm)=J):=by
   show _∧_
   unfold Jn.txD Jn.txJ
   rw[if_pos hne,if_pos hne]
   exact⟨rfl,rfl⟩
  clear hne
  go_wp2_with fail
  go_ret
  rw[HTX.out.1,HTX.out.2]
  exact⟨rfl,HR2.out,HJ2.out,(HU1.out.mono (by simp)).trans (HU2.out.mono (by simp))⟩
 | false=>
  have heq:¬(J.turn-1≠T-1):=by have:=HBT.out;simp at this;omega
  have HTX:Hid (J.txD D (T-1) (txL M hm)=J.comD D (txL M hm)∧J.txJ D (T-1) (txL M hm)=J.com D (txL M hm)):=by
   show _∧_
   unfold Jn.txD Jn.txJ
   rw[if_neg heq,if_neg heq]
   exact⟨rfl,rfl⟩
  clear heq
  obtain⟨w2,hw2⟩:∃z:World,z=w0:=⟨_,rfl⟩
  rw[← hw2] at HU2 HR2 HJ2 ⊢
  clear hw2
  go_wp2_with fail
  go_loopw [3,4] (fun l i wr=>∃k:Nat,k≤hm∧i=.int .i64 (k:Int)∧PutsT wr w2.heap.size l (txL M k)∧Upd [] w2 wr) (fun _ i _=>hm-(intOf i).toNat)
  case atStart=>exact⟨0,by omega,rfl,by simpa [txL,keysM] using PutsT.nil _ _,Upd.refl _ _⟩
  case round=>
   obtain⟨k,hk,rfl,hp,hu⟩:=hrel
   obtain⟨al,cl,rfl⟩:=hp.at_.shape
   have HP:=Lib.hid hp
   have HU:=Lib.hid hu
   have HR:=Lib.hid (HR2.out.below hu)
   obtain⟨c0,_,c2,_⟩:=HR.out.cells
   clear hp hu
   obtain⟨ll,hll⟩:∃n,n=(txL M k).length:=⟨_,rfl⟩
   have hl5:ll≤5000:=by rw[hll,txL_length];have:=cntM_le M k;omega
   rw[← hll] at HP ⊢
   rcases Nat.lt_or_ge k hm with hlt | hge
   ·have e1:decide ((k:Int)<(hm:Int))=true:=decide_eq_true (by omega)
    have e2:decide (k<hm)=true:=decide_eq_true hlt
    have i0:(0:Int)≤(k:Int):=by omega
    have i1:(k:Int)<(hm:Int):=by omega
    have co:=HR.out.own.cell (ownL_get (M:=M) hlt)
    have HLT:=Lib.hid hlt
    cases hs:M k with
    | none=>
     rw[hs] at co
     have co':wr.cell? ⟨x.ob,k,none⟩=some (.string ⟨#[]⟩):=co
     have HN:=Lib.hid (txL_no hs)
     clear co hs hlt hll
     go_wp2_with fail
     go_roundw
     case rel=>exact⟨k+1,by omega,by go_num,by rw[HN.out];exact HP.out,HU.out⟩
     case measure=>simp[intOf];omega
    | some s=>
     rw[hs] at co
     have co':wr.cell? ⟨x.ob,k,none⟩=some (.string (str s)):=co
     have hs5:=(HMO.out k s hs).2
     have hfull:=str_full hs5
     have HN:=Lib.hid (txL_some hs)
     obtain⟨C,w8,hcv,hu8,hot⟩:=str_bytesT s wr
     rw[hs5] at hcv hot
     have hd9:=hot w2.heap.size HU.out.size
     have hbl:=build_P (k:Int) (.slice (some ⟨wr.heap.size,0,none⟩) 512 C) rfl
     have hsl:=slice_P (k:Int) (.slice (some ⟨wr.heap.size,0,none⟩) 512 C) rfl w8
     obtain⟨v9,w9,hap,hp9,hu9⟩:=PutsT.push (a:=w2) ((HU.out.trans hu8).alloc _) (HP.out.below (hu8.alloc _)) (by rw[← hll];omega) w8.heap.size (k:Int) (.slice (some ⟨wr.heap.size,0,none⟩) 512 C) s (blk_alloc _) (hd9.below ((Upd.refl _ _).alloc _))
     rw[← HN.out] at hp9
     have HP9:=Lib.hid hp9
     have HU9:=Lib.hid hu9
     have HHS:=Lib.hid hs
     clear co hs hs5 hu8 hot hd9 hp9 hu9 hlt hll
     go_wp2_with (first | (at_builtin;refine wpList_append_run rfl _ _ _ rfl rfl rfl hap ?_))
     go_roundw
     case rel=>exact⟨k+1,by omega,by go_num,HP9.out,HU9.out⟩
     case measure=>simp[intOf];omega
   ·obtain rfl:k=hm:=by omega
    have e1:decide ((k:Int)<(k:Int))=false:=by simp
    have e2:decide (k<k)=false:=by simp
    obtain⟨l1,l2,l3,l4,l5⟩:=HLIM.out
    have HJR:=Lib.hid (HJ2.out.below HU.out)
    have HCM:Hid (Calls Tryz.prog 132 #[.pointer (some ⟨q.jb,0,none⟩),.slice al ll cl] wr fun e w'=>e=.returned (.int .i64 (J.comD D (txL M k)).2)∧RjmAt w' q (J.com D (txL M k)) (J.comD D (txL M k)).1∧Upd q.all wr w'):=
     Lib.hid (rcom_spec HJR.out HP.out.hi (fun i hi=>HJ2.out.lt i hi) (by rw[l4];exact txL_good HMO.out l5) l1 l2 l3)
    clear l1 l2 l3 l4 l5 hll
    go_wp2_with fail
    refine HCM.out.mono ?_
    rintro e w5 ⟨rfl,hj5,hu5⟩
    have HJ5:=Lib.hid hj5
    have HU5:=Lib.hid hu5
    have HR5:=Lib.hid (HR.out.upd hu5 HX.out.1 HX.out.2)
    clear hj5 hu5
    go_wp2_with fail
    go_ret
    rw[HTX.out.1,HTX.out.2]
    refine⟨rfl,HR5.out,HJ5.out,?_⟩
    exact(((HU1.out.mono (by simp)).trans (HU2.out.mono (by simp))).trans (HU.out.mono (by simp))).trans (HU5.out.mono (fun i hi=>by simp[hi]))
end
def SpR(w:World)(v:Value):Prop:=v=.slice none 0 0∨∃k n cap cs,v=.slice (some ⟨k,0,none⟩) n cap∧w.heap[k]?=some (.cells cs 5 (0,0))∧cs.size=cap∧n≤cap∧cap≤maxLen
def Same8(w w':World):Prop:=∀(k:Nat) (c:Array Value),w.heap[k]?=some (.cells c 5 (0,0))→∃c',w'.heap[k]?=some (.cells c' 5 (0,0))∧c'.size=c.size
theorem Same8.of{w w':World}(hu:Upd [] w w'):Same8 w w':=fun k c h=>⟨c,(hu.block _ (blk_lt h) (by simp)).trans h,rfl⟩
set_option maxRecDepth 100000 in
set_option maxHeartbeats 1000000 in
theorem spoil_spec{w:World}{v:Value}(h:SpR w v) :
  Calls Tryz.prog 19 #[v] w fun e w'=>e=.returned (.tuple #[])∧Same8 w w'∧∃S,Upd S w w'∧∀k,k∈S→v.ownBlock=some k∧∃c,w.heap[k]?=some (.cells c 5 (0,0)):=by
 rcases h with rfl | ⟨b,n,cap,cs,rfl,hb,hcs,hn,hm⟩
 ·go_enter Tryz.func19,Tryz.ntmps19
  go_wp2_with fail
  go_loopw [3] (fun i wr=>i=.int .i64 0∧wr=w) (fun _ _=>1)
  case atStart=>exact⟨rfl,rfl⟩
  case round=>
   obtain⟨rfl,rfl⟩:=hrel
   go_wp2_with fail
   go_end0
   exact⟨rfl,Same8.of (Upd.refl _ _),[],Upd.refl _ _,by simp⟩
 ·have HB:=Lib.hid hb
  have hm2:cap≤9223372036854775807:=Nat.le_trans hm (by decide)
  have hc0:(0:Int)≤(cap:Int):=by omega
  clear hm hb
  go_enter Tryz.func19,Tryz.ntmps19
  go_wp2_with fail
  go_loopw [3] (fun i wr=>∃(q:Nat) (c':Array Value),i=.int .i64 (q:Int)∧q≤cap∧Hid (wr.heap[b]?=some (.cells c' 5 (0,0))∧c'.size=cap)∧Hid (Upd [b] w wr)) (fun i _=>cap+1-(intOf i).toNat)
  case atStart=>exact⟨0,cs,rfl,by omega,Lib.hid ⟨HB.out,hcs⟩,Lib.hid (Upd.refl _ _)⟩
  case round=>
   obtain⟨q,c',rfl,hq,HC,HU⟩:=hrel
   rcases Nat.lt_or_ge q cap with h4 | h4
   ·have cj:decide ((q:Int)<(cap:Int))=true:=decide_eq_true (by omega)
    have cj2:decide (q<cap)=true:=decide_eq_true h4
    have hq0:(0:Int)≤(q:Int):=by omega
    have hq1:(q:Int)<(cap:Int):=by omega
    obtain⟨x,hx⟩:∃x,c'[q]?=some x:=⟨_,Array.getElem?_eq_getElem (by have:=HC.out.2;omega)⟩
    have c0:wr.cell? ⟨b,q,none⟩=some x:=by rw[blk_cell HC.out.1,hx]
    have f0:=blk_free HC.out.1 q
    have HN:Hid ((wr.setCell ⟨b,q,none⟩ (.int .u8 90)).heap[b]?=some (.cells (c'.setIfInBounds q (.int .u8 90)) 5 (0,0))∧(c'.setIfInBounds q (.int .u8 90)).size=cap):=Lib.hid ⟨blk_set HC.out.1 q _,by rw[Array.size_setIfInBounds];exact HC.out.2⟩
    have HU2:Hid (Upd [b] w (wr.setCell ⟨b,q,none⟩ (.int .u8 90))):=Lib.hid (HU.out.set _ (.inl (by simp)))
    have hq9:q+1≤9223372036854775807:=by omega
    clear hx
    go_wp2_with fail
    exact⟨⟨q+1,_,by go_num,by omega,HN,HU2⟩,by simp[intOf];omega⟩
   ·have cj:decide ((q:Int)<(cap:Int))=false:=decide_eq_false (by omega)
    have cj2:decide (q<cap)=false:=decide_eq_false (by omega)
    go_wp2_with fail
    go_end0
    refine⟨rfl,fun k c hk=>?_,[b],HU.out,fun k hk=>?_⟩
    ·by_cases e:k=b
     ·subst e
      rw[HB.out] at hk
      injection hk with hk;injection hk with hk
      subst hk
      exact⟨c',HC.out.1,by have:=HC.out.2;omega⟩
     ·exact⟨c,(HU.out.block _ (blk_lt hk) (by simpa using e)).trans hk,rfl⟩
    ·simp at hk;subst hk;exact⟨rfl,_,HB.out⟩
theorem str_any{w:World}{v:Value}{l:List UInt8}(h:Rd w v l):(convert 34 9 v).run Tryz.prog w=.ok (.string (str l)) w:=by
 cases l with
 | nil=>
  obtain⟨ao,cap,rfl,hc,_⟩:=h
  cases ao with
  | none=>exact Lib.run_convert_nil_bytes (P:=Tryz.prog) w 34 9 5 cap Tryz.underlying34 Tryz.underlying5 Tryz.underlying9
  | some ad=>
   rw[List.length_nil]
   rw[run_convert_bytes_string (P:=Tryz.prog) w 34 9 5 (some ad) 0 cap Tryz.underlying34 Tryz.underlying5 Tryz.underlying9]
   simp[Conv.bytesToString]
   rfl
 | cons a l=>exact run_str h (by simp)
def tw3:Nat→List Value
 | 0=>bts [0,0,0]
 | 1=>[.int .u8 229]++bts [0,0]
 | 2=>[.int .u8 229,.int .u8 229]++bts [0]
 | _=>[.int .u8 229,.int .u8 229,.int .u8 229]
theorem tw3_length:∀k,(tw3 k).length=3
 | 0=>rfl
 | 1=>rfl
 | 2=>rfl
 | _+3=>rfl
theorem tw3_set:∀k,k<3→(tw3 k).set k (.int .u8 229)=tw3 (k+1)
 | 0,_=>rfl
 | 1,_=>rfl
 | 2,_=>rfl
 | k+3,h=>by omega
set_option maxRecDepth 100000 in
set_option maxHeartbeats 1000000 in
theorem twin_exact(v:Value)(l:List UInt8)(w:World)(hr:Rd w v l)(hl:l.length≤10000) :
  Calls Tryz.prog 13 #[v] w fun e w'=>∃k,e=.returned (.slice (some ⟨k,0,none⟩) l.length (l.length+3))∧w'.heap[k]?=some (.cells (bts l++tw3 3).toArray 5 (0,0))∧w.heap.size≤k∧Upd [] w w':=by
 obtain⟨ao,cap,rfl,hcap,hh⟩:=hr
 have hr:Rd w (.slice ao l.length cap) l:=⟨ao,cap,rfl,hcap,hh⟩
 have hmk:(Instr.makeSlice 34 (.int .i64 ((l.length:Int)+3)) (.int .i64 ((l.length:Int)+3))).run Tryz.prog w=.ok (.slice (some ⟨w.heap.size,0,none⟩) (l.length+3) (l.length+3)) (w.alloc (.cells (bts (List.replicate (l.length+3) 0)).toArray 5)):=by
  have:=run_make_u8 (l.length+3) (by omega) w
  rw[show((l.length+3:Nat):Int)=(l.length:Int)+3 from by omega] at this
  exact this
 have hcp:∀ty,(Builtin.copy_ #[34,34] ty #[.slice (some ⟨w.heap.size,0,none⟩) (l.length+3) (l.length+3),.slice ao l.length cap]).run Tryz.prog (w.alloc (.cells (bts (List.replicate (l.length+3) 0)).toArray 5))=.ok (goInt ((min l.length (l.length+3):Nat):Int)) (w.alloc (.cells (bts (l ++ [0,0,0])).toArray 5)):=by
  intro ty
  rw[run_copy_rd (u8:=5) Tryz.underlying34 sizeU8 w.heap.size 0 (l.length+3) (l.length+3) (bts (List.replicate (l.length+3) 0)) (blk_alloc _) (by rw[bts_length];simp) (hr.alloc _),setRow_alloc]
  have e:splice (bts (List.replicate (l.length+3) 0)) 0 (bts (l.take (l.length+3)))=bts (l ++ [0,0,0]):=by
   rw[splice_head,bts_length,List.take_of_length_le (by omega),bts_append]
   congr 1
   show(List.map bv _).drop _=_
   rw[← List.map_drop,List.drop_replicate,show l.length+3-l.length=3 from by omega];rfl
  rw[e]
 clear hr hh
 obtain⟨w1,hw1⟩:∃w1,w1=w.alloc (.cells (bts (List.replicate (l.length+3) 0)).toArray 5):=⟨_,rfl⟩
 obtain⟨w2,hw2⟩:∃w2,w2=w.alloc (.cells (bts (l ++ [0,0,0])).toArray 5):=⟨_,rfl⟩
 rw[← hw1] at hmk
 rw[← hw1,← hw2] at hcp
 have HU2:Hid (Upd [] w w2):=by show Upd _ _ _;rw[hw2];exact(Upd.refl _ _).alloc _
 have HB2:Hid (w2.heap[w.heap.size]?=some (.cells (bts l++bts [0,0,0]).toArray 5 (0,0))):=by show _=_;rw[hw2,← bts_append];exact blk_alloc _
 clear hw1 hw2
 obtain⟨n,hn⟩:∃n,n=l.length:=⟨_,rfl⟩
 rw[← hn] at hmk hcp hl ⊢
 have HN:=Lib.hid hn
 clear hn hcap
 go_enter Tryz.func13,Tryz.ntmps13
 go_wp2_with fail
 go_loopw [4] (fun i wr=>∃k:Nat,k≤3∧i=.int .i64 ((n+k:Nat):Int)∧wr.heap[w.heap.size]?=some (.cells (bts l++tw3 k).toArray 5 (0,0))∧Upd [] w wr) (fun i _=>n+3-(intOf i).toNat)
 case atStart=>exact⟨0,by omega,rfl,HB2.out,HU2.out⟩
 case round=>
  obtain⟨k,hk,rfl,hb,hu⟩:=hrel
  have hr3:=tw3_length k
  by_cases hlt:k<3
  ·have hlt':decide (((n+k:Nat):Int)<(n:Int)+3)=true:=by simp;omega
   obtain⟨x0,hx0⟩:∃x,(bts l++tw3 k).toArray[n+k]?=some x:=by
    have:n+k<(bts l++tw3 k).toArray.size:=by have:=HN.out;simp;omega
    exact⟨_,Array.getElem?_eq_getElem this⟩
   have hc:wr.cell? ⟨w.heap.size,n+k,none⟩=some x0:=(blk_cell hb _).trans hx0
   have hf:=blk_free hb (n+k)
   have HB:=Lib.hid hb
   have HU:=Lib.hid hu
   have i0:(0:Int)≤((n+k:Nat):Int):=by omega
   have i1:((n+k:Nat):Int)<((n+3:Nat):Int):=by omega
   clear hb hu hx0
   go_wp2_with fail
   refine⟨⟨k+1,by omega,by rw[show((n+(k+1):Nat):Int)=(n:Int)+(k:Int)+1 from by omega],?_,HU.out.set _ (.inr (Nat.le_refl _))⟩,by simp[intOf];omega⟩
   rw[blk_set HB.out]
   congr 2
   rw[List.setIfInBounds_toArray,HN.out]
   congr 1
   rw[List.set_append_right _ _ (by simp),bts_length,Nat.add_sub_cancel_left,tw3_set k hlt]
  ·obtain rfl:k=3:=by omega
   have hlt':decide (((n+3:Nat):Int)<(n:Int)+3)=false:=by simp
   have HB:=Lib.hid hb
   have HU:=Lib.hid hu
   clear hb hu
   go_wp2_with fail
   go_ret
   exact⟨w.heap.size,rfl,HB.out,Nat.le_refl _,HU.out⟩
set_option maxRecDepth 100000 in
set_option maxHeartbeats 1000000 in
theorem kept_yes{w:World}{k:Nat}{v:Value}{l:List UInt8}(hk:w.heap[k]?=some (.cells (bts l++tw3 3).toArray 5 (0,0)))(hr:Rd w v l)(hl:l.length≤10000) :
  Calls Tryz.prog 18 #[.slice (some ⟨k,0,none⟩) l.length (l.length+3),v] w fun e w'=>e=.returned (.bool true)∧Upd [] w w':=by
 have hrk:Rd w (.slice (some ⟨k,0,none⟩) l.length (l.length+3)) l:=⟨_,_,rfl,by omega,fun _=>⟨k,0,rfl,fun i hi=>by
  rw[blk_cell hk,List.getElem?_toArray,Nat.zero_add,List.getElem?_append_left (by rw[bts_length];exact hi)]
  simp[bts]
  exact⟨_,List.getElem?_eq_getElem hi,rfl⟩⟩⟩
 have hc1:=str_any hrk
 have hc2:=str_any hr
 obtain⟨ao,cap,rfl,hcap,_⟩:=hr
 have hcell:∀q,q<3→w.cell? ⟨k,l.length+q,none⟩=some (.int .u8 229):=by
  intro q hq
  rw[blk_cell hk,List.getElem?_toArray,List.getElem?_append_right (by rw[bts_length];omega),bts_length,Nat.add_sub_cancel_left]
  match q,hq with
  | 0,_=>rfl
  | 1,_=>rfl
  | 2,_=>rfl
  | q+3,h=>omega
 have HCL:=Lib.hid hcell
 obtain⟨u,hu⟩:∃u,u=str l:=⟨_,rfl⟩
 have hq:((u.toList == u.toList))=true:=by simp
 rw[← hu] at hc1 hc2
 obtain⟨n,hn⟩:∃n,n=l.length:=⟨_,rfl⟩
 rw[← hn] at hc1 hc2 HCL hl ⊢
 have hw:IntKind.i64.wrap ((n:Int)+3)=(n:Int)+3:=by rw[IntKind.wrap_i64];omega
 clear hrk hcap hcell hk hu hn
 go_enter Tryz.func18,Tryz.ntmps18
 clear hw
 have hn0:(0:Int)≤(n:Int)+3:=by omega
 have hn1:((n:Int)+3).toNat=n+3:=by omega
 go_wp2_with fail
 go_loop [6] (fun i=>∃q:Nat,q≤3∧i=.int .i64 ((n+q:Nat):Int)) (fun i=>n+3-(intOf i).toNat)
 case atStart=>exact⟨0,by omega,rfl⟩
 case round=>
  obtain⟨q,hq3,rfl⟩:=hrel
  by_cases hlt:q<3
  ·have hlt':decide (((n+q:Nat):Int)<(n:Int)+3)=true:=by simp;omega
   have hc:=HCL.out q hlt
   have i0:(0:Int)≤((n+q:Nat):Int):=by omega
   have i1:((n+q:Nat):Int)<((n+3:Nat):Int):=by omega
   go_wp2_with fail
   refine⟨⟨q+1,by omega,by rw[show((n+(q+1):Nat):Int)=(n:Int)+(q:Int)+1 from by omega]⟩,by simp[intOf];omega⟩
  ·obtain rfl:q=3:=by omega
   have hlt':decide (((n+3:Nat):Int)<(n:Int)+3)=false:=by simp
   go_wp2_with fail
   go_ret
   exact⟨rfl,(Upd.refl _ _)⟩
set_option maxRecDepth 100000 in
set_option maxHeartbeats 4000000 in
theorem lread_spec{w:World}{g:DG}{r:RG}{D:Dk}(h:DiskAt w AnyF g D)(hr:RdkAt w r D) :
  Calls Tryz.prog 38 #[.pointer (some ⟨g.db,0,none⟩),.pointer (some ⟨r.rb,0,none⟩)] w fun e w'=>e=.returned (.bool true)∧Upd [] w w':=by
 have HD:=Lib.hid h
 have HR:=Lib.hid hr
 have hn1:=hr.ok.n1
 obtain⟨n,hn⟩:∃n,n=D.n:=⟨_,rfl⟩
 rw[← hn] at hn1
 have HN:=Lib.hid hn
 clear h hr hn
 go_enter Tryz.func38,Tryz.ntmps38
 go_wp2_with fail
 go_loopw [5] (fun i wr=>∃k:Nat,k≤n∧i=.int .i64 (k:Int)∧Upd [] w wr) (fun i _=>n-(intOf i).toNat)
 case atStart=>exact⟨0,by omega,rfl,Upd.refl _ _⟩
 case round=>
  obtain⟨k,hk,rfl,hu⟩:=hrel
  have HU:=Lib.hid hu
  have hd:DiskAt wr AnyF g D:=HD.out.world (hu.block _ HD.out.lt.1 (by simp)) (hu.block _ HD.out.lt.2.1 (by simp)) (hu.block _ HD.out.lt.2.2 (by simp)) (fun _ _ _ hk=>hu.block _ (blk_lt hk) (by simp))
  have hrd:=HR.out.below hu
  have c0:=hrd.len
  rw[← HN.out] at c0
  rcases Nat.lt_or_ge k n with hlt | hge
  ·have e1:decide ((k:Int)<(n:Int))=true:=decide_eq_true (by omega)
   have e2:decide (k<n)=true:=decide_eq_true hlt
   have HRD:=Lib.hid (read_ok hd k hrd.off (by rw[← HN.out];exact hlt))
   have HRR:=Lib.hid hrd
   have HLT:=Lib.hid hlt
   clear hd hrd hu hlt
   go_wp2_with fail
   refine HRD.out.mono ?_
   rintro e w1 ⟨rfl,hw1⟩
   have hu1:Upd [] wr w1:=by rw[← hw1];exact(Upd.refl _ _).alloc _
   have hb1:w1.heap[wr.heap.size]?=some (.cells (bts (D.now k)).toArray 5 (0,0)):=by rw[← hw1];exact blk_alloc _
   have hlen:(D.now k).length=512:=Dk.now_len HRR.out.ok k
   have hrr:Rd w1 (.slice (some ⟨wr.heap.size,0,none⟩) 512 512) (D.now k):=by
    refine⟨_,_,by rw[hlen],by rw[hlen];omega,fun _=>⟨_,_,rfl,fun i hi=>?_⟩⟩
    rw[blk_cell hb1,Nat.zero_add,List.getElem?_toArray]
    simp[bts]
    exact⟨_,List.getElem?_eq_getElem hi,rfl⟩
   have HR2:Hid (Calls Tryz.prog 72 #[.pointer (some ⟨r.rb,0,none⟩),.int .i64 (k:Int)] w1 fun e w'=>e=.returned (.tuple #[strV (D.now k),.int .i64 0])∧w1=w'):=by
    have:=rread_spec (HRR.out.below hu1) (k:Int)
    rw[Dk.On.read HRR.out.on (by rw[← HN.out];exact HLT.out)] at this
    exact Lib.hid this
   have hcv:=str_any hrr
   have HSP:=Lib.hid (spoil_spec (w:=w1) (.inr ⟨wr.heap.size,512,512,_,rfl,hb1,by rw[List.size_toArray,bts_length,hlen],by omega,by unfold maxLen;omega⟩))
   have HU1:=Lib.hid hu1
   have hq:((str (D.now k)).toList == (str (D.now k)).toList)=true:=by simp
   clear hw1 hu1 hb1 hlen hrr c0
   unfold strV at HR2
   obtain⟨s,hs⟩:∃s,s=str (D.now k):=⟨_,rfl⟩
   rw[← hs] at hcv HR2 hq
   clear hs
   go_wp2_with fail
   refine HR2.out.mono ?_
   rintro e wz ⟨rfl,rfl⟩
   go_wp2_with fail
   refine HSP.out.mono ?_
   rintro e w2 ⟨rfl,_,S,hu2,hS⟩
   have HU2:Hid (Upd [] w w2):=Lib.hid (by
    refine(HU.out.trans HU1.out).late hu2 (fun i hi=> .inr ?_)
    obtain⟨q1,_⟩:=hS i hi
    simp[Value.ownBlock] at q1
    have:=HU.out.size
    omega)
   clear hu2 hS hcv hq
   go_wp2_with fail
   have hlt:=HLT.out
   exact⟨⟨k+1,by omega,by go_num,HU2.out⟩,by simp[intOf];omega⟩
  ·obtain rfl:k=n:=by omega
   have e1:decide ((k:Int)<(k:Int))=false:=by simp
   have e2:decide (k<k)=false:=by simp
   clear hd hrd hu
   go_wp2_with fail
   go_ret
   exact⟨rfl,HU.out⟩
def kd(w:World)(k:Nat):Option TypeId:=match w.heap[k]? with
 | some (.cells _ T _)=>some T
 | _=>none
theorem kd_cells{w:World}{k:Nat}{c:Array Value}{T:TypeId}{fr:Nat × Nat}(h:w.heap[k]?=some (.cells c T fr)):kd w k=some T:=by unfold kd;rw[h]
theorem kd_map{w:World}{mb:Nat}{f:Int→Option Value}(h:MapI w mb f):kd w mb=none:=by
 unfold kd
 split
 ·rename_i c T fr e
  exact absurd rfl (h.not_cells e)
 ·rfl
theorem kd_wait{w:World}{F:Nat→Prop}{mb:Nat}{M:Nat→Option Sec}(h:WaitM w F mb M):kd w mb=none:=by
 obtain⟨f,hf,_⟩:=h
 exact kd_map hf
def codeT:List (Option TypeId):=[some 162,none,some 158,some 34,some 101,some 5]
def docT:List (Option TypeId):=[some 150,some 4,some 9,some 141,some 154]
theorem code_doc:∀o,o∈codeT→o∉docT:=by decide
structure Gn where
 jb:Nat
 ab:Nat
 q:QG
 J:Jn
def Gn.j(x:Gn)(g:DG):JG:=⟨x.jb,x.ab,g,AnyF⟩
structure Sl where
 tb:Nat
 wb:Nat
 x:XG
 gen:Nat
 live:Option (Int × (Nat→Option Sec))
def CoSl(w:World)(F:Nat→Prop)(g:DG)(n:Nat)(gs:Nat→Gn)(s:Sl):Prop:=
 match s.live with
 | some (T,M)=>s.gen<n∧TxAt w ⟨s.tb,s.wb,F⟩ (gs s.gen).jb (T-1) M∧s.wb≠g.mb∧∀k,k<n→s.wb≠(gs k).ab
 | none=>∃T:Int,w.heap[s.tb]?=some (.cells #[.pointer none,.int .u64 T,.map none] 101 (0,0))
structure CoAt(w:World)(F:Nat→Prop)(g:DG)(D:Dk)(n:Nat)(gs:Nat→Gn)(sl:Nat→Sl):Prop where
 disk:DiskAt w F g D
 jn:∀i,i<n→JnAt w F ((gs i).j g) (gs i).J D
 nd:∀i k,i<n→k<n→i≠k→(gs i).jb≠(gs k).jb∧(gs i).ab≠(gs k).ab
 tx:∀i,i<3→CoSl w F g n gs (sl i)
 ndt:∀i k,i<3→k<3→i≠k→(sl i).tb≠(sl k).tb∧((sl i).live≠none→(sl k).live≠none→(sl i).wb≠(sl k).wb)
def DoSl(w:World)(r:RG)(n:Nat)(gs:Nat→Gn)(s:Sl):Prop:=
 (match s.live with
 | some (T,M)=>RtAt w s.x (gs s.gen).q.jb T M 50 false
 | none=>∃jb T M,RtAt w s.x jb T M 50 true∧MOk M 50)∧s.x.ob≠r.lb∧s.x.ob≠r.wb∧∀k,k<n→s.x.ob≠(gs k).q.nb
structure DoAt(w:World)(r:RG)(D:Dk)(n:Nat)(gs:Nat→Gn)(sl:Nat→Sl):Prop where
 rdk:RdkAt w r D
 jq:∀i,i<n→RjmAt w (gs i).q (gs i).J D∧(gs i).q.r=r
 nd:∀i k,i<n→k<n→i≠k→∀b,b∈(gs i).q.own→b∉(gs k).q.own
 tx:∀i,i<3→DoSl w r n gs (sl i)
 ndt:∀i k,i<3→k<3→i≠k→(sl i).x.tb≠(sl k).x.tb∧(sl i).x.ob≠(sl k).x.ob
theorem JnAt.kinds{w:World}{F:Nat→Prop}{j:JG}{J:Jn}{D:Dk}(h:JnAt w F j J D):kd w j.jb=some 162∧kd w j.ab=none∧kd w j.d.db=some 158∧kd w j.d.lb=some 34∧kd w j.d.mb=none:=by
 obtain⟨⟨fv,a1,_⟩,⟨lv,b1,_⟩,c,_⟩:=h.disk
 exact⟨kd_cells h.st,kd_wait h.away,kd_cells a1,kd_cells b1,kd_wait c⟩
theorem DiskAt.kinds{w:World}{F:Nat→Prop}{g:DG}{D:Dk}(h:DiskAt w F g D):kd w g.db=some 158∧kd w g.lb=some 34∧kd w g.mb=none:=by
 obtain⟨⟨fv,a1,_⟩,⟨lv,b1,_⟩,c,_⟩:=h
 exact⟨kd_cells a1,kd_cells b1,kd_wait c⟩
theorem JnAt.codes{w:World}{F:Nat→Prop}{j:JG}{J:Jn}{D:Dk}(h:JnAt w F j J D):∀k,k∈j.all→kd w k∈codeT:=by
 obtain⟨h1,h2,h3,h4,h5⟩:=h.kinds
 intro k hk
 simp only[JG.all,List.mem_cons,List.not_mem_nil,or_false] at hk
 rcases hk with rfl | rfl | rfl | rfl | rfl
 ·rw[h1];decide
 ·rw[h2];decide
 ·rw[h3];decide
 ·rw[h4];decide
 ·rw[h5];decide
theorem TxAt.codes{w:World}{t:TG}{jb:Nat}{T:Int}{M:Nat→Option Sec}(h:TxAt w t jb T M):kd w t.tb=some 101∧kd w t.wb=none:=⟨kd_cells h.st,kd_wait h.wrote⟩
theorem RjmAt.kinds{w:World}{q:QG}{J:Jn}{D:Dk}(h:RjmAt w q J D):kd w q.jb=some 150∧kd w q.ab=some 4∧kd w q.nb=some 9:=by
 obtain⟨l,⟨r1,h1⟩,_⟩:=h.now
 obtain⟨r2,h2⟩:=h.away
 exact⟨kd_cells h.st,kd_cells h2,kd_cells h1⟩
theorem RdkAt.kinds{w:World}{r:RG}{D:Dk}(h:RdkAt w r D):kd w r.rb=some 141∧kd w r.lb=some 9∧kd w r.wb=some 9:=by
 obtain⟨x,hx⟩:=h.st
 obtain⟨r1,h1⟩:=h.last
 obtain⟨r2,h2⟩:=h.wait
 exact⟨kd_cells hx,kd_cells h1,kd_cells h2⟩
theorem RjmAt.docs{w:World}{q:QG}{J:Jn}{D:Dk}(h:RjmAt w q J D):∀k,k∈q.all→kd w k∈docT:=by
 obtain⟨h1,h2,h3⟩:=h.kinds
 obtain⟨h4,h5,h6⟩:=h.disk.kinds
 intro k hk
 simp[QG.all,QG.own,RG.all] at hk
 rcases hk with rfl | rfl | rfl | rfl | rfl | rfl
 ·rw[h1];decide
 ·rw[h2];decide
 ·rw[h3];decide
 ·rw[h4];decide
 ·rw[h5];decide
 ·rw[h6];decide
theorem RtAt.kinds{w:World}{x:XG}{jb:Nat}{T:Int}{M:Nat→Option Sec}{hm:Nat}{ov:Bool}(h:RtAt w x jb T M hm ov):kd w x.tb=some 154∧kd w x.ob=some 9:=by
 obtain⟨r,hr⟩:=h.own
 exact⟨kd_cells h.st,kd_cells hr⟩
theorem CoAt.world{w w':World}{F:Nat→Prop}{g:DG}{D:Dk}{n:Nat}{gs:Nat→Gn}{sl:Nat→Sl}(h:CoAt w F g D n gs sl)(h1:∀k,k<w.heap.size→kd w k∈codeT→kd w k≠some 5→w'.heap[k]?=w.heap[k]?)
  (h2:∀k c,F k→w.heap[k]?=some (.cells c 5 (0,0))→w'.heap[k]?=w.heap[k]?):CoAt w' F g D n gs sl:=by
 obtain⟨k1,k2,k3⟩:=h.disk.kinds
 obtain⟨l1,l2,l3⟩:=h.disk.lt
 have e1:=h1 _ l1 (by rw[k1];decide) (by rw[k1];decide)
 have e2:=h1 _ l2 (by rw[k2];decide) (by rw[k2];decide)
 have e3:=h1 _ l3 (by rw[k3];decide) (by rw[k3];decide)
 refine⟨h.disk.world e1 e2 e3 h2,fun i hi=>?_,h.nd,fun i hi=>?_,h.ndt⟩
 ·have hj:=h.jn i hi
  obtain⟨a1,a2,_⟩:=hj.kinds
  exact hj.world (h1 _ hj.lt.1 (by rw[a1];decide) (by rw[a1];decide)) (h1 _ hj.lt.2 (by rw[a2];decide) (by rw[a2];decide)) e1 e2 e3 h2
 ·have ht:=h.tx i hi
  unfold CoSl at ht ⊢
  cases hl:(sl i).live with
  | none=>
   rw[hl] at ht
   obtain⟨T,hT⟩:=ht
   exact⟨T,(h1 _ (blk_lt hT) (by rw[kd_cells hT];decide) (by rw[kd_cells hT];decide)).trans hT⟩
  | some p=>
   obtain⟨T,M⟩:=p
   rw[hl] at ht
   obtain⟨t1,t2,t3,t4⟩:=ht
   obtain⟨b1,b2⟩:=t2.codes
   refine⟨t1,⟨(h1 _ t2.lt.1 (by rw[b1];decide) (by rw[b1];decide)).trans t2.st,t2.wrote.world (h1 _ t2.lt.2 (by rw[b2];decide) (by rw[b2];decide)) h2⟩,t3,t4⟩
theorem CoAt.doc{w w':World}{F:Nat→Prop}{g:DG}{D:Dk}{n:Nat}{gs:Nat→Gn}{sl:Nat→Sl}(h:CoAt w F g D n gs sl){S:List Nat}(hu:Upd S w w')(hS:∀k,k∈S→kd w k∈docT):CoAt w' F g D n gs sl:=
 h.world (fun k hk hc _=>hu.block k hk fun q=>code_doc _ hc (hS k q)) fun k c _ e=>hu.block k (blk_lt e) fun q=>by
  have:=hS k q
  rw[kd_cells e] at this
  exact absurd this (by decide)
theorem CoAt.below{w w':World}{F:Nat→Prop}{g:DG}{D:Dk}{n:Nat}{gs:Nat→Gn}{sl:Nat→Sl}(h:CoAt w F g D n gs sl)(hu:Upd [] w w'):CoAt w' F g D n gs sl:=h.doc hu (by simp)
theorem CoAt.bytes{w w':World}{F:Nat→Prop}{g:DG}{D:Dk}{n:Nat}{gs:Nat→Gn}{sl:Nat→Sl}(h:CoAt w F g D n gs sl){S:List Nat}(hu:Upd S w w')(hS:∀k,k∈S→¬F k∧kd w k=some 5):CoAt w' F g D n gs sl:=
 h.world (fun k hk _ h3=>hu.block k hk fun q=>h3 (hS k q).2) fun k c hF e=>hu.block k (blk_lt e) fun q=>(hS k q).1 hF
theorem CoAt.mono{w:World}{F G:Nat→Prop}{g:DG}{D:Dk}{n:Nat}{gs:Nat→Gn}{sl:Nat→Sl}(h:CoAt w F g D n gs sl)(hFG:∀k,F k→G k):CoAt w G g D n gs sl:=by
 refine⟨h.disk.mono hFG,fun i hi=>(h.jn i hi).mono hFG,h.nd,fun i hi=>?_,h.ndt⟩
 have ht:=h.tx i hi
 unfold CoSl at ht ⊢
 cases hl:(sl i).live with
 | none=>rw[hl] at ht;exact ht
 | some p=>
  obtain⟨T,M⟩:=p
  rw[hl] at ht
  obtain⟨t1,t2,t3,t4⟩:=ht
  exact⟨t1,⟨t2.st,t2.wrote.mono hFG⟩,t3,t4⟩
theorem CoAt.tight{w:World}{F:Nat→Prop}{g:DG}{D:Dk}{n:Nat}{gs:Nat→Gn}{sl:Nat→Sl}(h:CoAt w F g D n gs sl):CoAt w (fun k=>F k∧k<w.heap.size) g D n gs sl:=by
 refine⟨h.disk.tight,fun i hi=>(h.jn i hi).tight,h.nd,fun i hi=>?_,h.ndt⟩
 have ht:=h.tx i hi
 unfold CoSl at ht ⊢
 cases hl:(sl i).live with
 | none=>rw[hl] at ht;exact ht
 | some p=>
  obtain⟨T,M⟩:=p
  rw[hl] at ht
  obtain⟨t1,t2,t3,t4⟩:=ht
  exact⟨t1,⟨t2.st,t2.wrote.tight⟩,t3,t4⟩
theorem DoAt.world{w w':World}{r:RG}{D:Dk}{n:Nat}{gs:Nat→Gn}{sl:Nat→Sl}(h:DoAt w r D n gs sl){S:List Nat}(hu:Upd S w w')(hS:∀k,k∈S→kd w k∉docT):DoAt w' r D n gs sl:=by
 have hr:∀k,k∈r.all→k∉S:=fun k hk q=>by
  obtain⟨h4,h5,h6⟩:=h.rdk.kinds
  refine hS k q ?_
  simp[RG.all] at hk
  rcases hk with rfl | rfl | rfl
  ·rw[h4];decide
  ·rw[h5];decide
  ·rw[h6];decide
 have hx:∀{x:XG} {jb:Nat} {T:Int} {M:Nat→Option Sec} {ov:Bool},RtAt w x jb T M 50 ov→RtAt w' x jb T M 50 ov:=fun {x jb T M ov} hx=>by
  obtain⟨a,b⟩:=hx.kinds
  exact hx.upd hu (fun q=>hS _ q (by rw[a];decide)) (fun q=>hS _ q (by rw[b];decide))
 refine⟨h.rdk.upd hu hr,fun i hi=>⟨(h.jq i hi).1.upd hu (fun k hk q=>hS k q ((h.jq i hi).1.docs k hk)),(h.jq i hi).2⟩,h.nd,fun i hi=>?_,h.ndt⟩
 obtain⟨ht,h2⟩:=h.tx i hi
 refine⟨?_,h2⟩
 cases hl:(sl i).live with
 | none=>
  rw[hl] at ht
  obtain⟨jb,T,M,a,b⟩:=ht
  exact⟨jb,T,M,hx a,b⟩
 | some p=>
  obtain⟨T,M⟩:=p
  rw[hl] at ht
  exact hx ht
theorem DoAt.below{w w':World}{r:RG}{D:Dk}{n:Nat}{gs:Nat→Gn}{sl:Nat→Sl}(h:DoAt w r D n gs sl)(hu:Upd [] w w'):DoAt w' r D n gs sl:=h.world hu (by simp)
theorem DoAt.code{w w':World}{r:RG}{D:Dk}{n:Nat}{gs:Nat→Gn}{sl:Nat→Sl}(h:DoAt w r D n gs sl){S:List Nat}(hu:Upd S w w')(hS:∀k,k∈S→kd w k∈codeT):DoAt w' r D n gs sl:=h.world hu fun k hk=>code_doc _ (hS k hk)
theorem JnAt.step7{w w':World}{F:Nat→Prop}{j:JG}{J:Jn}{D D':Dk}(h:JnAt w F j J D)(hd:DiskAt w' F j.d D'){S:List Nat}(hu:Upd S w w')(h0:j.jb∉S)(h1:j.ab∉S)(hb:∀k,k∈S→kd w k≠some 5)(hn:D'.n=D.n):JnAt w' F j J D':=
 ⟨hd,(hu.block _ h.lt.1 h0).trans h.st,h.away.world (hu.block _ h.lt.2 h1) (fun k c _ e=>hu.block k (blk_lt e) fun q=>hb k q (kd_cells e)),h.ne,by rw[hn];exact h.ok⟩
theorem CoSl.step{w w':World}{F:Nat→Prop}{g:DG}{n n':Nat}{gs gs':Nat→Gn}{s:Sl}(h:CoSl w F g n gs s){S:List Nat}(hu:Upd S w w')(h0:s.tb∉S)(h1:s.live≠none→s.wb∉S)(hb:∀k,k∈S→kd w k≠some 5)
  (hn:n≤n') (hg:∀k,k<n→(gs' k).jb=(gs k).jb) (hga:∀k,k<n'→s.live≠none→s.wb≠(gs' k).ab):CoSl w' F g n' gs' s:=by
 unfold CoSl at h ⊢
 cases hl:s.live with
 | none=>
  rw[hl] at h
  obtain⟨T,hT⟩:=h
  exact⟨T,(hu.block _ (blk_lt hT) h0).trans hT⟩
 | some p=>
  obtain⟨T,M⟩:=p
  rw[hl] at h h1 hga
  obtain⟨t1,t2,t3,t4⟩:=h
  refine⟨by omega,?_,t3,fun k hk=>hga k hk (by simp)⟩
  rw[hg _ t1]
  exact⟨(hu.block _ t2.lt.1 h0).trans t2.st,t2.wrote.world (hu.block _ t2.lt.2 (h1 (by simp))) (fun k c _ e=>hu.block k (blk_lt e) fun q=>hb k q (kd_cells e))⟩
theorem CoSl.lt{w:World}{F:Nat→Prop}{g:DG}{n:Nat}{gs:Nat→Gn}{s:Sl}(h:CoSl w F g n gs s):s.tb<w.heap.size∧kd w s.tb=some 101∧(s.live≠none→s.wb<w.heap.size∧kd w s.wb=none∧s.wb≠g.mb∧∀k,k<n→s.wb≠(gs k).ab):=by
 unfold CoSl at h
 cases hl:s.live with
 | none=>
  rw[hl] at h
  obtain⟨T,hT⟩:=h
  exact⟨blk_lt hT,kd_cells hT,by simp⟩
 | some p=>
  obtain⟨T,M⟩:=p
  rw[hl] at h
  obtain⟨t1,t2,t3,t4⟩:=h
  exact⟨t2.lt.1,t2.codes.1,fun _=>⟨t2.lt.2,t2.codes.2,t3,t4⟩⟩
def upF{α:Type}(f:Nat→α)(i:Nat)(a:α):Nat→α:=fun k=>if k=i then a else f k
theorem upF_same{α:Type}(f:Nat→α)(i:Nat)(a:α):upF f i a i=a:=if_pos rfl
theorem upF_ne{α:Type}(f:Nat→α){i k:Nat}(a:α)(h:k≠i):upF f i a k=f k:=if_neg h
theorem CoSl.gs{w:World}{F:Nat→Prop}{g:DG}{n:Nat}{gs gs':Nat→Gn}{s:Sl}(h:CoSl w F g n gs s)(hg:∀k,k<n→(gs' k).jb=(gs k).jb∧(gs' k).ab=(gs k).ab):CoSl w F g n gs' s:=
 h.step (Upd.refl [] w) (by simp) (by simp) (by simp) (Nat.le_refl _) (fun k hk=>(hg k hk).1) (fun k hk hl=>by rw[(hg k hk).2];exact(h.lt.2.2 hl).2.2.2 k hk)
theorem CoAt.step{w w':World}{F:Nat→Prop}{g:DG}{D:Dk}{n:Nat}{gs:Nat→Gn}{sl:Nat→Sl}(h:CoAt w F g D n gs sl){D':Dk}{y:Nat}{J':Jn}{i:Nat}{s':Sl}{S:List Nat}(hu:Upd S w w')(hi:i<3)(hy:y<n)
  (hd:JnAt w' F ((gs y).j g) J' D') (hn:D'.n=D.n) (hS:∀k,k∈S→k=(sl i).tb∨((sl i).live≠none∧k=(sl i).wb)∨k∈((gs y).j g).all)
  (hs:CoSl w' F g n gs s') (htb:s'.tb=(sl i).tb) (hwb:s'.live≠none→(sl i).live≠none∧s'.wb=(sl i).wb) :
  CoAt w' F g D' n (upF gs y { gs y with J:=J' }) (upF sl i s'):=by
 have hjy:=h.jn y hy
 obtain⟨y1,y2,y3,y4,y5⟩:=hjy.kinds
 obtain⟨i1,i2,i3⟩:=(h.tx i hi).lt
 have hb:∀k,k∈S→kd w k≠some 5:=fun k hk=>by
  rcases hS k hk with rfl | ⟨hl,rfl⟩ | q
  ·rw[i2];decide
  ·rw[(i3 hl).2.1];decide
  ·simp only[JG.all,List.mem_cons,List.not_mem_nil,or_false] at q
   rcases q with rfl | rfl | rfl | rfl | rfl
   ·rw[y1];decide
   ·rw[y2];decide
   ·rw[y3];decide
   ·rw[y4];decide
   ·rw[y5];decide
 have hsame:∀k,(upF gs y { gs y with J:=J' } k).jb=(gs k).jb∧(upF gs y { gs y with J:=J' } k).ab=(gs k).ab:=fun k=>by
  unfold upF
  split
  ·rename_i e;rw[e];exact⟨rfl,rfl⟩
  ·exact⟨rfl,rfl⟩
 have hout:∀k,k∈((gs y).j g).all→kd w k≠some 101:=fun k q=>by
  simp only[JG.all,List.mem_cons,List.not_mem_nil,or_false] at q
  rcases q with rfl | rfl | rfl | rfl | rfl
  ·rw[y1];decide
  ·rw[y2];decide
  ·rw[y3];decide
  ·rw[y4];decide
  ·rw[y5];decide
 refine⟨hd.disk,fun k hk=>?_,fun a b ha hb2 hab=>?_,fun k hk=>?_,fun a b ha hb2 hab=>?_⟩
 ·by_cases e:k=y
  ·subst e
   rw[upF_same];exact hd
  ·rw[upF_ne _ _ e]
   have hjk:=h.jn k hk
   obtain⟨k1,k2,k3,k4,k5⟩:=hjk.kinds
   obtain⟨n1,n2⟩:=h.nd k y hk hy e
   refine hjk.step7 hd.disk hu (fun q=>?_) (fun q=>?_) hb hn
   ·rcases hS _ q with r | ⟨hl,r⟩ | r
    ·rw[r,i2] at k1;exact absurd k1 (by decide)
    ·rw[r,(i3 hl).2.1] at k1;exact absurd k1 (by decide)
    ·simp only[JG.all,List.mem_cons,List.not_mem_nil,or_false] at r
     rcases r with r | r | r | r | r
     ·exact n1 r
     ·rw[r,y2] at k1;exact absurd k1 (by decide)
     ·rw[r,y3] at k1;exact absurd k1 (by decide)
     ·rw[r,y4] at k1;exact absurd k1 (by decide)
     ·rw[r,y5] at k1;exact absurd k1 (by decide)
   ·rcases hS _ q with r | ⟨hl,r⟩ | r
    ·rw[r,i2] at k2;exact absurd k2 (by decide)
    ·exact(i3 hl).2.2.2 k hk r.symm
    ·simp only[JG.all,List.mem_cons,List.not_mem_nil,or_false] at r
     rcases r with r | r | r | r | r
     ·rw[r,y1] at k2;exact absurd k2 (by decide)
     ·exact n2 r
     ·rw[r,y3] at k2;exact absurd k2 (by decide)
     ·rw[r,y4] at k2;exact absurd k2 (by decide)
     ·exact hjk.ne r
 ·rw[(hsame a).1,(hsame a).2,(hsame b).1,(hsame b).2];exact h.nd a b ha hb2 hab
 ·by_cases e:k=i
  ·subst e
   rw[upF_same]
   exact hs.gs fun k _=>hsame k
  ·rw[upF_ne _ _ e]
   obtain⟨k1,k2,k3⟩:=(h.tx k hk).lt
   obtain⟨n1,n2⟩:=h.ndt k i hk hi e
   refine((h.tx k hk).step hu (fun q=>?_) (fun hl q=>?_) hb (Nat.le_refl _) (fun _ _=>rfl) (fun a ha hl=>(k3 hl).2.2.2 a ha)).gs fun k _=>hsame k
   ·rcases hS _ q with r | ⟨hl,r⟩ | r
    ·exact n1 r
    ·rw[r,(i3 hl).2.1] at k2;exact absurd k2 (by decide)
    ·exact hout _ r k2
   ·obtain⟨l1,l2,l3,l4⟩:=k3 hl
    rcases hS _ q with r | ⟨hl2,r⟩ | r
    ·rw[r,i2] at l2;exact absurd l2 (by decide)
    ·exact n2 hl hl2 r
    ·simp only[JG.all,List.mem_cons,List.not_mem_nil,or_false] at r
     rcases r with r | r | r | r | r
     ·rw[r,y1] at l2;exact absurd l2 (by decide)
     ·exact l4 y hy r
     ·rw[r,y3] at l2;exact absurd l2 (by decide)
     ·rw[r,y4] at l2;exact absurd l2 (by decide)
     ·exact l3 r
 ·have q:=h.ndt a b ha hb2 hab
  by_cases e:a=i
  ·subst e
   rw[upF_same,upF_ne _ _ (Ne.symm hab),htb]
   exact⟨q.1,fun l1 l2=>by rw[(hwb l1).2];exact q.2 (hwb l1).1 l2⟩
  ·by_cases e2:b=i
   ·subst e2
    rw[upF_same,upF_ne _ _ e,htb]
    exact⟨q.1,fun l1 l2=>by rw[(hwb l2).2];exact q.2 l1 (hwb l2).1⟩
   ·rw[upF_ne _ _ e,upF_ne _ _ e2];exact q
theorem CoAt.put{w:World}{F:Nat→Prop}{g:DG}{D:Dk}{n:Nat}{gs:Nat→Gn}{sl:Nat→Sl}(h:CoAt w F g D n gs sl){i:Nat}{s':Sl}(hs:CoSl w F g n gs s')(hne:∀k,k<3→k≠i→s'.tb≠(sl k).tb∧((sl k).live≠none→s'.wb≠(sl k).wb)):CoAt w F g D n gs (upF sl i s'):=by
 refine⟨h.disk,h.jn,h.nd,fun k hk=>?_,fun a b ha hb hab=>?_⟩
 ·by_cases e:k=i
  ·subst e;rw[upF_same];exact hs
  ·rw[upF_ne _ _ e];exact h.tx k hk
 ·by_cases e:a=i
  ·subst e
   rw[upF_same,upF_ne _ _ (Ne.symm hab)]
   obtain⟨q1,q2⟩:=hne b hb (Ne.symm hab)
   exact⟨q1,fun _ l=>q2 l⟩
  ·by_cases e2:b=i
   ·subst e2
    rw[upF_same,upF_ne _ _ e]
    obtain⟨q1,q2⟩:=hne a ha e
    exact⟨Ne.symm q1,fun l _=>Ne.symm (q2 l)⟩
   ·rw[upF_ne _ _ e,upF_ne _ _ e2];exact h.ndt a b ha hb hab
theorem CoAt.turn{w w':World}{F:Nat→Prop}{g:DG}{D D':Dk}{n:Nat}{gs:Nat→Gn}{sl:Nat→Sl}(h:CoAt w F g D n gs sl)(hu:Upd [g.db,g.lb,g.mb] w w')(hd:DiskAt w' F g D')(hn:D'.n=D.n):CoAt w' F g D' n gs sl:=by
 obtain⟨d1,d2,d3⟩:=h.disk.kinds
 have hb:∀k,k∈[g.db,g.lb,g.mb]→kd w k≠some 5:=fun k hk=>by
  simp only[List.mem_cons,List.not_mem_nil,or_false] at hk
  rcases hk with rfl | rfl | rfl
  ·rw[d1];decide
  ·rw[d2];decide
  ·rw[d3];decide
 refine⟨hd,fun k hk=>?_,h.nd,fun k hk=>?_,h.ndt⟩
 ·have hjk:=h.jn k hk
  obtain⟨k1,k2,_⟩:=hjk.kinds
  refine hjk.step7 hd hu (fun q=>?_) (fun q=>?_) hb hn
  ·simp only[List.mem_cons,List.not_mem_nil,or_false] at q
   rcases q with r | r | r
   ·rw[r,d1] at k1;exact absurd k1 (by decide)
   ·rw[r,d2] at k1;exact absurd k1 (by decide)
   ·rw[r,d3] at k1;exact absurd k1 (by decide)
  ·simp only[List.mem_cons,List.not_mem_nil,or_false] at q
   rcases q with r | r | r
   ·rw[r,d1] at k2;exact absurd k2 (by decide)
   ·rw[r,d2] at k2;exact absurd k2 (by decide)
   ·exact hjk.ne r
 ·obtain⟨k1,k2,k3⟩:=(h.tx k hk).lt
  refine(h.tx k hk).step hu (fun q=>?_) (fun hl q=>?_) hb (Nat.le_refl _) (fun _ _=>rfl) (fun a ha hl=>(k3 hl).2.2.2 a ha)
  ·simp only[List.mem_cons,List.not_mem_nil,or_false] at q
   rcases q with r | r | r
   ·rw[r,d1] at k2;exact absurd k2 (by decide)
   ·rw[r,d2] at k2;exact absurd k2 (by decide)
   ·rw[r,d3] at k2;exact absurd k2 (by decide)
  ·obtain⟨l1,l2,l3,l4⟩:=k3 hl
   simp only[List.mem_cons,List.not_mem_nil,or_false] at q
   rcases q with r | r | r
   ·rw[r,d1] at l2;exact absurd l2 (by decide)
   ·rw[r,d2] at l2;exact absurd l2 (by decide)
   ·exact l3 r
theorem CoAt.grow{w:World}{F:Nat→Prop}{g:DG}{D:Dk}{n:Nat}{gs:Nat→Gn}{sl:Nat→Sl}(h:CoAt w F g D n gs sl){y:Gn}(hj:JnAt w F (y.j g) y.J D)(h1:∀k,k<n→y.jb≠(gs k).jb∧y.ab≠(gs k).ab)(h2:∀i,i<3→(sl i).live≠none→(sl i).wb≠y.ab):CoAt w F g D (n+1) (upF gs n y) sl:=by
 have hlt:∀k,k<n→upF gs n y k=gs k:=fun k hk=>upF_ne _ _ (by omega)
 refine⟨h.disk,fun k hk=>?_,fun a b ha hb hab=>?_,fun k hk=>?_,h.ndt⟩
 ·by_cases e:k=n
  ·subst e;rw[upF_same];exact hj
  ·rw[upF_ne _ _ e];exact h.jn k (by omega)
 ·by_cases e:a=n
  ·subst e
   rw[upF_same,upF_ne _ _ (Ne.symm hab)];exact h1 b (by omega)
  ·by_cases e2:b=n
   ·subst e2
    rw[upF_same,upF_ne _ _ e]
    exact⟨Ne.symm (h1 a (by omega)).1,Ne.symm (h1 a (by omega)).2⟩
   ·rw[upF_ne _ _ e,upF_ne _ _ e2];exact h.nd a b (by omega) (by omega) hab
 ·refine(h.tx k hk).step (Upd.refl [] w) (by simp) (by simp) (by simp) (by omega) (fun a ha=>by rw[hlt a ha]) (fun a ha hl=>?_)
  by_cases e:a=n
  ·subst e;rw[upF_same];exact h2 k hk hl
  ·rw[upF_ne _ _ e];exact((h.tx k hk).lt.2.2 hl).2.2.2 a (by omega)
theorem RjmAt.step7{w w':World}{q:QG}{J:Jn}{D D':Dk}(h:RjmAt w q J D)(hd:RdkAt w' q.r D'){S:List Nat}(hu:Upd S w w')(hS:∀k,k∈q.own→k∉S)(hn:D'.n=D.n):RjmAt w' q J D':=by
 obtain⟨l,h1,h2⟩:=h.now
 refine⟨hd,?_,?_,⟨l,h1.upd hu (hS _ (by simp[QG.own])),by rw[hn];exact h2⟩,by rw[hn];exact h.ok,h.ne⟩
 ·rw[hn];exact(hu.block _ (blk_lt h.st) (hS _ (by simp[QG.own]))).trans h.st
 ·rw[hn];exact h.away.upd hu (hS _ (by simp[QG.own]))
theorem DoSl.kinds{w:World}{r:RG}{n:Nat}{gs:Nat→Gn}{s:Sl}(h:DoSl w r n gs s):kd w s.x.tb=some 154∧kd w s.x.ob=some 9∧s.x.tb<w.heap.size∧s.x.ob<w.heap.size:=by
 obtain⟨h1,_⟩:=h
 cases hl:s.live with
 | none=>
  rw[hl] at h1
  obtain⟨jb,T,M,a,_⟩:=h1
  exact⟨a.kinds.1,a.kinds.2,a.lt.1,a.lt.2⟩
 | some p=>
  obtain⟨T,M⟩:=p
  rw[hl] at h1
  have a:RtAt w s.x (gs s.gen).q.jb T M 50 false:=h1
  exact⟨a.kinds.1,a.kinds.2,a.lt.1,a.lt.2⟩
theorem DoSl.step{w w':World}{r:RG}{n n':Nat}{gs gs':Nat→Gn}{s:Sl}(h:DoSl w r n gs s){S:List Nat}(hu:Upd S w w')(h0:s.x.tb∉S)(h1:s.x.ob∉S)(hg:s.live≠none→(gs' s.gen).q.jb=(gs s.gen).q.jb)(hnb:∀k,k<n'→s.x.ob≠(gs' k).q.nb):DoSl w' r n' gs' s:=by
 obtain⟨a,b,c,_⟩:=h
 refine⟨?_,b,c,hnb⟩
 cases hl:s.live with
 | none=>
  rw[hl] at a
  obtain⟨jb,T,M,p,q⟩:=a
  exact⟨jb,T,M,p.upd hu h0 h1,q⟩
 | some p=>
  obtain⟨T,M⟩:=p
  rw[hl] at a hg
  have a':RtAt w s.x (gs s.gen).q.jb T M 50 false:=a
  show RtAt w' s.x (gs' s.gen).q.jb T M 50 false
  rw[hg (by simp)]
  exact a'.upd hu h0 h1
theorem QG.mem_own{q:QG}{k:Nat}:k∈q.own↔k=q.jb∨k=q.ab∨k=q.nb:=by simp[QG.own]
theorem DoAt.step{w w':World}{r:RG}{D:Dk}{n:Nat}{gs:Nat→Gn}{sl:Nat→Sl}(h:DoAt w r D n gs sl){D':Dk}{y:Nat}{J':Jn}{i:Nat}{s':Sl}{S:List Nat}(hu:Upd S w w')(hi:i<3)(hy:y<n)
  (hd:RjmAt w' (gs y).q J' D') (hn:D'.n=D.n) (hS:∀k,k∈S→k=(sl i).x.tb∨k=(sl i).x.ob∨k∈(gs y).q.all)
  (hs:DoSl w' r n gs s') (hx:s'.x=(sl i).x):DoAt w' r D' n (upF gs y { gs y with J:=J' }) (upF sl i s'):=by
 obtain⟨hjy,hry⟩:=h.jq y hy
 obtain⟨y1,y2,y3⟩:=hjy.kinds
 obtain⟨r1,r2,r3⟩:=h.rdk.kinds
 obtain⟨i1,i2,_⟩:=(h.tx i hi).kinds
 obtain⟨_,ib,ic,id⟩:=h.tx i hi
 have hsame:∀k,(upF gs y { gs y with J:=J' } k).q=(gs k).q:=fun k=>by
  unfold upF
  split
  ·rename_i e;rw[e]
  ·rfl
 have hSk:∀k,k∈S→(k=(sl i).x.tb∨k=(sl i).x.ob)∨(k=(gs y).q.jb∨k=(gs y).q.ab∨k=(gs y).q.nb)∨(k=r.rb∨k=r.lb∨k=r.wb):=fun k hk=>by
  rcases hS k hk with q | q | q
  ·exact .inl (.inl q)
  ·exact .inl (.inr q)
  ·unfold QG.all at q
   rw[List.mem_append,hry] at q
   rcases q with q | q
   ·exact .inr (.inl (QG.mem_own.1 q))
   ·simp[RG.all] at q
    exact .inr (.inr q)
 have hrd:RdkAt w' r D':=by have:=hd.disk;rw[hry] at this;exact this
 have hkd:∀k,k∈S→kd w k∈docT:=fun k hk=>by
  rcases hSk k hk with(rfl | rfl) | (rfl | rfl | rfl) | (rfl | rfl | rfl)
  ·rw[i1];decide
  ·rw[i2];decide
  ·rw[y1];decide
  ·rw[y2];decide
  ·rw[y3];decide
  ·rw[r1];decide
  ·rw[r2];decide
  ·rw[r3];decide
 refine⟨hrd,fun k hk=>?_,fun a b ha hb hab=>?_,fun k hk=>?_,fun a b ha hb hab=>?_⟩
 ·by_cases e:k=y
  ·subst e
   rw[upF_same];exact⟨hd,hry⟩
  ·rw[upF_ne _ _ e]
   obtain⟨hjk,hrk⟩:=h.jq k hk
   obtain⟨k1,k2,k3⟩:=hjk.kinds
   have hne:=hjk.ne
   rw[hrk] at hne
   refine⟨hjk.step7 (by rw[hrk];exact hrd) hu (fun b hb q=>?_) hn,hrk⟩
   have hnd:=h.nd k y hk hy e b hb
   rw[QG.mem_own,not_or,not_or] at hnd
   have hkb:=hb
   rw[QG.mem_own] at hb
   rcases hSk b q with(rfl | rfl) | c | c
   ·rcases hb with e | e | e
    ·rw[e,k1] at i1;exact absurd i1 (by decide)
    ·rw[e,k2] at i1;exact absurd i1 (by decide)
    ·rw[e,k3] at i1;exact absurd i1 (by decide)
   ·rcases hb with e | e | e
    ·rw[e,k1] at i2;exact absurd i2 (by decide)
    ·rw[e,k2] at i2;exact absurd i2 (by decide)
    ·exact id k hk e
   ·rcases c with c | c | c
    ·exact hnd.1 c
    ·exact hnd.2.1 c
    ·exact hnd.2.2 c
   ·rcases c with rfl | rfl | rfl
    ·rcases hb with e | e | e
     ·rw[e,k1] at r1;exact absurd r1 (by decide)
     ·rw[e,k2] at r1;exact absurd r1 (by decide)
     ·rw[e,k3] at r1;exact absurd r1 (by decide)
    ·rcases hb with e | e | e
     ·rw[e,k1] at r2;exact absurd r2 (by decide)
     ·rw[e,k2] at r2;exact absurd r2 (by decide)
     ·exact hne.1 e.symm
    ·rcases hb with e | e | e
     ·rw[e,k1] at r3;exact absurd r3 (by decide)
     ·rw[e,k2] at r3;exact absurd r3 (by decide)
     ·exact hne.2 e.symm
 ·rw[hsame a,hsame b];exact h.nd a b ha hb hab
 ·by_cases e:k=i
  ·subst e
   rw[upF_same]
   exact hs.step (Upd.refl [] w') (by simp) (by simp) (fun _=>by rw[hsame]) (fun k hk=>by rw[hsame];exact hs.2.2.2 k hk)
  ·rw[upF_ne _ _ e]
   obtain⟨k1,k2,_⟩:=(h.tx k hk).kinds
   obtain⟨_,kb,kc,kdd⟩:=h.tx k hk
   obtain⟨n1,n2⟩:=h.ndt k i hk hi e
   refine(h.tx k hk).step hu (fun q=>?_) (fun q=>?_) (fun _=>by rw[hsame]) (fun a ha=>by rw[hsame];exact kdd a ha)
   ·rcases hSk _ q with(c | c) | (c | c | c) | (c | c | c)
    ·exact n1 c
    ·rw[c,i2] at k1;exact absurd k1 (by decide)
    ·rw[c,y1] at k1;exact absurd k1 (by decide)
    ·rw[c,y2] at k1;exact absurd k1 (by decide)
    ·rw[c,y3] at k1;exact absurd k1 (by decide)
    ·rw[c,r1] at k1;exact absurd k1 (by decide)
    ·rw[c,r2] at k1;exact absurd k1 (by decide)
    ·rw[c,r3] at k1;exact absurd k1 (by decide)
   ·rcases hSk _ q with(c | c) | (c | c | c) | (c | c | c)
    ·rw[c,i1] at k2;exact absurd k2 (by decide)
    ·exact n2 c
    ·rw[c,y1] at k2;exact absurd k2 (by decide)
    ·rw[c,y2] at k2;exact absurd k2 (by decide)
    ·exact kdd y hy c
    ·rw[c,r1] at k2;exact absurd k2 (by decide)
    ·exact kb c
    ·exact kc c
 ·have q:=h.ndt a b ha hb hab
  by_cases e:a=i
  ·subst e
   rw[upF_same,upF_ne _ _ (Ne.symm hab),hx];exact q
  ·by_cases e2:b=i
   ·subst e2
    rw[upF_same,upF_ne _ _ e,hx];exact q
   ·rw[upF_ne _ _ e,upF_ne _ _ e2];exact q
theorem DoAt.put{w:World}{r:RG}{D:Dk}{n:Nat}{gs:Nat→Gn}{sl:Nat→Sl}(h:DoAt w r D n gs sl){i:Nat}{s':Sl}(hs:DoSl w r n gs s')(hne:∀k,k<3→k≠i→s'.x.tb≠(sl k).x.tb∧s'.x.ob≠(sl k).x.ob):DoAt w r D n gs (upF sl i s'):=by
 refine⟨h.rdk,h.jq,h.nd,fun k hk=>?_,fun a b ha hb hab=>?_⟩
 ·by_cases e:k=i
  ·subst e;rw[upF_same];exact hs
  ·rw[upF_ne _ _ e];exact h.tx k hk
 ·by_cases e:a=i
  ·subst e
   rw[upF_same,upF_ne _ _ (Ne.symm hab)];exact hne b hb (Ne.symm hab)
  ·by_cases e2:b=i
   ·subst e2
    rw[upF_same,upF_ne _ _ e]
    exact⟨Ne.symm (hne a ha e).1,Ne.symm (hne a ha e).2⟩
   ·rw[upF_ne _ _ e,upF_ne _ _ e2];exact h.ndt a b ha hb hab
theorem DoAt.turn{w w':World}{r:RG}{D D':Dk}{n:Nat}{gs:Nat→Gn}{sl:Nat→Sl}(h:DoAt w r D n gs sl)(hu:Upd r.all w w')(hd:RdkAt w' r D')(hn:D'.n=D.n):DoAt w' r D' n gs sl:=by
 obtain⟨r1,r2,r3⟩:=h.rdk.kinds
 refine⟨hd,fun k hk=>?_,h.nd,fun k hk=>?_,h.ndt⟩
 ·obtain⟨hjk,hrk⟩:=h.jq k hk
  refine⟨hjk.step7 (by rw[hrk];exact hd) hu (fun b hb q=>hjk.apart b hb (by rw[hrk];exact q)) hn,hrk⟩
 ·obtain⟨k1,k2,_⟩:=(h.tx k hk).kinds
  obtain⟨_,kb,kc,kdd⟩:=h.tx k hk
  refine(h.tx k hk).step hu (fun q=>?_) (fun q=>?_) (fun _=>rfl) kdd
  ·simp[RG.all] at q
   rcases q with c | c | c
   ·rw[c,r1] at k1;exact absurd k1 (by decide)
   ·rw[c,r2] at k1;exact absurd k1 (by decide)
   ·rw[c,r3] at k1;exact absurd k1 (by decide)
  ·simp[RG.all] at q
   rcases q with c | c | c
   ·rw[c,r1] at k2;exact absurd k2 (by decide)
   ·exact kb c
   ·exact kc c
theorem DoAt.grow{w:World}{r:RG}{D:Dk}{n:Nat}{gs:Nat→Gn}{sl:Nat→Sl}(h:DoAt w r D n gs sl){y:Gn}(hj:RjmAt w y.q y.J D)(hr:y.q.r=r)(h1:∀k,k<n→∀b,b∈y.q.own→b∉(gs k).q.own)(h2:∀i,i<3→(sl i).x.ob≠y.q.nb)(h3:∀i,i<3→(sl i).live≠none→(sl i).gen<n):DoAt w r D (n+1) (upF gs n y) sl:=by
 refine⟨h.rdk,fun k hk=>?_,fun a b ha hb hab=>?_,fun k hk=>?_,h.ndt⟩
 ·by_cases e:k=n
  ·subst e;rw[upF_same];exact⟨hj,hr⟩
  ·rw[upF_ne _ _ e];exact h.jq k (by omega)
 ·by_cases e:a=n
  ·subst e
   rw[upF_same,upF_ne _ _ (Ne.symm hab)];exact h1 b (by omega)
  ·by_cases e2:b=n
   ·subst e2
    rw[upF_same,upF_ne _ _ e]
    intro c hc q
    exact h1 a (by omega) c q hc
   ·rw[upF_ne _ _ e,upF_ne _ _ e2];exact h.nd a b (by omega) (by omega) hab
 ·refine(h.tx k hk).step (Upd.refl [] w) (by simp) (by simp) (fun hl=>by rw[upF_ne _ _ (by have:=h3 k hk hl;omega)]) (fun a ha=>?_)
  by_cases e:a=n
  ·subst e;rw[upF_same];exact h2 k hk
  ·rw[upF_ne _ _ e];exact(h.tx k hk).2.2.2 a (by omega)
end Go.Proofs.YtplppdbdfhkljaaGreat
end
