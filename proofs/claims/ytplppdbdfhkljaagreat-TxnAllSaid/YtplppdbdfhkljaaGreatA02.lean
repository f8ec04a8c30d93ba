/-
  What Disk.Write does.
-/
import Derived.Test.YtplppdbdfhkljaaGreatA01
import Derived.Deep.RegionHeld3
import Derived.Deep.DeepFit
import Derived.Test.YtplppdbdfhkljaaGreatIterLay
import Derived.BigQuiet
set_option maxRecDepth 100000
set_option maxHeartbeats 16000000
section
namespace Go.Proofs.YtplppdbdfhkljaaGreat
open Go.RowKit
def Gr(F:Nat→Prop)(n:Nat):Nat→Prop:=fun k=>F k∨n≤k
theorem Gr.old{F:Nat→Prop}{n:Nat}:∀k,F k→Gr F n k:=fun _ h=> .inl h
theorem Gr.new{F:Nat→Prop}{n m:Nat}(h:n≤m):∀k,m≤k→Gr F n k:=fun _ hk=> .inr (Nat.le_trans h hk)
theorem Gr.gr{F:Nat→Prop}{n m:Nat}(h:n≤m):∀k,Gr F m k→Gr F n k:=fun _ hk=>hk.imp id (Nat.le_trans h)
theorem Gr.gr2{F:Nat→Prop}{n m:Nat}(h:n≤m):∀k,Gr (Gr F n) m k→Gr F n k:=fun _ hk=>hk.elim id (fun q=> .inr (Nat.le_trans h q))
theorem OwnN.shape{w:World}{u8:TypeId}{F:Nat→Prop}{v:Value}{l:List UInt8}(h:OwnN w u8 F v l):∃a n c,v=.slice a n c:=by
 rcases h with⟨⟨k,r,_,e,_⟩,_⟩ | ⟨_,e⟩
 ·exact⟨_,_,_,e⟩
 ·exact⟨_,_,_,e⟩
theorem Rd.of_block{w w':World}{v:Value}{l:List UInt8}(h:Rd w v l)(hb:∀b o c,w.cell? ⟨b,o,none⟩=some (bv c)→w'.heap[b]?=w.heap[b]?):Rd w' v l:=by
 obtain⟨ao,cap,e,hc,hh⟩:=h
 refine⟨ao,cap,e,hc,fun hp=>?_⟩
 obtain⟨b,off,rfl,hcell⟩:=hh hp
 refine⟨b,off,rfl,fun i hi=>?_⟩
 rw[World.cell?_of_block (w:=w) (hb _ _ _ (hcell i hi))];exact hcell i hi
theorem Rd.below{w w':World}{v:Value}{l:List UInt8}(h:Rd w v l)(hb:Upd [] w w'):Rd w' v l:=
 h.of_block fun _ _ _ hc=>hb.block _ (block_lt_of_cell hc) (by simp)
theorem DiskAt.cell{w:World}{F:Nat→Prop}{g:DG}{D:Dk}(h:DiskAt w F g D){b o:Nat}{c:UInt8}(hc:w.cell? ⟨b,o,none⟩=some (bv c)):b∉[g.db,g.lb,g.mb]:=by
 obtain⟨⟨fv,a1,a2⟩,⟨lv,b1,_,b3⟩,⟨f,hf,_⟩,_⟩:=h
 simp only[List.mem_cons,List.not_mem_nil,or_false,not_or]
 refine⟨?_,?_,?_⟩
 ·rintro rfl
  rw[blk_cell a1] at hc
  have hfv:fv≠bv c:=by
   rcases a2 with⟨⟨k,r,_,e,_⟩,_⟩ | ⟨_,e⟩<;>rw[e]<;>simp[bv]
  match o,hc with
  | 0,hc | 1,hc | 2,hc | 3,hc | 4,hc | 5,hc | 7,hc | 8,hc=>simp[bv] at hc
  | 6,hc=>simp at hc;exact hfv hc
  | o+9,hc=>simp at hc
 ·rintro rfl
  rw[blk_cell b1] at hc
  have hl:=b3 o _ (by simpa using hc)
  rcases hl with⟨e,_⟩ | ⟨k,r,_,e,_⟩<;>simp[bv] at e
 ·rintro rfl
  obtain⟨es,clock,hm,_⟩:=hf
  simp[World.cell?,hm] at hc
theorem Rd.disk{w w':World}{F:Nat→Prop}{g:DG}{D:Dk}(h:DiskAt w F g D){v:Value}{l:List UInt8}(hr:Rd w v l){S:List Nat}(hu:Upd S w w')(hS:∀k,k∈S→k∈[g.db,g.lb,g.mb]):Rd w' v l:=
 hr.of_block fun _ _ _ hc=>hu.block _ (block_lt_of_cell hc) (fun q=>h.cell hc (hS _ q))
theorem Rd.take{w:World}{ao:Option Addr}{n cap:Nat}{l:List UInt8}(h:Rd w (.slice ao n cap) l)(k:Nat)(hk:k≤l.length):Rd w (.slice ao k cap) (l.take k):=by
 obtain⟨ao',cap',e,hc,hh⟩:=h
 simp only[Value.slice.injEq] at e
 obtain⟨rfl,rfl,rfl⟩:=e
 have hlen:(l.take k).length=k:=by rw[List.length_take];omega
 refine⟨ao,cap,by rw[hlen],by omega,fun hp=>?_⟩
 obtain⟨b,off,rfl,hcell⟩:=hh (by omega)
 refine⟨b,off,rfl,fun i hi=>?_⟩
 rw[List.getElem_take]
 exact hcell i (by omega)
set_option maxHeartbeats 400000 in
theorem write_err{w:World}{F:Nat→Prop}{g:DG}{D:Dk}(h:DiskAt w F g D)(i:Int)(v:Value)(hm:D.may i≠0) :
  Calls Tryz.prog 122 #[.pointer (some ⟨g.db,0,none⟩),.int .i64 i,v] w fun e w'=>e=.returned (.int .i64 (D.may i))∧w=w':=by
 have H:=Lib.hid h
 have hm':(D.may i != 0)=true:=by simpa using hm
 clear h hm
 go_enter Tryz.func122,Tryz.ntmps122
 go_wp2_with (go_at_call 127;refine(may_spec H.out _).mono ?_;rintro e w' ⟨rfl,rfl⟩)
 go_ret
 exact⟨rfl,rfl⟩
set_option maxHeartbeats 400000 in
theorem write_size{w:World}{F:Nat→Prop}{g:DG}{D:Dk}(h:DiskAt w F g D)(i:Int)(ao:Option Addr)(n cap:Nat)(hm:D.may i=0)(hn:n≠512) :
  Calls Tryz.prog 122 #[.pointer (some ⟨g.db,0,none⟩),.int .i64 i,.slice ao n cap] w fun e w'=>e=.returned (.int .i64 9)∧w=w':=by
 have H:=Lib.hid h
 have hm':(D.may i != 0)=false:=by simp[hm]
 have hn':((n:Int) != 512)=true:=by rw[bne_iff_ne];omega
 clear h hm hn
 go_enter Tryz.func122,Tryz.ntmps122
 go_wp2_with (go_at_call 127;refine(may_spec H.out _).mono ?_;rintro e w' ⟨rfl,rfl⟩)
 go_ret
 exact⟨rfl,rfl⟩
set_option maxHeartbeats 400000 in
theorem write_fail{w:World}{F:Nat→Prop}{g:DG}{D:Dk}(h:DiskAt w F g D)(i:Nat)(v:Value)(b:List UInt8)(hr:Rd w v b)(hoff:D.off=false)(hi:i<D.n)(hb:b.length=512)(harm:D.armed=0) :
  Calls Tryz.prog 122 #[.pointer (some ⟨g.db,0,none⟩),.int .i64 (i:Int),v] w fun e w'=>e=.returned (.int .i64 8)∧DiskAt w' (Gr F w.heap.size) g { D with off:=true,way:=some i,front:=b.take D.part }∧Upd [g.db] w w':=by
 have H:=Lib.hid h
 have hm:D.may i=0:=Dk.may_of hoff (by omega) (by omega)
 have hm':(D.may i != 0)=false:=by simp[hm]
 have ha:(D.armed != 0)=false:=by simp[harm]
 have HA:=Lib.hid harm
 have HR:=Lib.hid hr
 have HB:=Lib.hid hb
 have HOK:=Lib.hid h.ok
 have hp:=h.ok.part
 obtain⟨ao,cap,rfl,hcap,_⟩:=id hr
 have hn':((b.length:Int) != 512)=false:=by simp[hb]
 have hbl:512≤b.length:=by omega
 have hbl2:b.length≤512:=by omega
 clear h hm harm hr hb
 go_enter Tryz.func122,Tryz.ntmps122
 go_wp2_with (first | (go_at_call 127;refine(may_spec H.out _).mono ?_;rintro e w' ⟨rfl,rfl⟩) | fail)
 refine(goes_spec H.out).mono ?_
 rintro e w1 ⟨rfl,hD1,hu1⟩
 have hgone:D.gone = { D with off:=true }:=by unfold Dk.gone;rw[if_pos HA.out]
 rw[hgone] at hD1
 have HR1:=Lib.hid ((HR.out.disk H.out hu1 (by simp)).take D.part (by omega))
 have HD1:=Lib.hid hD1
 obtain⟨fv,a1,_⟩:=hD1.st
 have hc:=blk_cell a1
 have HA1:=Lib.hid a1
 have HU1:=Lib.hid hu1
 clear hgone hD1 hu1 a1
 go_wp2_with fail
 refine(clone_spec _ _ _ HR1.out (by rw[List.length_take];omega)).mono ?_
 rintro e w2 ⟨v',rfl,hu2,ho2⟩
 obtain⟨aq,nq,cq,rfl⟩:=ho2.shape
 have a2:w2.heap[g.db]?=_:=(hu2.block _ (blk_lt HA1.out) (by simp)).trans HA1.out
 have hc2:=blk_cell a2
 have hf2:=blk_free a2
 have HU2:=Lib.hid hu2
 have HO2:=Lib.hid ho2
 have HA2:=Lib.hid a2
 clear hu2 ho2 a2 hc
 go_wp2
 go_ret
 have hsz:=HU1.out.size
 refine⟨rfl,?_,?_⟩
 ·have hD2:DiskAt w2 (Gr F w.heap.size) g { D with off:=true }:=
   (HD1.out.world (HU2.out.block _ HD1.out.lt.1 (by simp)) (HU2.out.block _ HD1.out.lt.2.1 (by simp)) (HU2.out.block _ HD1.out.lt.2.2 (by simp)) (fun k c _ hk=>HU2.out.block _ (blk_lt hk) (by simp))).mono Gr.old
  refine hD2.re ⟨.slice aq nq cq,?_,?_⟩ (fun k _ hk=>by rw[blk_set_ne _ _ hk,blk_set_ne _ _ hk]) rfl rfl rfl ?_
  ·rw[blk_set (blk_set HA2.out 5 _) 6 _];simp[wayv]
  ·refine(HO2.out.mono (Gr.new hsz)).world (fun k c _ hk=>?_)
   have hne:k≠g.db:=by rintro rfl;rw[HA2.out] at hk;simp at hk
   rw[blk_set_ne _ _ hne,blk_set_ne _ _ hne]
  ·have ok:=HOK.out
   exact⟨ok.n0,ok.n1,ok.last,ok.wait,ok.armed0,ok.armed1,ok.part,fun j hj=>by cases hj;exact hi,by simp;omega⟩
 ·exact((HU1.out.late HU2.out (by simp)).set _ (.inl (by simp))).set _ (.inl (by simp))
set_option maxHeartbeats 1000000 in
theorem write_ok{w:World}{F:Nat→Prop}{g:DG}{D:Dk}(h:DiskAt w F g D)(i:Nat)(v:Value)(b:List UInt8)(hr:Rd w v b)(hoff:D.off=false)(hi:i<D.n)(hb:b.length=512)(harm:D.armed≠0) :
  Calls Tryz.prog 122 #[.pointer (some ⟨g.db,0,none⟩),.int .i64 (i:Int),v] w fun e w'=>e=.returned (.int .i64 0)∧DiskAt w' (Gr F w.heap.size) g { D.step with wait:=fun j=>if j=i then some b else D.wait j,writes:=wrap64 (D.writes+1) }∧Upd [g.db,g.mb] w w':=by
 have H:=Lib.hid h
 have hm:D.may i=0:=Dk.may_of hoff (by omega) (by omega)
 have hm':(D.may i != 0)=false:=by simp[hm]
 have ha:(D.armed != 0)=true:=by simpa using harm
 have HA:=Lib.hid harm
 have HR:=Lib.hid hr
 have HB:=Lib.hid hb
 obtain⟨ao,cap,rfl,hcap,_⟩:=id hr
 have hn':((b.length:Int) != 512)=false:=by simp[hb]
 clear h hm harm hr hb
 go_enter Tryz.func122,Tryz.ntmps122
 go_wp2_with (first | (go_at_call 127;refine(may_spec H.out _).mono ?_;rintro e w' ⟨rfl,rfl⟩) | fail)
 refine(goes_spec H.out).mono ?_
 rintro e w1 ⟨rfl,hD1,hu1⟩
 have hgone:D.gone=D.step:=by unfold Dk.gone;rw[if_neg HA.out]
 rw[hgone] at hD1
 have HR1:=Lib.hid (HR.out.disk H.out hu1 (by simp))
 have HD1:=Lib.hid hD1
 obtain⟨fv,a1,_⟩:=hD1.st
 have hc:=blk_cell a1
 have HA1:=Lib.hid a1
 have HU1:=Lib.hid hu1
 have hlt:g.db<w1.heap.size:=hD1.lt.1
 have hcm:w1.cell? ⟨g.db,1,none⟩=some (.map (some g.mb)):=by rw[hc];rfl
 obtain⟨f,hf,hf1,hf2⟩:=hD1.wait
 have hfW:MapI (w1.alloc (.cells (bts (pad b)).toArray 5)).drew g.mb f:=hf.world (blk_alloc_ne hf.lt)
 obtain⟨o,hrun,hmap⟩:=hfW.update (P:=Tryz.prog) (T:=99) Tryz.underlying99 Tryz.underlying3 (i:Int) (.slice (some ⟨w1.heap.size,0,none⟩) 512 512)
 have hkeep:(ChangeMaps.setBlock (w1.alloc (.cells (bts (pad b)).toArray 5)).drew g.mb o).cell? ⟨g.db,1,none⟩=some (.map (some g.mb)):=by
  rw[World.cell?_of_block (w:=w1)]
  ·exact hcm
  ·rw[setBlock_ne _ (Ne.symm hD1.ne2)];exact blk_alloc_ne hlt
 have HM:=Lib.hid hmap
 have HF1:=Lib.hid hf1
 have HF2:=Lib.hid hf2
 clear hgone hD1 hu1 a1 hf hfW hmap hf1 hf2 hc
 go_wp2_with fail
 go_region_held3 (fun w'=>w'.cell? ⟨g.db,1,none⟩=some (.map (some g.mb))) (go_keep)
  (first | (go_at_call 80;refine(whole_spec _ b _ ?_).mono ?_;exact HR1.out;rintro e w' ⟨rfl,rfl⟩))
 have eW:∀k,k<w1.heap.size→k≠g.mb→(ChangeMaps.setBlock (w1.alloc (.cells (bts (pad b)).toArray 5)).drew g.mb o).heap[k]?=w1.heap[k]?:=fun k hk hne=>by
  rw[setBlock_ne _ hne];exact blk_alloc_ne hk
 have eN:(ChangeMaps.setBlock (w1.alloc (.cells (bts (pad b)).toArray 5)).drew g.mb o).heap[w1.heap.size]?=some (.cells (bts (pad b)).toArray 5):=by
  rw[setBlock_ne _ (by have:=HD1.out.lt.2.2;omega)];exact blk_alloc _
 have eU:Upd [g.mb] w1 (ChangeMaps.setBlock (w1.alloc (.cells (bts (pad b)).toArray 5)).drew g.mb o):=((Upd.refl _ _).alloc _).drew.setBlock _ (.inl (by simp))
 generalize ChangeMaps.setBlock (w1.alloc (.cells (bts (pad b)).toArray 5)).drew g.mb o=W at *
 have aW:W.heap[g.db]?=_:=(eW _ hlt (Ne.symm HD1.out.ne2)).trans HA1.out
 have hcW:=blk_cell aW
 have hfW:=blk_free aW
 have HE:=Lib.hid eW
 have HN:=Lib.hid eN
 have HU:=Lib.hid eU
 have HAW:=Lib.hid aW
 clear eW eN eU aW hkeep hrun hcm
 go_wp2
 go_ret
 have hw:D.step.writes=D.writes:=by unfold Dk.step;split<;>rfl
 have hwt:D.step.wait=D.wait:=by unfold Dk.step;split<;>rfl
 have hs1:=HU1.out.size
 refine⟨rfl,?_,?_⟩
 ·have ha:∀k c,F k→w1.heap[k]?=some (.cells c 5 (0,0))→W.heap[k]?=w1.heap[k]?:=fun k c _ hk=>
   HE.out k (blk_lt hk) (fun e=>HD1.out.byte hk (by simp[e]))
  have hDW:DiskAt W (Gr F w.heap.size) g { D.step with wait:=fun j=>if j=i then some b else D.wait j }:=by
   obtain⟨⟨fv',q1,q2⟩,⟨lv,b1,b2,b3⟩,_,ok⟩:=HD1.out
   refine⟨⟨fv',(HE.out _ hlt (Ne.symm HD1.out.ne2)).trans q1,(q2.world ha).mono Gr.old⟩,⟨lv,(HE.out _ HD1.out.lt.2.1 (Ne.symm HD1.out.ne3)).trans b1,b2,fun j v hv=>((b3 j v hv).world ha).mono Gr.old⟩,⟨_,HM.out,?_,?_⟩,?_⟩
   ·intro k v hk
    by_cases hki:k=(i:Int)
    ·rw[if_pos hki] at hk
     cases hk
     refine⟨by omega,b,by simp[hki],⟨w1.heap.size,[],.inr hs1,by simp[HB.out],?_⟩⟩
     rw[HN.out,pad_full HB.out];simp
    ·rw[if_neg hki] at hk
     obtain⟨k0,s,e1,o1⟩:=HF1.out k v hk
     exact⟨k0,s,by rw[hwt] at e1;show(if k.toNat=i then some b else D.wait k.toNat)=some s;rw[if_neg (by omega)];exact e1,(o1.world ha).mono Gr.old⟩
   ·intro j s hj
    by_cases hji:(j:Int)=(i:Int)
    ·exact⟨_,if_pos hji⟩
    ·obtain⟨v,hv⟩:=HF2.out j s (by rw[hwt];rw[← hj];show D.wait j=if j=i then some b else D.wait j;rw[if_neg (by omega)])
     exact⟨v,by rw[if_neg hji];exact hv⟩
   ·refine⟨ok.n0,ok.n1,ok.last,?_,ok.armed0,ok.armed1,ok.part,ok.way,ok.front⟩
    intro j s hj
    have hn:D.step.n=D.n:=by unfold Dk.step;split<;>rfl
    by_cases hji:j=i
    ·simp only[if_pos hji,Option.some.injEq] at hj
     subst hj
     exact⟨by show j<D.step.n;omega,HB.out⟩
    ·simp only[if_neg hji] at hj
     exact ok.wait j s (by rw[hwt];exact hj)
  obtain⟨fv',q1,q2⟩:=hDW.st
  refine hDW.re ⟨fv',?_,?_⟩ (fun k _ hk=>blk_set_ne _ _ hk) rfl rfl rfl ?_
  ·rw[blk_set q1];simp[hw]
  ·exact q2.world (fun k c _ hk=>blk_set_ne _ _ (by rintro rfl;rw[q1] at hk;simp at hk))
  ·have ok:=hDW.ok
   exact⟨ok.n0,ok.n1,ok.last,ok.wait,ok.armed0,ok.armed1,ok.part,ok.way,ok.front⟩
 ·exact((HU1.out.mono (by simp)).trans (HU.out.mono (by simp))).set _ (.inl (by simp))
end Go.Proofs.YtplppdbdfhkljaaGreat
namespace Go.Proofs.YtplppdbdfhkljaaGreat
open Go.RowKit
theorem Dk.step_wait(D:Dk):D.step.wait=D.wait:=by unfold Dk.step;split<;>rfl
theorem Dk.step_last(D:Dk):D.step.last=D.last:=by unfold Dk.step;split<;>rfl
theorem Dk.step_n(D:Dk):D.step.n=D.n:=by unfold Dk.step;split<;>rfl
theorem Dk.step_off(D:Dk):D.step.off=D.off:=by unfold Dk.step;split<;>rfl
def FlRel(w1:World)(g:DG)(es:Array MapEntry)(clock:Nat)(lv:List Value)(wr:World):Prop:=
 ∃(seen:Array Nat) (c:Nat) (lv':List Value),clock≤c∧wr.heap[w1.heap.size]?=some (.mapIter (some g.mb) clock seen c)∧wr.heap[g.lb]?=some (.cells lv'.toArray 34 (0,0))∧lv'.length=lv.length∧
  (∀(i:Nat) (v:Value),lv'[i]?=some v→(∃e∈es.toList,seen.contains e.born=true∧e.key=.int .i64 (i:Int)∧e.val=v)∨((∀e∈es.toList,e.key=.int .i64 (i:Int)→seen.contains e.born=false)∧lv[i]?=some v))∧
  Upd [g.lb] w1 wr
def flLeft(es:Array MapEntry)(r:Nat)(wr:World):Nat:=(leftOf es (wr.iterSeen r)).size
theorem iterSeen_of{w:World}{r:Nat}{m:Option Nat}{s:Nat}{seen:Array Nat}{c:Nat}(h:w.heap[r]?=some (.mapIter m s seen c)):w.iterSeen r=seen:=by
 unfold World.iterSeen;rw[h]
theorem FlRel.step{w1:World}{g:DG}{es:Array MapEntry}{clock:Nat}{lv:List Value}{W:World}{seen:Array Nat}{lv':List Value}{c:Nat}{key:Int}{val:Value}{born j:Nat}
  (hcl:clock≤c) (hit:W.heap[w1.heap.size]?=some (.mapIter (some g.mb) clock (seen.push born) c)) (hlb:W.heap[g.lb]?=some (.cells lv'.toArray 34 (0,0))) (hlen:lv'.length=lv.length)
  (hlv:∀(i:Nat) (v:Value),lv'[i]?=some v→(∃e∈es.toList,seen.contains e.born=true∧e.key=.int .i64 (i:Int)∧e.val=v)∨((∀e∈es.toList,e.key=.int .i64 (i:Int)→seen.contains e.born=false)∧lv[i]?=some v))
  (hu:Upd [g.lb] w1 W) (hj:key=(j:Int)) (hne:g.lb≠w1.heap.size)
  (he:(⟨.int .i64 key,val,born⟩:MapEntry)∈es.toList) (hst:MapKept.Stamped es clock):FlRel w1 g es clock lv (W.setCell ⟨g.lb,j,none⟩ val):=by
 refine⟨seen.push born,c,lv'.set j val,hcl,?_,?_,by simpa using hlen,?_,hu.set _ (.inl (by simp))⟩
 ·rw[blk_set_ne _ _ (Ne.symm hne)];exact hit
 ·rw[blk_set hlb];simp
 ·intro i v hv
  rw[List.getElem?_set] at hv
  have hkeys:(es.toList.map (·.key)).Nodup:=hst.2.2
  have hborn:(es.toList.map (·.born)).Nodup:=hst.2.1
  have uniq:∀e∈es.toList,e.key=.int .i64 key→e=⟨.int .i64 key,val,born⟩:=by
   intro e hm hk
   obtain⟨a,ha⟩:=List.getElem?_of_mem hm
   obtain⟨b,hb⟩:=List.getElem?_of_mem he
   have l1:a<(es.toList.map (·.key)).length:=by rw[List.length_map];exact(List.getElem?_eq_some_iff.1 ha).1
   have:=(List.getElem?_inj l1 hkeys).1 (show(es.toList.map (·.key))[a]?=(es.toList.map (·.key))[b]? by rw[List.getElem?_map,List.getElem?_map,ha,hb];simp[hk])
   subst this
   rw[ha] at hb;exact Option.some.inj hb
  have uniqb:∀e∈es.toList,e.born=born→e=⟨.int .i64 key,val,born⟩:=by
   intro e hm hk
   obtain⟨a,ha⟩:=List.getElem?_of_mem hm
   obtain⟨b,hb⟩:=List.getElem?_of_mem he
   have l1:a<(es.toList.map (·.born)).length:=by rw[List.length_map];exact(List.getElem?_eq_some_iff.1 ha).1
   have:=(List.getElem?_inj l1 hborn).1 (show(es.toList.map (·.born))[a]?=(es.toList.map (·.born))[b]? by rw[List.getElem?_map,List.getElem?_map,ha,hb];simp[hk])
   subst this
   rw[ha] at hb;exact Option.some.inj hb
  by_cases hji:j=i
  ·subst hji
   simp only[if_true] at hv
   split at hv
   ·cases hv
    exact .inl ⟨_,he,by simp,by rw[hj],rfl⟩
   ·simp at hv
  ·rw[if_neg hji] at hv
   rcases hlv i v hv with⟨e,h1,h2,h3,h4⟩ | ⟨h1,h2⟩
   ·exact .inl ⟨e,h1,by rw[contains_push,h2];rfl,h3,h4⟩
   ·refine .inr ⟨fun e hm hk=>?_,h2⟩
    rw[contains_push,h1 e hm hk,Bool.false_or]
    refine beq_eq_false_iff_ne.2 fun hb=>?_
    have:=uniqb e hm hb
    rw[this] at hk
    simp at hk
    omega
set_option maxHeartbeats 400000 in
theorem flush_err{w:World}{F:Nat→Prop}{g:DG}{D:Dk}(h:DiskAt w F g D)(hoff:D.off=true) :
  Calls Tryz.prog 121 #[.pointer (some ⟨g.db,0,none⟩)] w fun e w'=>e=.returned (.int .i64 8)∧w=w':=by
 have H:=Lib.hid h
 have hm:D.may 0=8:=by unfold Dk.may;rw[hoff];simp
 have hm':(D.may 0 != 0)=true:=by simp[hm]
 have HM:=Lib.hid hm
 clear h hm
 go_enter Tryz.func121,Tryz.ntmps121
 go_wp2_with (go_at_call 127;refine(may_spec H.out _).mono ?_;rintro e w' ⟨rfl,rfl⟩)
 go_ret
 exact⟨ret_int HM.out,rfl⟩
set_option maxHeartbeats 400000 in
theorem flush_fail{w:World}{F:Nat→Prop}{g:DG}{D:Dk}(h:DiskAt w F g D)(hoff:D.off=false)(harm:D.armed=0) :
  Calls Tryz.prog 121 #[.pointer (some ⟨g.db,0,none⟩)] w fun e w'=>e=.returned (.int .i64 8)∧DiskAt w' F g { D with off:=true }∧Upd [g.db] w w':=by
 have H:=Lib.hid h
 have hm:D.may 0=0:=Dk.may_of hoff (by omega) (by have:=h.ok.n0;omega)
 have hm':(D.may 0 != 0)=false:=by simp[hm]
 have ha:(D.armed != 0)=false:=by simp[harm]
 have HA:=Lib.hid harm
 clear h hm harm
 go_enter Tryz.func121,Tryz.ntmps121
 go_wp2_with (first | (go_at_call 127;refine(may_spec H.out _).mono ?_;rintro e w' ⟨rfl,rfl⟩) | fail)
 refine(goes_spec H.out).mono ?_
 rintro e w1 ⟨rfl,hD1,hu1⟩
 have hgone:D.gone = { D with off:=true }:=by unfold Dk.gone;rw[if_pos HA.out]
 rw[hgone] at hD1
 have HD1:=Lib.hid hD1
 have HU1:=Lib.hid hu1
 clear hgone hD1 hu1
 go_wp2
 go_ret
 exact⟨rfl,HD1.out,HU1.out⟩
set_option maxHeartbeats 1000000 in
theorem flush_ok{w:World}{F:Nat→Prop}{g:DG}{D:Dk}(h:DiskAt w F g D)(hoff:D.off=false)(harm:D.armed≠0) :
  Calls Tryz.prog 121 #[.pointer (some ⟨g.db,0,none⟩)] w fun e w'=>e=.returned (.int .i64 0)∧DiskAt w' F g { D.step with last:=D.now,wait:=fun _=>none }∧Upd [g.db,g.lb,g.mb] w w':=by
 have H:=Lib.hid h
 have hm:D.may 0=0:=Dk.may_of hoff (by omega) (by have:=h.ok.n0;omega)
 have hm':(D.may 0 != 0)=false:=by simp[hm]
 have ha:(D.armed != 0)=true:=by simpa using harm
 have HA:=Lib.hid harm
 clear h hm harm
 go_enter Tryz.func121,Tryz.ntmps121
 go_wp2_with (first | (go_at_call 127;refine(may_spec H.out _).mono ?_;rintro e w' ⟨rfl,rfl⟩) | fail)
 refine(goes_spec H.out).mono ?_
 rintro e w1 ⟨rfl,hD1,hu1⟩
 have hgone:D.gone=D.step:=by unfold Dk.gone;rw[if_neg HA.out]
 rw[hgone] at hD1
 have HD1:=Lib.hid hD1
 have HU1:=Lib.hid hu1
 obtain⟨fv,a1,a2⟩:=hD1.st
 obtain⟨lv,b1,b2,b3⟩:=hD1.last
 obtain⟨f,hf,hf1,hf2⟩:=hD1.wait
 obtain⟨es,clock,hb,hst,hkey,hfe⟩:=id hf
 have hc:=blk_cell a1
 have hrg:=run_range_map (P:=Tryz.prog) w1 99 3 34 g.mb es clock Tryz.underlying99 hb
 have HA1:=Lib.hid a1
 have HB1:=Lib.hid b1
 have HB:=Lib.hid hb
 have hlt1:=hD1.lt.1
 have hlt2:=hD1.lt.2.1
 have hlt3:=hD1.lt.2.2
 have HNE1:=Lib.hid hD1.ne1
 have HNE2:=Lib.hid hD1.ne2
 have HNE3:=Lib.hid hD1.ne3
 have HST:=Lib.hid hst
 have HKEY:=Lib.hid hkey
 have HFE:=Lib.hid hfe
 have HF1:=Lib.hid hf1
 have HF2:=Lib.hid hf2
 have HB2:=Lib.hid b2
 have HB3:=Lib.hid b3
 have HF:=Lib.hid hf
 clear hgone hD1 hu1 a1 a2 b1 b2 b3 hf hf1 hf2 hb hst hkey hfe
 go_wp2
 go_loopw [19] (fun _ wr=>FlRel w1 g es clock lv wr) (fun _ wr=>flLeft es w1.heap.size wr)
 case atStart=>
  refine⟨#[],clock,lv,Nat.le_refl _,blk_alloc _,(blk_alloc_ne hlt2).trans HB1.out,rfl,?_,(Upd.refl _ _).alloc _⟩
  intro i v hv
  exact .inr ⟨by simp,hv⟩
 case round=>
  obtain⟨seen,c,lv',hcl,hit,hlb,hlen,hlv,hu⟩:=hrel
  have hmb:wr.heap[g.mb]?=some (.map es clock):=(hu.block _ hlt3 (by simpa using HNE3.out)).trans HB.out
  have hdb:wr.heap[g.db]?=_:=(hu.block _ hlt1 (by simpa using Ne.symm HNE1.out)).trans HA1.out
  have hsz:=hu.size
  rcases run_next_at (P:=Tryz.prog) wr 0 w1.heap.size g.mb clock c seen es clock hit hmb HST.out.1 hcl with⟨hz,hnx⟩ | ⟨e,hel,wq,hwq,hnx⟩
  ·have hnx':∀ty,(Instr.next (.pointer (some ⟨w1.heap.size,0,none⟩)) false ty).run Tryz.prog wr=.ok (.tuple #[.bool false]) wr:=fun _=>hnx
   have hcd:=blk_cell hdb
   obtain⟨o,hclr,hmap⟩:=(HF.out.world (hmb.trans HB.out.symm)).clear (P:=Tryz.prog) (T:=99) Tryz.underlying99 0
   have hclr':∀ty,(Builtin.clear_ #[99] ty #[.map (some g.mb)]).run Tryz.prog wr=.ok (.tuple #[]) (ChangeMaps.setBlock wr g.mb o):=fun _=>hclr
   have HMAP:=Lib.hid hmap
   have HLB:=Lib.hid hlb
   have HDB:=Lib.hid hdb
   have HLV:=Lib.hid hlv
   have HLEN:=Lib.hid hlen
   have HU:=Lib.hid hu
   have HZ:=Lib.hid hz
   clear hclr hmap hlb hdb hlv hlen hu hz hnx hmb hit hc hrg
   go_wp2
   go_ret
   have hs1:=HU1.out.size
   have hall:∀e∈es.toList,seen.contains e.born=true:=by
    intro e he
    cases hq:seen.contains e.born with
    | true=>rfl
    | false=>
     exfalso
     have hm:e∈(leftOf es seen).toList:=by
      unfold leftOf
      simp only[Array.mem_toList_iff,Array.mem_filter] at he ⊢
      exact⟨he,by rw[hq];rfl⟩
     have:=List.length_pos_of_mem hm
     rw[Array.length_toList,HZ.out] at this
     omega
   have hnowF:∀i v,lv'[i]?=some v→LastV w1 F v (D.now i):=by
    intro i v hv
    rcases HLV.out i v hv with⟨e,h1,_,h3,h4⟩ | ⟨h1,h2⟩
    ·have hfi:f (i:Int)=some v:=(HFE.out _ _).2 ⟨e,h1,h3,h4⟩
     obtain⟨_,s,e1,o1⟩:=HF1.out _ _ hfi
     have e2:D.wait i=some s:=by rw[← Dk.step_wait];simpa using e1
     have:D.now i=s:=by simp[Dk.now,e2]
     rw[this];exact .inr o1
    ·have hno:D.wait i=none:=by
      cases hq:D.wait i with
      | none=>rfl
      | some s=>
       obtain⟨v2,hv2⟩:=HF2.out i s (by rw[Dk.step_wait];exact hq)
       obtain⟨e,he,hk,_⟩:=(HFE.out _ _).1 hv2
       have a:=hall e he
       have b:=h1 e he hk
       rw[a] at b;simp at b
     have:D.now i=D.step.last i:=by simp[Dk.now,hno,Dk.step_last]
     rw[this];exact HB3.out i v h2
   have ha:∀k c,F k→w1.heap[k]?=some (.cells c 5 (0,0))→(ChangeMaps.setBlock wr g.mb o).heap[k]?=w1.heap[k]?:=by
    intro k c _ hk
    have hq:=HD1.out.byte hk
    simp only[List.mem_cons,List.not_mem_nil,or_false,not_or] at hq
    rw[setBlock_ne _ hq.2.2]
    exact HU.out.block _ (blk_lt hk) (by simpa using hq.2.1)
   refine⟨rfl,⟨?_,?_,?_,?_⟩,?_⟩
   ·obtain⟨fv',q1,q2⟩:=HD1.out.st
    refine⟨fv',?_,q2.world ha⟩
    rw[setBlock_ne _ (Ne.symm HNE2.out)]
    exact(HU.out.block _ hlt1 (by simpa using Ne.symm HNE1.out)).trans q1
   ·refine⟨lv',?_,by rw[HLEN.out];exact HB2.out,fun i v hv=>(hnowF i v hv).world ha⟩
    rw[setBlock_ne _ (Ne.symm HNE3.out)];exact HLB.out
   ·exact⟨_,HMAP.out,by simp,by simp⟩
   ·have ok:=Dk.step_ok H.out.ok
    refine⟨ok.n0,ok.n1,?_,by simp,ok.armed0,ok.armed1,ok.part,ok.way,ok.front⟩
    intro i
    show(D.now i).length=512
    unfold Dk.now
    cases hq:D.wait i with
    | none=>exact H.out.ok.last i
    | some s=>exact(H.out.ok.wait i s hq).2
   ·exact((HU1.out.mono (by simp)).trans (HU.out.mono (by simp))).setBlock _ (.inl (by simp))
  ·obtain⟨key,val,born⟩:=e
   have hel2:=(mem_left hel).1
   obtain⟨kk,ek⟩:=HKEY.out _ hel2
   simp only at ek hnx
   subst ek
   obtain⟨h0,s,e1,o1⟩:=HF1.out kk val ((HFE.out _ _).2 ⟨_,hel2,rfl,rfl⟩)
   obtain⟨j,rfl⟩:=Int.eq_ofNat_of_zero_le h0
   have hjn:j<D.n:=(H.out.ok.wait j s (by rw[← Dk.step_wait];simpa using e1)).1
   obtain⟨kb,rest,_,rfl,_⟩:=o1
   have hjl:j<lv'.length:=by rw[hlen,HB2.out,Dk.step_n];exact hjn
   obtain⟨W,hW⟩:∃W,W=ChangeMaps.setBlock wq w1.heap.size (.mapIter (some g.mb) clock (seen.push born) clock):=⟨_,rfl⟩
   rw[← hW] at hnx
   have hWo:∀k,k≠w1.heap.size→W.heap[k]?=wr.heap[k]?:=by
    intro k hk
    rw[hW,setBlock_ne _ hk]
    rcases hwq with rfl | rfl<;>rfl
   have hWi:W.heap[w1.heap.size]?=some (.mapIter (some g.mb) clock (seen.push born) clock):=by
    rw[hW]
    refine setBlock_same (o:=.mapIter (some g.mb) clock seen c) ?_
    rcases hwq with rfl | rfl<;>exact hit
   have hWu:Upd [g.lb] w1 W:=by
    rw[hW]
    refine Upd.setBlock ?_ _ (.inr (Nat.le_refl _))
    rcases hwq with rfl | rfl
    ·exact hu
    ·exact hu.drew
   have hnx':∀ty,(Instr.next (.pointer (some ⟨w1.heap.size,0,none⟩)) false ty).run Tryz.prog wr=_:=fun _=>hnx
   have hen:=run_entry_at (P:=Tryz.prog) W w1.heap.size g.mb clock seen es clock _ hWi ((hWo _ (by omega)).trans hmb) hel2 HST.out.2.1
   simp only at hen
   have hdW:W.heap[g.db]?=_:=(hWo _ (by omega)).trans hdb
   have hlW:W.heap[g.lb]?=_:=(hWo _ (by omega)).trans hlb
   have hcd:=blk_cell hdW
   have hcl2:W.cell? ⟨g.lb,j,none⟩=some lv'[j]:=by rw[blk_cell hlW];simp[hjl]
   have hfl:W.frozen? ⟨g.lb,j,none⟩=false:=blk_free hlW j
   have hstep:=FlRel.step (es:=es) (lv:=lv) (val:=.slice (some ⟨kb,0,none⟩) s.length (s.length+rest.length)) (Nat.le_refl clock) hWi hlW hlen hlv hWu rfl (by omega) hel2 HST.out
   have hmeas:flLeft es w1.heap.size (W.setCell ⟨g.lb,j,none⟩ (.slice (some ⟨kb,0,none⟩) s.length (s.length+rest.length)))<flLeft es w1.heap.size wr:=by
    unfold flLeft
    rw[iterSeen_of hit,iterSeen_of (by rw[blk_set_ne _ _ (by omega)];exact hWi)]
    exact left_shrinks es seen _ hel
   have hjn1:(j:Int)<(D.step.n:Int):=by rw[Dk.step_n];omega
   have HSTEP:=Lib.hid hstep
   have HMEAS:=Lib.hid hmeas
   clear hstep hmeas hW hWo hWi hWu hdW hlW hlen hlv hu hit hmb hdb hlb hnx hel hel2 hc hrg e1 hwq
   go_wp2
   go_roundw
   case rel=>exact HSTEP.out
   case measure=>exact HMEAS.out
end Go.Proofs.YtplppdbdfhkljaaGreat
namespace Go.Proofs.YtplppdbdfhkljaaGreat
open Go.RowKit Go.Maps Go.Sort Go.Shelf
def keysF(f:Int→Option Value)(N:Nat):List Nat:=(List.range N).filter fun i=>(f (i:Int)).isSome
theorem sortsA(m:Nat):AnyZI.SortsIn Tryz.prog Tryz.sortedA_ren Fence.wide m:=
 ⟨fun blk off cap ss W hH hblk hsz=>callsIn_wide.2 (AnyM.slices_Sort_int Tryz.sortA blk off cap ss W hH hblk hsz),
 fun p cap W=>callsIn_wide.2 (AnyM.slices_Sort_int_none Tryz.sortA p cap W)⟩
theorem keys_call(mb:Option Nat)(w:World):Calls Tryz.prog 46 #[.map mb] w fun e w'=>e=.returned (.func (.func 97) #[] #[.pointer (some ⟨w.heap.size,0,none⟩)])∧w.alloc (.cells #[.map mb] 99)=w':=
 (callsIn_wide.1 (AnyZI.keys_in Tryz.keysA Fence.wide 5 trivial rfl mb w)).mono fun _ _ ⟨h1,h2⟩=>⟨h1,h2.symm⟩
theorem nodup_lt:∀(N:Nat) (l:List Int),l.Nodup→(∀x∈l,0≤x∧x<N)→l.length≤N
 | 0,l,_,h=>by
  cases l with
  | nil=>simp
  | cons a l=>have:=h a (by simp);omega
 | N+1,l,hn,h=>by
  by_cases hm:(N:Int)∈l
  ·have h1:=nodup_lt N (l.erase (N:Int)) (hn.erase _) (fun x hx=>by
    have:=(hn.mem_erase_iff).1 hx
    have:=h x this.2
    omega)
   rw[List.length_erase_of_mem hm] at h1
   omega
  ·have:=nodup_lt N l hn (fun x hx=>by
    have h2:=h x hx
    have:x≠(N:Int):=fun e=>hm (e ▸ hx)
    omega)
   omega
def anyElem(_:Value):Option (DataW Unit × List MemPlace):=some (.nil,[])
theorem MapI.owns{w:World}{mb:Nat}{f:Int→Option Value}(h:MapI w mb f)(N:Nat)(hN:N≤100000)(hf:∀k v,f k=some v→0≤k∧k<N) :
  ∃D0:DataW Unit,w.ownsMap Tryz.prog 3 anyElem mb N D0∧Maps.size D0≤N∧(intKeys D0).Perm ((keysF f N).map fun i:Nat=>(i:Int)):=by
 obtain⟨es,clock,hb,hst,hk,hfe⟩:=h
 have hkl:∀x∈es.toList,∃k:Int,x.key=.int .i64 k∧0≤k∧k<N:=by
  intro x hx
  obtain⟨k,e⟩:=hk x hx
  exact⟨k,e,hf k x.val ((hfe k x.val).2 ⟨x,hx,e,rfl⟩)⟩
 have hrg:∀x∈es.toList,∀k:Int,x.key=.int .i64 k→WideElems.rd Tryz.prog 3 anyElem x=some (.int .i64 k,.nil):=by
  intro x hx k e
  obtain⟨k',e',h0,h1⟩:=hkl x hx
  rw[e] at e'
  obtain rfl:k=k':=by simpa using e'
  have hko:=keyOf_int_mk (P:=Tryz.prog) (q:=.i64) (a:=k) Tryz.underlying3 (WalkArith.wf_i64 (by omega))
  simp[WideElems.rd,e,hko,anyElem]
 have hkeys:intKeys (.map ((es.toList.map (WideElems.rg Tryz.prog 3 anyElem)).foldr DataW.insert []):DataW Unit)=((es.toList.map (WideElems.rg Tryz.prog 3 anyElem)).foldr DataW.insert []).map (fun p=>_root_.Go.intOf p.1):=rfl
 have hp1:(intKeys (.map ((es.toList.map (WideElems.rg Tryz.prog 3 anyElem)).foldr DataW.insert []):DataW Unit)).Perm (es.toList.map (fun x=>RowKit.intOf x.key)):=by
  rw[hkeys]
  refine((WideShapes.sorted_perm _).map _).trans ?_
  rw[List.map_map]
  refine List.Perm.of_eq (List.map_congr_left fun x hx=>?_)
  obtain⟨k,e,_⟩:=hkl x hx
  simp[WideElems.rg,hrg x hx k e,_root_.Go.intOf,RowKit.intOf,e]
 have hnd:(es.toList.map (fun x=>RowKit.intOf x.key)).Nodup:=by
  have hq:(es.toList.map (·.key)).Nodup:=hst.2.2
  rw[List.Nodup,List.pairwise_map] at hq ⊢
  refine hq.imp_of_mem fun {a b} ha hb' hne e=>hne ?_
  obtain⟨q,e1,_⟩:=hkl a ha
  obtain⟨r,e2,_⟩:=hkl b hb'
  rw[e1,e2] at e ⊢
  simp[RowKit.intOf] at e;rw[e]
 have hmem:∀k:Int,k∈es.toList.map (fun x=>RowKit.intOf x.key)↔∃v,f k=some v:=by
  intro k
  rw[List.mem_map]
  constructor
  ·rintro⟨x,hx,e⟩
   obtain⟨q,e1,_⟩:=hkl x hx
   rw[e1] at e;simp[RowKit.intOf] at e;subst e
   exact⟨x.val,(hfe q x.val).2 ⟨x,hx,e1,rfl⟩⟩
  ·rintro⟨v,hv⟩
   obtain⟨x,hx,e1,_⟩:=(hfe k v).1 hv
   exact⟨x,hx,by rw[e1];rfl⟩
 have hlen:es.size≤N:=by
  have:=nodup_lt N _ hnd (fun k hk'=>by obtain⟨v,hv⟩:=(hmem k).1 hk';exact hf k v hv)
  simpa using this
 refine⟨_,⟨es,clock,hb,⟨by unfold maxLen;omega,hst,fun x hx=>?_⟩,hlen,rfl⟩,?_,?_⟩
 ·obtain⟨k,e,_⟩:=hkl x hx
  exact⟨_,hrg x hx k e⟩
 ·rw[Maps.size_eq,length_sorted];simpa using hlen
 ·refine hp1.trans ?_
  refine(List.perm_ext_iff_of_nodup hnd ?_).2 fun k=>?_
  ·rw[List.Nodup,List.pairwise_map]
   refine List.Pairwise.filter _ (List.pairwise_lt_range.imp ?_)
   intro a b hab e
   omega
  ·rw[hmem k,List.mem_map]
   constructor
   ·rintro⟨v,hv⟩
    have h2:=hf k v hv
    refine⟨k.toNat,?_,by omega⟩
    unfold keysF
    rw[List.mem_filter,List.mem_range]
    refine⟨by omega,?_⟩
    rw[Int.toNat_of_nonneg h2.1,hv];rfl
   ·rintro⟨i,hi,rfl⟩
    unfold keysF at hi
    rw[List.mem_filter] at hi
    exact Option.isSome_iff_exists.1 hi.2
theorem sorted_call{w:World}{mb:Nat}{f:Int→Option Value}(h:MapI w mb f)(N:Nat)(hN:N≤100000)(hf:∀k v,f k=some v→0≤k∧k<N) :
  Calls Tryz.prog 45 #[.func (.func 97) #[] #[.pointer (some ⟨w.heap.size,0,none⟩)]] (w.alloc (.cells #[.map (some mb)] 99)) fun e w'=>∃v,e=.returned v∧
   w'.ownsRow w.heap.size 3 1 v (keysF f N).length ((keysF f N).map fun i:Nat=> .int .i64 (i:Int))∧Upd [] w w':=by
 obtain⟨D0,hown,hsz,hperm⟩:=h.owns N hN hf
 have hbl:=hown.lt
 have hseq:SeqGives Fence.wide 2 Tryz.prog 97 #[.pointer (some ⟨w.heap.size,0,none⟩)] encZ (fun ss=>ss.Perm (intKeys D0)) (Maps.size D0) (w.alloc (.cells #[.map (some mb)] 99)):=
  AnyZI.keys_gives (ρ:=Tryz.keysA_ren) { Tryz.keysA with } Fence.wide _ trivial rfl (by omega) w.heap.size mb N D0 _ (by simp) (by simp) (by
   obtain⟨es,clock,hb,Ft,hs,hD⟩:=hown
   exact⟨es,clock,(Below.heap_alloc _ _ mb hbl).trans hb,Ft,hs,hD⟩)
 have cS:=AnyZI.sorted_in Tryz.sortedA Fence.wide 5 trivial trivial trivial trivial rfl (by omega) (sortsA _) (enters_of Tryz.func96 (by kernel_rfl) rfl) 97 #[.pointer (some ⟨w.heap.size,0,none⟩)] trivial (enters_of Tryz.func97 (by kernel_rfl) rfl) _ _ (by unfold maxLen;omega) (by omega) _ hseq
 refine(callsIn_wide.1 cS).mono ?_
 rintro e w' ⟨v,ss,rfl,hS,hrow,_,hb⟩
 have hms:(ss.mergeSort fun x y=>decide (x≤y))=(keysF f N).map fun i:Nat=>(i:Int):=by
  refine List.Perm.eq_of_pairwise (le:=fun a b=>decide (a≤b)=true) (fun a b _ _ h1 h2=>?_) (List.pairwise_mergeSort (fun a b c h1 h2=>?_) (fun a b=>?_) ss) ?_ ((List.mergeSort_perm ss _).trans (hS.trans hperm))
  ·simp only[decide_eq_true_eq] at h1 h2;omega
  ·simp only[decide_eq_true_eq] at h1 h2 ⊢;omega
  ·simp only[Bool.or_eq_true,decide_eq_true_eq];omega
  ·rw[List.pairwise_map]
   refine List.Pairwise.filter _ (List.pairwise_lt_range.imp ?_)
   intro a b hab
   simp only[decide_eq_true_eq];omega
 have hln:ss.length=(keysF f N).length:=by
  have:=congrArg List.length hms
  simpa using this
 refine⟨v,rfl,?_,?_⟩
 ·rw[hms,hln,List.map_map] at hrow
  exact ownsRow_base_a hrow (by simp)
 ·exact((Upd.refl _ _).alloc _).trans ⟨hb.os,hb.tape,hb.output,hb.size,fun k hk _=>hb.block k hk⟩
end Go.Proofs.YtplppdbdfhkljaaGreat
namespace Go.Proofs.YtplppdbdfhkljaaGreat
open Go.RowKit
theorem DiskAt.keysF_eq{w:World}{F:Nat→Prop}{D:Dk}{f:Int→Option Value}(hok:D.Ok)
  (hf1:∀k v,f k=some v→0≤k∧∃s,D.wait k.toNat=some s∧Own w 5 F v s) (hf2:∀(i:Nat) s,D.wait i=some s→∃v,f (i:Int)=some v) :
  keysF f D.n=D.waiting∧∀k v,f k=some v→0≤k∧k<D.n:=by
 constructor
 ·unfold keysF Dk.waiting
  refine List.filter_congr fun i _=>?_
  cases hq:D.wait i with
  | none=>
   cases hr:f (i:Int) with
   | none=>rfl
   | some v=>obtain⟨_,s,e,_⟩:=hf1 _ _ hr;rw[Int.toNat_natCast,hq] at e;simp at e
  | some s=>obtain⟨v,hv⟩:=hf2 i s hq;rw[hv];rfl
 ·intro k v hk
  obtain⟨h0,s,e,_⟩:=hf1 k v hk
  have:=(hok.wait _ _ e).1
  omega
set_option maxHeartbeats 400000 in
theorem waiting_spec{w:World}{F:Nat→Prop}{g:DG}{D:Dk}(h:DiskAt w F g D) :
  Calls Tryz.prog 79 #[.pointer (some ⟨g.db,0,none⟩)] w fun e w'=>∃v,e=.returned v∧w'.ownsRow w.heap.size 3 1 v D.waiting.length (D.waiting.map fun i:Nat=> .int .i64 (i:Int))∧Upd [] w w':=by
 have H:=Lib.hid h
 obtain⟨fv,a1,_⟩:=h.st
 obtain⟨f,hf,hf1,hf2⟩:=h.wait
 have hn:=h.ok.n0
 have hn1:=h.ok.n1
 have hn':((D.n:Int) == 0)=false:=beq_eq_false_iff_ne.2 (by omega)
 have hc:=blk_cell a1
 obtain⟨hk1,hk2⟩:=DiskAt.keysF_eq h.ok hf1 hf2
 have cS:=sorted_call hf D.n (by omega) hk2
 rw[hk1] at cS
 have CS:=Lib.hid cS
 clear h a1 hf hf1 hf2 hk1 hk2 cS
 go_enter Tryz.func79,Tryz.ntmps79
 go_wp2_with (first | (go_at_call 78;refine(len_spec H.out).mono ?_;rintro e w' ⟨rfl,rfl⟩) | (go_at_call 46;refine(keys_call _ _).mono ?_;rintro e w' ⟨rfl,rfl⟩) | (go_at_call 45;refine CS.out.mono ?_;rintro e w' ⟨v,rfl,h1,h2⟩))
 go_ret
 exact⟨v,rfl,h1,h2⟩
def RdL(w:World)(S:List Nat)(v:Value)(cs:List Value):Prop:=
 ∃ao cap,v=.slice ao cs.length cap∧cs.length≤cap∧
  (0<cs.length→∃b off,b∉S∧ao=some ⟨b,off,none⟩∧∀i (h:i<cs.length),w.cell? ⟨b,off+i,none⟩=some cs[i])
theorem RdL.upd{w w':World}{S T:List Nat}{v:Value}{cs:List Value}(h:RdL w S v cs)(hu:Upd T w w')(hT:∀k,k∈T→k∈S):RdL w' S v cs:=by
 obtain⟨ao,cap,e,hc,hh⟩:=h
 refine⟨ao,cap,e,hc,fun hp=>?_⟩
 obtain⟨b,off,hb,rfl,hcell⟩:=hh hp
 refine⟨b,off,hb,rfl,fun i hi=>?_⟩
 have hl:=hcell i hi
 rw[World.cell?_of_block (w:=w) (hu.block _ (block_lt_of_cell hl) (fun q=>hb (hT _ q)))];exact hl
theorem RdL.of_row{w:World}{base:Nat}{e:TypeId}{v:Value}{cs:List Value}(h:w.ownsRow base e 1 v cs.length cs){S:List Nat}(hS:∀k c,w.heap[k]?=some (.cells c e (0,0))→k∉S):RdL w S v cs:=by
 rcases h.2 with⟨rfl,h0⟩ | ⟨g,cap,cur,rfl,hb,hg,hc,_,hs,ht⟩
 ·have:cs=[]:=List.eq_nil_of_length_eq_zero h0
  subst this
  exact⟨none,0,rfl,by simp,by simp⟩
 ·refine⟨_,cap,rfl,hc,fun _=>⟨g,0,hS _ _ hg,rfl,fun i hi=>?_⟩⟩
  rw[blk_cell hg]
  rw[Nat.mul_one] at ht
  have:cs[i]?=cur[0+i]?:=by
   rw[← ht,List.getElem?_take,if_pos hi];simp
  rw[← this,List.getElem?_eq_getElem hi]
def PwRow(D:Dk)(keep:List Bool)(k:Nat)(i:Nat):Sec:=if D.waiting.idxOf i<k∧keep.getD (D.waiting.idxOf i) false=true then D.now i else D.last i
def PwRel(w1:World)(F:Nat→Prop)(g:DG)(D:Dk)(keep:List Bool)(k:Nat)(wr:World):Prop:=
 ∃lv':List Value,wr.heap[g.lb]?=some (.cells lv'.toArray 34 (0,0))∧lv'.length=D.n∧(∀(i:Nat) (v:Value),lv'[i]?=some v→LastV w1 F v (PwRow D keep k i))∧Upd [g.lb] w1 wr
theorem Dk.waiting_nodup(D:Dk):D.waiting.Nodup:=by
 unfold Dk.waiting
 exact List.Pairwise.filter _ (List.pairwise_lt_range.imp fun h e=>by omega)
theorem Dk.mem_waiting{D:Dk}{i:Nat}:i∈D.waiting↔i<D.n∧(D.wait i).isSome=true:=by
 unfold Dk.waiting;rw[List.mem_filter,List.mem_range]
theorem Dk.idx_waiting{D:Dk}{k:Nat}(hk:k<D.waiting.length)(i:Nat):D.waiting.idxOf i=k↔i=D.waiting[k]:=by
 constructor
 ·intro e
  have:D.waiting.idxOf i<D.waiting.length:=by omega
  have:=List.getElem_idxOf this
  subst e;exact this.symm
 ·rintro rfl
  exact List.Nodup.idxOf_getElem D.waiting_nodup _ _
theorem PwRow.succ_hit{D:Dk}{keep:List Bool}{k:Nat}(hk:k<D.waiting.length)(hb:keep.getD k false=true)(i:Nat):PwRow D keep (k+1) i=if i=D.waiting[k] then D.now i else PwRow D keep k i:=by
 unfold PwRow
 by_cases e:i=D.waiting[k]
 ·have:=(Dk.idx_waiting hk i).2 e
  rw[if_pos e,if_pos ⟨by omega,by rw[this];exact hb⟩]
 ·have:D.waiting.idxOf i≠k:=fun q=>e ((Dk.idx_waiting hk i).1 q)
  rw[if_neg e]
  by_cases h1:D.waiting.idxOf i<k
  ·simp[h1,show D.waiting.idxOf i<k+1 by omega]
  ·simp[h1,show ¬D.waiting.idxOf i<k+1 by omega]
theorem PwRow.succ_miss{D:Dk}{keep:List Bool}{k:Nat}(hb:keep.getD k false=false)(i:Nat):PwRow D keep (k+1) i=PwRow D keep k i:=by
 unfold PwRow
 by_cases e:D.waiting.idxOf i=k
 ·rw[e,hb];simp
 ·by_cases h1:D.waiting.idxOf i<k
  ·simp[h1,show D.waiting.idxOf i<k+1 by omega]
  ·simp[h1,show ¬D.waiting.idxOf i<k+1 by omega]
theorem PwRow.full{D:Dk}{keep:List Bool}{i:Nat}(hi:i<D.n):PwRow D keep D.waiting.length i=D.kept keep i:=by
 unfold PwRow Dk.kept
 by_cases hm:i∈D.waiting
 ·have:=List.idxOf_lt_length_iff.2 hm
  simp[this]
 ·have hnone:D.wait i=none:=by
   cases hq:D.wait i with
   | none=>rfl
   | some s=>exact absurd (Dk.mem_waiting.2 ⟨hi,by simp[hq]⟩) hm
  have h1:¬D.waiting.idxOf i<D.waiting.length:=fun q=>hm (List.idxOf_lt_length_iff.1 q)
  have h2:D.now i=D.last i:=by simp[Dk.now,hnone]
  rw[h2];simp[h1]
theorem PwRow.zero{D:Dk}{keep:List Bool}(i:Nat):PwRow D keep 0 i=D.last i:=by unfold PwRow;simp
theorem PwRel.miss{w1:World}{F:Nat→Prop}{g:DG}{D:Dk}{keep:List Bool}{k:Nat}{wr:World}(h:PwRel w1 F g D keep k wr)(hb:keep.getD k false=false):PwRel w1 F g D keep (k+1) wr:=by
 obtain⟨lv',h1,h2,h3,h4⟩:=h
 exact⟨lv',h1,h2,fun i v hv=>by rw[PwRow.succ_miss hb];exact h3 i v hv,h4⟩
theorem PwRel.hit{w1:World}{F:Nat→Prop}{g:DG}{D:Dk}{keep:List Bool}{k:Nat}{wr wq:World}(h:PwRel w1 F g D keep k wr)(hk:k<D.waiting.length)(hb:keep.getD k false=true){v:Value}
  (ho:LastV w1 F v (D.now D.waiting[k])) (hq:wq=wr∨wq=wr.drew):PwRel w1 F g D keep (k+1) (wq.setCell ⟨g.lb,D.waiting[k],none⟩ v):=by
 obtain⟨lv',h1,h2,h3,h4⟩:=h
 have h1':wq.heap[g.lb]?=some (.cells lv'.toArray 34 (0,0)):=by rcases hq with rfl | rfl<;>exact h1
 have h4':Upd [g.lb] w1 wq:=by rcases hq with rfl | rfl;exact h4;exact h4.drew
 refine⟨lv'.set D.waiting[k] v,by rw[blk_set h1'];simp,by simpa using h2,?_,h4'.set _ (.inl (by simp))⟩
 intro i u hu
 rw[PwRow.succ_hit hk hb]
 rw[List.getElem?_set] at hu
 by_cases e:D.waiting[k]=i
 ·rw[if_pos e] at hu
  split at hu
  ·cases hu
   rw[if_pos e.symm,← e];exact ho
  ·simp at hu
 ·rw[if_neg e] at hu
  rw[if_neg (Ne.symm e)]
  exact h3 i u hu
theorem PwRel.disk{w1:World}{F:Nat→Prop}{g:DG}{D:Dk}{keep:List Bool}{wr:World}(h:PwRel w1 F g D keep D.waiting.length wr)(hD:DiskAt w1 F g D):DiskAt wr F g { D with last:=D.kept keep }:=by
 obtain⟨lv',h1,h2,h3,h4⟩:=h
 have ha:∀k c,F k→w1.heap[k]?=some (.cells c 5 (0,0))→wr.heap[k]?=w1.heap[k]?:=fun k c _ hk=>h4.block _ (blk_lt hk) (fun q=>hD.byte hk (by simp at q;simp[q]))
 obtain⟨fv,a1,a2⟩:=hD.st
 refine⟨⟨fv,(h4.block _ hD.lt.1 (by simpa using Ne.symm hD.ne1)).trans a1,a2.world ha⟩,⟨lv',h1,h2,fun i v hv=>?_⟩,hD.wait.world (h4.block _ hD.lt.2.2 (by simpa using hD.ne3)) ha,?_⟩
 ·have hi:i<D.n:=by rw[← h2];exact(List.getElem?_eq_some_iff.1 hv).1
  have:=h3 i v hv
  rw[PwRow.full hi] at this
  exact this.world ha
 ·have ok:=hD.ok
  refine⟨ok.n0,ok.n1,fun i=>?_,ok.wait,ok.armed0,ok.armed1,ok.part,ok.way,ok.front⟩
  show(D.kept keep i).length=512
  unfold Dk.kept Dk.now
  split
  ·cases hq:D.wait i with
   | none=>exact ok.last i
   | some s=>exact(ok.wait i s hq).2
  ·exact ok.last i
theorem DiskAt.cleared{w:World}{F:Nat→Prop}{g:DG}{D:Dk}(h:DiskAt w F g D) :
  ∃W,(∀ty,(Builtin.clear_ #[99] ty #[.map (some g.mb)]).run Tryz.prog w=.ok (.tuple #[]) W)∧W.heap[g.db]?=w.heap[g.db]?∧DiskAt W F g { D with wait:=fun _=>none }∧Upd [g.mb] w W:=by
 obtain⟨f,hm,_⟩:=h.wait
 obtain⟨o,hclr,hmap⟩:=hm.clear (P:=Tryz.prog) (T:=99) Tryz.underlying99 0
 have hdb:(ChangeMaps.setBlock w g.mb o).heap[g.db]?=w.heap[g.db]?:=setBlock_ne _ (Ne.symm h.ne2)
 refine⟨_,fun _=>hclr,hdb,⟨?_,?_,⟨_,hmap,by simp,by simp⟩,?_⟩,(Upd.refl _ _).setBlock _ (.inl (by simp))⟩
 ·obtain⟨fv,a1,a2⟩:=h.st
  exact⟨fv,hdb.trans a1,a2.world (fun k c _ hk=>setBlock_ne _ (fun e=>h.byte hk (by simp[e])))⟩
 ·obtain⟨lv,b1,b2,b3⟩:=h.last
  exact⟨lv,(setBlock_ne _ (Ne.symm h.ne3)).trans b1,b2,fun i v hv=>(b3 i v hv).world (fun k c _ hk=>setBlock_ne _ (fun e=>h.byte hk (by simp[e])))⟩
 ·have ok:=h.ok
  exact⟨ok.n0,ok.n1,ok.last,by simp,ok.armed0,ok.armed1,ok.part,ok.way,ok.front⟩
theorem DiskAt.powered{w:World}{F:Nat→Prop}{g:DG}{D:Dk}(h:DiskAt w F g D) :
  DiskAt (((((w.setCell ⟨g.db,2,none⟩ (.bool false)).setCell ⟨g.db,3,none⟩ (.int .i64 (-1))).setCell ⟨g.db,5,none⟩ (.int .i64 (-1))).setCell ⟨g.db,6,none⟩ (.slice none 0 0)).setCell ⟨g.db,8,none⟩ (.int .i64 (wrap64 (D.lives+1)))) F g { D with off:=false,armed:=-1,way:=none,front:=[],lives:=wrap64 (D.lives+1) }∧
  Upd [g.db] w (((((w.setCell ⟨g.db,2,none⟩ (.bool false)).setCell ⟨g.db,3,none⟩ (.int .i64 (-1))).setCell ⟨g.db,5,none⟩ (.int .i64 (-1))).setCell ⟨g.db,6,none⟩ (.slice none 0 0)).setCell ⟨g.db,8,none⟩ (.int .i64 (wrap64 (D.lives+1)))):=by
 obtain⟨fv,a1,a2⟩:=h.st
 constructor
 ·refine h.re ⟨.slice none 0 0,?_,.inr ⟨rfl,rfl⟩⟩ (fun k _ hk=>by rw[blk_set_ne _ _ hk,blk_set_ne _ _ hk,blk_set_ne _ _ hk,blk_set_ne _ _ hk,blk_set_ne _ _ hk]) rfl rfl rfl ?_
  ·rw[blk_set (blk_set (blk_set (blk_set (blk_set a1 2 _) 3 _) 5 _) 6 _) 8 _];simp[wayv]
  ·have ok:=h.ok
   exact⟨ok.n0,ok.n1,ok.last,ok.wait,by simp,by simp,ok.part,by simp,by simp⟩
 ·exact(((((Upd.refl _ _).set _ (.inl (by simp))).set _ (.inl (by simp))).set _ (.inl (by simp))).set _ (.inl (by simp))).set _ (.inl (by simp))
theorem torn_copy{wr:World}{x:Sec}{fv:Value}{front:List UInt8}(hx:x.length=512)(hr:Rd wr fv front)(hf:front.length≤512) :
  ∃W9,(∀ty,(Builtin.copy_ #[34,34] ty #[.slice (some ⟨wr.heap.size,0,none⟩) 512 512,fv]).run Tryz.prog (wr.alloc (.cells (bts x).toArray 5)).drew=.ok (goInt ((min front.length 512:Nat):Int)) W9)∧
   W9.heap[wr.heap.size]?=some (.cells (bts (front++x.drop front.length)).toArray 5 (0,0))∧(∀k,k<wr.heap.size→W9.heap[k]?=wr.heap[k]?)∧Upd [] wr W9:=by
 have hb':(wr.alloc (.cells (bts x).toArray 5)).drew.heap[wr.heap.size]?=some (.cells (bts x).toArray 5 (0,0)):=blk_alloc _
 have hr':Rd (wr.alloc (.cells (bts x).toArray 5)).drew fv front:=(hr.alloc _).of_block fun _ _ _ _=>rfl
 have hrun:=fun ty=>run_copy_rd (P:=Tryz.prog) (dT:=34) (sT:=34) (ty:=ty) (u8:=5) Tryz.underlying34 sizeU8 wr.heap.size 0 512 512 (bts x) hb' (by rw[bts_length,hx];omega) hr'
 refine⟨_,hrun,?_,?_,?_⟩
 ·rw[setRow_heap _ _ _ _ _ _ hb']
  rw[List.take_of_length_le hf,splice_head,bts_length]
  congr 3
  simp[bts,List.map_drop]
 ·intro k hk
  rw[setRow_other _ _ _ _ (by omega)]
  exact blk_alloc_ne hk
 ·exact⟨rfl,rfl,rfl,by simp,fun k hk _=>by rw[setRow_other _ _ _ _ (by omega)];exact blk_alloc_ne hk⟩
theorem DiskAt.torn{wr W9:World}{F:Nat→Prop}{g:DG}{D:Dk}(h:DiskAt wr F g D)(i:Nat)(hway:D.way=some i){s:Sec}(hs:s.length=512)
  (h9n:W9.heap[wr.heap.size]?=some (.cells (bts s).toArray 5 (0,0))) (h9o:∀k,k<wr.heap.size→W9.heap[k]?=wr.heap[k]?) (h9u:Upd [] wr W9) :
  DiskAt (W9.setCell ⟨g.lb,i,none⟩ (.slice (some ⟨wr.heap.size,0,none⟩) 512 512)).drew (Gr F wr.heap.size) g { D with last:=fun j=>if D.way=some j then s else D.last j }∧
  Upd [g.lb] wr (W9.setCell ⟨g.lb,i,none⟩ (.slice (some ⟨wr.heap.size,0,none⟩) 512 512)).drew:=by
 refine⟨?_,((h9u.mono (by simp)).set _ (.inl (by simp))).drew⟩
 have hlt:=h.lt
 have hne:∀k,k<wr.heap.size→k≠g.lb→(W9.setCell ⟨g.lb,i,none⟩ (.slice (some ⟨wr.heap.size,0,none⟩) 512 512)).drew.heap[k]?=wr.heap[k]?:=fun k hk hn=>by
  rw[blk_drew,blk_set_ne _ _ hn];exact h9o k hk
 have ha:∀k c,F k→wr.heap[k]?=some (.cells c 5 (0,0))→(W9.setCell ⟨g.lb,i,none⟩ (.slice (some ⟨wr.heap.size,0,none⟩) 512 512)).drew.heap[k]?=wr.heap[k]?:=fun k c _ hk=>
  hne k (blk_lt hk) (fun e=>h.byte hk (by simp[e]))
 obtain⟨fv,a1,a2⟩:=h.st
 obtain⟨lv,b1,b2,b3⟩:=h.last
 refine⟨⟨fv,(hne _ hlt.1 (Ne.symm h.ne1)).trans a1,(a2.world ha).mono Gr.old⟩,⟨lv.set i (.slice (some ⟨wr.heap.size,0,none⟩) 512 512),?_,by simpa using b2,?_⟩,(h.wait.world (hne _ hlt.2.2 h.ne3) ha).mono Gr.old,?_⟩
 ·rw[blk_drew,blk_set ((h9o _ hlt.2.1).trans b1)];simp
 ·intro j v hv
  rw[List.getElem?_set] at hv
  by_cases e:i=j
  ·subst e
   rw[if_pos rfl] at hv
   split at hv
   ·cases hv
    simp only[hway,if_true]
    refine .inr ⟨wr.heap.size,[],.inr (Nat.le_refl _),by simp[hs],?_⟩
    rw[blk_drew,blk_set_ne _ _ (by omega),h9n];simp
   ·simp at hv
  ·rw[if_neg e] at hv
   have hne2:D.way≠some j:=by rw[hway];simpa using e
   simp only[hne2,if_false]
   exact((b3 j v hv).world ha).mono Gr.old
 ·have ok:=h.ok
  refine⟨ok.n0,ok.n1,fun j=>?_,ok.wait,ok.armed0,ok.armed1,ok.part,ok.way,ok.front⟩
  show(if D.way=some j then s else D.last j).length=512
  split
  ·exact hs
  ·exact ok.last j
set_option maxHeartbeats 1000000 in
theorem power_spec{w:World}{F:Nat→Prop}{g:DG}{D:Dk}(h:DiskAt w F g D)(v:Value)(keep:List Bool)(hr:RdL w [g.db,g.lb,g.mb] v (keep.map Value.bool)) :
  Calls Tryz.prog 33 #[.pointer (some ⟨g.db,0,none⟩),v] w fun e w'=>e=.returned (.tuple #[])∧DiskAt w' (Gr F w.heap.size) g (D.power keep)∧Upd [g.db,g.lb,g.mb] w w':=by
 have H:=Lib.hid h
 have hn:=h.ok.n0
 have hn1:=h.ok.n1
 have hn':((D.n:Int) == 0)=false:=beq_eq_false_iff_ne.2 (by omega)
 have HR:=Lib.hid hr
 obtain⟨ao,cap,rfl,hcap,_⟩:=id hr
 rw[List.length_map] at hcap
 simp only[List.length_map] at HR ⊢
 clear h hr
 go_enter Tryz.func33,Tryz.ntmps33
 go_wp2_with (first | (go_at_call 78;refine(len_spec H.out).mono ?_;rintro e w' ⟨rfl,rfl⟩) | fail)
 refine(waiting_spec H.out).mono ?_
 rintro e w1 ⟨vw,rfl,hrow,hu1⟩
 have hD1:DiskAt w1 F g D:=H.out.world (hu1.block _ H.out.lt.1 (by simp)) (hu1.block _ H.out.lt.2.1 (by simp)) (hu1.block _ H.out.lt.2.2 (by simp)) (fun k c _ hk=>hu1.block _ (blk_lt hk) (by simp))
 have hrl:RdL w1 [g.db,g.lb,g.mb] vw (D.waiting.map fun i:Nat=> .int .i64 (i:Int)):=by
  refine RdL.of_row (by simpa using hrow) (fun k c hk=>?_)
  obtain⟨⟨fv,a1,_⟩,⟨lv,b1,_⟩,⟨f,hf,_⟩,_⟩:=hD1
  simp only[List.mem_cons,List.not_mem_nil,or_false,not_or]
  refine⟨?_,?_,hf.not_cells hk⟩
  ·rintro rfl;rw[a1] at hk;simp at hk
  ·rintro rfl;rw[b1] at hk;simp at hk
 obtain⟨aw,capw,rfl,hcapw,_⟩:=id hrl
 simp only[List.length_map] at hrl hrow ⊢
 have HK:=Lib.hid (HR.out.upd hu1 (by simp))
 have HRL:=Lib.hid hrl
 have HD1:=Lib.hid hD1
 have HU1:=Lib.hid hu1
 clear hrl hD1 hu1 hrow hcapw
 go_wp2_with fail
 go_loopw [13] (fun i wr=>∃k:Nat,k≤D.waiting.length∧i=.int .i64 (k:Int)∧PwRel w1 F g D keep k wr) (fun i _=>D.waiting.length-(intOf i).toNat)
 case atStart=>
  obtain⟨lv,b1,b2,b3⟩:=HD1.out.last
  exact⟨0,Nat.zero_le _,rfl,lv,b1,b2,fun i v hv=>by rw[PwRow.zero];exact b3 i v hv,Upd.refl _ _⟩
 case round=>
  obtain⟨k,hk,rfl,hrel⟩:=hrel
  have hwl:D.waiting.length≤D.n:=by
   unfold Dk.waiting
   exact Nat.le_trans (List.length_filter_le _ _) (by simp)
  by_cases hlt:k<D.waiting.length
  ·obtain⟨aw',capw',e,_,hh⟩:=HRL.out
   simp only[List.length_map,Value.slice.injEq] at e hh
   obtain⟨rfl,_,rfl⟩:=e
   obtain⟨wb,woff,hwb,rfl,hcw⟩:=hh (by omega)
   have hcell:wr.cell? ⟨wb,woff+k,none⟩=some (.int .i64 (D.waiting[k]:Int)):=by
    have hx:=hcw k hlt
    rw[List.getElem_map] at hx
    obtain⟨_,_,_,_,hu⟩:=hrel
    rw[World.cell?_of_block (w:=w1) (hu.block _ (block_lt_of_cell hx) (by simp at hwb ⊢;exact hwb.2.1))]
    exact hx
   have hmw:=Dk.mem_waiting.1 (List.getElem_mem hlt)
   have hD1:=HD1.out
   obtain⟨lv',hl1,hl2,hl3,hu⟩:=id hrel
   obtain⟨fv,a1,_⟩:=hD1.st
   have adb:wr.heap[g.db]?=_:=(hu.block _ hD1.lt.1 (by simpa using Ne.symm hD1.ne1)).trans a1
   have hcd:=blk_cell adb
   have hfl:=blk_free hl1
   obtain⟨j,hj⟩:∃j,j=D.waiting[k]:=⟨_,rfl⟩
   rw[← hj] at hcell hmw
   by_cases hkk:k<keep.length
   ·obtain⟨_,_,e2,_,hh2⟩:=HK.out
    simp only[List.length_map,Value.slice.injEq] at e2 hh2
    obtain⟨rfl,_,rfl⟩:=e2
    obtain⟨kb,koff,hkb,rfl,hck⟩:=hh2 (by omega)
    have hcellk:wr.cell? ⟨kb,koff+k,none⟩=some (.bool keep[k]):=by
     have hx:=hck k hkk
     rw[List.getElem_map] at hx
     rw[World.cell?_of_block (w:=w1) (hu.block _ (block_lt_of_cell hx) (by simp at hkb ⊢;exact hkb.2.1))]
     exact hx
    have hgd:keep.getD k false=keep[k]:=by simp[hkk]
    cases hkv:keep[k] with
    | false=>
     rw[hkv] at hcellk hgd
     have HREL:=Lib.hid (hrel.miss hgd)
     clear hrel hl1 hl2 hl3 hu a1 adb hD1 hcw hck hh hh2 hj hgd hkv hfl
     go_wp2
     go_roundw
     case rel=>exact⟨k+1,by omega,by go_num,HREL.out⟩
     case measure=>simp[intOf];omega
    | true=>
     rw[hkv] at hcellk hgd
     obtain⟨f,hf,hf1,hf2⟩:=hD1.wait
     obtain⟨sj,hsj⟩:=Option.isSome_iff_exists.1 hmw.2
     obtain⟨vj,hvj⟩:=hf2 j sj hsj
     obtain⟨_,sj',hsj',hoj⟩:=hf1 _ _ hvj
     have hnow:D.now D.waiting[k]=sj':=by
      rw[← hj];rw[Int.toNat_natCast] at hsj';simp[Dk.now,hsj']
     have hrel2:∀wq,(wq=wr∨wq=wr.drew)→PwRel w1 F g D keep (k+1) (wq.setCell ⟨g.lb,j,none⟩ vj):=fun wq hq=>by
      have:=hrel.hit hlt hgd (v:=vj) (by rw[hnow];exact .inr hoj) hq
      rw[← hj] at this;exact this
     have hfr:MapI wr.drew g.mb f:=hf.world (hu.block _ hf.lt (by simpa using hD1.ne3))
     have hlk:=hfr.lookup (P:=Tryz.prog) (T:=99) Tryz.underlying99 Tryz.underlying3 (zeroBytes _) (j:Int) false
     rw[hvj] at hlk
     simp only[Bool.false_eq_true,if_false,Option.getD_some] at hlk
     obtain⟨kx,rest,_,rfl,_⟩:=hoj
     have hjn:=hmw.1
     obtain⟨old,hcl⟩:∃old,wr.cell? ⟨g.lb,j,none⟩=some old:=⟨lv'[j]'(by omega),by rw[blk_cell hl1];simp[hl2,hjn]⟩
     have HREL:=Lib.hid hrel2
     have hfl':=hfl j
     have hcd0:wr.cell? ⟨g.db,0,none⟩=some (.slice (some ⟨g.lb,0,none⟩) D.n D.n):=by rw[hcd];rfl
     have hcd1:wr.cell? ⟨g.db,1,none⟩=some (.map (some g.mb)):=by rw[hcd];rfl
     have hjn1:(j:Int)<(D.n:Int):=by omega
     have hj0:(0:Int)≤(j:Int):=by omega
     clear hrel hrel2 hl1 hl3 hu a1 adb hD1 hcw hck hh hh2 hj hgd hkv hf hf1 hf2 hvj hsj hsj' hnow hfr hfl hcd hmw
     go_wp2_with fail
     go_region
     go_wp2
     go_roundw
     case rel=>exact⟨k+1,by omega,by go_num,HREL.out wr.drew (.inr rfl)⟩
     case measure=>simp[intOf];omega
   ·have hgd:keep.getD k false=false:=by simp[hkk]
    have HREL:=Lib.hid (hrel.miss hgd)
    clear hrel hl1 hl2 hl3 hu a1 adb hD1 hcw hh hj hgd hfl
    go_wp2
    go_roundw
    case rel=>exact⟨k+1,by omega,by go_num,HREL.out⟩
    case measure=>simp[intOf];omega
  ·obtain rfl:k=D.waiting.length:=by omega
   have hDr:=hrel.disk HD1.out
   obtain⟨_,_,_,_,hur⟩:=hrel
   obtain⟨fv,a1,a2⟩:=hDr.st
   obtain⟨aq,nq,cq,rfl⟩:=a2.shape
   have hc:=blk_cell a1
   have hf:=blk_free a1
   have HDR:=Lib.hid hDr
   have HUR:=Lib.hid hur
   have HA1:=Lib.hid a1
   have HA2:=Lib.hid a2
   cases hway:D.way with
   | none=>
    have hw0:wayv D.way<0:=by rw[hway];simp[wayv]
    obtain⟨W,hclr,hW1,hW2,hW3⟩:=hDr.cleared
    rw[a1] at hW1
    have hcW:=blk_cell hW1
    have hfW:=blk_free hW1
    have HWAY:=Lib.hid hway
    have HW1:=Lib.hid hW1
    have HW2:=Lib.hid hW2
    have HW3:=Lib.hid hW3
    clear hDr hur a1 a2 hway hW1 hW2 hW3 hf
    go_wp2
    go_end0
    have hp:D.power keep = { D with last:=D.kept keep,wait:=fun _=>none,off:=false,armed:=-1,way:=none,front:=[],lives:=wrap64 (D.lives+1) }:=by
     unfold Dk.power;rw[HWAY.out];simp
    have hfin:=HW2.out.powered
    rw[hp]
    refine⟨rfl,hfin.1.mono Gr.old,?_⟩
    exact(((HU1.out.mono (T:=[g.db,g.lb,g.mb]) (by simp)).trans (HUR.out.mono (by simp))).trans (HW3.out.mono (by simp))).trans (hfin.2.mono (by simp))
   | some i=>
    have hin:i<D.n:=HD1.out.ok.way i hway
    have hwv:wayv D.way=(i:Int):=by rw[hway];rfl
    rw[hwv] at a1 hc
    obtain⟨lv,b1,b2,b3⟩:=hDr.last
    simp only at b2
    obtain⟨vi,hvi⟩:∃vi,lv[i]?=some vi:=⟨_,List.getElem?_eq_getElem (by omega)⟩
    have hcl:wr.cell? ⟨g.lb,i,none⟩=some vi:=by rw[blk_cell b1];simpa using hvi
    obtain⟨li,hri,hpi⟩:∃l,Rd wr vi l∧pad l=D.kept keep i:=by
     rcases b3 i vi hvi with⟨rfl,e⟩ | o
     ·exact⟨[],Rd.nil _,by rw[pad_nil];exact e.symm⟩
     ·exact⟨_,o.rd,pad_full (hDr.ok.last i)⟩
    have HRI:=Lib.hid hri
    have HPI:=Lib.hid hpi
    have hc0:wr.cell? ⟨g.db,0,none⟩=some (.slice (some ⟨g.lb,0,none⟩) D.n D.n):=by rw[hc];rfl
    have hc5:wr.cell? ⟨g.db,5,none⟩=some (.int .i64 (i:Int)):=by rw[hc];rfl
    have hc6:wr.cell? ⟨g.db,6,none⟩=some (.slice aq nq cq):=by rw[hc];rfl
    have hlt1:=hDr.lt.1
    have hlt2:=hDr.lt.2.1
    have hi1:(i:Int)<(D.n:Int):=by omega
    have hi0:(0:Int)≤(i:Int):=by omega
    obtain⟨W9,hcp,h9n,h9o,h9u⟩:=torn_copy (wr:=wr) (x:=pad li) (pad_length _) (HA2.out.rd) HD1.out.ok.front
    have hD9:=hDr.torn i hway (s:=D.front++(D.kept keep i).drop D.front.length) (by have:=HD1.out.ok.front;have:=hDr.ok.last i;simp only[List.length_append,List.length_drop] at *;omega) (by rw[h9n,hpi]) h9o h9u
    have h9c0:W9.cell? ⟨g.db,0,none⟩=some (.slice (some ⟨g.lb,0,none⟩) D.n D.n):=by rw[World.cell?_of_block (w:=wr) (h9o _ hlt1)];exact hc0
    have h9c5:W9.cell? ⟨g.db,5,none⟩=some (.int .i64 (i:Int)):=by rw[World.cell?_of_block (w:=wr) (h9o _ hlt1)];exact hc5
    have h9cl:W9.cell? ⟨g.lb,i,none⟩=some vi:=by rw[World.cell?_of_block (w:=wr) (h9o _ hlt2)];exact hcl
    have h9f:W9.frozen? ⟨g.lb,i,none⟩=false:=by rw[World.frozen?_of_block (w:=wr) (h9o _ hlt2)];exact blk_free b1 i
    obtain⟨W,hclr,hW1,hW2,hW3⟩:=hD9.1.cleared
    have h9db:(W9.setCell ⟨g.lb,i,none⟩ (.slice (some ⟨wr.heap.size,0,none⟩) 512 512)).drew.heap[g.db]?=wr.heap[g.db]?:=by
     rw[blk_drew,blk_set_ne _ _ (Ne.symm hDr.ne1)];exact h9o _ hlt1
    have hcX:(W9.setCell ⟨g.lb,i,none⟩ (.slice (some ⟨wr.heap.size,0,none⟩) 512 512)).cell? ⟨g.db,1,none⟩=some (.map (some g.mb)):=by
     rw[World.cell?_of_block (w:=wr) h9db,hc];rfl
    rw[h9db,a1] at hW1
    have hcW:=blk_cell hW1
    have hfW:=blk_free hW1
    have HW2:=Lib.hid hW2
    have HW3:=Lib.hid hW3
    have HU9:=Lib.hid hD9.2
    have HWAY:=Lib.hid hway
    clear hDr hur a1 a2 hway hwv b1 b2 b3 hvi hri hpi hc hf hW1 hW2 hW3 hD9 h9db h9n h9o h9u
    go_wp2_with fail
    go_region_held3 (fun w'=>w'.cell? ⟨g.db,0,none⟩=some (.slice (some ⟨g.lb,0,none⟩) D.n D.n)∧w'.cell? ⟨g.db,5,none⟩=some (.int .i64 (i:Int))∧w'.cell? ⟨g.lb,i,none⟩=some vi) (go_keep)
     (first | (go_at_call 80;refine(whole_spec _ li _ ?_).mono ?_;exact HRI.out;rintro e w' ⟨rfl,rfl⟩))
    go_wp2_with fail
    go_region
    go_wp2
    go_end0
    have hp:D.power keep = { D with last:=fun j=>if D.way=some j then D.front++(D.kept keep j).drop D.front.length else D.kept keep j,wait:=fun _=>none,off:=false,armed:=-1,way:=none,front:=[],lives:=wrap64 (D.lives+1) }:=rfl
    have hlast:(fun j=>if D.way=some j then D.front++(D.kept keep j).drop D.front.length else D.kept keep j)=(fun j=>if D.way=some j then D.front++(D.kept keep i).drop D.front.length else D.kept keep j):=by
     funext j
     by_cases e:D.way=some j
     ·have:j=i:=by rw[HWAY.out] at e;exact(Option.some.inj e).symm
      rw[this]
     ·rw[if_neg e,if_neg e]
    rw[hlast] at hp
    have hfin:=HW2.out.powered
    rw[hp]
    have hsz:=HU1.out.size
    have hsz2:=HUR.out.size
    refine⟨rfl,hfin.1.mono (Gr.gr (by omega)),?_⟩
    exact((((HU1.out.mono (T:=[g.db,g.lb,g.mb]) (by simp)).trans (HUR.out.mono (by simp))).trans (HU9.out.mono (by simp))).trans (HW3.out.mono (by simp))).trans (hfin.2.mono (by simp))
end Go.Proofs.YtplppdbdfhkljaaGreat
end
