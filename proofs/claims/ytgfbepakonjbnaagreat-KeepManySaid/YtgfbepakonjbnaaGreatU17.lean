/-
  Keys: arrays of bytes; which of two stands ahead. Rows of arrays; where a key stands in a node. Numbers laid into bytes; a node's bytes.
-/
import Derived.Test.YtgfbepakonjbnaaGreatU11
import Derived.Lib.BytesEntry
import Derived.Laws.Rows
import Derived.Deep.MidRow
import Derived.ChangeKeysEq
import Derived.Deep.RegionHeld3
section
section
namespace Go.Proofs.YtgfbepakonjbnaaGreat
open Go.RowKit Go.MapKept Go.ChangeMaps
def arr(l:List UInt8):Value:=.agg (bts l).toArray
def ltB:List UInt8→List UInt8→Bool
 | [],[]=>false
 | [],_ :: _=>true
 | _ :: _,[]=>false
 | x :: a,y :: b=>if x.toNat<y.toNat then true else if y.toNat<x.toNat then false else ltB a b
theorem ltB_irrefl:∀a,ltB a a=false
 | []=>rfl
 | x :: a=>by unfold ltB;rw[if_neg (by omega),if_neg (by omega)];exact ltB_irrefl a
theorem ltB_trans:∀{a b c},ltB a b=true→ltB b c=true→ltB a c=true
 | [],[],c,h,_=>by simp[ltB] at h
 | [],y :: b,[],_,h=>by simp[ltB] at h
 | [],y :: b,z :: c,_,_=>rfl
 | x :: a,[],c,h,_=>by simp[ltB] at h
 | x :: a,y :: b,[],_,h=>by simp[ltB] at h
 | x :: a,y :: b,z :: c,h,k=>by
  unfold ltB at h k ⊢
  by_cases h1:x.toNat<y.toNat
  ·by_cases k1:y.toNat<z.toNat
   ·rw[if_pos (by omega)]
   ·rw[if_neg k1] at k
    by_cases k2:z.toNat<y.toNat
    ·rw[if_pos k2] at k;simp at k
    ·rw[if_pos (by omega)]
  ·rw[if_neg h1] at h
   by_cases h2:y.toNat<x.toNat
   ·rw[if_pos h2] at h;simp at h
   ·rw[if_neg h2] at h
    by_cases k1:y.toNat<z.toNat
    ·rw[if_pos (by omega)]
    ·rw[if_neg k1] at k
     by_cases k2:z.toNat<y.toNat
     ·rw[if_pos k2] at k;simp at k
     ·rw[if_neg k2] at k
      rw[if_neg (by omega),if_neg (by omega)]
      exact ltB_trans h k
theorem ltB_asymm{a b:List UInt8}(h:ltB a b=true):ltB b a=false:=by
 cases q:ltB b a
 ·rfl
 ·have:=ltB_trans h q
  rw[ltB_irrefl] at this
  simp at this
theorem ltB_total:∀{a b:List UInt8},ltB a b=false→ltB b a=false→a=b
 | [],[],_,_=>rfl
 | [],y :: b,h,_=>by simp[ltB] at h
 | x :: a,[],_,h=>by simp[ltB] at h
 | x :: a,y :: b,h,k=>by
  unfold ltB at h k
  by_cases h1:x.toNat<y.toNat
  ·rw[if_pos h1] at h;simp at h
  ·rw[if_neg h1] at h
   by_cases h2:y.toNat<x.toNat
   ·rw[if_pos h2] at k;simp at k
   ·rw[if_neg h2] at h
    rw[if_neg h2,if_neg h1] at k
    rw[UInt8.toNat_inj.1 (show x.toNat=y.toNat by omega),ltB_total h k]
theorem cmp_lt:∀(a b:List UInt8),decide (Lib.compareBytes a b<0)=ltB a b
 | [],[]=>by simp[Lib.compareBytes,ltB]
 | [],y :: b=>by simp[Lib.compareBytes,ltB]
 | x :: a,[]=>by simp[Lib.compareBytes,ltB]
 | x :: a,y :: b=>by
  have ih:=cmp_lt a b
  unfold ltB Lib.compareBytes
  simp only[UInt8.lt_iff_toNat_lt]
  by_cases h1:x.toNat<y.toNat
  ·rw[if_pos h1,if_pos h1];rfl
  ·rw[if_neg h1,if_neg h1]
   by_cases h2:y.toNat<x.toNat
   ·rw[if_pos h2,if_pos h2];rfl
   ·rw[if_neg h2,if_neg h2];exact ih
theorem run_bytesOf{w:World}{v:Value}{l:List UInt8}(h:Rd w v l):(Extern.Bytes.bytesOf v).run Tryz.prog w=.ok ⟨l.toArray⟩ w:=by
 obtain⟨ao,cap,rfl,hc,hh⟩:=h
 cases ao with
 | none=>
  cases l with
  | nil=>rfl
  | cons x l=>obtain⟨b,off,h,_⟩:=hh (by simp);simp at h
 | some a=>
  by_cases hp:0<l.length
  ·obtain⟨b,off,hab,hcell⟩:=hh hp
   cases hab
   have:=Lib.run_loadBytesX (P:=Tryz.prog) w (l.map fun c=>(c.toNat:Int)) ⟨b,off,none⟩ .empty (fun j x hj=>by
    rw[List.getElem?_map] at hj
    have hjl:j<l.length:=by
     rcases Nat.lt_or_ge j l.length with r | r
     ·exact r
     ·rw[List.getElem?_eq_none r] at hj;simp at hj
    rw[List.getElem?_eq_getElem hjl] at hj
    simp at hj
    rw[addr_add,hcell j hjl,← hj];rfl)
   rw[List.length_map] at this
   show(Extern.Bytes.loadBytes ⟨b,off,none⟩ l.length .empty).run Tryz.prog w=_
   rw[this]
   congr 1
   apply ByteArray.ext
   show(#[]:Array UInt8)++(Lib.bytesOf (l.map fun c=>(c.toNat:Int))).toArray=l.toArray
   simp[Lib.bytesOf]
   exact(List.map_congr_left fun c _=>by simp).trans (List.map_id _)
  ·have:l=[]:=by cases l with | nil=>rfl | cons x l=>simp at hp
   subst this
   rfl
theorem run_cmp{w:World}{v1 v2:Value}{a b:List UInt8}(h1:Rd w v1 a)(h2:Rd w v2 b):(Extern.BytealgCompare.compare #[v1,v2]).run Tryz.prog w=.ok (.int .i64 (Lib.compareBytes a b)) w:=by
 change Sem.run Tryz.prog (do pure (goInt (Extern.BytealgCompare.cmp (← Extern.Bytes.bytesOf v1) (← Extern.Bytes.bytesOf v2)))) w=_
 simp only[Sem.run_bind,run_bytesOf h1,run_bytesOf h2,Sem.run_pure,Result.andThen]
 rw[Lib.cmp_eq]
 rfl
set_option maxRecDepth 100000 in
theorem compare_spec{w:World}{v1 v2:Value}{a b:List UInt8}(h1:Rd w v1 a)(h2:Rd w v2 b) :
  Calls Tryz.prog 212 #[v1,v2] w fun e w'=>e=.returned (.int .i64 (Lib.compareBytes a b))∧w=w':=by
 have hr:=run_cmp h1 h2
 clear h1 h2
 go_enter Tryz.func212,Tryz.ntmps212
 go_wp2
 rw[run_callFunc_extern Tryz.func239 (by kernel_rfl) (by kernel_rfl) (by kernel_rfl) (e:=Extern.BytealgCompare.compare) (by kernel_rfl),hr]
 simp only[Result.andThen]
 rw[Oper.upon_value]
 go_wp2
 go_ret
 exact⟨rfl,rfl⟩
theorem rd_arr{w:World}{b:Nat}{l:List UInt8}{T:TypeId}{fr:Nat × Nat}(h:w.heap[b]?=some (.cells (bts l).toArray T fr))(hl:l.length=32):Rd w (.slice (some ⟨b,0,none⟩) 32 32) l:=by
 refine⟨some ⟨b,0,none⟩,32,by rw[hl],by omega,fun _=>⟨b,0,rfl,fun i hi=>?_⟩⟩
 rw[blk_cell h,List.getElem?_toArray,Nat.zero_add]
 simp[bts,hi]
set_option maxRecDepth 100000 in
theorem less_spec(a b:List UInt8)(ha:a.length=32)(hb:b.length=32)(w:World) :
  Calls Tryz.prog 138 #[arr a,arr b] w fun e w'=>e=.returned (.bool (ltB a b))∧Upd [] w w':=by
 obtain⟨w2,hw2⟩:∃w2,w2=(w.alloc (.cells (bts a).toArray 35)).alloc (.cells (bts b).toArray 35):=⟨_,rfl⟩
 have hu:Upd [] w w2:=by rw[hw2];exact((Upd.refl _ _).alloc _).alloc _
 have h1:w2.heap[w.heap.size]?=some (.cells (bts a).toArray 35 (0,0)):=by
  rw[hw2,blk_alloc_ne (by simp)];exact blk_alloc _
 have h2:w2.heap[w.heap.size+1]?=some (.cells (bts b).toArray 35 (0,0)):=by
  rw[hw2];have:=blk_alloc (w:=w.alloc (.cells (bts a).toArray 35)) (.cells (bts b).toArray 35);simpa using this
 have HC:=Lib.hid (fun n=>compare_spec (w:=w2.drewN n) (rd_arr (b:=w.heap.size) h1 ha) (rd_arr (b:=w.heap.size+1) h2 hb))
 have HU:=Lib.hid hu
 have HW:=Lib.hid hw2
 have hlt:=cmp_lt a b
 clear hu h1 h2 hw2
 unfold arr
 go_enter Tryz.func138,Tryz.ntmps138
 go_wp2
 have hw2:=HW.out
 rw[← hw2]
 clear hw2
 go_quiet ((go_at_call 212;exact Calls.quiet_of_same ((HC.out _).mono fun _ _ ⟨a,b⟩=>⟨a,b.symm⟩)))
 all_goals
  go_wp2
  go_ret
  exact⟨rfl,HU.out.drewN _⟩
end Go.Proofs.YtgfbepakonjbnaaGreat
end
section
namespace Go.Proofs.YtgfbepakonjbnaaGreat
open Go.RowKit Go.MapKept Go.ChangeMaps
theorem cellsOf_u8:Tryz.prog.cellsOf 5=1:=by kernel_rfl
theorem run_eqBytes(d:Nat)(a b:List UInt8)(w:World):∀is:List Nat,(∀i,i∈is→i<a.length∧i<b.length)→
  ∃r:Bool,(Op.eqItems (d+1) 5 1 (bts a).toArray (bts b).toArray is).run Tryz.prog w=.ok r w∧(r=true↔∀i,i∈is→a[i]?=b[i]?)
 | [],_=>⟨true,by simp[Op.eqItems],by simp⟩
 | i :: is,h=>by
  obtain⟨hi,hj⟩:=h i (by simp)
  obtain⟨r,hr,hiff⟩:=run_eqBytes d a b w is (fun k hk=>h k (by simp[hk]))
  have e1:(bts a).toArray[i]?=some (bv a[i]):=by simp[bts,hi]
  have e2:(bts b).toArray[i]?=some (bv b[i]):=by simp[bts,hj]
  have p1:=run_part_plain (P:=Tryz.prog) (w:=w) (e:=5) (by kernel_rfl) e1
  have p2:=run_part_plain (P:=Tryz.prog) (w:=w) (e:=5) (by kernel_rfl) e2
  have p3:=run_equalIn_int (P:=Tryz.prog) w d 5 .u8 .u8 (a[i].toNat:Int) (b[i].toNat:Int) Tryz.underlying5
  unfold Op.eqItems
  simp only[Nat.mul_one,Sem.run_bind,p1,p2,Result.andThen_ok]
  unfold bv
  simp only[p3,Result.andThen_ok]
  by_cases hab:a[i]=b[i]
  ·refine⟨r,by simp[hab,hr],?_⟩
   rw[hiff]
   simp only[List.mem_cons,forall_eq_or_imp,List.getElem?_eq_getElem hi,List.getElem?_eq_getElem hj,hab,true_and]
  ·have:((a[i].toNat:Int) == (b[i].toNat:Int))=false:=by
    rw[beq_eq_false_iff_ne]
    intro q
    exact hab (UInt8.toNat_inj.1 (by omega))
   refine⟨false,by simp[this],?_⟩
   simp only[Bool.false_eq_true,false_iff,List.mem_cons,forall_eq_or_imp,List.getElem?_eq_getElem hi,List.getElem?_eq_getElem hj,Option.some.injEq]
   exact fun q=>hab q.1
set_option maxRecDepth 100000 in
theorem run_eqArr{a b:List UInt8}(ha:a.length=32)(hb:b.length=32)(w:World):(Op.equalIn 10000 35 (.agg (bts a).toArray) (.agg (bts b).toArray)).run Tryz.prog w=.ok (decide (a=b)) w:=by
 obtain⟨r,hr,hiff⟩:=run_eqBytes 9998 a b w (List.range 32) (fun i hi=>by have:=List.mem_range.1 hi;omega)
 have hu:=Tryz.underlying35
 obtain⟨i0,hi0⟩:∃i0,Tryz.prog.info? 5=some i0:=Option.isSome_iff_exists.1 (by kernel_rfl)
 have h1:=run_equalIn_array (P:=Tryz.prog) w 9999 (t:=35) (bts a).toArray (bts b).toArray hu hi0
 rw[cellsOf_u8] at h1
 rw[h1,hr]
 congr 1
 cases hr':r
 ·symm;rw[decide_eq_false_iff_not]
  rintro rfl
  rw[hr'] at hiff
  simp at hiff
 ·symm;rw[decide_eq_true_eq]
  apply List.ext_getElem?
  intro i
  by_cases hi:i<32
  ·exact hiff.1 hr' i (List.mem_range.2 hi)
  ·rw[List.getElem?_eq_none (by omega),List.getElem?_eq_none (by omega)]
theorem cell_upd{w w':World}{S:List Nat}{a:Addr}{v:Value}(h:w.cell? a=some v)(hu:Upd S w w')(hS:a.block∉S):w'.cell? a=some v:=by
 rw[World.cell?_of_block (w:=w) (hu.block _ (block_lt_of_cell h) hS)];exact h
theorem range_upd{w w':World}{S:List Nat}{b o:Nat}{cs:List Value}(h:w.rangeAt b o cs)(hu:Upd S w w')(hS:b∉S):w'.rangeAt b o cs:=fun j v hv=>cell_upd (h j v hv) hu hS
def RRd(w:World)(v:Value)(sz:Nat)(es:List (List Value)):Prop:=
 ∃ao cap,v=.slice ao es.length cap∧es.length≤cap∧(0<es.length→∃b off,ao=some ⟨b,off,none⟩∧∀i e,es[i]?=some e→w.rangeAt b (off+i*sz) e)
theorem RRd.keep{w w':World}{v:Value}{sz:Nat}{es:List (List Value)}(h:RRd w v sz es){S:List Nat}(hu:Upd S w w')(hS:∀a l c,v=.slice (some a) l c→a.block∉S):RRd w' v sz es:=by
 obtain⟨ao,cap,rfl,hc,hh⟩:=h
 refine⟨ao,cap,rfl,hc,fun hp=>?_⟩
 obtain⟨b,off,rfl,hr⟩:=hh hp
 exact⟨b,off,rfl,fun i e he=>range_upd (hr i e he) hu (hS _ _ _ rfl)⟩
theorem RRd.shape{w:World}{v:Value}{sz:Nat}{es:List (List Value)}(h:RRd w v sz es):∃a c,v=.slice a es.length c:=by
 obtain⟨ao,cap,rfl,_⟩:=h;exact⟨_,_,rfl⟩
def posK:List (List UInt8)→List UInt8→Nat
 | [],_=>0
 | k :: ks,key=>if ltB k key then posK ks key+1 else 0
theorem posK_le:∀(ks:List (List UInt8)) (key:List UInt8),posK ks key≤ks.length
 | [],_=>Nat.le_refl _
 | k :: ks,key=>by
  have:=posK_le ks key
  unfold posK
  split
  ·simp;omega
  ·simp
theorem posK_uniq{key:List UInt8}:∀{ks:List (List UInt8)} {q:Nat},q≤ks.length→(∀p k,p<q→ks[p]?=some k→ltB k key=true)→(∀k,ks[q]?=some k→ltB k key=false)→posK ks key=q
 | [],q,hq,_,_=>by simp at hq;rw[hq];rfl
 | x :: ks,q,hq,h1,h2=>by
  unfold posK
  cases q with
  | zero=>rw[h2 x (by simp)];rfl
  | succ q=>
   rw[h1 0 x (by omega) (by simp),posK_uniq (ks:=ks) (q:=q) (by simpa using hq) (fun p k hp e=>h1 (p+1) k (by omega) (by simpa using e)) (fun k e=>h2 k (by simpa using e))]
   rfl
def hasK(ks:List (List UInt8))(key:List UInt8):Bool:=decide (ks[posK ks key]?=some key)
def ld3:Op:=.load 35 (.tmp 3)
theorem ld3_eq:Op.load 35 (.tmp 3)=ld3:=rfl
attribute [local go_sem] ld3
attribute [-go_sem] loadCells
theorem run_cells32{w:World}{b o:Nat}{l:List UInt8}(h:w.rangeAt b o (bts l))(hl:l.length=32):(loadCells ⟨b,o,none⟩ 32).run Tryz.prog w=.ok (bts l).toArray w:=by
 have:=run_loadCells_list (P:=Tryz.prog) w ⟨b,o,none⟩ (bts l) (fun j v hv=>by rw[Addr.add_mid];exact h j v hv)
 rw[bts_length,hl] at this
 exact this
theorem run_cells_blk{w:World}{b n:Nat}{cs:List Value}{T:TypeId}{fr:Nat × Nat}(h:w.heap[b]?=some (.cells cs.toArray T fr))(hn:cs.length=n):(loadCells ⟨b,0,none⟩ n).run Tryz.prog w=.ok cs.toArray w:=by
 have:=run_loadCells_list (P:=Tryz.prog) w ⟨b,0,none⟩ cs (fun j v hv=>by rw[Addr.add_mid,blk_cell h,List.getElem?_toArray,Nat.zero_add];exact hv)
 rw[hn] at this
 exact this
theorem infoID:(Tryz.prog.info? 35).map (·.size)=some 32:=by kernel_rfl
set_option maxRecDepth 100000 in
set_option maxHeartbeats 1000000 in
theorem find_spec{w:World}{vk vv vd:Value}(kd:Int){ks:List (List UInt8)}(hk:RRd w vk 32 (ks.map bts))(hl:∀k,k∈ks→k.length=32)(hn:ks.length≤100)(key:List UInt8)(hkey:key.length=32) :
  Calls Tryz.prog 134 #[.agg #[.int .i64 kd,vk,vv,vd],arr key] w fun e w'=>e=.returned (.tuple #[.int .i64 (posK ks key:Int),.bool (hasK ks key)])∧Upd [] w w':=by
 obtain⟨ak,ck,rfl⟩:=hk.shape
 rw[List.length_map] at hk ⊢
 obtain⟨wA,hwA⟩:∃wA,wA=(w.alloc (.cells #[.int .i64 kd,.slice ak ks.length ck,vv,vd] 220)).alloc (.cells (bts key).toArray 35):=⟨_,rfl⟩
 have hu:Upd [] w wA:=by rw[hwA];exact((Upd.refl _ _).alloc _).alloc _
 obtain⟨b2,hb2⟩:∃b,b=w.heap.size:=⟨_,rfl⟩
 obtain⟨b3,hb3⟩:∃b,b=w.heap.size+1:=⟨_,rfl⟩
 have h1:wA.heap[b2]?=some (.cells #[.int .i64 kd,.slice ak ks.length ck,vv,vd] 220 (0,0)):=by
  rw[hwA,hb2,blk_alloc_ne (by simp)];exact blk_alloc _
 have h2:wA.heap[b3]?=some (.cells (bts key).toArray 35 (0,0)):=by
  rw[hwA,hb3];have:=blk_alloc (w:=w.alloc (.cells #[.int .i64 kd,.slice ak ks.length ck,vv,vd] 220)) (.cells (bts key).toArray 35);simpa using this
 have HK:=Lib.hid (hk.keep hu (fun _ _ _ _=>by simp))
 have HU:=Lib.hid hu
 have HW:=Lib.hid hwA
 have H1:=Lib.hid h1
 have H2:=Lib.hid h2
 have HL:=Lib.hid hl
 have HB2:=Lib.hid hb2
 have HB3:=Lib.hid hb3
 have hu35:=Tryz.underlying35
 have hi35:∀k:List UInt8,k.length=32→(Tryz.prog.info? 35).map (·.size)=some (bts k).length:=fun k hk=>by
  rw[bts_length,hk];exact infoID
 have hikey:=hi35 key hkey
 have HI:=Lib.hid hi35
 clear hk hl hu h1 h2 hwA hb2 hb3 hi35
 unfold arr
 go_enter Tryz.func134,Tryz.ntmps134
 go_wp2
 have hwA:=HW.out
 have hb2:=HB2.out
 have hb3:=HB3.out
 rw[← hwA,← hb3,← hb2]
 clear hwA hb2 hb3
 go_loopw [6] (fun i wr=>∃q:Nat,q≤ks.length∧i=.int .i64 (q:Int)∧(∀p k,p<q→ks[p]?=some k→ltB k key=true)∧Upd [] wA wr) (fun i _=>ks.length-(intOf i).toNat)
 case atStart=>exact⟨0,Nat.zero_le _,rfl,fun p k hp=>by omega,Upd.refl _ _⟩
 case round=>
  obtain⟨q,hq,rfl,hall,hu⟩:=hrel
  have HAll:=Lib.hid hall
  have HUr:=Lib.hid hu
  have c1:wr.cell? ⟨b2,1,none⟩=some (.slice ak ks.length ck):=by rw[blk_cell ((hu.block _ (blk_lt H1.out) (by simp)).trans H1.out)];rfl
  have rkey:wr.rangeAt b3 0 (bts key):=fun j v hv=>by rw[blk_cell ((hu.block _ (blk_lt H2.out) (by simp)).trans H2.out),← hv];simp
  have HKr:=Lib.hid (HK.out.keep hu (fun _ _ _ _=>by simp))
  clear hall hu
  by_cases hlt:q<ks.length
  ·have hlt':decide ((q:Int)<(ks.length:Int))=true:=decide_eq_true (by omega)
   have hlt2:decide (q<ks.length)=true:=decide_eq_true hlt
   obtain⟨ao,cap,hv,_,hh⟩:=HKr.out
   rw[List.length_map] at hv hh
   cases hv
   obtain⟨bk,off,rfl,hr⟩:=hh (by omega)
   have hkq:ks[q]?=some ks[q]:=List.getElem?_eq_getElem hlt
   have rk:=hr q (bts ks[q]) (by rw[List.getElem?_map,hkq];rfl)
   have hlk:=HL.out _ (List.getElem_mem hlt)
   clear hh hr
   generalize ks[q]=kq at *
   have hik:=HI.out kq hlk
   have HKQ:=Lib.hid hkq
   have hls:∀w,Calls Tryz.prog 138 #[.agg (bts kq).toArray,.agg (bts key).toArray] w fun e w'=>e=.returned (.bool (ltB kq key))∧Upd [] w w':=fun w=>less_spec kq key hlk hkey w
   have HLS:=Lib.hid hls
   have i0:(0:Int)≤(q:Int):=by omega
   have i1:(q:Int)<(ks.length:Int):=by omega
   have hld:=run_cells32 (range_upd rkey (Upd.refl [] _).drew (by simp)) hkey
   clear hls hkq
   rw[ld3_eq]
   cases hlb:ltB kq key
   ·rw[hlb] at HLS
    have HLB:=Lib.hid hlb
    clear hlb
    go_wp2_with fail
    go_region_held3 (fun w'=>w'.cell? ⟨b2,1,none⟩=some (.slice (some ⟨bk,off,none⟩) ks.length ck)∧w'.rangeAt bk (off+q*32) (bts kq)∧w'.rangeAt b3 0 (bts key)) (refine⟨?_,?_,?_⟩<;>first | assumption | (exact cell_upd (by assumption) ((Upd.refl [] _).drew) (by simp)) | (exact range_upd (by assumption) ((Upd.refl [] _).drew) (by simp)))
     (first | (go_at_call 138;(with_reducible refine(HLS.out _).mono ?_);rintro e w5 ⟨rfl,hu5⟩;have c15:=cell_upd (cell_upd c1 (Upd.refl [] _).drew (by simp)) hu5 (by simp);have rk5:=range_upd (range_upd rk (Upd.refl [] _).drew (by simp)) hu5 (by simp);have rkey5:=range_upd (range_upd rkey (Upd.refl [] _).drew (by simp)) hu5 (by simp);have hld5:=run_cells32 rkey5 hkey;have HU5:=Lib.hid hu5;clear hu5))
    all_goals
     have hp:posK ks key=q:=posK_uniq (by omega) HAll.out (fun k e=>by rw[HKQ.out] at e;cases e;exact HLB.out)
     have hh:hasK ks key=decide (kq=key):=by
      unfold hasK
      rw[hp,HKQ.out]
      exact decide_eq_decide.2 ⟨fun q=>Option.some.inj q,fun q=>by rw[q]⟩
     have HP:=Lib.hid hp
     have HHH:=Lib.hid hh
     have hldk:∀n,(loadCells ⟨bk,off+q*32,none⟩ 32).run Tryz.prog (w5.drewN n)=.ok (bts kq).toArray (w5.drewN n):=fun n=>run_cells32 rk5 hlk
     have hldy:∀n,(loadCells ⟨b3,0,none⟩ 32).run Tryz.prog (w5.drewN n)=.ok (bts key).toArray (w5.drewN n):=fun n=>run_cells32 rkey5 hkey
     have heq:=fun w=>run_eqArr hlk hkey w
     clear hp hh
     go_wp2_with fail
     go_quiet (fail)
     all_goals
      go_wp2_with fail
      go_ret2
      exact⟨by rw[HP.out,HHH.out];rfl,((HU.out.trans HUr.out).drew.trans HU5.out).drewN _⟩
   ·rw[hlb] at HLS
    have HLB:=Lib.hid hlb
    clear hlb
    go_wp2_with fail
    go_region_held3 (fun w'=>w'.cell? ⟨b2,1,none⟩=some (.slice (some ⟨bk,off,none⟩) ks.length ck)∧w'.rangeAt bk (off+q*32) (bts kq)∧w'.rangeAt b3 0 (bts key)) (refine⟨?_,?_,?_⟩<;>first | assumption | (exact cell_upd (by assumption) ((Upd.refl [] _).drew) (by simp)) | (exact range_upd (by assumption) ((Upd.refl [] _).drew) (by simp)))
     (first | (go_at_call 138;(with_reducible refine(HLS.out _).mono ?_);rintro e w5 ⟨rfl,hu5⟩;have c15:=cell_upd (cell_upd c1 (Upd.refl [] _).drew (by simp)) hu5 (by simp);have rk5:=range_upd (range_upd rk (Upd.refl [] _).drew (by simp)) hu5 (by simp);have rkey5:=range_upd (range_upd rkey (Upd.refl [] _).drew (by simp)) hu5 (by simp);have hld5:=run_cells32 rkey5 hkey;have HU5:=Lib.hid hu5;clear hu5))
    all_goals
     go_wp2_with fail
     exact⟨⟨q+1,by omega,by go_num,fun p k hp e=>(by
      by_cases e2:p=q
      ·subst e2;rw[HKQ.out] at e;cases e;exact HLB.out
      ·exact HAll.out p k (by omega) e),(HUr.out.trans (Upd.refl [] _).drew).trans HU5.out⟩,by simp[intOf];omega⟩
  ·obtain rfl:q=ks.length:=by omega
   have hlt':decide ((ks.length:Int)<(ks.length:Int))=false:=by simp
   have hp:posK ks key=ks.length:=posK_uniq (by omega) HAll.out (fun k e=>by rw[List.getElem?_eq_none (by omega)] at e;cases e)
   have hh:hasK ks key=false:=by
    unfold hasK
    rw[hp,List.getElem?_eq_none (by omega)];rfl
   have HP:=Lib.hid hp
   have HHH:=Lib.hid hh
   clear hp hh
   go_wp2_with fail
   go_quiet (fail)
   all_goals
    go_wp2_with fail
    go_quiet (fail)
    all_goals
     go_wp2_with fail
     go_ret2
     exact⟨by rw[HP.out,HHH.out];rfl,((HU.out.trans HUr.out).drewN _).drewN _⟩
def chK(ks:List (List UInt8))(key:List UInt8):Nat:=if hasK ks key then posK ks key+1 else posK ks key
set_option maxRecDepth 100000 in
theorem child_spec{w:World}{vk vv vd:Value}(kd:Int){ks:List (List UInt8)}(hk:RRd w vk 32 (ks.map bts))(hl:∀k,k∈ks→k.length=32)(hn:ks.length≤100)(key:List UInt8)(hkey:key.length=32) :
  Calls Tryz.prog 135 #[.agg #[.int .i64 kd,vk,vv,vd],arr key] w fun e w'=>e=.returned (.int .i64 (chK ks key:Int))∧Upd [] w w':=by
 obtain⟨wA,hwA⟩:∃wA,wA=(w.alloc (.cells #[.int .i64 kd,vk,vv,vd] 220)).alloc (.cells (bts key).toArray 35):=⟨_,rfl⟩
 have hu:Upd [] w wA:=by rw[hwA];exact((Upd.refl _ _).alloc _).alloc _
 have h1:wA.heap[w.heap.size]?=some (.cells #[.int .i64 kd,vk,vv,vd] 220 (0,0)):=by
  rw[hwA,blk_alloc_ne (by simp)];exact blk_alloc _
 have h2:wA.heap[w.heap.size+1]?=some (.cells (bts key).toArray 35 (0,0)):=by
  rw[hwA];have:=blk_alloc (w:=w.alloc (.cells #[.int .i64 kd,vk,vv,vd] 220)) (.cells (bts key).toArray 35);simpa using this
 have l1:=run_cells_blk (n:=4) (cs:=[.int .i64 kd,vk,vv,vd]) h1 rfl
 have l2:=run_cells_blk (n:=32) h2 (by rw[bts_length,hkey])
 have HF:=Lib.hid (find_spec (vv:=vv) (vd:=vd) kd (hk.keep hu (fun _ _ _ _=>by simp)) hl hn key hkey)
 have HU:=Lib.hid hu
 have HW:=Lib.hid hwA
 have hp:=posK_le ks key
 unfold chK
 rw[hwA] at l1 l2
 clear hk hu h1 h2 hwA
 unfold arr at *
 generalize posK ks key=P at *
 cases hh:hasK ks key
 all_goals
  rw[hh] at HF
  clear hh
  go_enter Tryz.func135,Tryz.ntmps135
  go_wp2_with fail
  have hwA:=HW.out
  rw[← hwA]
  clear hwA
  refine HF.out.mono ?_
  rintro e w1 ⟨rfl,hu⟩
  go_wp2_with fail
  go_ret
  exact⟨by go_num,HU.out.trans hu⟩
end Go.Proofs.YtgfbepakonjbnaaGreat
end
section
namespace Go.Proofs.YtgfbepakonjbnaaGreat
open Go.RowKit Go.MapKept Go.ChangeMaps
theorem number_spec{w:World}{v:Value}{l:List UInt8}(hr:Rd w v l)(a:Nat)(ai:Int)(hai:ai=(a:Int))(ha:a+4≤l.length)(hl:l.length≤1000) :
  Calls Tryz.prog 211 #[v,.int .i64 ai] w fun e w'=>e=.returned (.int .u32 (num l a 4:Int))∧w=w':=by
 subst hai
 have hat:=at_spec v l a 4 w hr (by omega) (by omega) (by omega) (by omega)
 obtain⟨N,hN⟩:∃N:Int,N=(num l a 4:Int):=⟨_,rfl⟩
 have hN0:0≤N:=by omega
 have hN1:N<4294967296:=by have:=num_lt l a 4;omega
 have hwr:IntKind.u32.wrap N=N:=by rw[IntKind.wrap_u32];omega
 rw[← hN,show((4:Nat):Int)=4 from rfl] at hat
 rw[← hN]
 have HAT:=Lib.hid hat
 clear hat hN hr
 go_enter Tryz.func211,Tryz.ntmps211
 go_wp2_with fail
 refine HAT.out.mono ?_
 rintro e w' ⟨rfl,rfl⟩
 go_wp2_with fail
 go_ret
 exact⟨rfl,rfl⟩
theorem bts_set(l:List UInt8)(i:Nat){y:Nat}(hy:y<256):(bts l).set i (.int .u8 (y:Int))=bts (l.set i (UInt8.ofNat y)):=by
 unfold bts
 rw[List.map_set]
 congr 1
 unfold bv
 rw[UInt8.toNat_ofNat',Nat.mod_eq_of_lt (by omega)]
theorem blk_set_u8{w:World}{b:Nat}{l:List UInt8}{T:TypeId}(h:w.heap[b]?=some (.cells (bts l).toArray T (0,0)))(i:Nat){y:Nat}(hy:y<256):(w.setCell ⟨b,i,none⟩ (.int .u8 (y:Int))).heap[b]?=some (.cells (bts (l.set i (UInt8.ofNat y))).toArray T (0,0)):=by
 rw[blk_set h,List.setIfInBounds_toArray,bts_set _ _ hy]
theorem blk_u8{w:World}{b:Nat}{l:List UInt8}{T:TypeId}(h:w.heap[b]?=some (.cells (bts l).toArray T (0,0))){i:Nat}(hi:i<l.length):w.cell? ⟨b,i,none⟩=some (.int .u8 ((l.getD i 0).toNat:Int))∧w.frozen? ⟨b,i,none⟩=false:=by
 refine⟨?_,blk_free h i⟩
 rw[blk_cell h,List.getElem?_toArray,bts,List.getElem?_map,List.getElem?_eq_getElem hi,List.getD_eq_getElem?_getD,List.getElem?_eq_getElem hi]
 rfl
set_option maxHeartbeats 1000000 in
theorem lay_spec9{w:World}{kb:Nat}{l:List UInt8}(hb:w.heap[kb]?=some (.cells (bts l).toArray 5 (0,0)))(hl:l.length=512)(c:Nat)(a:Nat)(ai:Int)(hai:ai=(a:Int))(ha:a+4≤512)(V:Nat) :
  Calls Tryz.prog 198 #[.slice (some ⟨kb,0,none⟩) 512 c,.int .i64 ai,.int .u32 (V:Int)] w fun e w'=>e=.returned (.tuple #[])∧w'.heap[kb]?=some (.cells (bts (put l a 4 V)).toArray 5 (0,0))∧Upd [kb] w w':=by
 subst hai
 have HB:=Lib.hid hb
 clear hb
 go_enter Tryz.func198,Tryz.ntmps198
 go_wp2_with fail
 go_loopw [7] (fun i wr=>∃q:Nat,q≤4∧i=.int .i64 (q:Int)∧wr.heap[kb]?=some (.cells (bts (putK l a 4 V q)).toArray 5 (0,0))∧Upd [kb] w wr) (fun i _=>4-(intOf i).toNat)
 case atStart=>exact⟨0,by omega,rfl,by rw[putK_zero];exact HB.out,Upd.refl _ _⟩
 case round=>
  obtain⟨q,hq,rfl,ho,hu⟩:=hrel
  by_cases hlt:q<4
  ·have hlt':decide ((q:Int)<4)=true:=decide_eq_true (by omega)
   have hlen:(putK l a 4 V q).length=512:=by rw[putK_length (by omega) (by omega)];exact hl
   have hst:=putK_step (b:=l) (a:=a) (n:=4) (v:=V) hlt (by omega)
   obtain⟨I,hI⟩:∃I,I=a+q:=⟨_,rfl⟩
   have hIk:(a:Int)+(q:Int)=(I:Int):=by omega
   obtain⟨hcl,hf⟩:=blk_u8 ho (i:=I) (by omega)
   obtain⟨Y,hY⟩:∃Y,Y=V / 256 ^ (4-1-q) % 256:=⟨_,rfl⟩
   have o2:=blk_set_u8 ho I (y:=Y) (by omega)
   have eY:UInt8.ofNat Y=UInt8.ofNat (V / 256 ^ (4-1-q)):=by
    apply UInt8.toNat_inj.1
    rw[UInt8.toNat_ofNat',UInt8.toNat_ofNat',hY];omega
   rw[eY,hI,hst,← hI] at o2
   have u2:Upd [kb] wr (wr.setCell ⟨kb,I,none⟩ (.int .u8 (Y:Int))):=(Upd.refl _ _).set _ (by simp)
   have HO:=Lib.hid o2
   have HUx:=Lib.hid (hu.trans u2)
   have i0:(0:Int)≤(I:Int):=by omega
   have i1:(I:Int)<512:=by omega
   have s0:decide ((24:Int)-8*(q:Int)<0)=false:=decide_eq_false (by omega)
   have hsh:(0:Int)≤24-8*(q:Int):=by omega
   have hsh2:24-8*(q:Int)≤24:=by omega
   have hYI:(V:Int) / 2 ^ (24-8*q) % 256=(Y:Int):=by
    have e1:(2:Int) ^ (24-8*q)=((256 ^ (4-1-q):Nat):Int):=by
     rw[show(256:Nat)=2 ^ 8 from rfl,← Nat.pow_mul,Int.natCast_pow,show 24-8*q=8*(4-1-q) from by omega];rfl
    rw[e1,hY];omega
   have HYI:=Lib.hid hYI
   clear ho hu hlen hst hI eY o2 u2 hYI hY
   go_wp2_with fail
   exact⟨⟨q+1,by omega,by go_num,by rw[HYI.out];exact HO.out,by rw[HYI.out];exact HUx.out⟩,by simp[intOf];omega⟩
  ·obtain rfl:q=4:=by omega
   have hlt':decide (((4:Nat):Int)<4)=false:=rfl
   rw[putK_full] at ho
   have HO:=Lib.hid ho
   have HU:=Lib.hid hu
   clear ho hu
   go_wp2_with fail
   go_end0
   exact⟨rfl,HO.out,HU.out⟩
theorem cut_over_ne{l x:List UInt8}{a b n:Nat}(h:a+x.length≤l.length)(hd:b+n≤a∨a+x.length≤b):((over l a x).drop b).take n=(l.drop b).take n:=
 cut_congr fun i h1 h2=>by rw[over_get h,if_neg (by omega)]
theorem over_len{l x:List UInt8}{a:Nat}(h:a+x.length≤l.length):(over l a x).length=l.length:=by unfold over;simp;omega
theorem over_at{l x:List UInt8}{a i:Nat}(h:a+x.length≤l.length)(hi:i<a):(over l a x)[i]?=l[i]?:=by rw[over_get h,if_neg (by omega)]
def hdN(kd n:Nat):Sec:=(zsec.set 0 (UInt8.ofNat kd)).set 1 (UInt8.ofNat n)
theorem hdN_length(kd n:Nat):(hdN kd n).length=512:=by unfold hdN;rw[List.length_set,List.length_set,zsec_length]
theorem hdN_0(kd n:Nat):(hdN kd n)[0]?=some (UInt8.ofNat kd):=by
 unfold hdN
 rw[List.getElem?_set_ne (by omega),List.getElem?_set_self (by rw[zsec_length];omega)]
theorem hdN_1(kd n:Nat):(hdN kd n)[1]?=some (UInt8.ofNat n):=by
 unfold hdN
 rw[List.getElem?_set_self (by rw[List.length_set,zsec_length];omega)]
abbrev Bs:=List UInt8
def leafK(ks vs:List Bs):Nat→Sec
 | 0=>hdN 1 ks.length
 | k+1=>over (over (leafK ks vs k) (8+48*k) (ks.getD k [])) (8+48*k+32) (vs.getD k [])
def innerK(ks:List Bs)(ds:List Nat):Nat→Sec
 | 0=>put (hdN 2 ks.length) 8 4 (ds.getD 0 0)
 | k+1=>put (over (innerK ks ds k) (12+36*k) (ks.getD k [])) (12+36*k+32) 4 (ds.getD (k+1) 0)
structure LeafOk(ks vs:List Bs):Prop where
 k:∀x,x∈ks→x.length=32
 v:∀x,x∈vs→x.length=16
 n:vs.length=ks.length
 most:ks.length≤10
structure InnerOk(ks:List Bs)(ds:List Nat):Prop where
 k:∀x,x∈ks→x.length=32
 d:∀x,x∈ds→x<4294967296
 n:ds.length=ks.length+1
 most:ks.length≤13
theorem getD_len{ls:List Bs}{n:Nat}(h:∀x,x∈ls→x.length=n){k:Nat}(hk:k<ls.length):(ls.getD k []).length=n:=by
 rw[List.getD_eq_getElem?_getD,List.getElem?_eq_getElem hk];exact h _ (List.getElem_mem hk)
section
variable {ks vs:List Bs} {ds:List Nat}
theorem leafK_length(h:LeafOk ks vs):∀{k:Nat},k≤ks.length→(leafK ks vs k).length=512
 | 0,_=>hdN_length _ _
 | k+1,hk=>by
  have ih:=leafK_length h (k:=k) (by omega)
  have h1:=getD_len h.k (k:=k) (by omega)
  have h2:=getD_len h.v (k:=k) (by rw[h.n];omega)
  have:=h.most
  show(over (over _ _ _) _ _).length=512
  rw[over_len (by rw[over_len (by omega)];omega),over_len (by omega)];exact ih
theorem leafK_low(h:LeafOk ks vs){i:Nat}(hi:i<8):∀{k:Nat},k≤ks.length→(leafK ks vs k)[i]?=(hdN 1 ks.length)[i]?
 | 0,_=>rfl
 | k+1,hk=>by
  have ih:=leafK_low h hi (k:=k) (by omega)
  have hl:=leafK_length h (k:=k) (by omega)
  have h1:=getD_len h.k (k:=k) (by omega)
  have h2:=getD_len h.v (k:=k) (by rw[h.n];omega)
  have:=h.most
  show(over (over _ _ _) _ _)[i]?=_
  rw[over_at (by rw[over_len (by omega)];omega) (by omega),over_at (by omega) (by omega)];exact ih
theorem leafK_at(h:LeafOk ks vs){j:Nat}:∀{k:Nat},k≤ks.length→j<k→((leafK ks vs k).drop (8+48*j)).take 32=ks.getD j []∧((leafK ks vs k).drop (8+48*j+32)).take 16=vs.getD j []
 | 0,_,hj=>by omega
 | k+1,hk,hj=>by
  have hl:=leafK_length h (k:=k) (by omega)
  have h1:=getD_len h.k (k:=k) (by omega)
  have h2:=getD_len h.v (k:=k) (by rw[h.n];omega)
  have hm:=h.most
  have e1:8+48*k+(ks.getD k []).length≤(leafK ks vs k).length:=by omega
  have e2:8+48*k+32+(vs.getD k []).length≤(over (leafK ks vs k) (8+48*k) (ks.getD k [])).length:=by rw[over_len e1];omega
  show((over (over _ _ _) _ _).drop _).take _=_∧((over (over _ _ _) _ _).drop _).take _=_
  by_cases hjk:j=k
  ·subst hjk
   refine⟨?_,?_⟩
   ·rw[cut_over_ne e2 (.inl (by omega))]
    have:=num_over e1
    rw[h1] at this;exact this
   ·have:=num_over e2
    rw[h2] at this;exact this
  ·obtain⟨i1,i2⟩:=leafK_at h (k:=k) (j:=j) (by omega) (by omega)
   refine⟨?_,?_⟩
   ·rw[cut_over_ne e2 (.inl (by omega)),cut_over_ne e1 (.inl (by omega))];exact i1
   ·rw[cut_over_ne e2 (.inl (by omega)),cut_over_ne e1 (.inl (by omega))];exact i2
theorem innerK_length(h:InnerOk ks ds):∀{k:Nat},k≤ks.length→(innerK ks ds k).length=512
 | 0,_=>by show(put _ _ _ _).length=512;rw[put_length (by rw[hdN_length];omega)];exact hdN_length _ _
 | k+1,hk=>by
  have ih:=innerK_length h (k:=k) (by omega)
  have h1:=getD_len h.k (k:=k) (by omega)
  have:=h.most
  show(put (over _ _ _) _ _ _).length=512
  rw[put_length (by rw[over_len (by omega)];omega),over_len (by omega)];exact ih
theorem innerK_low(h:InnerOk ks ds){i:Nat}(hi:i<8):∀{k:Nat},k≤ks.length→(innerK ks ds k)[i]?=(hdN 2 ks.length)[i]?
 | 0,_=>by show(put _ _ _ _)[i]?=_;rw[put_get _ (by rw[hdN_length];omega),if_neg (by omega)]
 | k+1,hk=>by
  have ih:=innerK_low h hi (k:=k) (by omega)
  have hl:=innerK_length h (k:=k) (by omega)
  have h1:=getD_len h.k (k:=k) (by omega)
  have:=h.most
  show(put (over _ _ _) _ _ _)[i]?=_
  rw[put_get _ (by rw[over_len (by omega)];omega),if_neg (by omega),over_at (by omega) (by omega)];exact ih
theorem innerK_first(h:InnerOk ks ds):∀{k:Nat},k≤ks.length→num (innerK ks ds k) 8 4=ds.getD 0 0
 | 0,_=>by
  have hd:ds.getD 0 0<256 ^ 4:=by
   rw[List.getD_eq_getElem?_getD,List.getElem?_eq_getElem (by rw[h.n];omega)];exact h.d _ (List.getElem_mem _)
  exact num_put (by rw[hdN_length];omega) hd
 | k+1,hk=>by
  have ih:=innerK_first h (k:=k) (by omega)
  have hl:=innerK_length h (k:=k) (by omega)
  have h1:=getD_len h.k (k:=k) (by omega)
  have:=h.most
  show num (put (over _ _ _) _ _ _) _ _=_
  rw[num_put_ne _ (by rw[over_len (by omega)];omega) (.inl (by omega)),← ih]
  unfold num
  rw[cut_over_ne (by omega) (.inl (by omega))]
theorem innerK_at(h:InnerOk ks ds){j:Nat}:∀{k:Nat},k≤ks.length→j<k→((innerK ks ds k).drop (12+36*j)).take 32=ks.getD j []∧num (innerK ks ds k) (12+36*j+32) 4=ds.getD (j+1) 0
 | 0,_,hj=>by omega
 | k+1,hk,hj=>by
  have hl:=innerK_length h (k:=k) (by omega)
  have h1:=getD_len h.k (k:=k) (by omega)
  have hm:=h.most
  have e1:12+36*k+(ks.getD k []).length≤(innerK ks ds k).length:=by omega
  have e2:12+36*k+32+4≤(over (innerK ks ds k) (12+36*k) (ks.getD k [])).length:=by rw[over_len e1];omega
  show((put (over _ _ _) _ _ _).drop _).take _=_∧num (put (over _ _ _) _ _ _) _ _=_
  by_cases hjk:j=k
  ·subst hjk
   refine⟨?_,?_⟩
   ·rw[put_over,cut_over_ne (by rw[be_length];exact e2) (.inl (by omega))]
    have:=num_over e1
    rw[h1] at this;exact this
   ·refine num_put e2 ?_
    rw[List.getD_eq_getElem?_getD,List.getElem?_eq_getElem (by rw[h.n];omega)];exact h.d _ (List.getElem_mem _)
  ·obtain⟨i1,i2⟩:=innerK_at h (k:=k) (j:=j) (by omega) (by omega)
   refine⟨?_,?_⟩
   ·rw[put_over,cut_over_ne (by rw[be_length];exact e2) (.inl (by omega)),cut_over_ne e1 (.inl (by omega))];exact i1
   ·rw[num_put_ne _ e2 (.inl (by omega)),← i2]
    unfold num
    rw[cut_over_ne e1 (.inl (by omega))]
end
def encLeaf(ks vs:List Bs):Sec:=leafK ks vs ks.length
def encInner(ks:List Bs)(ds:List Nat):Sec:=innerK ks ds ks.length
end Go.Proofs.YtgfbepakonjbnaaGreat
end
end
