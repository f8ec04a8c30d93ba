/-
  From a walk to a row: a law that answers true and turns nothing that was there.
-/
import Derived.Test.YtplppdbdfhkljaaGreatA01
import Derived.ProofKit
import Derived.OpenShut
import Derived.Carry
import Derived.Test.YtplppdbdfhkljaaGreatA09
import Derived.Lib.SlBytesRow
import Derived.Deep.Slices
import Derived.Deep.Strs
import Derived.Laws.BitsAllLaws
import Derived.Laws.Bits128
import Derived.Laws.Entries
import Derived.OrdersIn
import Derived.OwnWalkIn
set_option maxRecDepth 100000
set_option maxHeartbeats 16000000
section
namespace Go.Proofs.YtplppdbdfhkljaaGreat
open Go.ChangeShapes Go.WideShapes Go.ChangeAt Go.RowKit
section
theorem own:ownKnob Tryz.prog.godebug=none:=by kernel_rfl
theorem laidOut:laidOutB Tryz.prog=true:=by kernel_rfl
section
variable {H:Type} {enc:TypeId × Value→H}
theorem trodAll_carry{W W':World}(hb:Below W.heap.size W W')(sp:Nat→Bool):∀(ts:List TypeId) (vs:List Value) (ds:List (DataW H)) (ps:List MemPlace),DataW.TrodAll enc Tryz.prog W 0 (fun _=>true) true ts vs ds ps→
  (∀t∈ts,Tryz.prog.readableRec t=true∧t<Tryz.prog.types.size)→(∀x∈ps,x.block<W.heap.size)→(∀x∈ps,sp x.block=true)→DataW.TrodAll enc Tryz.prog W' 0 sp true ts vs ds ps
 | [],[],[],ps,h,_,_,_=>h
 | [],[],_ :: _,_,h,_,_,_=>h.elim
 | [],_ :: _,_,_,h,_,_,_=>h.elim
 | _ :: _,[],_,_,h,_,_,_=>h.elim
 | _ :: _,_ :: _,[],_,h,_,_,_=>h.elim
 | t :: ts,v :: vs,d :: ds,ps,h,ht,hlt,hsp=>by
  obtain⟨p,q,h1,h2,rfl⟩:=h
  refine⟨p,q,?_,trodAll_carry hb sp ts vs ds q h2 (fun t q=>ht t (by simp[q])) (fun x q=>hlt x (by simp[q])) (fun x q=>hsp x (by simp[q])),rfl⟩
  obtain⟨r1,r2⟩:=ht t (by simp)
  exact WideElems.Trod_stays laidOut r1 r2 h1 (fun x hx=>hb.same (hlt x (by simp[hx]))) (fun x hx=>hsp x (by simp[hx]))
theorem law_post{f:Func}{s:ChangeSpec}{W W':World}{args:Array Value}{ds gs:List (DataW H)}{before:List MemPlace}(hW:DataW.Whole enc Tryz.prog f.params.toList s.vars false W args.toList ds gs before)
  (hvars:s.vars=[]) (hrt:f.resultTypes=#[4]) (hfn:s.fn H (ds++gs) = { results:=[.lit (.bool true)],args:=ds }) (hpar:∀t∈f.params.toList,Tryz.prog.readableRec t=true∧t<Tryz.prog.types.size) (hb:Below W.heap.size W W') :
  s.post enc Tryz.prog f false true false false W args (.bool true) W':=by
 have hlt:∀x∈before,x.block<W.heap.size:=fun x hx=>by simpa using hW.lt x hx
 have hW2:=hW
 obtain⟨p,q,hA,hV,rfl,_,_⟩:=hW2
 rw[hvars] at hV
 obtain⟨rfl,rfl⟩:=trodVars_none hV
 refine⟨ds,[],p ++ [],[],p,[],hW,?_,?_,?_,hb.frame _,fun h=>by simp at h⟩
 ·rw[hfn,hrt]
  exact trodAll_cons_mk (shut_bool Tryz.underlying4 _) trodAll_mk0
 ·rw[hfn]
  exact trodAll_carry hb _ _ _ _ _ hA hpar (fun x hx=>hlt x (by simp[hx])) (fun x hx=>by simpa using hlt x (by simp[hx]))
 ·rw[hfn,hvars];rfl
end
end
end Go.Proofs.YtplppdbdfhkljaaGreat
end
section
namespace Go.Proofs.YtplppdbdfhkljaaGreat
open Go.RowKit
def str(l:List UInt8):ByteArray:=⟨l.toArray⟩
theorem ba_loop(bs:ByteArray):∀(m i:Nat) (r:List UInt8),bs.size-i=m→ByteArray.toList.loop bs i r=r.reverse++bs.data.toList.drop i:=by
 intro m
 induction m with
 | zero=>
  intro i r h
  rw[ByteArray.toList.loop]
  have hi:¬i<bs.size:=by omega
  rw[if_neg hi,List.drop_eq_nil_of_le (by simp;omega)];simp
 | succ m ih=>
  intro i r h
  rw[ByteArray.toList.loop]
  have hi:i<bs.size:=by omega
  rw[if_pos hi,ih (i+1) _ (by omega)]
  have hl:i<bs.data.toList.length:=by simpa using hi
  rw[List.drop_eq_getElem_cons hl]
  have e:bs.get! i=bs.data.toList[i]:=by simp[ByteArray.get!,hi]
  rw[e];simp
theorem str_toList(l:List UInt8):(str l).toList=l:=by
 unfold ByteArray.toList
 rw[ba_loop _ (str l).size 0 [] (by omega)];simp[str]
theorem run_str{w:World}{v:Value}{l:List UInt8}(h:Rd w v l)(hl:0<l.length):(convert 34 9 v).run Tryz.prog w=.ok (.string (str l)) w:=by
 obtain⟨ao,cap,rfl,hc,hh⟩:=h
 obtain⟨b,off,rfl,hcell⟩:=hh hl
 have hsz:(str l).size=l.length:=by simp[str,ByteArray.size]
 have:=Lib.run_convert_whole (P:=Tryz.prog) w 34 5 9 Tryz.underlying34 Tryz.underlying5 Tryz.underlying9 b off (str l) (fun i hi=>by
  rw[hsz] at hi
  rw[hcell i hi]
  rfl) cap
 rw[hsz] at this
 exact this
def hl(H:Nat→Sec)(k:Nat):List (List UInt8):=(List.range k).map H
end Go.Proofs.YtplppdbdfhkljaaGreat
namespace Go.Proofs.YtplppdbdfhkljaaGreat
open Go.RowKit
end Go.Proofs.YtplppdbdfhkljaaGreat
namespace Go.Proofs.YtplppdbdfhkljaaGreat
open Go.ChangeShapes Go.WideShapes Go.ChangeAt Go.RowKit Go.Deep
section
variable {H:Type} {enc:TypeId × Value→H} {W:World}
theorem list_of{α:Type}{p:Nat→α→Prop}:∀n,(∀i,i<n→∃a,p i a)→∃l:List α,l.length=n∧∀i (h:i<l.length),p i l[i]
 | 0,_=>⟨[],rfl,fun i h=>by simp at h⟩
 | n+1,h=>by
  obtain⟨l,hl,hp⟩:=list_of n (fun i hi=>h i (by omega))
  obtain⟨a,ha⟩:=h n (by omega)
  refine⟨l ++ [a],by simp[hl],fun i hi=>?_⟩
  by_cases q:i<l.length
  ·rw[List.getElem_append_left q];exact hp i q
  ·have:i=l.length:=by simp at hi;omega
   subst this
   rw[List.getElem_append_right (Nat.le_refl _)]
   simp only[Nat.sub_self,List.getElem_cons_zero]
   rw[hl];exact ha
theorem byte_of{n:Int}(h:(Lit.int .u8 n).wf=true):∃c:UInt8,bv c=.int .u8 n:=by
 simp[Lit.wf] at h
 have h0:(0:Int)≤n:=h.1
 have h1:n≤255:=h.2
 refine⟨UInt8.ofNat n.toNat,?_⟩
 unfold bv
 congr 1
 have:(UInt8.ofNat n.toNat).toNat=n.toNat % 256:=by simp
 rw[this];omega
theorem one_cells{t e:TypeId}{fuel:Nat}{v:Value}{x:DataW H × List MemPlace}(ht:Tryz.prog.underlying t=some (.slice e))(hc:Tryz.prog.cellsOf e=1)(h:DataW.trod enc Tryz.prog W 0 (fun _=>true) true fuel t [v]=some x) :
  ∃ao len cap,v=.slice ao len cap∧len≤cap∧(0<len→∃b off,ao=some ⟨b,off,none⟩∧∀i,i<len→∃u n y,W.cell? ⟨b,off+i,none⟩=some u∧DataW.trod enc Tryz.prog W 0 (fun _=>true) true n e [u]=some y):=by
 rcases open_slice1 ht hc h with⟨e,_⟩ | ⟨a,len,cap,m,n,V,D,Pl,e,_,hl,_,hm,_,hx⟩
 ·cases e;exact⟨none,0,0,rfl,Nat.le_refl _,fun q=>by omega⟩
 ·cases e
  simp only[if_true] at hm
  subst hm
  refine⟨some a,len,m,rfl,hl,fun hp=>?_⟩
  have h0:=(hx 0 (by omega)).1
  have hsp:a.spot=none:=by
   have:=World.cell?_spot h0
   cases a;simpa [Addr.add] using this
  obtain⟨b,off,spot⟩:=a
  simp at hsp;subst hsp
  refine⟨b,off,rfl,fun i hi=>?_⟩
  obtain⟨c1,c2⟩:=hx i (by omega)
  rw[addr_add] at c1
  exact⟨V i,n,_,c1,c2⟩
theorem rdT_bytes{fuel:Nat}{v:Value}{x:DataW H × List MemPlace}(h:DataW.trod enc Tryz.prog W 0 (fun _=>true) true fuel 34 [v]=some x):∃l,Rd W v l:=by
 obtain⟨ao,len,cap,rfl,hl,hh⟩:=one_cells Tryz.underlying34 (by kernel_rfl) h
 by_cases hp:0<len
 ·obtain⟨b,off,rfl,hc⟩:=hh hp
  obtain⟨l,hlen,hl2⟩:=list_of (p:=fun i c=>W.cell? ⟨b,off+i,none⟩=some (bv c)) len (fun i hi=>by
   obtain⟨u,n,y,c1,c2⟩:=hc i hi
   obtain⟨k,e,_,hw⟩:=DataW.trod_int Tryz.underlying5 c2
   cases e
   obtain⟨c,hc'⟩:=byte_of hw
   exact⟨c,by rw[hc'];exact c1⟩)
  exact⟨l,_,cap,by rw[hlen],by omega,fun _=>⟨b,off,rfl,hl2⟩⟩
 ·obtain rfl:len=0:=by omega
  exact⟨[],ao,cap,rfl,by simp,fun q=>by simp at q⟩
set_option maxRecDepth 100000 in
theorem slice_cells{r:Reach}{b0:Nat}{t e:TypeId}{v:Value}{d:DataW H}{ps:List MemPlace}(ht:Tryz.prog.underlying t=some (.slice e))(hval:Value.okWide Tryz.prog W r b0 t v)(hd:DataW.Trod enc Tryz.prog W 0 (fun _=>true) true t v d ps):∃fuel,DataW.trod enc Tryz.prog W 0 (fun _=>true) true fuel t [v]=some (d,ps):=by
 obtain⟨a,len,cap,rfl⟩:=okWide_slice ht hval
 obtain⟨fuel,hf⟩:=hd
 exact⟨fuel,hf⟩
end
end Go.Proofs.YtplppdbdfhkljaaGreat
end
section
set_option linter.unusedSimpArgs false
set_option linter.unusedVariables false
namespace Go.Proofs.YtplppdbdfhkljaaGreat
open Go.RowKit Go.MapKept Go.ChangeMaps
structure RG where
 rb:Nat
 lb:Nat
 wb:Nat
 cl:Nat
 cw:Nat
def strV(s:Sec):Value:=.string (str s)
def wtV:Option Sec→Value
 | some s=>strV s
 | none=> .string (str [])
def StrBl(w:World)(b:Nat)(l:List Value):Prop:=∃rest,w.heap[b]?=some (.cells (l++rest).toArray 9 (0,0))
theorem StrBl.cell{w:World}{b:Nat}{l:List Value}(h:StrBl w b l){i:Nat}{v:Value}(hi:l[i]?=some v):w.cell? ⟨b,i,none⟩=some v:=by
 obtain⟨rest,h⟩:=h
 rw[blk_cell h,List.getElem?_toArray,List.getElem?_append_left (List.getElem?_eq_some_iff.1 hi).1]
 exact hi
theorem StrBl.free{w:World}{b:Nat}{l:List Value}(h:StrBl w b l)(i:Nat):w.frozen? ⟨b,i,none⟩=false:=by
 obtain⟨rest,h⟩:=h
 exact blk_free h i
theorem StrBl.set{w:World}{b:Nat}{l:List Value}(h:StrBl w b l){i:Nat}(hi:i<l.length)(v:Value):StrBl (w.setCell ⟨b,i,none⟩ v) b (l.set i v):=by
 obtain⟨rest,h⟩:=h
 refine⟨rest,?_⟩
 rw[blk_set h,List.setIfInBounds_toArray,List.set_append_left _ _ hi]
theorem StrBl.upd{w w':World}{b:Nat}{l:List Value}(h:StrBl w b l){S:List Nat}(hu:Upd S w w')(hS:b∉S):StrBl w' b l:=by
 obtain⟨rest,h⟩:=h
 exact⟨rest,(hu.block _ (blk_lt h) hS).trans h⟩
theorem StrBl.lt{w:World}{b:Nat}{l:List Value}(h:StrBl w b l):b<w.heap.size:=by
 obtain⟨rest,h⟩:=h
 exact blk_lt h
def lastL(D:Dk):List Value:=(List.range D.n).map fun i=>strV (D.last i)
def waitL(D:Dk):List Value:=(List.range D.n).map fun i=>wtV (D.wait i)
theorem lastL_length(D:Dk):(lastL D).length=D.n:=by unfold lastL;rw[List.length_map,List.length_range]
theorem waitL_length(D:Dk):(waitL D).length=D.n:=by unfold waitL;rw[List.length_map,List.length_range]
theorem lastL_get{D:Dk}{i:Nat}(h:i<D.n):(lastL D)[i]?=some (strV (D.last i)):=by unfold lastL;rw[List.getElem?_map,List.getElem?_range h];rfl
theorem waitL_get{D:Dk}{i:Nat}(h:i<D.n):(waitL D)[i]?=some (wtV (D.wait i)):=by unfold waitL;rw[List.getElem?_map,List.getElem?_range h];rfl
structure RdkAt(w:World)(g:RG)(D:Dk):Prop where
 st:∃x:Int,w.heap[g.rb]?=some (.cells #[.slice (some ⟨g.lb,0,none⟩) D.n g.cl,.slice (some ⟨g.wb,0,none⟩) D.n g.cw,.bool false,.int .i64 (-1),.int .i64 0,.int .i64 (-1),.string (str []),.int .i64 x,.int .i64 D.lives] 141 (0,0))
 last:StrBl w g.lb (lastL D)
 wait:StrBl w g.wb (waitL D)
 off:D.off=false
 armed:D.armed = -1
 way:D.way=none
 ok:D.Ok
 ne:g.lb≠g.wb
def RG.all(g:RG):List Nat:=[g.rb,g.lb,g.wb]
theorem RdkAt.nes{w:World}{g:RG}{D:Dk}(h:RdkAt w g D):g.rb≠g.lb∧g.rb≠g.wb:=by
 obtain⟨x,hx⟩:=h.st
 constructor
 ·intro e
  obtain⟨r,hr⟩:=h.last
  rw[← e,hx] at hr
  injection hr with hr;injection hr with _ hr _
  revert hr;decide
 ·intro e
  obtain⟨r,hr⟩:=h.wait
  rw[← e,hx] at hr
  injection hr with hr;injection hr with _ hr _
  revert hr;decide
theorem RdkAt.upd{w w':World}{g:RG}{D:Dk}(h:RdkAt w g D){S:List Nat}(hu:Upd S w w')(hS:∀k,k∈g.all→k∉S):RdkAt w' g D:=by
 obtain⟨x,hx⟩:=h.st
 exact⟨⟨x,(hu.block _ (blk_lt hx) (hS _ (by simp[RG.all]))).trans hx⟩,h.last.upd hu (hS _ (by simp[RG.all])),h.wait.upd hu (hS _ (by simp[RG.all])),h.off,h.armed,h.way,h.ok,h.ne⟩
theorem str_nil:str []=⟨#[]⟩:=rfl
theorem str_full{s:Sec}(h:s.length=512):(str s).toList.isEmpty=false:=by
 rw[str_toList]
 cases s with
 | nil=>simp at h
 | cons _ _=>rfl
theorem str_size(s:List UInt8):(str s).size=s.length:=by unfold str ByteArray.size;simp
set_option maxRecDepth 100000 in
set_option maxHeartbeats 2000000 in
theorem rread_spec{w:World}{g:RG}{D:Dk}(h:RdkAt w g D)(i:Int) :
  Calls Tryz.prog 72 #[.pointer (some ⟨g.rb,0,none⟩),.int .i64 i] w fun e w'=>e=.returned (.tuple #[strV (D.read i).1,.int .i64 (D.read i).2])∧w=w':=by
 obtain⟨x,hx⟩:=h.st
 have c0:w.cell? ⟨g.rb,0,none⟩=some (.slice (some ⟨g.lb,0,none⟩) D.n g.cl):=by rw[blk_cell hx];rfl
 have c1:w.cell? ⟨g.rb,1,none⟩=some (.slice (some ⟨g.wb,0,none⟩) D.n g.cw):=by rw[blk_cell hx];rfl
 have c2:w.cell? ⟨g.rb,2,none⟩=some (.bool false):=by rw[blk_cell hx];rfl
 have HL:=Lib.hid h.last
 have HW:=Lib.hid h.wait
 have HO:=Lib.hid h.ok
 have hmay:D.may i=if i<0∨(D.n:Int)≤i then 1 else 0:=by unfold Dk.may;rw[h.off];rfl
 have HM:=Lib.hid hmay
 clear h hx hmay
 by_cases b1:i<0
 ·have d1:decide (i<0)=true:=by simpa using b1
  have hm1:D.may i=1:=by rw[HM.out,if_pos (Or.inl b1)]
  have HR:Hid (D.read i=([],1)):=by show _=_;unfold Dk.read;rw[hm1,if_neg (by decide)]
  clear hm1
  clear b1
  go_enter Tryz.func72,Tryz.ntmps72
  go_wp2_with fail
  go_ret2
  rw[HR.out]
  exact⟨rfl,rfl⟩
 obtain⟨iN,rfl⟩:=Int.eq_ofNat_of_zero_le (show 0≤i by omega)
 have d1:decide ((iN:Int)<0)=false:=by simp
 have i0:(0:Int)≤(iN:Int):=by omega
 rcases Nat.lt_or_ge iN D.n with hlt | hge
 ·have d2:decide ((D.n:Int)≤(iN:Int))=false:=decide_eq_false (by omega)
  have d3:decide (D.n≤iN)=false:=decide_eq_false (by omega)
  have i1:(iN:Int)<(D.n:Int):=by omega
  have k0:=HL.out.cell (lastL_get hlt)
  have k1:=HW.out.cell (waitL_get hlt)
  have hm1:D.may (iN:Int)=0:=by rw[HM.out,if_neg (by omega)]
  have HR:Hid (D.read (iN:Int)=(D.now iN,0)):=by show _=_;unfold Dk.read;rw[hm1,if_pos rfl];rfl
  clear hm1
  rcases hwt:D.wait iN with _ | s
  ·rw[hwt] at k1
   have HN:Hid (D.now iN=D.last iN):=by show _=_;unfold Dk.now;rw[hwt];rfl
   obtain⟨v,hv⟩:∃v,v=str (D.last iN):=⟨_,rfl⟩
   unfold strV at k0
   rw[← hv] at k0
   have HV:=Lib.hid hv
   unfold wtV at k1
   rw[str_nil] at k1
   clear hwt hv
   go_enter Tryz.func72,Tryz.ntmps72
   go_wp2_with fail
   go_ret2
   rw[HR.out,HN.out]
   refine⟨?_,rfl⟩
   unfold strV
   rw[← HV.out]
   rfl
  ·rw[hwt] at k1
   have HN:Hid (D.now iN=s):=by show _=_;unfold Dk.now;rw[hwt];rfl
   have hne:=str_full (HO.out.wait _ _ hwt).2
   obtain⟨v,hv⟩:∃v,v=str s:=⟨_,rfl⟩
   replace k1:w.cell? ⟨g.wb,iN,none⟩=some (.string (str s)):=k1
   rw[← hv] at k1 hne
   have HV:=Lib.hid hv
   clear hwt hv k0
   go_enter Tryz.func72,Tryz.ntmps72
   go_wp2_with fail
   go_ret2
   rw[HR.out,HN.out]
   refine⟨?_,rfl⟩
   unfold strV
   rw[← HV.out]
   rfl
 ·have d2:decide ((D.n:Int)≤(iN:Int))=true:=decide_eq_true (by omega)
  have d3:decide (D.n≤iN)=true:=decide_eq_true hge
  have hm1:D.may (iN:Int)=1:=by rw[HM.out,if_pos (Or.inr (by omega))]
  have HR:Hid (D.read (iN:Int)=([],1)):=by show _=_;unfold Dk.read;rw[hm1,if_neg (by decide)]
  clear hm1
  go_enter Tryz.func72,Tryz.ntmps72
  go_wp2_with fail
  go_ret2
  rw[HR.out]
  exact⟨rfl,rfl⟩
set_option maxRecDepth 100000 in
set_option maxHeartbeats 1000000 in
theorem rgoes_spec{w:World}{g:RG}{D:Dk}(h:RdkAt w g D):Calls Tryz.prog 124 #[.pointer (some ⟨g.rb,0,none⟩)] w fun e w'=>e=.returned (.bool true)∧w=w':=by
 obtain⟨x,hx⟩:=h.st
 have c3:w.cell? ⟨g.rb,3,none⟩=some (.int .i64 (-1)):=by rw[blk_cell hx];rfl
 clear h hx
 go_enter Tryz.func124,Tryz.ntmps124
 go_wp2_with fail
 go_ret
 exact⟨rfl,rfl⟩
set_option maxRecDepth 100000 in
set_option maxHeartbeats 2000000 in
theorem rwrite_spec{w:World}{g:RG}{D:Dk}(h:RdkAt w g D)(i:Int)(b:List UInt8) :
  Calls Tryz.prog 69 #[.pointer (some ⟨g.rb,0,none⟩),.int .i64 i,.string (str b)] w fun e w'=>e=.returned (.int .i64 (D.write i b).2)∧RdkAt w' g (D.write i b).1∧Upd g.all w w':=by
 obtain⟨x,hx⟩:=id h.st
 have c0:w.cell? ⟨g.rb,0,none⟩=some (.slice (some ⟨g.lb,0,none⟩) D.n g.cl):=by rw[blk_cell hx];rfl
 have c1:w.cell? ⟨g.rb,1,none⟩=some (.slice (some ⟨g.wb,0,none⟩) D.n g.cw):=by rw[blk_cell hx];rfl
 have c2:w.cell? ⟨g.rb,2,none⟩=some (.bool false):=by rw[blk_cell hx];rfl
 have c7:w.cell? ⟨g.rb,7,none⟩=some (.int .i64 x):=by rw[blk_cell hx];rfl
 have H:=Lib.hid h
 have HG:=Lib.hid (rgoes_spec h)
 have hmay:D.may i=if i<0∨(D.n:Int)≤i then 1 else 0:=by unfold Dk.may;rw[h.off];rfl
 have HM:=Lib.hid hmay
 have hsz:=str_size b
 obtain⟨v,hv⟩:∃v,v=str b:=⟨_,rfl⟩
 rw[← hv] at hsz ⊢
 have HV:=Lib.hid hv
 have HX:=Lib.hid hx
 clear h hmay hv hx
 by_cases b1:i<0
 ·have d1:decide (i<0)=true:=by simpa using b1
  have hm1:D.may i=1:=by rw[HM.out,if_pos (Or.inl b1)]
  have HR:Hid (D.write i b=(D,1)):=by show _=_;unfold Dk.write;rw[hm1,if_pos (by decide)]
  clear hm1
  clear b1
  go_enter Tryz.func69,Tryz.ntmps69
  go_wp2_with fail
  go_ret
  rw[HR.out]
  exact⟨rfl,H.out,Upd.refl _ _⟩
 obtain⟨iN,rfl⟩:=Int.eq_ofNat_of_zero_le (show 0≤i by omega)
 have d1:decide ((iN:Int)<0)=false:=by simp
 have i0:(0:Int)≤(iN:Int):=by omega
 rcases Nat.lt_or_ge iN D.n with hlt | hge
 ·have d2:decide ((D.n:Int)≤(iN:Int))=false:=decide_eq_false (by omega)
  have d3:decide (D.n≤iN)=false:=decide_eq_false (by omega)
  have i1:(iN:Int)<(D.n:Int):=by omega
  have hm0:D.may (iN:Int)=0:=by rw[HM.out,if_neg (by omega)]
  by_cases b3:b.length=512
  ·have hs1:v.size=512:=by rw[hsz,b3]
   have k1:=H.out.wait.cell (waitL_get hlt)
   have f1:=H.out.wait.free iN
   have f7:=blk_free HX.out 7
   obtain⟨_,hrw⟩:=H.out.nes
   have HR:Hid (D.write (iN:Int) b=({ D with wait:=fun j=>if j=iN then some b else D.wait j,writes:=wrap64 (D.writes+1) },0)):=by
    show _=_
    unfold Dk.write Dk.step
    rw[hm0,if_neg (by decide),if_neg (by simpa using b3),if_neg (by rw[H.out.armed];decide),if_neg (by rw[H.out.armed];decide)]
    rfl
   obtain⟨w1,hw1⟩:∃w1,w1=w.setCell ⟨g.wb,iN,none⟩ (.string v):=⟨_,rfl⟩
   have hu1:Upd [g.wb] w w1:=by rw[hw1];exact(Upd.refl [g.wb] w).set (.string v) (.inl (by simp))
   have x1:=(hu1.block _ (blk_lt HX.out) (by simpa using hrw)).trans HX.out
   have c7':w1.cell? ⟨g.rb,7,none⟩=some (.int .i64 x):=by rw[blk_cell x1];rfl
   have f7':=blk_free x1 7
   have HRK:∀y,RdkAt (w1.setCell ⟨g.rb,7,none⟩ (.int .i64 y)) g { D with wait:=fun j=>if j=iN then some b else D.wait j,writes:=wrap64 (D.writes+1) }∧Upd g.all w (w1.setCell ⟨g.rb,7,none⟩ (.int .i64 y)):=fun y=>by
    have hl1:StrBl w1 g.lb (lastL D):=by rw[hw1];exact H.out.last.upd ((Upd.refl [g.wb] w).set _ (.inl (by simp))) (by simpa using H.out.ne)
    have hq1:StrBl w1 g.wb ((waitL D).set iN (.string v)):=by rw[hw1];exact H.out.wait.set (by rw[waitL_length];exact hlt) _
    have hu2:Upd [g.rb] w1 (w1.setCell ⟨g.rb,7,none⟩ (.int .i64 y)):=(Upd.refl _ _).set _ (.inl (by simp))
    obtain⟨hrl,_⟩:=H.out.nes
    refine⟨⟨⟨y,?_⟩,hl1.upd hu2 (by simpa using Ne.symm hrl),?_,H.out.off,H.out.armed,H.out.way,?_,H.out.ne⟩,?_⟩
    ·rw[blk_set x1];rfl
    ·have e:(waitL D).set iN (.string v)=waitL { D with wait:=fun j=>if j=iN then some b else D.wait j,writes:=wrap64 (D.writes+1) }:=by
      refine List.ext_getElem? fun k=>?_
      rcases Nat.lt_or_ge k D.n with hk | hk
      ·rw[waitL_get (D:={ D with wait:=fun j=>if j=iN then some b else D.wait j,writes:=wrap64 (D.writes+1) }) hk]
       by_cases e:k=iN
       ·subst e
        rw[List.getElem?_set_self (by rw[waitL_length];exact hk)]
        show _=some (wtV (if k=k then some b else _))
        rw[if_pos rfl,HV.out];rfl
       ·rw[List.getElem?_set_ne (Ne.symm e),waitL_get hk]
        show _=some (wtV (if k=iN then some b else _))
        rw[if_neg e]
      ·rw[List.getElem?_eq_none (by rw[List.length_set,waitL_length];exact hk)]
       exact Eq.symm (List.getElem?_eq_none (by rw[waitL_length];exact hk))
     rw[← e]
     exact hq1.upd hu2 (by simpa using Ne.symm hrw)
    ·refine⟨H.out.ok.n0,H.out.ok.n1,H.out.ok.last,fun k s hk=>?_,H.out.ok.armed0,H.out.ok.armed1,H.out.ok.part,H.out.ok.way,H.out.ok.front⟩
     dsimp only at hk
     split at hk
     ·injection hk with hk;subst hk;exact⟨show k<D.n by omega,b3⟩
     ·exact H.out.ok.wait k s hk
    ·exact(hu1.mono (by simp[RG.all])).trans (hu2.mono (by simp[RG.all]))
   have HRKH:=Lib.hid HRK
   have HW1:=Lib.hid hw1
   have c7r:(w.setCell ⟨g.wb,iN,none⟩ (.string v)).cell? ⟨g.rb,7,none⟩=some (.int .i64 x):=by rw[← hw1];exact c7'
   have f7r:(w.setCell ⟨g.wb,iN,none⟩ (.string v)).frozen? ⟨g.rb,7,none⟩=false:=by rw[← hw1];exact f7'
   clear HRK hw1 x1 hu1 hrw hlt b1 hm0 c7' f7'
   go_enter Tryz.func69,Tryz.ntmps69
   go_wp2_with fail
   refine HG.out.mono ?_
   rintro e w' ⟨rfl,rfl⟩
   go_wp2_with fail
   have hw1:=HW1.out
   rw[← hw1]
   go_ret
   rw[HR.out]
   exact⟨rfl,HRKH.out _⟩
  ·have d5:((v.size:Int) != 512)=true:=by rw[hsz];simp;omega
   have d6:(v.size != 512)=true:=by rw[hsz];simpa using b3
   have HR:Hid (D.write (iN:Int) b=(D,9)):=by show _=_;unfold Dk.write;rw[hm0,if_neg (by decide),if_pos (by simpa using b3)]
   clear b3 hm0 hsz
   go_enter Tryz.func69,Tryz.ntmps69
   go_wp2_with fail
   go_ret
   rw[HR.out]
   exact⟨rfl,H.out,Upd.refl _ _⟩
 ·have d2:decide ((D.n:Int)≤(iN:Int))=true:=decide_eq_true (by omega)
  have d3:decide (D.n≤iN)=true:=decide_eq_true hge
  have hm1:D.may (iN:Int)=1:=by rw[HM.out,if_pos (Or.inr (by omega))]
  have HR:Hid (D.write (iN:Int) b=(D,1)):=by show _=_;unfold Dk.write;rw[hm1,if_pos (by decide)]
  clear hm1
  go_enter Tryz.func69,Tryz.ntmps69
  go_wp2_with fail
  go_ret
  rw[HR.out]
  exact⟨rfl,H.out,Upd.refl _ _⟩
end Go.Proofs.YtplppdbdfhkljaaGreat
end
section
namespace Go.Proofs.YtplppdbdfhkljaaGreat
open Go.RowKit


end Go.Proofs.YtplppdbdfhkljaaGreat
end
section
namespace Go.Proofs.YtplppdbdfhkljaaGreat
open Go.RowKit Go.MapKept Go.ChangeMaps




end Go.Proofs.YtplppdbdfhkljaaGreat
end
section
set_option linter.unusedSimpArgs false
set_option linter.unusedVariables false
namespace Go.Proofs.YtplppdbdfhkljaaGreat
open Go.RowKit Go.MapKept Go.ChangeMaps
section
section
variable {P:Program} {ops:Array Oper} {Q:Exit→Act→World→Prop} {md:Region.Mode}
def upL(L:Nat→Bool)(i:Nat):Nat→Bool:=fun j=>if j=i then true else L j
theorem upL_same(L:Nat→Bool)(i:Nat):upL L i i=true:=by simp[upL]
theorem upL_ne(L:Nat→Bool){i j:Nat}(h:j≠i):upL L i j=L j:=by simp[upL,h]
theorem countB_lt{p p':Nat→Bool}(h:∀j,p' j=true→p j=true){i:Nat}(hi:p i=true)(hi':p' i=false):∀{l:List Nat},i∈l→l.countP p'<l.countP p
 | x :: l,hm=>by
  have hle:l.countP p'≤l.countP p:=List.countP_mono_left (fun x _ hx=>h x hx)
  rw[List.countP_cons,List.countP_cons]
  by_cases hx:x=i
  ·subst hx;rw[if_pos hi,if_neg (by rw[hi'];simp)];omega
  ·have hml:i∈l:=by simpa [Ne.symm hx] using hm
   have:=countB_lt h hi hi' hml
   by_cases hp':p' x=true
   ·rw[if_pos hp',if_pos (h x hp')];omega
   ·rw[if_neg hp'];split<;>omega
def lowB(md:Region.Mode)(ops:Array Oper):Bool:=(List.range ops.size).all fun j=>((ops[j]?).map (·.after.all fun e=> !Region.binds md e || decide (e.on<j))).getD true
theorem ready_all{listed:Array Bool}(hlow:lowB md ops=true)(hs:listed.size=ops.size)(hr:Region.ready md ops listed=[]):∀i,i<ops.size→listed.getD i false=true:=by
 intro i
 induction i using Nat.strongRecOn with
 | ind i ih=>
  intro hi
  cases hq:listed.getD i false with
  | true=>rfl
  | false=>
   exfalso
   have hm:i∈Region.ready md ops listed:=by
    refine mem_ready.2 ⟨?_,ops[i],Array.getElem?_eq_getElem hi,fun e he hb=>?_⟩
    ·simp[Array.getD,hs,hi] at hq ⊢;exact hq
    ·have h1:=(List.all_eq_true.1 hlow) i (List.mem_range.2 hi)
     rw[Array.getElem?_eq_getElem hi] at h1
     simp only[Option.map_some,Option.getD_some] at h1
     have h2:=Array.all_eq_true_iff_forall_mem.1 h1 e he
     rw[hb] at h2
     have h3:e.on<i:=by simpa using h2
     exact ih e.on h3 (by omega)
   rw[hr] at hm;cases hm
theorem wpAny_inv(Inv:(Nat→Bool)→Act→World→Prop)
  (hstep:∀i o L a w,ops[i]?=some o→Inv L a w→L i=false→(∀e∈o.after,Region.binds md e=true→L e.on=true)→wpOp P ops Q i (fun a' w'=>Inv (upL L i) a' w') a w)
  (hend:∀L a w,Inv L a w→(∀i,i<ops.size→L i=true)→Q .normal a w) (hlow:lowB md ops=true) :
  ∀(fuel:Nat) (listed:Array Bool) (a:Act) (w:World),listed.size=ops.size→(List.range ops.size).countP (fun i=> !listed.getD i false)≤fuel→Inv (fun i=>listed.getD i false) a w→wpAny P md ops Q fuel listed a w
 | 0,listed,a,w,hs,hc,hI=>by
  have hall:∀i,i<ops.size→listed.getD i false=true:=fun i hi=>by
   have:=List.countP_eq_zero.1 (Nat.le_zero.1 hc) i (List.mem_range.2 hi)
   simpa using this
  refine⟨?_,hend _ _ _ hI hall⟩
  apply List.eq_nil_iff_forall_not_mem.2
  intro i hi
  obtain⟨h1,o,ho,_⟩:=mem_ready.1 hi
  have hlt:=(Array.getElem?_eq_some_iff.1 ho).1
  have:=hall i hlt
  simp[Array.getD,hs,hlt] at h1 this
  rw[this] at h1;cases h1
 | fuel+1,listed,a,w,hs,hc,hI=>by
  refine⟨fun hr=>hend _ _ _ hI (ready_all hlow hs hr),fun i hi=>?_⟩
  obtain⟨h1,o,ho,hdep⟩:=mem_ready.1 hi
  have hlt:=(Array.getElem?_eq_some_iff.1 ho).1
  have h0:listed.getD i false=false:=by simp[Array.getD,hs,hlt] at h1 ⊢;exact h1
  refine wpOp_mono (fun a' w' hI'=>?_) (hstep i o _ a w ho hI h0 hdep)
  have hL:(fun j=>(listed.setIfInBounds i true).getD j false)=upL (fun j=>listed.getD j false) i:=by
   funext j
   by_cases hj:j=i
   ·subst hj;rw[upL_same];simp[Array.getD,hs,hlt]
   ·rw[upL_ne _ hj,getD_set_ne false (Ne.symm hj)]
  refine wpAny_inv Inv hstep hend hlow fuel (listed.setIfInBounds i true) a' w' (by simpa using hs) ?_ (by rw[hL];exact hI')
  have:=countB_lt (p:=fun j=> !listed.getD j false) (p':=fun j=> !(listed.setIfInBounds i true).getD j false) (fun j hj=>by
   have e:(listed.setIfInBounds i true).getD j false=upL (fun j=>listed.getD j false) i j:=congrFun hL j
   rw[e] at hj
   by_cases hji:j=i
   ·subst hji;rw[upL_same] at hj;simp at hj
   ·rwa [upL_ne _ hji] at hj) (i:=i) (by rw[h0];rfl) (by have e:(listed.setIfInBounds i true).getD i false=upL (fun j=>listed.getD j false) i i:=congrFun hL i;rw[e,upL_same];rfl) (List.mem_range.2 hlt)
  omega
theorem wp_region_inv{id:Nat}{a:Act}{w:World}(Inv:(Nat→Bool)→Act→World→Prop)(hm:P.follows .mixedOrders=true)(h0:Inv (fun _=>false) a w.drew)
  (hstep:∀i o L a w,ops[i]?=some o→Inv L a w→L i=false→(∀e∈o.after,Region.binds .any e=true→L e.on=true)→wpOp P ops Q i (fun a' w'=>Inv (upL L i) a' w') a w)
  (hend:∀L a w,Inv L a w→(∀i,i<ops.size→L i=true)→Q .normal a w) (hlow:lowB .any ops=true):(Code.region id ops true).wp P Q a w:=by
 refine wp_region_any hm (wpAny_inv Inv hstep hend hlow _ _ _ _ (by simp) (Nat.le_trans List.countP_le_length (by simp)) ?_)
 have:(fun i=>(Array.replicate ops.size false).getD i false)=fun _=>false:=by
  funext i;simp only[Array.getD,Array.size_replicate];split<;>simp
 rw[this];exact h0
end
def tm(a:Act)(i:Nat):Value:=a.tmps[i]?.getD undef
theorem tm_put{a:Act}{d:Nat}(hd:d<a.tmps.size)(v:Value)(j:Nat):tm { a with tmps:=a.tmps.setIfInBounds d v } j=if j=d then v else tm a j:=by
 unfold tm
 by_cases h:j=d
 ·subst h;simp[hd]
 ·rw[if_neg h];simp[Array.getElem?_setIfInBounds,Ne.symm h]
structure BlkT where
 al:Nat
 slot:Nat
 st:Nat
 ty:TypeId
 zero:Array Value
 fin:Array Value
def okO(V:List (Nat × Nat × Value))(B:List BlkT)(j:Nat):Bool:=(V.all fun t=> !(t.2.1 == j)) && B.all fun t=> !(t.slot == j)
def okV(V:List (Nat × Nat × Value))(B:List BlkT)(i d:Nat):Bool:=
 (V.all fun t=>if t.1=i then t.2.1 == d else !(t.2.1 == d)) && (B.all fun t=> !(t.slot == d) && !(t.al == i) && !(t.st == i)) && V.any (fun t=>t.2.1 == d)
def sets(A:Array Value):List (Nat × Value)→Array Value
 | []=>A
 | p :: l=>sets (A.setIfInBounds p.1 p.2) l
theorem sets_size:∀(l:List (Nat × Value)) (A:Array Value),(sets A l).size=A.size
 | [],_=>rfl
 | p :: l,A=>by rw[sets,sets_size l];simp
theorem sets_get:∀(l:List (Nat × Value)) (A:Array Value) (T:Nat→Value),(∀j,j<A.size→(l.all fun p=> !(p.1 == j))=true→A[j]?.getD undef=T j)→(∀p,p∈l→T p.1=p.2)→∀j,j<A.size→(sets A l)[j]?.getD undef=T j
 | [],A,T,h1,_,j,hj=>h1 j hj rfl
 | p :: l,A,T,h1,h2,j,hj=>by
  rw[sets]
  refine sets_get l _ T (fun k hk hn=>?_) (fun q hq=>h2 q (by simp[hq])) j (by simpa using hj)
  have hk':k<A.size:=by simpa using hk
  by_cases e:k=p.1
  ·subst e
   have:=h2 p (by simp)
   simp[hk',this]
  ·have:=h1 k hk' (by rw[List.all_cons,hn];simp[Ne.symm e])
   simp only[Array.getElem?_setIfInBounds,Ne.symm e,if_false]
   exact this
theorem sets_eq{A A0:Array Value}{l:List (Nat × Value)}(hs:A.size=A0.size)(h1:∀j,(l.all fun p=> !(p.1 == j))=true→A[j]?.getD undef=A0[j]?.getD undef)(h2:∀p,p∈l→A[p.1]?.getD undef=p.2):A=sets A0 l:=by
 apply Array.ext (by rw[sets_size,hs])
 intro j hj hj2
 have:=sets_get l A0 (fun j=>A[j]?.getD undef) (fun j _ hn=>(h1 j hn).symm) h2 j (by omega)
 simp only[Array.getElem?_eq_getElem hj,Array.getElem?_eq_getElem hj2,Option.getD_some] at this
 exact this.symm
end
end Go.Proofs.YtplppdbdfhkljaaGreat
end
section
section
set_option linter.unusedSimpArgs false
set_option linter.unusedVariables false
namespace Go.Proofs.YtplppdbdfhkljaaGreat
open Go.RowKit Go.MapKept Go.ChangeMaps
end Go.Proofs.YtplppdbdfhkljaaGreat
end
section
set_option linter.unusedSimpArgs false
set_option linter.unusedVariables false
namespace Go.Proofs.YtplppdbdfhkljaaGreat
open Go.RowKit Go.MapKept Go.ChangeMaps
section
variable {F:Fence} {m:Nat} {P:Program} {ops:Array Oper} {Q:Exit→Act→World→Prop} {md:Region.Mode}
def ClosedL(md:Region.Mode)(ops:Array Oper)(L:Nat→Bool):Prop:=∀j oj,ops[j]?=some oj→L j=true→∀e∈oj.after,Region.binds md e=true→L e.on=true
theorem ClosedL.up{L:Nat→Bool}(h:ClosedL md ops L){i:Nat}{o:Oper}(ho:ops[i]?=some o)(hd:∀e∈o.after,Region.binds md e=true→L e.on=true):ClosedL md ops (upL L i):=by
 intro j oj hj hl e he hb
 have key:L e.on=true:=by
  by_cases hji:j=i
  ·subst hji;rw[ho] at hj;cases hj;exact hd e he hb
  ·rw[upL_ne _ hji] at hl;exact h j oj hj hl e he hb
 by_cases h2:e.on=i
 ·rw[h2,upL_same]
 ·rw[upL_ne _ h2];exact key
def waitsK(md:Region.Mode)(ops:Array Oper)(i:Nat):Nat→Nat→Bool
 | 0,s=>s == i
 | f+1,s=>s == i || match ops[s]? with
  | none=>false
  | some o=>o.after.any fun e=>Region.binds md e && waitsK md ops i f e.on
theorem waitsK_up{L:Nat→Bool}(hc:ClosedL md ops L){i:Nat}:∀{f s:Nat},waitsK md ops i f s=true→L s=true→L i=true
 | 0,s,h,hs=>by simp[waitsK] at h;rw[← h];exact hs
 | f+1,s,h,hs=>by
  unfold waitsK at h
  rw[Bool.or_eq_true] at h
  rcases h with h | h
  ·simp at h;rw[← h];exact hs
  ·cases ho:ops[s]? with
   | none=>rw[ho] at h;simp at h
   | some o=>
    rw[ho] at h
    obtain⟨e,he,hb⟩:=Array.any_eq_true'.1 h
    simp only[Bool.and_eq_true] at hb
    exact waitsK_up hc hb.2 (hc s o ho hs e he hb.1)
theorem ClosedL.not_up{L:Nat→Bool}(hc:ClosedL md ops L){i s:Nat}(f:Nat)(hw:waitsK md ops i f s=true)(hi:L i=false):L s=false:=by
 cases hq:L s with
 | false=>rfl
 | true=>rw[waitsK_up hc hw hq] at hi;cases hi
theorem ClosedL.dep_up{L:Nat→Bool}(hc:ClosedL md ops L){i s:Nat}{o:Oper}(ho:ops[i]?=some o)(hd:∀e∈o.after,Region.binds md e=true→L e.on=true)(f:Nat)(hw:waitsK md ops s f i=true)(hne:s≠i):L s=true:=by
 have:=waitsK_up (hc.up ho hd) hw (upL_same _ _)
 rwa [upL_ne _ hne] at this
end
structure RegW(wf:(Nat→Bool)→World)(n:Nat)(a0:Act)(V:List (Nat × Nat × Value))(L:Nat→Bool)(a:Act)(w:World):Prop where
 dfs:a.defers=[]
 size:a.tmps.size=n
 old:∀j,okO V [] j=true→tm a j=tm a0 j
 val:∀t,t∈V→L t.1=true→tm a t.2.1=t.2.2
 wd:w=wf L
theorem RegW.val_step{wf:(Nat→Bool)→World}{w w':World}{n:Nat}{a0:Act}{V:List (Nat × Nat × Value)}{L:Nat→Bool}{a:Act}(h:RegW wf n a0 V L a w)(i d:Nat)(v:Value)
  (hd:d<n) (hw:w'=wf (upL L i)) (hv:∀t,t∈V→t.1=i→t.2.2=v) (hok:okV V [] i d=true):RegW wf n a0 V (upL L i) { tmps:=a.tmps.setIfInBounds d v,defers:=[] } w':=by
 simp only[okV,List.all_nil,Bool.and_true,Bool.and_eq_true] at hok
 obtain⟨h1,h3⟩:=hok
 have hV:∀t,t∈V→if t.1=i then t.2.1=d else t.2.1≠d:=fun t ht=>by
  have:=(List.all_eq_true.1 h1) t ht
  split at this<;>rename_i hq
  ·rw[if_pos hq];simpa using this
  ·rw[if_neg hq];simpa using this
 have hb:∀j,okO V [] j=true→j≠d:=fun j hj e=>by
  subst e
  obtain⟨t,ht,e⟩:=List.any_eq_true.1 h3
  simp only[okO,List.all_nil,Bool.and_true] at hj
  have:=(List.all_eq_true.1 hj) t ht
  rw[e] at this;cases this
 have key:∀j,tm { tmps:=a.tmps.setIfInBounds d v,defers:=[] } j=if j=d then v else tm a j:=fun j=>by
  have:=tm_put (a:=a) (d:=d) (by rw[h.size];exact hd) v j
  unfold tm at this ⊢;exact this
 refine⟨rfl,by simpa using h.size,fun j hj=>by rw[key,if_neg (hb j hj)];exact h.old j hj,fun t ht hl=>?_,hw⟩
 have:=hV t ht
 by_cases hq:t.1=i
 ·rw[if_pos hq] at this;rw[key,if_pos this];exact(hv t ht hq).symm
 ·rw[if_neg hq] at this;rw[key,if_neg this];exact h.val t ht (by rwa [upL_ne _ hq] at hl)
theorem RegW.none_step{wf:(Nat→Bool)→World}{w w':World}{n:Nat}{a0:Act}{V:List (Nat × Nat × Value)}{L:Nat→Bool}{a:Act}(h:RegW wf n a0 V L a w)(i:Nat)
  (hw:w'=wf (upL L i)) (hok:(V.all fun t=> !(t.1 == i))=true):RegW wf n a0 V (upL L i) a w':=
 ⟨h.dfs,h.size,h.old,fun t ht hl=>h.val t ht (by
  have:=(List.all_eq_true.1 hok) t ht
  rwa [upL_ne _ (by simpa using this)] at hl),hw⟩
theorem RegW.fin{wf:(Nat→Bool)→World}{w:World}{n:Nat}{a0:Act}{V:List (Nat × Nat × Value)}{L:Nat→Bool}{tmps:Array Value}(h:RegW wf n a0 V L ⟨tmps,[]⟩ w)(hn:a0.tmps.size=n)(hall:∀t,t∈V→L t.1=true):tmps=sets a0.tmps (V.map (·.2)):=
 sets_eq (h.size.trans hn.symm) (fun j hj=>h.old j (by
  rw[List.all_map] at hj
  simp only[okO,List.all_nil,Bool.and_true]
  exact hj)) (fun p hp=>by
  obtain⟨t,ht,rfl⟩:=List.mem_map.1 hp
  exact h.val t ht (hall t ht))
end Go.Proofs.YtplppdbdfhkljaaGreat
end
section
set_option linter.unusedSimpArgs false
set_option linter.unusedVariables false
namespace Go.Proofs.YtplppdbdfhkljaaGreat
open Go.RowKit Go.MapKept Go.ChangeMaps
end Go.Proofs.YtplppdbdfhkljaaGreat
end
section
set_option linter.unusedSimpArgs false
set_option linter.unusedVariables false
namespace Go.Proofs.YtplppdbdfhkljaaGreat
open Go.RowKit Go.MapKept Go.ChangeMaps
end Go.Proofs.YtplppdbdfhkljaaGreat
end
section
set_option linter.unusedSimpArgs false
set_option linter.unusedVariables false
namespace Go.Proofs.YtplppdbdfhkljaaGreat
open Go.RowKit Go.MapKept Go.ChangeMaps
structure RegV(wf:(Nat→Bool)→World)(n:Nat)(a0:Act)(V:List (Nat × Nat × Value))(L:Nat→Bool)(a:Act)(w:World):Prop extends RegW wf n a0 V L a w where
 yet:∀t,t∈V→L t.1=false→tm a t.2.1=tm a0 t.2.1
theorem yet_put{a a0:Act}{n d:Nat}{v:Value}{L:Nat→Bool}{i:Nat}{D:List (Nat × Nat)}(hs:a.tmps.size=n)(hd:d<n)(hD:∀t,t∈D→(t.1=i↔t.2=d))(h:∀t,t∈D→L t.1=false→tm a t.2=tm a0 t.2) :
  ∀t,t∈D→upL L i t.1=false→tm { tmps:=a.tmps.setIfInBounds d v,defers:=[] } t.2=tm a0 t.2:=by
 intro t ht hl
 have hne:t.1≠i:=fun e=>by rw[e,upL_same] at hl;cases hl
 have key:tm { tmps:=a.tmps.setIfInBounds d v,defers:=[] } t.2=if t.2=d then v else tm a t.2:=by
  have:=tm_put (a:=a) (d:=d) (by rw[hs];exact hd) v t.2
  unfold tm at this ⊢;exact this
 rw[key,if_neg (fun e=>hne ((hD t ht).2 e))]
 exact h t ht (by rwa [upL_ne _ hne] at hl)
theorem RegV.val_step{wf:(Nat→Bool)→World}{w w':World}{n:Nat}{a0:Act}{V:List (Nat × Nat × Value)}{L:Nat→Bool}{a:Act}(h:RegV wf n a0 V L a w)(i d:Nat)(v:Value)
  (hd:d<n) (hw:w'=wf (upL L i)) (hv:∀t,t∈V→t.1=i→t.2.2=v) (hok:okV V [] i d=true):RegV wf n a0 V (upL L i) { tmps:=a.tmps.setIfInBounds d v,defers:=[] } w':=by
 refine⟨h.toRegW.val_step i d v hd hw hv hok,fun t ht=>?_⟩
 simp only[okV,List.all_nil,Bool.and_true,Bool.and_eq_true] at hok
 have hD:∀t,t∈V.map (fun t=>(t.1,t.2.1))→(t.1=i↔t.2=d):=fun t ht=>by
  obtain⟨u,hu,rfl⟩:=List.mem_map.1 ht
  have:=(List.all_eq_true.1 hok.1) u hu
  by_cases h1:u.1=i<;>by_cases h2:u.2.1=d<;>simp[h1,h2] at this ⊢
 exact yet_put (D:=V.map fun t=>(t.1,t.2.1)) h.size hd hD (fun u hu=>by
  obtain⟨x,hx,rfl⟩:=List.mem_map.1 hu
  exact h.yet x hx) (t.1,t.2.1) (List.mem_map.2 ⟨t,ht,rfl⟩)
theorem RegV.none_step{wf:(Nat→Bool)→World}{w w':World}{n:Nat}{a0:Act}{V:List (Nat × Nat × Value)}{L:Nat→Bool}{a:Act}(h:RegV wf n a0 V L a w)(i:Nat)
  (hw:w'=wf (upL L i)) (hok:(V.all fun t=> !(t.1 == i))=true):RegV wf n a0 V (upL L i) a w':=
 ⟨h.toRegW.none_step i hw hok,fun t ht hl=>h.yet t ht (by
  have:=(List.all_eq_true.1 hok) t ht
  rwa [upL_ne _ (by simpa using this)] at hl)⟩
theorem RegV.fin{wf:(Nat→Bool)→World}{w:World}{n:Nat}{a0:Act}{V:List (Nat × Nat × Value)}{L:Nat→Bool}{tmps:Array Value}(h:RegV wf n a0 V L ⟨tmps,[]⟩ w)(hn:a0.tmps.size=n)(hall:∀t,t∈V→L t.1=true):tmps=sets a0.tmps (V.map (·.2)):=h.toRegW.fin hn hall
theorem wp_region_w{P:Program}{ops:Array Oper}{Q:Exit→Act→World→Prop}{id:Nat}{a:Act}{w:World}(wf:(Nat→Bool)→World)(V:List (Nat × Nat × Value))(hm:P.follows .mixedOrders=true)(hlow:lowB .any ops=true)(n:Nat)(hn:a.tmps.size=n)(hdf:a.defers=[])
  (hw:w.drew=wf fun _=>false)
  (hstep:∀i o L tmps w',ops[i]?=some o→RegV wf n a V L ⟨tmps,[]⟩ w'→L i=false→(∀e∈o.after,Region.binds .any e=true→L e.on=true)→ClosedL .any ops L→wpOp P ops Q i (fun a' w'=>RegV wf n a V (upL L i) a' w') ⟨tmps,[]⟩ w')
  (hend:∀L tmps w',RegV wf n a V L ⟨tmps,[]⟩ w'→(∀i,i<ops.size→L i=true)→Q .normal ⟨tmps,[]⟩ w'):(Code.region id ops true).wp P Q a w:=by
 subst hn
 refine wp_region_inv (fun L a' w'=>RegV wf a.tmps.size a V L a' w'∧ClosedL .any ops L) hm ⟨⟨⟨hdf,rfl,fun _ _=>rfl,(fun _ _ h=>(by cases h)),hw⟩,fun _ _ _=>rfl⟩,fun j oj _ h=>(by cases h)⟩ ?_ ?_ hlow
 ·rintro i o L ⟨tmps,dfs⟩ w' ho ⟨hI,hc⟩ hL hd
  obtain rfl:dfs=[]:=hI.dfs
  exact wpOp_mono (fun a' w'' h=>⟨h,hc.up ho hd⟩) (hstep i o L tmps w' ho hI hL hd hc)
 ·rintro L ⟨tmps,dfs⟩ w' ⟨hI,_⟩ hall
  obtain rfl:dfs=[]:=hI.dfs
  exact hend L tmps w' hI hall
end Go.Proofs.YtplppdbdfhkljaaGreat
end
end
