/-
  slices.Insert at rows of more cells. slices.Insert at rows of values, and of numbers. (Written by tools/mkins.py.) slices.Clone at rows of keys, of values, and of numbers. (Written by tools/mkclo.py.)
-/
import Derived.Test.YtgfbepakonjbnaaGreatZ11
import Derived.Lib.Overlaps
import Derived.Lib.AppendZerosOnto
import Derived.Laws.Externs
import Derived.Deep.RegionLaw
set_option maxRecDepth 100000
set_option maxHeartbeats 16000000
section
section
namespace Go.Proofs.YtgfbepakonjbnaaGreat
open Go.RowKit Go.MapKept Go.ChangeMaps
theorem J7{P:Program}(w:World)(dT sT ty elem:TypeId)(sz m g o dLen dCap:Nat)(a:Addr)(sLen sCap:Nat)(cur:Array Value)(t:TypeId)(cs:List Value)
  (hu:P.underlying dT=some (.slice elem)) (hs:(P.info? elem).map (·.size)=some sz)
  (hg:w.heap[g]?=some (.cells cur t (0,0))) (hm:m=Nat.min sLen dLen) (hn:cs.length=m*sz)
  (hsrc:∀j v,cs[j]?=some v->w.cell? (a.add j)=some v) (hfit:o+cs.length<=cur.size) (h1:∀v∈cs,v.oneCell'=true) :
  (Builtin.copy_ #[dT,sT] ty #[.slice (some ⟨g,o,none⟩) dLen dCap,.slice (some a) sLen sCap]).run P w =
   .ok (goInt m) (w.setRow g (cur.toList.take o++cs++cur.toList.drop (o+cs.length)).toArray):=by
 have hl:=run_loadCells_list (P:=P) w a cs hsrc;have hst:=run_storeCells_at P g o t cs 0 cur w hg (by simpa using hfit) h1;cases hq:P.info? elem with
 | none=>simp[hq] at hs
 | some i=>
  have hi:i.size=sz:=by simpa [hq] using hs
  have e:Nat.min sLen dLen*sz=cs.length:=by rw[← hm,hn]
  simp[Builtin.copy_,run_underlying hu,Builtin.lenOf,Builtin.firstCells,sizeOf,typeInfo,hq,hi,e,hl,hst,hm]
theorem P5{P:Program}{ops:Array Oper}{rest:List Oper}{o:Oper}{a:Act}{Q:Exit->Act->World->Prop}{w:World}(hgd:o.guard=none)(s x:Operand)(T:TypeId)
  (ho:o.op=.call { callee:=.builtin .copy,args:=#[s,x],argTypes:=#[T,T] }) {vs vx v':Value} {w':World} (hs:a.eval s=vs) (hx:a.eval x=vx)
  (hrun:∀ty,(Builtin.copy_ #[T,T] ty #[vs,vx]).run P w=.ok v' w') (h:wpList P ops Q rest (a.put o.dst v') w'):wpList P ops Q (o :: rest) a w:=by
 refine wpList_plain hgd λ K hK=>?_;unfold Oper.wp execOp;simp only[ho,resolve,invoke,builtin,Sem.run_bind,Sem.run_pure,Result.andThen_ok,List.map_toArray,List.map_cons,List.map_nil,hs,hx,hrun];exact hK _ _ h
theorem O6{P:Program}{ops:Array Oper}{rest:List Oper}{o:Oper}{a:Act}{Q:Exit->Act->World->Prop}{w:World}(hgd:o.guard=none)(s x:Operand)(T T2:TypeId)
  (ho:o.op=.call { callee:=.builtin .append,args:=#[s,x],argTypes:=#[T,T2] }) {vs vx v':Value} {w':World} (hs:a.eval s=vs) (hx:a.eval x=vx)
  (hrun:∀ty,(Builtin.append_ #[T,T2] ty #[vs,vx]).run P w=.ok v' w') (h:wpList P ops Q rest (a.put o.dst v') w'):wpList P ops Q (o :: rest) a w:=by
 refine wpList_plain hgd λ K hK=>?_;unfold Oper.wp execOp;simp only[ho,resolve,invoke,builtin,Sem.run_bind,Sem.run_pure,Result.andThen_ok,List.map_toArray,List.map_cons,List.map_nil,hs,hx,hrun];exact hK _ _ h
def G8(w:World)(B:Nat)(e:TypeId)(sz n:Nat)(xs:List Value)(en:Ending)(w':World):Prop:=
 ∃a c S,en=.returned (.slice a (n+1) c)/\w'.ownsRow B e sz (.slice a (n+1) c) (n+1) xs/\Upd S w w'/\∀k,k∈S->B<=k/\∃c,w.heap[k]?=some (.cells c e (0,0))
section
theorem Cg1{w:World}{B n:Nat}{v:Value}{xs cs:List Value}(hown:w.ownsRow B 35 32 v n xs)(hn:n<=100)(hB:B<=w.heap.size){vb:Nat}(hc:cs.length=32)(h1:∀u∈cs,u.oneCell'=true)(hv:w.heap[vb]?=some (.cells cs.toArray 35 (0,0))) :
  Calls Tryz.prog 204 #[v,.int .i64 (n:Int),.slice (some ⟨vb,0,none⟩) 1 1] w (G8 w B 35 32 n (xs++cs)):=by
 obtain⟨i0,hi0,hz0,hz1,hz2⟩:=info_parts Aa8;obtain⟨v',w',hrun,ho,hg,_⟩:=run_append_own (P:=Tryz.prog) w B 216 216 35 i0 _ 32 32 Tryz.underlying216 hi0 hz0 hz1 hz2 rfl (by decide) v n xs hown ⟨vb,0,none⟩ 1 1 cs (by rw[hc])
  (λ k u hj=>by rw[I5,A4 hv,List.getElem?_toArray,Nat.zero_add];exact hj) h1 (by unfold maxLen;omega) (by omega) hB
 have hs:∃a c',v'=.slice a (n+1) c':=by
  rcases ho.2 with⟨_,h⟩ | ⟨g,cap,cur,h,_⟩
  ·omega
  ·exact⟨_,_,h⟩
 obtain⟨a',c',rfl⟩:=hs;have hrun':∀ty,(Builtin.append_ #[216,216] ty #[v,.slice (some ⟨vb,0,none⟩) 1 1]).run Tryz.prog w=.ok (.slice a' (n+1) c') w':=λ _=>hrun;have HP:Hid (G8 w B 35 32 n (xs++cs) (.returned (.slice a' (n+1) c')) w'):=by
  show G8 _ _ _ _ _ _ _ _
  rcases hown.2 with⟨rfl,_⟩ | ⟨g,cap,cur,rfl,hb,hgb,_⟩
  ·exact⟨a',c',[],rfl,ho,⟨hg.os,hg.tape,hg.output,hg.size,λ k hk _=>hg.block k hk (by simp[Value.ownBlock])⟩,by simp⟩
  ·exact⟨a',c',[g],rfl,ho,⟨hg.os,hg.tape,hg.output,hg.size,λ k hk hS=>hg.block k hk (by simp[Value.ownBlock];rintro rfl;exact hS (by simp))⟩,by simp;exact⟨hb,_,hgb⟩⟩
 clear hrun ho hg hv;rcases hown.2 with⟨rfl,rfl⟩ | ⟨g,cap,cur,rfl,hb,hgb,hcap,_⟩
 ·clear hown;go_enter Tryz.func204,Tryz.ntmps204
  go_wp2_with (at_builtin;refine B4 rfl _ _ _ rfl rfl rfl hrun' ?_)
  go_ret;exact HP.out
 ·clear hown hgb;have i0:(0:Int)<=(n:Int):=by omega
  have i1:(n:Int)<=(cap:Int):=by omega
  go_enter Tryz.func204,Tryz.ntmps204
  go_wp2_with (at_builtin;refine B4 rfl _ _ _ rfl rfl rfl hrun' ?_)
  all_goals
   go_ret;exact HP.out
theorem D5{S:List Nat}{a w:World}(h:Upd S a w){b:Nat}(cs:Array Value)(hb:b∈S∨a.heap.size<=b):Upd S a (w.setRow b cs):=
 ⟨h.os,h.tape,h.output,by simpa using h.size,λ k hk hs=>by
  rw[setRow_other _ _ _ _ (by rintro rfl;rcases hb with q | q;exact hs q;omega)];exact h.block k hk hs⟩
theorem Ab5{w:World}{b:Nat}{cs:Array Value}{T:TypeId}{fr:Nat × Nat}(h:w.heap[b]?=some (.cells cs T fr)):w.shape? b=some (T,cs.size):=by unfold World.shape?;rw[h]
theorem Bs5{w:World}{B n i g cap:Nat}{cur:Array Value}{xs cs:List Value}(hn:n<=100)(hi:i<n)(hcap:n+1<=cap)(hcm:cap<=maxLen)(hb:B<=g)(hg:w.heap[g]?=some (.cells cur 35 (0,0)))(hsz:cur.size=cap*32)(ht:cur.toList.take (n*32)=xs)(h1x:∀u∈xs,u.oneCell'=true)
  {vb:Nat} (hne:vb≠g) (hc:cs.length=32) (h1:∀u∈cs,u.oneCell'=true) (hv:w.heap[vb]?=some (.cells cs.toArray 35 (0,0))) :
  Calls Tryz.prog 204 #[.slice (some ⟨g,0,none⟩) n cap,.int .i64 (i:Int),.slice (some ⟨vb,0,none⟩) 1 1] w (G8 w B 35 32 n (xs.take (i*32)++cs++xs.drop (i*32))):=by
 have hov:∀O lb cb,(callFunc 233 #[.slice (some ⟨vb,0,none⟩) 1 1,.slice (some ⟨g,O,none⟩) lb cb]).run Tryz.prog w=.ok (.value (.bool false)) w:=λ O lb cb=>by
  rw[run_callFunc_extern Tryz.func233 (by kernel_rfl) (by kernel_rfl) (by kernel_rfl) (e:=Extern.SlicesOverlaps.overlaps #[216,216] #[4]) (by kernel_rfl),
   Lib.run_overlaps_apart w 216 4 35 Tryz.underlying216 32 (Tryz.sizeOf35) ⟨vb,0,none⟩ ⟨g,O,none⟩ 1 1 lb cb hne _ _ _ _ (Ab5 hv) (Ab5 hg) (by rw[hsz];omega) (E4 hv 0) (E4 hv _)]
  rfl
 have i0:(0:Int)<=(i:Int):=by omega
 have i1:(i:Int)<=(n:Int):=by omega
 have i2:¬((i:Int)=(n:Int)):=by omega
 have i3:¬((cap:Int)<(n:Int)+1):=by omega
 have i4:(n:Int)+1<=(cap:Int):=by omega
 have i5:i<=n:=by omega
 have i6:¬(cap=i+1):=by omega
 have i7:¬(cap=i):=by omega
 have i8:(i:Int)+1<=(n:Int)+1:=by omega
 have i9:(i:Int)<=(n:Int)+1:=by omega
 have hw1:IntKind.i64.wrap ((i:Int)+1)=(i:Int)+1:=by rw[IntKind.wrap_i64];omega
 have hb1:(0:Int)<=(i:Int)+1:=by omega
 have htn:((i:Int)+1).toNat=i+1:=by omega
 have hxl:xs.length=n*32:=by rw[← ht,List.length_take];simp[hsz];omega
 have hsi:(Tryz.prog.info? 35).map (·.size)=some 32:=Ae0;obtain⟨c1,hc1⟩:∃c1:List Value,c1=cur.toList.take ((i+1)*32)++xs.drop (i*32)++cur.toList.drop ((i+1)*32+(xs.drop (i*32)).length):=⟨_,rfl⟩;have hcp1:∀ty dc sc,(Builtin.copy_ #[216,216] ty #[.slice (some ⟨g,(i+1)*32,none⟩) (n-i) dc,.slice (some ⟨g,i*32,none⟩) (n+1-i) sc]).run Tryz.prog w.drew=.ok (goInt (n-i:Nat)) (w.drew.setRow g c1.toArray):=λ ty dc sc=>by
  have:=J7 (P:=Tryz.prog) w.drew 216 216 ty 35 32 (n-i) g ((i+1)*32) (n-i) dc ⟨g,i*32,none⟩ (n+1-i) sc cur 35 (xs.drop (i*32)) Tryz.underlying216 hsi hg (by simp only[Nat.min_def];split<;>omega) (by rw[List.length_drop,hxl];omega)
   (λ j v hj=>by
    rw[Addr.add_mid];rw[List.getElem?_drop,← ht,List.getElem?_take] at hj;split at hj
    ·have e:=A4 (w:=w.drew) hg (i*32+j);rw[e,← Array.getElem?_toList];exact hj
    ·simp at hj)
   (by rw[List.length_drop,hxl,hsz];omega) (λ u hu=>h1x u (List.mem_of_mem_drop hu))
  rw[← hc1] at this;exact this
 have hl1:c1.length=cur.size:=by rw[hc1];simp only[List.length_append,List.length_take,List.length_drop,hxl,Array.length_toList,hsz];omega
 have hg1:(w.drew.setRow g c1.toArray).heap[g]?=some (.cells c1.toArray 35 (0,0)):=setRow_heap _ _ _ _ _ _ hg;obtain⟨c2,hc2⟩:∃c2:List Value,c2=c1.take (i*32)++cs++c1.drop (i*32+cs.length):=⟨_,rfl⟩;have hcp2:∀ty dc,(Builtin.copy_ #[216,216] ty #[.slice (some ⟨g,i*32,none⟩) (n+1-i) dc,.slice (some ⟨vb,0,none⟩) 1 1]).run Tryz.prog (w.drew.setRow g c1.toArray)=.ok (goInt (1:Nat)) ((w.drew.setRow g c1.toArray).setRow g c2.toArray):=λ ty dc=>by
  have:=J7 (P:=Tryz.prog) (w.drew.setRow g c1.toArray) 216 216 ty 35 32 1 g (i*32) (n+1-i) dc ⟨vb,0,none⟩ 1 1 c1.toArray 35 cs Tryz.underlying216 hsi hg1 (by simp only[Nat.min_def];split<;>omega) (by rw[hc])
   (λ j v hj=>by
    have e:(w.drew.setRow g c1.toArray).heap[vb]?=some (.cells cs.toArray 35 (0,0)):=(setRow_other _ _ _ _ hne).trans hv;rw[Addr.add_mid,A4 e,List.getElem?_toArray,Nat.zero_add];exact hj)
   (by rw[hc,List.size_toArray,hl1,hsz];omega) h1
  rw[← hc2] at this;exact this
 have hl2:c2.length=cur.size:=by rw[hc2];simp only[List.length_append,List.length_take,List.length_drop,hl1,hc,hsz];omega
 have hcl:cur.toList.length=cap*32:=by rw[Array.length_toList,hsz]
 have htk:c2.take ((n+1)*32)=xs.take (i*32)++cs++xs.drop (i*32):=by
  have e1:c1.take (i*32)=xs.take (i*32):=by
   rw[hc1,List.append_assoc,List.take_append_of_le_length (by rw[List.length_take,Array.length_toList,hsz];omega),List.take_take,← ht,List.take_take];congr 1;omega
  have e2:c1.drop (i*32+cs.length)=xs.drop (i*32)++cur.toList.drop ((i+1)*32+(xs.drop (i*32)).length):=by
   rw[hc1,List.append_assoc,List.drop_append,List.drop_eq_nil_of_le (by rw[List.length_take];omega),List.nil_append];rw[show i*32+cs.length-(cur.toList.take ((i+1)*32)).length=0 from by rw[List.length_take,hcl,hc];omega];rfl
  rw[hc2,e1,e2,← List.append_assoc];rw[List.take_append_of_le_length (by simp only[List.length_append,List.length_take,List.length_drop,hxl,hc];omega)];exact List.take_of_length_le (by simp only[List.length_append,List.length_take,List.length_drop,hxl,hc];omega)
 have HP:Hid (G8 w B 35 32 n (xs.take (i*32)++cs++xs.drop (i*32)) (.returned (.slice (some ⟨g,0,none⟩) (n+1) cap)) ((w.drew.setRow g c1.toArray).setRow g c2.toArray)):=by
  show G8 _ _ _ _ _ _ _ _
  refine⟨some ⟨g,0,none⟩,cap,[g],rfl,⟨by simp only[List.length_append,List.length_take,List.length_drop,hxl,hc];omega,.inr ⟨g,cap,c2.toArray,rfl,hb,setRow_heap _ _ _ _ _ _ hg1,hcap,hcm,by rw[List.size_toArray,hl2,hsz],htk⟩⟩,?_,by simp;exact⟨hb,_,hg⟩⟩;exact(D5 (D5 (Upd.refl [g] w).drew (b:=g) _ (.inl (by simp))) (b:=g) _ (.inl (by simp)))
 have hC1:=η hc1;clear hc1 hc2 hg1 hl1 hl2 htk hg hv ht;go_enter Tryz.func204,Tryz.ntmps204
 go_wp2_with (simp only[hov])
 go_region_law (fail)
 all_goals
  go_wp2_with (at_builtin;refine P5 rfl _ _ _ rfl rfl rfl (λ ty=>hcp2 ty _) ?_)
  go_ret;exact HP.out
theorem Bz1{w:World}{B n i g cap:Nat}{cur:Array Value}{xs cs:List Value}(hn:n<=100)(hi:i<n)(hcap:n<=cap)(hfull:cap<n+1)(hB:B<=w.heap.size)(hg:w.heap[g]?=some (.cells cur 35 (0,0)))(hsz:cur.size=cap*32)(ht:cur.toList.take (n*32)=xs)(h1x:∀u∈xs,u.oneCell'=true)
  {vb:Nat} (hc:cs.length=32) (h1:∀u∈cs,u.oneCell'=true) (hv:w.heap[vb]?=some (.cells cs.toArray 35 (0,0))) :
  Calls Tryz.prog 204 #[.slice (some ⟨g,0,none⟩) n cap,.int .i64 (i:Int),.slice (some ⟨vb,0,none⟩) 1 1] w (G8 w B 35 32 n (xs.take (i*32)++cs++xs.drop (i*32))):=by
 obtain⟨i0,hi0,hz0,hz1,hz2⟩:=info_parts Aa8;have hsi:(Tryz.prog.info? 35).map (·.size)=some 32:=Ae0;have hcl:cur.toList.length=cap*32:=by rw[Array.length_toList,hsz]
 have hxl:xs.length=n*32:=by rw[← ht,List.length_take,hcl];omega
 have hgw:g<w.heap.size:=A2 hg;have hvw:vb<w.heap.size:=A2 hv;have hik:i+(n+1-i)=n+1:=by omega
 have hold:(Builtin.firstCells i0.size i (.slice (some ⟨g,0,none⟩) i cap)).run Tryz.prog w.drew=.ok (xs.take (i*32)).toArray w.drew:=by
  rw[hz1];exact run_firstCells_some w.drew 32 i ⟨g,0,none⟩ i cap (xs.take (i*32)) (by rw[List.length_take,hxl];omega) (λ j v hj=>by
   rw[Addr.add_mid,A4 (w:=w.drew) hg,← Array.getElem?_toList,Nat.zero_add];rw[← ht,List.take_take,List.getElem?_take] at hj;split at hj
   ·exact hj
   ·simp at hj)
 obtain⟨G,hG⟩:∃G,G=grownCap w (n+1) cap 35:=⟨_,rfl⟩;have hGn:n+1<=G:=by rw[hG];exact grownCap_ge w _ _ _
 have hGm:G<=maxLen:=by rw[hG];exact grownCap_le_maxLen w _ _ _ (by unfold maxLen;omega)
 obtain⟨Z,hZ⟩:∃Z,Z=Value.agg (bts (List.replicate 32 0)).toArray:=⟨_,rfl⟩;rw[← hZ] at hz0;have hZs:Z.cells.size=32:=by rw[hZ];rfl
 obtain⟨ROW,hROW⟩:∃ROW:Array Value,ROW=(xs.take (i*32)).toArray++Builtin.zeroCells Z.cells (n+1-i)++Builtin.zeroCells Z.cells (G-(n+1)):=⟨_,rfl⟩;have hzc:∀k,(Builtin.zeroCells Z.cells k).size=k*32:=λ k=>by simp[Builtin.zeroCells,hZs]
 have hRs:ROW.size=G*32:=by
  rw[hROW,Array.size_append,Array.size_append,hzc,hzc,List.size_toArray,List.length_take,hxl];omega
 obtain⟨W1,hW1⟩:∃W1,W1=w.drew.alloc (.cells ROW 35):=⟨_,rfl⟩;obtain⟨N,hN⟩:∃N,N=w.heap.size:=⟨_,rfl⟩;have hrz:∀ty,(Builtin.append_ #[216,3] ty #[.slice (some ⟨g,0,none⟩) i cap,.int .i64 ((n:Int)+1-(i:Int))]).run Tryz.prog w=.ok (.slice (some ⟨N,0,none⟩) (n+1) G) W1:=λ ty=>by
  have h:=Lib.run_append_grow_zeros w 216 3 ty 35 i0 Z .i64 .i64 Tryz.underlying216 Tryz.underlying3 hi0 hz0 (some ⟨g,0,none⟩) i cap (xs.take (i*32)) hold (n+1-i) (by omega) (by rw[hz1];omega) (by omega) (by omega) (by rw[hz2];omega) (by rw[hz2,hik];exact growslice_fits hfull (by omega));rw[hik,← hG,← hROW] at h;rw[show(n:Int)+1-(i:Int)=((n+1-i:Nat):Int) from by omega,hN,hW1];exact h
 have hN1:W1.heap[N]?=some (.cells ROW 35 (0,0)):=by rw[hW1,hN];exact A6 (w:=w.drew) _
 have hv1:W1.heap[vb]?=some (.cells cs.toArray 35 (0,0)):=by rw[hW1];exact(A9 (w:=w.drew) hvw).trans hv
 have hg1:W1.heap[g]?=some (.cells cur 35 (0,0)):=by rw[hW1];exact(A9 (w:=w.drew) hgw).trans hg
 have hu1:Upd [] w W1:=by rw[hW1];exact((Upd.refl [] w).drew).alloc _
 obtain⟨r1,hr1⟩:∃r1:List Value,r1=ROW.toList.take (i*32)++cs++ROW.toList.drop (i*32+cs.length):=⟨_,rfl⟩;have hRl:ROW.toList.length=G*32:=by rw[Array.length_toList,hRs]
 have hcpA:∀ty dc,(Builtin.copy_ #[216,216] ty #[.slice (some ⟨N,i*32,none⟩) (n+1-i) dc,.slice (some ⟨vb,0,none⟩) 1 1]).run Tryz.prog W1=.ok (goInt (1:Nat)) (W1.setRow N r1.toArray):=λ ty dc=>by
  have:=J7 (P:=Tryz.prog) W1 216 216 ty 35 32 1 N (i*32) (n+1-i) dc ⟨vb,0,none⟩ 1 1 ROW 35 cs Tryz.underlying216 hsi hN1 (by simp only[Nat.min_def];split<;>omega) (by rw[hc])
   (λ j v hj=>by rw[Addr.add_mid,A4 hv1,List.getElem?_toArray,Nat.zero_add];exact hj) (by rw[hc,hRs];omega) h1
  rw[← hr1] at this;exact this
 have hl1:r1.length=G*32:=by rw[hr1];simp only[List.length_append,List.length_take,List.length_drop,hRl,hc];omega
 have hN2:(W1.setRow N r1.toArray).heap[N]?=some (.cells r1.toArray 35 (0,0)):=setRow_heap _ _ _ _ _ _ hN1;have hgN:g≠N:=by omega
 have hg2:(W1.setRow N r1.toArray).heap[g]?=some (.cells cur 35 (0,0)):=(setRow_other _ _ _ _ hgN).trans hg1;obtain⟨W2,hW2⟩:∃W2,W2=W1.setRow N r1.toArray:=⟨_,rfl⟩;rw[← hW2] at hcpA hN2 hg2;have hu2:Upd [] w W2:=by rw[hW2];exact D5 hu1 _ (.inr (by omega))
 obtain⟨r2,hr2⟩:∃r2:List Value,r2=r1.take ((i+1)*32)++xs.drop (i*32)++r1.drop ((i+1)*32+(xs.drop (i*32)).length):=⟨_,rfl⟩;have hcpB:∀ty dc sc,(Builtin.copy_ #[216,216] ty #[.slice (some ⟨N,(i+1)*32,none⟩) (n-i) dc,.slice (some ⟨g,i*32,none⟩) (n-i) sc]).run Tryz.prog W2.drew=.ok (goInt (n-i:Nat)) (W2.drew.setRow N r2.toArray):=λ ty dc sc=>by
  have:=J7 (P:=Tryz.prog) W2.drew 216 216 ty 35 32 (n-i) N ((i+1)*32) (n-i) dc ⟨g,i*32,none⟩ (n-i) sc r1.toArray 35 (xs.drop (i*32)) Tryz.underlying216 hsi hN2 (by simp only[Nat.min_def];split<;>omega) (by rw[List.length_drop,hxl];omega)
   (λ j v hj=>by
    rw[Addr.add_mid];rw[List.getElem?_drop,← ht,List.getElem?_take] at hj;split at hj
    ·have e:=A4 (w:=W2.drew) hg2 (i*32+j);rw[e,← Array.getElem?_toList];exact hj
    ·simp at hj)
   (by rw[List.length_drop,hxl,List.size_toArray,hl1];omega) (λ u hu=>h1x u (List.mem_of_mem_drop hu))
  rw[← hr2] at this;exact this
 have hl2:r2.length=G*32:=by rw[hr2];simp only[List.length_append,List.length_take,List.length_drop,hl1,hxl];omega
 have htk:r2.take ((n+1)*32)=xs.take (i*32)++cs++xs.drop (i*32):=by
  have e0:ROW.toList.take (i*32)=xs.take (i*32):=by
   rw[hROW,Array.toList_append,Array.toList_append,List.append_assoc];rw[List.take_append_of_le_length (by simp[hxl];omega)];exact List.take_of_length_le (by simp;omega)
  have e1:r1.take ((i+1)*32)=xs.take (i*32)++cs:=by
   rw[hr1,e0,List.take_append_of_le_length (by simp only[List.length_append,List.length_take,hxl,hc];omega)];exact List.take_of_length_le (by simp only[List.length_append,List.length_take,hxl,hc];omega)
  rw[hr2,e1,List.take_append_of_le_length (by simp only[List.length_append,List.length_take,List.length_drop,hxl,hc];omega)];exact List.take_of_length_le (by simp only[List.length_append,List.length_take,List.length_drop,hxl,hc];omega)
 have HP:Hid (G8 w B 35 32 n (xs.take (i*32)++cs++xs.drop (i*32)) (.returned (.slice (some ⟨N,0,none⟩) (n+1) G)) (W2.drew.setRow N r2.toArray)):=by
  show G8 _ _ _ _ _ _ _ _
  refine⟨some ⟨N,0,none⟩,G,[],rfl,⟨by simp only[List.length_append,List.length_take,List.length_drop,hxl,hc];omega,.inr ⟨N,G,r2.toArray,rfl,by omega,setRow_heap _ _ _ _ _ _ hN2,hGn,hGm,by rw[List.size_toArray,hl2],htk⟩⟩,?_,by simp⟩;exact D5 hu2.drew _ (.inr (by omega))
 have hGc:(G:Int)<=9223372036854775807:=by unfold maxLen at hGm;omega
 have j0:(0:Int)<=(i:Int):=by omega
 have j1:(i:Int)<=(n:Int):=by omega
 have j2:¬((i:Int)=(n:Int)):=by omega
 have j3:(cap:Int)<(n:Int)+1:=by omega
 have j4:(i:Int)<=(cap:Int):=by omega
 have j5:i<=n:=by omega
 have j6:¬(G=i+1):=by omega
 have j7:¬(G=i):=by omega
 have j8:(i:Int)+1<=(n:Int)+1:=by omega
 have j9:(i:Int)<=(n:Int)+1:=by omega
 have j10:¬(cap=i):=by omega
 have hw1:IntKind.i64.wrap ((i:Int)+1)=(i:Int)+1:=by rw[IntKind.wrap_i64];omega
 have hb1:(0:Int)<=(i:Int)+1:=by omega
 have htn:((i:Int)+1).toNat=i+1:=by omega
 clear hold hG hZ hz0 hZs hROW hzc hRs hW1 hN hN1 hv1 hg1 hu1 hr1 hRl hl1 hN2 hg2 hW2 hu2 hr2 hl2 htk hik hi0 hz1 hz2 hGm ht hg hv hsz hcl;go_enter Tryz.func204,Tryz.ntmps204
 go_wp2_with (first | (at_builtin;refine O6 rfl _ _ 216 3 rfl rfl rfl hrz ?_) | (at_builtin;refine P5 rfl _ _ _ rfl rfl rfl (λ ty=>hcpA ty _) ?_))
 go_region_law (fail)
 all_goals
  go_wp2_with fail
  go_ret;exact HP.out
theorem Cg2{w:World}{B n i:Nat}{v:Value}{xs cs:List Value}(hown:w.ownsRow B 35 32 v n xs)(hn:n<=100)(hi:i<=n)(hB:B<=w.heap.size)(h1x:∀u∈xs,u.oneCell'=true){vb:Nat}(hne:∀a l c,v=.slice (some a) l c->vb≠a.block)(hc:cs.length=32)(h1:∀u∈cs,u.oneCell'=true)(hv:w.heap[vb]?=some (.cells cs.toArray 35 (0,0))) :
  Calls Tryz.prog 204 #[v,.int .i64 (i:Int),.slice (some ⟨vb,0,none⟩) 1 1] w (G8 w B 35 32 n (xs.take (i*32)++cs++xs.drop (i*32))):=by
 by_cases e:i=n
 ·subst e;have hl:xs.length=i*32:=hown.1;rw[List.take_of_length_le (by omega),List.drop_eq_nil_of_le (by omega),List.append_nil];exact Cg1 hown hn hB hc h1 hv
 ·rcases hown.2 with⟨_,h0⟩ | ⟨g,cap,cur,rfl,hb,hg,hcap,hcm,hs,ht⟩
  ·omega
  ·by_cases hr:n+1<=cap
   ·exact Bs5 hn (by omega) hr hcm hb hg hs ht h1x (hne _ _ _ rfl) hc h1 hv
   ·exact Bz1 hn (by omega) hcap (by omega) hB hg hs ht h1x hc h1 hv
end
end Go.Proofs.YtgfbepakonjbnaaGreat
end
section
namespace Go.Proofs.YtgfbepakonjbnaaGreat
open Go.RowKit Go.MapKept Go.ChangeMaps
theorem Ay9:(Tryz.prog.info? 115).map (·.size)=some 16:=by kernel_rfl
theorem Cg3:(Tryz.prog.info? 79).map (·.size)=some 1:=by kernel_rfl
theorem Cg4{w:World}{B n:Nat}{v:Value}{xs cs:List Value}(hown:w.ownsRow B 115 16 v n xs)(hn:n<=100)(hB:B<=w.heap.size){vb:Nat}(hc:cs.length=16)(h1:∀u∈cs,u.oneCell'=true)(hv:w.heap[vb]?=some (.cells cs.toArray 115 (0,0))) :
  Calls Tryz.prog 205 #[v,.int .i64 (n:Int),.slice (some ⟨vb,0,none⟩) 1 1] w (G8 w B 115 16 n (xs++cs)):=by
 obtain⟨i0,hi0,hz0,hz1,hz2⟩:=info_parts Aa9;obtain⟨v',w',hrun,ho,hg,_⟩:=run_append_own (P:=Tryz.prog) w B 217 217 115 i0 _ 16 16 Tryz.underlying217 hi0 hz0 hz1 hz2 rfl (by decide) v n xs hown ⟨vb,0,none⟩ 1 1 cs (by rw[hc])
  (λ k u hj=>by rw[I5,A4 hv,List.getElem?_toArray,Nat.zero_add];exact hj) h1 (by unfold maxLen;omega) (by omega) hB
 have hs:∃a c',v'=.slice a (n+1) c':=by
  rcases ho.2 with⟨_,h⟩ | ⟨g,cap,cur,h,_⟩
  ·omega
  ·exact⟨_,_,h⟩
 obtain⟨a',c',rfl⟩:=hs;have hrun':∀ty,(Builtin.append_ #[217,217] ty #[v,.slice (some ⟨vb,0,none⟩) 1 1]).run Tryz.prog w=.ok (.slice a' (n+1) c') w':=λ _=>hrun;have HP:Hid (G8 w B 115 16 n (xs++cs) (.returned (.slice a' (n+1) c')) w'):=by
  show G8 _ _ _ _ _ _ _ _
  rcases hown.2 with⟨rfl,_⟩ | ⟨g,cap,cur,rfl,hb,hgb,_⟩
  ·exact⟨a',c',[],rfl,ho,⟨hg.os,hg.tape,hg.output,hg.size,λ k hk _=>hg.block k hk (by simp[Value.ownBlock])⟩,by simp⟩
  ·exact⟨a',c',[g],rfl,ho,⟨hg.os,hg.tape,hg.output,hg.size,λ k hk hS=>hg.block k hk (by simp[Value.ownBlock];rintro rfl;exact hS (by simp))⟩,by simp;exact⟨hb,_,hgb⟩⟩
 clear hrun ho hg hv;rcases hown.2 with⟨rfl,rfl⟩ | ⟨g,cap,cur,rfl,hb,hgb,hcap,_⟩
 ·clear hown;go_enter Tryz.func205,Tryz.ntmps205
  go_wp2_with (at_builtin;refine B4 rfl _ _ _ rfl rfl rfl hrun' ?_)
  go_ret;exact HP.out
 ·clear hown hgb;have i0:(0:Int)<=(n:Int):=by omega
  have i1:(n:Int)<=(cap:Int):=by omega
  go_enter Tryz.func205,Tryz.ntmps205
  go_wp2_with (at_builtin;refine B4 rfl _ _ _ rfl rfl rfl hrun' ?_)
  all_goals
   go_ret;exact HP.out
theorem Bs6{w:World}{B n i g cap:Nat}{cur:Array Value}{xs cs:List Value}(hn:n<=100)(hi:i<n)(hcap:n+1<=cap)(hcm:cap<=maxLen)(hb:B<=g)(hg:w.heap[g]?=some (.cells cur 115 (0,0)))(hsz:cur.size=cap*16)(ht:cur.toList.take (n*16)=xs)(h1x:∀u∈xs,u.oneCell'=true)
  {vb:Nat} (hne:vb≠g) (hc:cs.length=16) (h1:∀u∈cs,u.oneCell'=true) (hv:w.heap[vb]?=some (.cells cs.toArray 115 (0,0))) :
  Calls Tryz.prog 205 #[.slice (some ⟨g,0,none⟩) n cap,.int .i64 (i:Int),.slice (some ⟨vb,0,none⟩) 1 1] w (G8 w B 115 16 n (xs.take (i*16)++cs++xs.drop (i*16))):=by
 have hov:∀O lb cb,(callFunc 235 #[.slice (some ⟨vb,0,none⟩) 1 1,.slice (some ⟨g,O,none⟩) lb cb]).run Tryz.prog w=.ok (.value (.bool false)) w:=λ O lb cb=>by
  rw[run_callFunc_extern Tryz.func235 (by kernel_rfl) (by kernel_rfl) (by kernel_rfl) (e:=Extern.SlicesOverlaps.overlaps #[217,217] #[4]) (by kernel_rfl),
   Lib.run_overlaps_apart w 217 4 115 Tryz.underlying217 16 (Tryz.sizeOf115) ⟨vb,0,none⟩ ⟨g,O,none⟩ 1 1 lb cb hne _ _ _ _ (Ab5 hv) (Ab5 hg) (by rw[hsz];omega) (E4 hv 0) (E4 hv _)]
  rfl
 have i0:(0:Int)<=(i:Int):=by omega
 have i1:(i:Int)<=(n:Int):=by omega
 have i2:¬((i:Int)=(n:Int)):=by omega
 have i3:¬((cap:Int)<(n:Int)+1):=by omega
 have i4:(n:Int)+1<=(cap:Int):=by omega
 have i5:i<=n:=by omega
 have i6:¬(cap=i+1):=by omega
 have i7:¬(cap=i):=by omega
 have i8:(i:Int)+1<=(n:Int)+1:=by omega
 have i9:(i:Int)<=(n:Int)+1:=by omega
 have hw1:IntKind.i64.wrap ((i:Int)+1)=(i:Int)+1:=by rw[IntKind.wrap_i64];omega
 have hb1:(0:Int)<=(i:Int)+1:=by omega
 have htn:((i:Int)+1).toNat=i+1:=by omega
 have hxl:xs.length=n*16:=by rw[← ht,List.length_take];simp[hsz];omega
 have hsi:(Tryz.prog.info? 115).map (·.size)=some 16:=Ay9;obtain⟨c1,hc1⟩:∃c1:List Value,c1=cur.toList.take ((i+1)*16)++xs.drop (i*16)++cur.toList.drop ((i+1)*16+(xs.drop (i*16)).length):=⟨_,rfl⟩;have hcp1:∀ty dc sc,(Builtin.copy_ #[217,217] ty #[.slice (some ⟨g,(i+1)*16,none⟩) (n-i) dc,.slice (some ⟨g,i*16,none⟩) (n+1-i) sc]).run Tryz.prog w.drew=.ok (goInt (n-i:Nat)) (w.drew.setRow g c1.toArray):=λ ty dc sc=>by
  have:=J7 (P:=Tryz.prog) w.drew 217 217 ty 115 16 (n-i) g ((i+1)*16) (n-i) dc ⟨g,i*16,none⟩ (n+1-i) sc cur 115 (xs.drop (i*16)) Tryz.underlying217 hsi hg (by simp only[Nat.min_def];split<;>omega) (by rw[List.length_drop,hxl];omega)
   (λ j v hj=>by
    rw[Addr.add_mid];rw[List.getElem?_drop,← ht,List.getElem?_take] at hj;split at hj
    ·have e:=A4 (w:=w.drew) hg (i*16+j);rw[e,← Array.getElem?_toList];exact hj
    ·simp at hj)
   (by rw[List.length_drop,hxl,hsz];omega) (λ u hu=>h1x u (List.mem_of_mem_drop hu))
  rw[← hc1] at this;exact this
 have hl1:c1.length=cur.size:=by rw[hc1];simp only[List.length_append,List.length_take,List.length_drop,hxl,Array.length_toList,hsz];omega
 have hg1:(w.drew.setRow g c1.toArray).heap[g]?=some (.cells c1.toArray 115 (0,0)):=setRow_heap _ _ _ _ _ _ hg;obtain⟨c2,hc2⟩:∃c2:List Value,c2=c1.take (i*16)++cs++c1.drop (i*16+cs.length):=⟨_,rfl⟩;have hcp2:∀ty dc,(Builtin.copy_ #[217,217] ty #[.slice (some ⟨g,i*16,none⟩) (n+1-i) dc,.slice (some ⟨vb,0,none⟩) 1 1]).run Tryz.prog (w.drew.setRow g c1.toArray)=.ok (goInt (1:Nat)) ((w.drew.setRow g c1.toArray).setRow g c2.toArray):=λ ty dc=>by
  have:=J7 (P:=Tryz.prog) (w.drew.setRow g c1.toArray) 217 217 ty 115 16 1 g (i*16) (n+1-i) dc ⟨vb,0,none⟩ 1 1 c1.toArray 115 cs Tryz.underlying217 hsi hg1 (by simp only[Nat.min_def];split<;>omega) (by rw[hc])
   (λ j v hj=>by
    have e:(w.drew.setRow g c1.toArray).heap[vb]?=some (.cells cs.toArray 115 (0,0)):=(setRow_other _ _ _ _ hne).trans hv;rw[Addr.add_mid,A4 e,List.getElem?_toArray,Nat.zero_add];exact hj)
   (by rw[hc,List.size_toArray,hl1,hsz];omega) h1
  rw[← hc2] at this;exact this
 have hl2:c2.length=cur.size:=by rw[hc2];simp only[List.length_append,List.length_take,List.length_drop,hl1,hc,hsz];omega
 have hcl:cur.toList.length=cap*16:=by rw[Array.length_toList,hsz]
 have htk:c2.take ((n+1)*16)=xs.take (i*16)++cs++xs.drop (i*16):=by
  have e1:c1.take (i*16)=xs.take (i*16):=by
   rw[hc1,List.append_assoc,List.take_append_of_le_length (by rw[List.length_take,Array.length_toList,hsz];omega),List.take_take,← ht,List.take_take];congr 1;omega
  have e2:c1.drop (i*16+cs.length)=xs.drop (i*16)++cur.toList.drop ((i+1)*16+(xs.drop (i*16)).length):=by
   rw[hc1,List.append_assoc,List.drop_append,List.drop_eq_nil_of_le (by rw[List.length_take];omega),List.nil_append];rw[show i*16+cs.length-(cur.toList.take ((i+1)*16)).length=0 from by rw[List.length_take,hcl,hc];omega];rfl
  rw[hc2,e1,e2,← List.append_assoc];rw[List.take_append_of_le_length (by simp only[List.length_append,List.length_take,List.length_drop,hxl,hc];omega)];exact List.take_of_length_le (by simp only[List.length_append,List.length_take,List.length_drop,hxl,hc];omega)
 have HP:Hid (G8 w B 115 16 n (xs.take (i*16)++cs++xs.drop (i*16)) (.returned (.slice (some ⟨g,0,none⟩) (n+1) cap)) ((w.drew.setRow g c1.toArray).setRow g c2.toArray)):=by
  show G8 _ _ _ _ _ _ _ _
  refine⟨some ⟨g,0,none⟩,cap,[g],rfl,⟨by simp only[List.length_append,List.length_take,List.length_drop,hxl,hc];omega,.inr ⟨g,cap,c2.toArray,rfl,hb,setRow_heap _ _ _ _ _ _ hg1,hcap,hcm,by rw[List.size_toArray,hl2,hsz],htk⟩⟩,?_,by simp;exact⟨hb,_,hg⟩⟩;exact(D5 (D5 (Upd.refl [g] w).drew (b:=g) _ (.inl (by simp))) (b:=g) _ (.inl (by simp)))
 have hC1:=η hc1;clear hc1 hc2 hg1 hl1 hl2 htk hg hv ht;go_enter Tryz.func205,Tryz.ntmps205
 go_wp2_with (simp only[hov])
 go_region_law (fail)
 all_goals
  go_wp2_with (at_builtin;refine P5 rfl _ _ _ rfl rfl rfl (λ ty=>hcp2 ty _) ?_)
  go_ret;exact HP.out
theorem Bz2{w:World}{B n i g cap:Nat}{cur:Array Value}{xs cs:List Value}(hn:n<=100)(hi:i<n)(hcap:n<=cap)(hfull:cap<n+1)(hB:B<=w.heap.size)(hg:w.heap[g]?=some (.cells cur 115 (0,0)))(hsz:cur.size=cap*16)(ht:cur.toList.take (n*16)=xs)(h1x:∀u∈xs,u.oneCell'=true)
  {vb:Nat} (hc:cs.length=16) (h1:∀u∈cs,u.oneCell'=true) (hv:w.heap[vb]?=some (.cells cs.toArray 115 (0,0))) :
  Calls Tryz.prog 205 #[.slice (some ⟨g,0,none⟩) n cap,.int .i64 (i:Int),.slice (some ⟨vb,0,none⟩) 1 1] w (G8 w B 115 16 n (xs.take (i*16)++cs++xs.drop (i*16))):=by
 obtain⟨i0,hi0,hz0,hz1,hz2⟩:=info_parts Aa9;have hsi:(Tryz.prog.info? 115).map (·.size)=some 16:=Ay9;have hcl:cur.toList.length=cap*16:=by rw[Array.length_toList,hsz]
 have hxl:xs.length=n*16:=by rw[← ht,List.length_take,hcl];omega
 have hgw:g<w.heap.size:=A2 hg;have hvw:vb<w.heap.size:=A2 hv;have hik:i+(n+1-i)=n+1:=by omega
 have hold:(Builtin.firstCells i0.size i (.slice (some ⟨g,0,none⟩) i cap)).run Tryz.prog w.drew=.ok (xs.take (i*16)).toArray w.drew:=by
  rw[hz1];exact run_firstCells_some w.drew 16 i ⟨g,0,none⟩ i cap (xs.take (i*16)) (by rw[List.length_take,hxl];omega) (λ j v hj=>by
   rw[Addr.add_mid,A4 (w:=w.drew) hg,← Array.getElem?_toList,Nat.zero_add];rw[← ht,List.take_take,List.getElem?_take] at hj;split at hj
   ·exact hj
   ·simp at hj)
 obtain⟨G,hG⟩:∃G,G=grownCap w (n+1) cap 115:=⟨_,rfl⟩;have hGn:n+1<=G:=by rw[hG];exact grownCap_ge w _ _ _
 have hGm:G<=maxLen:=by rw[hG];exact grownCap_le_maxLen w _ _ _ (by unfold maxLen;omega)
 obtain⟨Z,hZ⟩:∃Z,Z=Value.agg (bts (List.replicate 16 0)).toArray:=⟨_,rfl⟩;rw[← hZ] at hz0;have hZs:Z.cells.size=16:=by rw[hZ];rfl
 obtain⟨ROW,hROW⟩:∃ROW:Array Value,ROW=(xs.take (i*16)).toArray++Builtin.zeroCells Z.cells (n+1-i)++Builtin.zeroCells Z.cells (G-(n+1)):=⟨_,rfl⟩;have hzc:∀k,(Builtin.zeroCells Z.cells k).size=k*16:=λ k=>by simp[Builtin.zeroCells,hZs]
 have hRs:ROW.size=G*16:=by
  rw[hROW,Array.size_append,Array.size_append,hzc,hzc,List.size_toArray,List.length_take,hxl];omega
 obtain⟨W1,hW1⟩:∃W1,W1=w.drew.alloc (.cells ROW 115):=⟨_,rfl⟩;obtain⟨N,hN⟩:∃N,N=w.heap.size:=⟨_,rfl⟩;have hrz:∀ty,(Builtin.append_ #[217,3] ty #[.slice (some ⟨g,0,none⟩) i cap,.int .i64 ((n:Int)+1-(i:Int))]).run Tryz.prog w=.ok (.slice (some ⟨N,0,none⟩) (n+1) G) W1:=λ ty=>by
  have h:=Lib.run_append_grow_zeros w 217 3 ty 115 i0 Z .i64 .i64 Tryz.underlying217 Tryz.underlying3 hi0 hz0 (some ⟨g,0,none⟩) i cap (xs.take (i*16)) hold (n+1-i) (by omega) (by rw[hz1];omega) (by omega) (by omega) (by rw[hz2];omega) (by rw[hz2,hik];exact growslice_fits hfull (by omega));rw[hik,← hG,← hROW] at h;rw[show(n:Int)+1-(i:Int)=((n+1-i:Nat):Int) from by omega,hN,hW1];exact h
 have hN1:W1.heap[N]?=some (.cells ROW 115 (0,0)):=by rw[hW1,hN];exact A6 (w:=w.drew) _
 have hv1:W1.heap[vb]?=some (.cells cs.toArray 115 (0,0)):=by rw[hW1];exact(A9 (w:=w.drew) hvw).trans hv
 have hg1:W1.heap[g]?=some (.cells cur 115 (0,0)):=by rw[hW1];exact(A9 (w:=w.drew) hgw).trans hg
 have hu1:Upd [] w W1:=by rw[hW1];exact((Upd.refl [] w).drew).alloc _
 obtain⟨r1,hr1⟩:∃r1:List Value,r1=ROW.toList.take (i*16)++cs++ROW.toList.drop (i*16+cs.length):=⟨_,rfl⟩;have hRl:ROW.toList.length=G*16:=by rw[Array.length_toList,hRs]
 have hcpA:∀ty dc,(Builtin.copy_ #[217,217] ty #[.slice (some ⟨N,i*16,none⟩) (n+1-i) dc,.slice (some ⟨vb,0,none⟩) 1 1]).run Tryz.prog W1=.ok (goInt (1:Nat)) (W1.setRow N r1.toArray):=λ ty dc=>by
  have:=J7 (P:=Tryz.prog) W1 217 217 ty 115 16 1 N (i*16) (n+1-i) dc ⟨vb,0,none⟩ 1 1 ROW 115 cs Tryz.underlying217 hsi hN1 (by simp only[Nat.min_def];split<;>omega) (by rw[hc])
   (λ j v hj=>by rw[Addr.add_mid,A4 hv1,List.getElem?_toArray,Nat.zero_add];exact hj) (by rw[hc,hRs];omega) h1
  rw[← hr1] at this;exact this
 have hl1:r1.length=G*16:=by rw[hr1];simp only[List.length_append,List.length_take,List.length_drop,hRl,hc];omega
 have hN2:(W1.setRow N r1.toArray).heap[N]?=some (.cells r1.toArray 115 (0,0)):=setRow_heap _ _ _ _ _ _ hN1;have hgN:g≠N:=by omega
 have hg2:(W1.setRow N r1.toArray).heap[g]?=some (.cells cur 115 (0,0)):=(setRow_other _ _ _ _ hgN).trans hg1;obtain⟨W2,hW2⟩:∃W2,W2=W1.setRow N r1.toArray:=⟨_,rfl⟩;rw[← hW2] at hcpA hN2 hg2;have hu2:Upd [] w W2:=by rw[hW2];exact D5 hu1 _ (.inr (by omega))
 obtain⟨r2,hr2⟩:∃r2:List Value,r2=r1.take ((i+1)*16)++xs.drop (i*16)++r1.drop ((i+1)*16+(xs.drop (i*16)).length):=⟨_,rfl⟩;have hcpB:∀ty dc sc,(Builtin.copy_ #[217,217] ty #[.slice (some ⟨N,(i+1)*16,none⟩) (n-i) dc,.slice (some ⟨g,i*16,none⟩) (n-i) sc]).run Tryz.prog W2.drew=.ok (goInt (n-i:Nat)) (W2.drew.setRow N r2.toArray):=λ ty dc sc=>by
  have:=J7 (P:=Tryz.prog) W2.drew 217 217 ty 115 16 (n-i) N ((i+1)*16) (n-i) dc ⟨g,i*16,none⟩ (n-i) sc r1.toArray 115 (xs.drop (i*16)) Tryz.underlying217 hsi hN2 (by simp only[Nat.min_def];split<;>omega) (by rw[List.length_drop,hxl];omega)
   (λ j v hj=>by
    rw[Addr.add_mid];rw[List.getElem?_drop,← ht,List.getElem?_take] at hj;split at hj
    ·have e:=A4 (w:=W2.drew) hg2 (i*16+j);rw[e,← Array.getElem?_toList];exact hj
    ·simp at hj)
   (by rw[List.length_drop,hxl,List.size_toArray,hl1];omega) (λ u hu=>h1x u (List.mem_of_mem_drop hu))
  rw[← hr2] at this;exact this
 have hl2:r2.length=G*16:=by rw[hr2];simp only[List.length_append,List.length_take,List.length_drop,hl1,hxl];omega
 have htk:r2.take ((n+1)*16)=xs.take (i*16)++cs++xs.drop (i*16):=by
  have e0:ROW.toList.take (i*16)=xs.take (i*16):=by
   rw[hROW,Array.toList_append,Array.toList_append,List.append_assoc];rw[List.take_append_of_le_length (by simp[hxl];omega)];exact List.take_of_length_le (by simp;omega)
  have e1:r1.take ((i+1)*16)=xs.take (i*16)++cs:=by
   rw[hr1,e0,List.take_append_of_le_length (by simp only[List.length_append,List.length_take,hxl,hc];omega)];exact List.take_of_length_le (by simp only[List.length_append,List.length_take,hxl,hc];omega)
  rw[hr2,e1,List.take_append_of_le_length (by simp only[List.length_append,List.length_take,List.length_drop,hxl,hc];omega)];exact List.take_of_length_le (by simp only[List.length_append,List.length_take,List.length_drop,hxl,hc];omega)
 have HP:Hid (G8 w B 115 16 n (xs.take (i*16)++cs++xs.drop (i*16)) (.returned (.slice (some ⟨N,0,none⟩) (n+1) G)) (W2.drew.setRow N r2.toArray)):=by
  show G8 _ _ _ _ _ _ _ _
  refine⟨some ⟨N,0,none⟩,G,[],rfl,⟨by simp only[List.length_append,List.length_take,List.length_drop,hxl,hc];omega,.inr ⟨N,G,r2.toArray,rfl,by omega,setRow_heap _ _ _ _ _ _ hN2,hGn,hGm,by rw[List.size_toArray,hl2],htk⟩⟩,?_,by simp⟩;exact D5 hu2.drew _ (.inr (by omega))
 have hGc:(G:Int)<=9223372036854775807:=by unfold maxLen at hGm;omega
 have j0:(0:Int)<=(i:Int):=by omega
 have j1:(i:Int)<=(n:Int):=by omega
 have j2:¬((i:Int)=(n:Int)):=by omega
 have j3:(cap:Int)<(n:Int)+1:=by omega
 have j4:(i:Int)<=(cap:Int):=by omega
 have j5:i<=n:=by omega
 have j6:¬(G=i+1):=by omega
 have j7:¬(G=i):=by omega
 have j8:(i:Int)+1<=(n:Int)+1:=by omega
 have j9:(i:Int)<=(n:Int)+1:=by omega
 have j10:¬(cap=i):=by omega
 have hw1:IntKind.i64.wrap ((i:Int)+1)=(i:Int)+1:=by rw[IntKind.wrap_i64];omega
 have hb1:(0:Int)<=(i:Int)+1:=by omega
 have htn:((i:Int)+1).toNat=i+1:=by omega
 clear hold hG hZ hz0 hZs hROW hzc hRs hW1 hN hN1 hv1 hg1 hu1 hr1 hRl hl1 hN2 hg2 hW2 hu2 hr2 hl2 htk hik hi0 hz1 hz2 hGm ht hg hv hsz hcl;go_enter Tryz.func205,Tryz.ntmps205
 go_wp2_with (first | (at_builtin;refine O6 rfl _ _ 217 3 rfl rfl rfl hrz ?_) | (at_builtin;refine P5 rfl _ _ _ rfl rfl rfl (λ ty=>hcpA ty _) ?_))
 go_region_law (fail)
 all_goals
  go_wp2_with fail
  go_ret;exact HP.out
theorem Cg5{w:World}{B n i:Nat}{v:Value}{xs cs:List Value}(hown:w.ownsRow B 115 16 v n xs)(hn:n<=100)(hi:i<=n)(hB:B<=w.heap.size)(h1x:∀u∈xs,u.oneCell'=true){vb:Nat}(hne:∀a l c,v=.slice (some a) l c->vb≠a.block)(hc:cs.length=16)(h1:∀u∈cs,u.oneCell'=true)(hv:w.heap[vb]?=some (.cells cs.toArray 115 (0,0))) :
  Calls Tryz.prog 205 #[v,.int .i64 (i:Int),.slice (some ⟨vb,0,none⟩) 1 1] w (G8 w B 115 16 n (xs.take (i*16)++cs++xs.drop (i*16))):=by
 by_cases e:i=n
 ·subst e;have hl:xs.length=i*16:=hown.1;rw[List.take_of_length_le (by omega),List.drop_eq_nil_of_le (by omega),List.append_nil];exact Cg4 hown hn hB hc h1 hv
 ·rcases hown.2 with⟨_,h0⟩ | ⟨g,cap,cur,rfl,hb,hg,hcap,hcm,hs,ht⟩
  ·omega
  ·by_cases hr:n+1<=cap
   ·exact Bs6 hn (by omega) hr hcm hb hg hs ht h1x (hne _ _ _ rfl) hc h1 hv
   ·exact Bz2 hn (by omega) hcap (by omega) hB hg hs ht h1x hc h1 hv
theorem Cg6{w:World}{B n:Nat}{v:Value}{xs cs:List Value}(hown:w.ownsRow B 79 1 v n xs)(hn:n<=100)(hB:B<=w.heap.size){vb:Nat}(hc:cs.length=1)(h1:∀u∈cs,u.oneCell'=true)(hv:w.heap[vb]?=some (.cells cs.toArray 79 (0,0))) :
  Calls Tryz.prog 209 #[v,.int .i64 (n:Int),.slice (some ⟨vb,0,none⟩) 1 1] w (G8 w B 79 1 n (xs++cs)):=by
 obtain⟨i0,hi0,hz0,hz1,hz2⟩:=info_parts Ab0;obtain⟨v',w',hrun,ho,hg,_⟩:=run_append_own (P:=Tryz.prog) w B 218 218 79 i0 _ 1 4 Tryz.underlying218 hi0 hz0 hz1 hz2 rfl (by decide) v n xs hown ⟨vb,0,none⟩ 1 1 cs (by rw[hc])
  (λ k u hj=>by rw[I5,A4 hv,List.getElem?_toArray,Nat.zero_add];exact hj) h1 (by unfold maxLen;omega) (by omega) hB
 have hs:∃a c',v'=.slice a (n+1) c':=by
  rcases ho.2 with⟨_,h⟩ | ⟨g,cap,cur,h,_⟩
  ·omega
  ·exact⟨_,_,h⟩
 obtain⟨a',c',rfl⟩:=hs;have hrun':∀ty,(Builtin.append_ #[218,218] ty #[v,.slice (some ⟨vb,0,none⟩) 1 1]).run Tryz.prog w=.ok (.slice a' (n+1) c') w':=λ _=>hrun;have HP:Hid (G8 w B 79 1 n (xs++cs) (.returned (.slice a' (n+1) c')) w'):=by
  show G8 _ _ _ _ _ _ _ _
  rcases hown.2 with⟨rfl,_⟩ | ⟨g,cap,cur,rfl,hb,hgb,_⟩
  ·exact⟨a',c',[],rfl,ho,⟨hg.os,hg.tape,hg.output,hg.size,λ k hk _=>hg.block k hk (by simp[Value.ownBlock])⟩,by simp⟩
  ·exact⟨a',c',[g],rfl,ho,⟨hg.os,hg.tape,hg.output,hg.size,λ k hk hS=>hg.block k hk (by simp[Value.ownBlock];rintro rfl;exact hS (by simp))⟩,by simp;exact⟨hb,_,hgb⟩⟩
 clear hrun ho hg hv;rcases hown.2 with⟨rfl,rfl⟩ | ⟨g,cap,cur,rfl,hb,hgb,hcap,_⟩
 ·clear hown;go_enter Tryz.func209,Tryz.ntmps209
  go_wp2_with (at_builtin;refine B4 rfl _ _ _ rfl rfl rfl hrun' ?_)
  go_ret;exact HP.out
 ·clear hown hgb;have i0:(0:Int)<=(n:Int):=by omega
  have i1:(n:Int)<=(cap:Int):=by omega
  go_enter Tryz.func209,Tryz.ntmps209
  go_wp2_with (at_builtin;refine B4 rfl _ _ _ rfl rfl rfl hrun' ?_)
  all_goals
   go_ret;exact HP.out
theorem Bs7{w:World}{B n i g cap:Nat}{cur:Array Value}{xs cs:List Value}(hn:n<=100)(hi:i<n)(hcap:n+1<=cap)(hcm:cap<=maxLen)(hb:B<=g)(hg:w.heap[g]?=some (.cells cur 79 (0,0)))(hsz:cur.size=cap)(ht:cur.toList.take (n)=xs)(h1x:∀u∈xs,u.oneCell'=true)
  {vb:Nat} (hne:vb≠g) (hc:cs.length=1) (h1:∀u∈cs,u.oneCell'=true) (hv:w.heap[vb]?=some (.cells cs.toArray 79 (0,0))) :
  Calls Tryz.prog 209 #[.slice (some ⟨g,0,none⟩) n cap,.int .i64 (i:Int),.slice (some ⟨vb,0,none⟩) 1 1] w (G8 w B 79 1 n (xs.take (i)++cs++xs.drop (i))):=by
 have hov:∀O lb cb,(callFunc 237 #[.slice (some ⟨vb,0,none⟩) 1 1,.slice (some ⟨g,O,none⟩) lb cb]).run Tryz.prog w=.ok (.value (.bool false)) w:=λ O lb cb=>by
  rw[run_callFunc_extern Tryz.func237 (by kernel_rfl) (by kernel_rfl) (by kernel_rfl) (e:=Extern.SlicesOverlaps.overlaps #[218,218] #[4]) (by kernel_rfl),
   Lib.run_overlaps_apart w 218 4 79 Tryz.underlying218 1 (Tryz.sizeOf79) ⟨vb,0,none⟩ ⟨g,O,none⟩ 1 1 lb cb hne _ _ _ _ (Ab5 hv) (Ab5 hg) (by rw[hsz];omega) (E4 hv 0) (E4 hv _)]
  rfl
 have i0:(0:Int)<=(i:Int):=by omega
 have i1:(i:Int)<=(n:Int):=by omega
 have i2:¬((i:Int)=(n:Int)):=by omega
 have i3:¬((cap:Int)<(n:Int)+1):=by omega
 have i4:(n:Int)+1<=(cap:Int):=by omega
 have i5:i<=n:=by omega
 have i6:¬(cap=i+1):=by omega
 have i7:¬(cap=i):=by omega
 have i8:(i:Int)+1<=(n:Int)+1:=by omega
 have i9:(i:Int)<=(n:Int)+1:=by omega
 have hw1:IntKind.i64.wrap ((i:Int)+1)=(i:Int)+1:=by rw[IntKind.wrap_i64];omega
 have hb1:(0:Int)<=(i:Int)+1:=by omega
 have htn:((i:Int)+1).toNat=i+1:=by omega
 have hxl:xs.length=n:=by rw[← ht,List.length_take];simp[hsz];omega
 have hsi:(Tryz.prog.info? 79).map (·.size)=some 1:=Cg3;obtain⟨c1,hc1⟩:∃c1:List Value,c1=cur.toList.take (i+1)++xs.drop (i)++cur.toList.drop (i+1+(xs.drop (i)).length):=⟨_,rfl⟩;have hcp1:∀ty dc sc,(Builtin.copy_ #[218,218] ty #[.slice (some ⟨g,i+1,none⟩) (n-i) dc,.slice (some ⟨g,i,none⟩) (n+1-i) sc]).run Tryz.prog w.drew=.ok (goInt (n-i:Nat)) (w.drew.setRow g c1.toArray):=λ ty dc sc=>by
  have:=J7 (P:=Tryz.prog) w.drew 218 218 ty 79 1 (n-i) g (i+1) (n-i) dc ⟨g,i,none⟩ (n+1-i) sc cur 79 (xs.drop (i)) Tryz.underlying218 hsi hg (by simp only[Nat.min_def];split<;>omega) (by rw[List.length_drop,hxl];omega)
   (λ j v hj=>by
    rw[Addr.add_mid];rw[List.getElem?_drop,← ht,List.getElem?_take] at hj;split at hj
    ·have e:=A4 (w:=w.drew) hg (i+j);rw[e,← Array.getElem?_toList];exact hj
    ·simp at hj)
   (by rw[List.length_drop,hxl,hsz];omega) (λ u hu=>h1x u (List.mem_of_mem_drop hu))
  rw[← hc1] at this;exact this
 have hl1:c1.length=cur.size:=by rw[hc1];simp only[List.length_append,List.length_take,List.length_drop,hxl,Array.length_toList,hsz];omega
 have hg1:(w.drew.setRow g c1.toArray).heap[g]?=some (.cells c1.toArray 79 (0,0)):=setRow_heap _ _ _ _ _ _ hg;obtain⟨c2,hc2⟩:∃c2:List Value,c2=c1.take (i)++cs++c1.drop (i+cs.length):=⟨_,rfl⟩;have hcp2:∀ty dc,(Builtin.copy_ #[218,218] ty #[.slice (some ⟨g,i,none⟩) (n+1-i) dc,.slice (some ⟨vb,0,none⟩) 1 1]).run Tryz.prog (w.drew.setRow g c1.toArray)=.ok (goInt (1:Nat)) ((w.drew.setRow g c1.toArray).setRow g c2.toArray):=λ ty dc=>by
  have:=J7 (P:=Tryz.prog) (w.drew.setRow g c1.toArray) 218 218 ty 79 1 1 g (i) (n+1-i) dc ⟨vb,0,none⟩ 1 1 c1.toArray 79 cs Tryz.underlying218 hsi hg1 (by simp only[Nat.min_def];split<;>omega) (by rw[hc])
   (λ j v hj=>by
    have e:(w.drew.setRow g c1.toArray).heap[vb]?=some (.cells cs.toArray 79 (0,0)):=(setRow_other _ _ _ _ hne).trans hv;rw[Addr.add_mid,A4 e,List.getElem?_toArray,Nat.zero_add];exact hj)
   (by rw[hc,List.size_toArray,hl1,hsz];omega) h1
  rw[← hc2] at this;exact this
 have hl2:c2.length=cur.size:=by rw[hc2];simp only[List.length_append,List.length_take,List.length_drop,hl1,hc,hsz];omega
 have hcl:cur.toList.length=cap:=by rw[Array.length_toList,hsz]
 have htk:c2.take ((n+1))=xs.take (i)++cs++xs.drop (i):=by
  have e1:c1.take (i)=xs.take (i):=by
   rw[hc1,List.append_assoc,List.take_append_of_le_length (by rw[List.length_take,Array.length_toList,hsz];omega),List.take_take,← ht,List.take_take];congr 1;omega
  have e2:c1.drop (i+cs.length)=xs.drop (i)++cur.toList.drop (i+1+(xs.drop (i)).length):=by
   rw[hc1,List.append_assoc,List.drop_append,List.drop_eq_nil_of_le (by rw[List.length_take];omega),List.nil_append];rw[show i+cs.length-(cur.toList.take (i+1)).length=0 from by rw[List.length_take,hcl,hc];omega];rfl
  rw[hc2,e1,e2,← List.append_assoc];rw[List.take_append_of_le_length (by simp only[List.length_append,List.length_take,List.length_drop,hxl,hc];omega)];exact List.take_of_length_le (by simp only[List.length_append,List.length_take,List.length_drop,hxl,hc];omega)
 have HP:Hid (G8 w B 79 1 n (xs.take (i)++cs++xs.drop (i)) (.returned (.slice (some ⟨g,0,none⟩) (n+1) cap)) ((w.drew.setRow g c1.toArray).setRow g c2.toArray)):=by
  show G8 _ _ _ _ _ _ _ _
  refine⟨some ⟨g,0,none⟩,cap,[g],rfl,⟨by simp only[List.length_append,List.length_take,List.length_drop,hxl,hc];omega,.inr ⟨g,cap,c2.toArray,rfl,hb,setRow_heap _ _ _ _ _ _ hg1,hcap,hcm,by rw[List.size_toArray,hl2,hsz,Nat.mul_one],by rw[Nat.mul_one];exact htk⟩⟩,?_,by simp;exact⟨hb,_,hg⟩⟩;exact(D5 (D5 (Upd.refl [g] w).drew (b:=g) _ (.inl (by simp))) (b:=g) _ (.inl (by simp)))
 have hC1:=η hc1;clear hc1 hc2 hg1 hl1 hl2 htk hg hv ht;go_enter Tryz.func209,Tryz.ntmps209
 go_wp2_with (simp only[hov])
 go_region_law (fail)
 all_goals
  go_wp2_with (at_builtin;refine P5 rfl _ _ _ rfl rfl rfl (λ ty=>hcp2 ty _) ?_)
  go_ret;exact HP.out
theorem Bz3{w:World}{B n i g cap:Nat}{cur:Array Value}{xs cs:List Value}(hn:n<=100)(hi:i<n)(hcap:n<=cap)(hfull:cap<n+1)(hB:B<=w.heap.size)(hg:w.heap[g]?=some (.cells cur 79 (0,0)))(hsz:cur.size=cap)(ht:cur.toList.take (n)=xs)(h1x:∀u∈xs,u.oneCell'=true)
  {vb:Nat} (hc:cs.length=1) (h1:∀u∈cs,u.oneCell'=true) (hv:w.heap[vb]?=some (.cells cs.toArray 79 (0,0))) :
  Calls Tryz.prog 209 #[.slice (some ⟨g,0,none⟩) n cap,.int .i64 (i:Int),.slice (some ⟨vb,0,none⟩) 1 1] w (G8 w B 79 1 n (xs.take (i)++cs++xs.drop (i))):=by
 obtain⟨i0,hi0,hz0,hz1,hz2⟩:=info_parts Ab0;have hsi:(Tryz.prog.info? 79).map (·.size)=some 1:=Cg3;have hcl:cur.toList.length=cap:=by rw[Array.length_toList,hsz]
 have hxl:xs.length=n:=by rw[← ht,List.length_take,hcl];omega
 have hgw:g<w.heap.size:=A2 hg;have hvw:vb<w.heap.size:=A2 hv;have hik:i+(n+1-i)=n+1:=by omega
 have hold:(Builtin.firstCells i0.size i (.slice (some ⟨g,0,none⟩) i cap)).run Tryz.prog w.drew=.ok (xs.take (i)).toArray w.drew:=by
  rw[hz1];exact run_firstCells_some w.drew 1 i ⟨g,0,none⟩ i cap (xs.take (i)) (by rw[List.length_take,hxl];omega) (λ j v hj=>by
   rw[Addr.add_mid,A4 (w:=w.drew) hg,← Array.getElem?_toList,Nat.zero_add];rw[← ht,List.take_take,List.getElem?_take] at hj;split at hj
   ·exact hj
   ·simp at hj)
 obtain⟨G,hG⟩:∃G,G=grownCap w (n+1) cap 79:=⟨_,rfl⟩;have hGn:n+1<=G:=by rw[hG];exact grownCap_ge w _ _ _
 have hGm:G<=maxLen:=by rw[hG];exact grownCap_le_maxLen w _ _ _ (by unfold maxLen;omega)
 obtain⟨Z,hZ⟩:∃Z,Z=Value.int .u32 0:=⟨_,rfl⟩;rw[← hZ] at hz0;have hZs:Z.cells.size=1:=by rw[hZ];rfl
 obtain⟨ROW,hROW⟩:∃ROW:Array Value,ROW=(xs.take (i)).toArray++Builtin.zeroCells Z.cells (n+1-i)++Builtin.zeroCells Z.cells (G-(n+1)):=⟨_,rfl⟩;have hzc:∀k,(Builtin.zeroCells Z.cells k).size=k:=λ k=>by simp[Builtin.zeroCells,hZs]
 have hRs:ROW.size=G:=by
  rw[hROW,Array.size_append,Array.size_append,hzc,hzc,List.size_toArray,List.length_take,hxl];omega
 obtain⟨W1,hW1⟩:∃W1,W1=w.drew.alloc (.cells ROW 79):=⟨_,rfl⟩;obtain⟨N,hN⟩:∃N,N=w.heap.size:=⟨_,rfl⟩;have hrz:∀ty,(Builtin.append_ #[218,3] ty #[.slice (some ⟨g,0,none⟩) i cap,.int .i64 ((n:Int)+1-(i:Int))]).run Tryz.prog w=.ok (.slice (some ⟨N,0,none⟩) (n+1) G) W1:=λ ty=>by
  have h:=Lib.run_append_grow_zeros w 218 3 ty 79 i0 Z .i64 .i64 Tryz.underlying218 Tryz.underlying3 hi0 hz0 (some ⟨g,0,none⟩) i cap (xs.take (i)) hold (n+1-i) (by omega) (by rw[hz1];omega) (by omega) (by omega) (by rw[hz2];omega) (by rw[hz2,hik];exact growslice_fits hfull (by omega));rw[hik,← hG,← hROW] at h;rw[show(n:Int)+1-(i:Int)=((n+1-i:Nat):Int) from by omega,hN,hW1];exact h
 have hN1:W1.heap[N]?=some (.cells ROW 79 (0,0)):=by rw[hW1,hN];exact A6 (w:=w.drew) _
 have hv1:W1.heap[vb]?=some (.cells cs.toArray 79 (0,0)):=by rw[hW1];exact(A9 (w:=w.drew) hvw).trans hv
 have hg1:W1.heap[g]?=some (.cells cur 79 (0,0)):=by rw[hW1];exact(A9 (w:=w.drew) hgw).trans hg
 have hu1:Upd [] w W1:=by rw[hW1];exact((Upd.refl [] w).drew).alloc _
 obtain⟨r1,hr1⟩:∃r1:List Value,r1=ROW.toList.take (i)++cs++ROW.toList.drop (i+cs.length):=⟨_,rfl⟩;have hRl:ROW.toList.length=G:=by rw[Array.length_toList,hRs]
 have hcpA:∀ty dc,(Builtin.copy_ #[218,218] ty #[.slice (some ⟨N,i,none⟩) (n+1-i) dc,.slice (some ⟨vb,0,none⟩) 1 1]).run Tryz.prog W1=.ok (goInt (1:Nat)) (W1.setRow N r1.toArray):=λ ty dc=>by
  have:=J7 (P:=Tryz.prog) W1 218 218 ty 79 1 1 N (i) (n+1-i) dc ⟨vb,0,none⟩ 1 1 ROW 79 cs Tryz.underlying218 hsi hN1 (by simp only[Nat.min_def];split<;>omega) (by rw[hc])
   (λ j v hj=>by rw[Addr.add_mid,A4 hv1,List.getElem?_toArray,Nat.zero_add];exact hj) (by rw[hc,hRs];omega) h1
  rw[← hr1] at this;exact this
 have hl1:r1.length=G:=by rw[hr1];simp only[List.length_append,List.length_take,List.length_drop,hRl,hc];omega
 have hN2:(W1.setRow N r1.toArray).heap[N]?=some (.cells r1.toArray 79 (0,0)):=setRow_heap _ _ _ _ _ _ hN1;have hgN:g≠N:=by omega
 have hg2:(W1.setRow N r1.toArray).heap[g]?=some (.cells cur 79 (0,0)):=(setRow_other _ _ _ _ hgN).trans hg1;obtain⟨W2,hW2⟩:∃W2,W2=W1.setRow N r1.toArray:=⟨_,rfl⟩;rw[← hW2] at hcpA hN2 hg2;have hu2:Upd [] w W2:=by rw[hW2];exact D5 hu1 _ (.inr (by omega))
 obtain⟨r2,hr2⟩:∃r2:List Value,r2=r1.take (i+1)++xs.drop (i)++r1.drop (i+1+(xs.drop (i)).length):=⟨_,rfl⟩;have hcpB:∀ty dc sc,(Builtin.copy_ #[218,218] ty #[.slice (some ⟨N,i+1,none⟩) (n-i) dc,.slice (some ⟨g,i,none⟩) (n-i) sc]).run Tryz.prog W2.drew=.ok (goInt (n-i:Nat)) (W2.drew.setRow N r2.toArray):=λ ty dc sc=>by
  have:=J7 (P:=Tryz.prog) W2.drew 218 218 ty 79 1 (n-i) N (i+1) (n-i) dc ⟨g,i,none⟩ (n-i) sc r1.toArray 79 (xs.drop (i)) Tryz.underlying218 hsi hN2 (by simp only[Nat.min_def];split<;>omega) (by rw[List.length_drop,hxl];omega)
   (λ j v hj=>by
    rw[Addr.add_mid];rw[List.getElem?_drop,← ht,List.getElem?_take] at hj;split at hj
    ·have e:=A4 (w:=W2.drew) hg2 (i+j);rw[e,← Array.getElem?_toList];exact hj
    ·simp at hj)
   (by rw[List.length_drop,hxl,List.size_toArray,hl1];omega) (λ u hu=>h1x u (List.mem_of_mem_drop hu))
  rw[← hr2] at this;exact this
 have hl2:r2.length=G:=by rw[hr2];simp only[List.length_append,List.length_take,List.length_drop,hl1,hxl];omega
 have htk:r2.take ((n+1))=xs.take (i)++cs++xs.drop (i):=by
  have e0:ROW.toList.take (i)=xs.take (i):=by
   rw[hROW,Array.toList_append,Array.toList_append,List.append_assoc];rw[List.take_append_of_le_length (by simp[hxl];omega)];exact List.take_of_length_le (by simp;omega)
  have e1:r1.take (i+1)=xs.take (i)++cs:=by
   rw[hr1,e0,List.take_append_of_le_length (by simp only[List.length_append,List.length_take,hxl,hc];omega)];exact List.take_of_length_le (by simp only[List.length_append,List.length_take,hxl,hc];omega)
  rw[hr2,e1,List.take_append_of_le_length (by simp only[List.length_append,List.length_take,List.length_drop,hxl,hc];omega)];exact List.take_of_length_le (by simp only[List.length_append,List.length_take,List.length_drop,hxl,hc];omega)
 have HP:Hid (G8 w B 79 1 n (xs.take (i)++cs++xs.drop (i)) (.returned (.slice (some ⟨N,0,none⟩) (n+1) G)) (W2.drew.setRow N r2.toArray)):=by
  show G8 _ _ _ _ _ _ _ _
  refine⟨some ⟨N,0,none⟩,G,[],rfl,⟨by simp only[List.length_append,List.length_take,List.length_drop,hxl,hc];omega,.inr ⟨N,G,r2.toArray,rfl,by omega,setRow_heap _ _ _ _ _ _ hN2,hGn,hGm,by rw[List.size_toArray,hl2,Nat.mul_one],by rw[Nat.mul_one];exact htk⟩⟩,?_,by simp⟩;exact D5 hu2.drew _ (.inr (by omega))
 have hGc:(G:Int)<=9223372036854775807:=by unfold maxLen at hGm;omega
 have j0:(0:Int)<=(i:Int):=by omega
 have j1:(i:Int)<=(n:Int):=by omega
 have j2:¬((i:Int)=(n:Int)):=by omega
 have j3:(cap:Int)<(n:Int)+1:=by omega
 have j4:(i:Int)<=(cap:Int):=by omega
 have j5:i<=n:=by omega
 have j6:¬(G=i+1):=by omega
 have j7:¬(G=i):=by omega
 have j8:(i:Int)+1<=(n:Int)+1:=by omega
 have j9:(i:Int)<=(n:Int)+1:=by omega
 have j10:¬(cap=i):=by omega
 have hw1:IntKind.i64.wrap ((i:Int)+1)=(i:Int)+1:=by rw[IntKind.wrap_i64];omega
 have hb1:(0:Int)<=(i:Int)+1:=by omega
 have htn:((i:Int)+1).toNat=i+1:=by omega
 clear hold hG hZ hz0 hZs hROW hzc hRs hW1 hN hN1 hv1 hg1 hu1 hr1 hRl hl1 hN2 hg2 hW2 hu2 hr2 hl2 htk hik hi0 hz1 hz2 hGm ht hg hv hsz hcl;go_enter Tryz.func209,Tryz.ntmps209
 go_wp2_with (first | (at_builtin;refine O6 rfl _ _ 218 3 rfl rfl rfl hrz ?_) | (at_builtin;refine P5 rfl _ _ _ rfl rfl rfl (λ ty=>hcpA ty _) ?_))
 go_region_law (fail)
 all_goals
  go_wp2_with fail
  go_ret;exact HP.out
theorem Cg7{w:World}{B n i:Nat}{v:Value}{xs cs:List Value}(hown:w.ownsRow B 79 1 v n xs)(hn:n<=100)(hi:i<=n)(hB:B<=w.heap.size)(h1x:∀u∈xs,u.oneCell'=true){vb:Nat}(hne:∀a l c,v=.slice (some a) l c->vb≠a.block)(hc:cs.length=1)(h1:∀u∈cs,u.oneCell'=true)(hv:w.heap[vb]?=some (.cells cs.toArray 79 (0,0))) :
  Calls Tryz.prog 209 #[v,.int .i64 (i:Int),.slice (some ⟨vb,0,none⟩) 1 1] w (G8 w B 79 1 n (xs.take (i)++cs++xs.drop (i))):=by
 by_cases e:i=n
 ·subst e;have hl:xs.length=i:=by have:=hown.1;omega
  rw[List.take_of_length_le (by omega),List.drop_eq_nil_of_le (by omega),List.append_nil];exact Cg6 hown hn hB hc h1 hv
 ·rcases hown.2 with⟨_,h0⟩ | ⟨g,cap,cur,rfl,hb,hg,hcap,hcm,hs,ht⟩
  ·omega
  ·by_cases hr:n+1<=cap
   ·exact Bs7 hn (by omega) hr hcm hb hg (by omega) (by simpa using ht) h1x (hne _ _ _ rfl) hc h1 hv
   ·exact Bz3 hn (by omega) hcap (by omega) hB hg (by omega) (by simpa using ht) h1x hc h1 hv
end Go.Proofs.YtgfbepakonjbnaaGreat
end
section
namespace Go.Proofs.YtgfbepakonjbnaaGreat
open Go.RowKit Go.MapKept Go.ChangeMaps
theorem Bm4(w:World):(Instr.buildSlice 216 0 #[]).run Tryz.prog w=.ok (.slice (some ⟨w.heap.size,0,none⟩) 0 0) (w.alloc (.cells #[] 35)):=by kernel_rfl
theorem Cs2{w:World}{b off n cap:Nat}{xs:List Value}(h0:0<n)(hn:n<=100)(hx:xs.length=n*32)(h1:∀u∈xs,u.oneCell'=true)(hr:∀j v,xs[j]?=some v->w.cell? ⟨b,off+j,none⟩=some v) :
  Calls Tryz.prog 206 #[.slice (some ⟨b,off,none⟩) n cap] w λ e w'=>∃a c,e=.returned (.slice a n c)/\w'.ownsRow w.heap.size 35 32 (.slice a n c) n xs/\Upd [] w w':=by
 obtain⟨i0,hi0,hz0,hz1,hz2⟩:=info_parts Aa8;have hb:=Bm4;have hown:(w.alloc (.cells #[] 35)).ownsRow w.heap.size 35 32 (.slice (some ⟨w.heap.size,0,none⟩) 0 0) 0 []:=⟨by simp,.inr ⟨w.heap.size,0,#[],rfl,Nat.le_refl _,A6 _,Nat.le_refl _,Nat.zero_le _,by simp,by simp⟩⟩;obtain⟨v',w',hrun,ho,hg,_⟩:=run_append_own (P:=Tryz.prog) (w.alloc (.cells #[] 35)) w.heap.size 216 216 35 i0 _ 32 32 Tryz.underlying216 hi0 hz0 hz1 hz2 rfl (by decide) _ 0 [] hown ⟨b,off,none⟩ n cap xs hx
  (λ k u hj=>by
   rw[I5];exact D7 (hr k u hj) ((Upd.refl [] _).alloc _) (by simp)) h1 (by unfold maxLen;omega) (by omega) (by simp)
 have hs:∃a c',v'=.slice a n c':=by
  rcases ho.2 with⟨_,h⟩ | ⟨g,cap,cur,h,_⟩
  ·omega
  ·exact⟨_,_,by rw[h,Nat.zero_add]⟩
 obtain⟨a',c',rfl⟩:=hs;rw[Nat.zero_add,List.nil_append] at ho;have hrun':∀ty,(Builtin.append_ #[216,216] ty #[.slice (some ⟨w.heap.size,0,none⟩) 0 0,.slice (some ⟨b,off,none⟩) n cap]).run Tryz.prog (w.alloc (.cells #[] 35))=.ok (.slice a' n c') w':=λ _=>hrun;have hu:Upd [] w w':=by
  have u1:Upd [] w (w.alloc (.cells #[] 35)):=(Upd.refl [] w).alloc _;have u2:Upd [w.heap.size] (w.alloc (.cells #[] 35)) w':=⟨hg.os,hg.tape,hg.output,hg.size,λ k hk hS=>hg.block k hk (by simp[Value.ownBlock];rintro rfl;exact hS (by simp))⟩;exact u1.late u2 (λ k hk=> .inr (by simp at hk;omega))
 have hnil:∀(a:Option Addr) (n c:Nat) (w:World),(binOp .eql 216 (.slice a n c) (.slice none 0 0)).run Tryz.prog w=.ok (.bool a.isNone) w:=λ a n c w=>Lib.run_eql_slice_nil w 216 35 a n c 0 0 Tryz.underlying216;have HO:=η ho;have HU:=η hu;clear hrun ho hg hu hown hr;go_enter Tryz.func206,Tryz.ntmps206
 go_wp2_with (at_builtin;refine B4 rfl _ _ _ rfl rfl rfl hrun' ?_)
 go_ret;exact⟨_,_,rfl,HO.out,HU.out⟩
theorem Bm5(w:World):(Instr.buildSlice 217 0 #[]).run Tryz.prog w=.ok (.slice (some ⟨w.heap.size,0,none⟩) 0 0) (w.alloc (.cells #[] 115)):=by kernel_rfl
theorem Cs3{w:World}{b off n cap:Nat}{xs:List Value}(h0:0<n)(hn:n<=100)(hx:xs.length=n*16)(h1:∀u∈xs,u.oneCell'=true)(hr:∀j v,xs[j]?=some v->w.cell? ⟨b,off+j,none⟩=some v) :
  Calls Tryz.prog 207 #[.slice (some ⟨b,off,none⟩) n cap] w λ e w'=>∃a c,e=.returned (.slice a n c)/\w'.ownsRow w.heap.size 115 16 (.slice a n c) n xs/\Upd [] w w':=by
 obtain⟨i0,hi0,hz0,hz1,hz2⟩:=info_parts Aa9;have hb:=Bm5;have hown:(w.alloc (.cells #[] 115)).ownsRow w.heap.size 115 16 (.slice (some ⟨w.heap.size,0,none⟩) 0 0) 0 []:=⟨by simp,.inr ⟨w.heap.size,0,#[],rfl,Nat.le_refl _,A6 _,Nat.le_refl _,Nat.zero_le _,by simp,by simp⟩⟩;obtain⟨v',w',hrun,ho,hg,_⟩:=run_append_own (P:=Tryz.prog) (w.alloc (.cells #[] 115)) w.heap.size 217 217 115 i0 _ 16 16 Tryz.underlying217 hi0 hz0 hz1 hz2 rfl (by decide) _ 0 [] hown ⟨b,off,none⟩ n cap xs hx
  (λ k u hj=>by
   rw[I5];exact D7 (hr k u hj) ((Upd.refl [] _).alloc _) (by simp)) h1 (by unfold maxLen;omega) (by omega) (by simp)
 have hs:∃a c',v'=.slice a n c':=by
  rcases ho.2 with⟨_,h⟩ | ⟨g,cap,cur,h,_⟩
  ·omega
  ·exact⟨_,_,by rw[h,Nat.zero_add]⟩
 obtain⟨a',c',rfl⟩:=hs;rw[Nat.zero_add,List.nil_append] at ho;have hrun':∀ty,(Builtin.append_ #[217,217] ty #[.slice (some ⟨w.heap.size,0,none⟩) 0 0,.slice (some ⟨b,off,none⟩) n cap]).run Tryz.prog (w.alloc (.cells #[] 115))=.ok (.slice a' n c') w':=λ _=>hrun;have hu:Upd [] w w':=by
  have u1:Upd [] w (w.alloc (.cells #[] 115)):=(Upd.refl [] w).alloc _;have u2:Upd [w.heap.size] (w.alloc (.cells #[] 115)) w':=⟨hg.os,hg.tape,hg.output,hg.size,λ k hk hS=>hg.block k hk (by simp[Value.ownBlock];rintro rfl;exact hS (by simp))⟩;exact u1.late u2 (λ k hk=> .inr (by simp at hk;omega))
 have hnil:∀(a:Option Addr) (n c:Nat) (w:World),(binOp .eql 217 (.slice a n c) (.slice none 0 0)).run Tryz.prog w=.ok (.bool a.isNone) w:=λ a n c w=>Lib.run_eql_slice_nil w 217 115 a n c 0 0 Tryz.underlying217;have HO:=η ho;have HU:=η hu;clear hrun ho hg hu hown hr;go_enter Tryz.func207,Tryz.ntmps207
 go_wp2_with (at_builtin;refine B4 rfl _ _ _ rfl rfl rfl hrun' ?_)
 go_ret;exact⟨_,_,rfl,HO.out,HU.out⟩
theorem Bm6(w:World):(Instr.buildSlice 218 0 #[]).run Tryz.prog w=.ok (.slice (some ⟨w.heap.size,0,none⟩) 0 0) (w.alloc (.cells #[] 79)):=by kernel_rfl
theorem Cs4{w:World}{b off n cap:Nat}{xs:List Value}(h0:0<n)(hn:n<=100)(hx:xs.length=n*1)(h1:∀u∈xs,u.oneCell'=true)(hr:∀j v,xs[j]?=some v->w.cell? ⟨b,off+j,none⟩=some v) :
  Calls Tryz.prog 210 #[.slice (some ⟨b,off,none⟩) n cap] w λ e w'=>∃a c,e=.returned (.slice a n c)/\w'.ownsRow w.heap.size 79 1 (.slice a n c) n xs/\Upd [] w w':=by
 obtain⟨i0,hi0,hz0,hz1,hz2⟩:=info_parts Ab0;have hb:=Bm6;have hown:(w.alloc (.cells #[] 79)).ownsRow w.heap.size 79 1 (.slice (some ⟨w.heap.size,0,none⟩) 0 0) 0 []:=⟨by simp,.inr ⟨w.heap.size,0,#[],rfl,Nat.le_refl _,A6 _,Nat.le_refl _,Nat.zero_le _,by simp,by simp⟩⟩;obtain⟨v',w',hrun,ho,hg,_⟩:=run_append_own (P:=Tryz.prog) (w.alloc (.cells #[] 79)) w.heap.size 218 218 79 i0 _ 1 4 Tryz.underlying218 hi0 hz0 hz1 hz2 rfl (by decide) _ 0 [] hown ⟨b,off,none⟩ n cap xs hx
  (λ k u hj=>by
   rw[I5];exact D7 (hr k u hj) ((Upd.refl [] _).alloc _) (by simp)) h1 (by unfold maxLen;omega) (by omega) (by simp)
 have hs:∃a c',v'=.slice a n c':=by
  rcases ho.2 with⟨_,h⟩ | ⟨g,cap,cur,h,_⟩
  ·omega
  ·exact⟨_,_,by rw[h,Nat.zero_add]⟩
 obtain⟨a',c',rfl⟩:=hs;rw[Nat.zero_add,List.nil_append] at ho;have hrun':∀ty,(Builtin.append_ #[218,218] ty #[.slice (some ⟨w.heap.size,0,none⟩) 0 0,.slice (some ⟨b,off,none⟩) n cap]).run Tryz.prog (w.alloc (.cells #[] 79))=.ok (.slice a' n c') w':=λ _=>hrun;have hu:Upd [] w w':=by
  have u1:Upd [] w (w.alloc (.cells #[] 79)):=(Upd.refl [] w).alloc _;have u2:Upd [w.heap.size] (w.alloc (.cells #[] 79)) w':=⟨hg.os,hg.tape,hg.output,hg.size,λ k hk hS=>hg.block k hk (by simp[Value.ownBlock];rintro rfl;exact hS (by simp))⟩;exact u1.late u2 (λ k hk=> .inr (by simp at hk;omega))
 have hnil:∀(a:Option Addr) (n c:Nat) (w:World),(binOp .eql 218 (.slice a n c) (.slice none 0 0)).run Tryz.prog w=.ok (.bool a.isNone) w:=λ a n c w=>Lib.run_eql_slice_nil w 218 79 a n c 0 0 Tryz.underlying218;have HO:=η ho;have HU:=η hu;clear hrun ho hg hu hown hr;go_enter Tryz.func210,Tryz.ntmps210
 go_wp2_with (at_builtin;refine B4 rfl _ _ _ rfl rfl rfl hrun' ?_)
 go_ret;exact⟨_,_,rfl,HO.out,HU.out⟩
end Go.Proofs.YtgfbepakonjbnaaGreat
end
end
