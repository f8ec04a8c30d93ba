/-
  Drawn regions, operation by operation, with slots and marks as lists (the slots behind an operation are met by unfolding, not by rewriting: small proofs where there are many slots).
-/
import Derived.Test.YtplppdbdfhkljaaGreatA14
import Derived.Maps.AppendAt
import Derived.Test.YtplppdbdfhkljaaGreatA15
import Derived.Test.YtplppdbdfhkljaaGreatA16
set_option maxRecDepth 100000
set_option maxHeartbeats 16000000
section
namespace Go.Proofs.YtplppdbdfhkljaaGreat
open Go.RowKit Go.MapKept Go.ChangeMaps
section
theorem put_list{l:List Value}{ds:List Deferred}{d:Nat}{v:Value}:Act.put ⟨l.toArray,ds⟩ (some d) v=⟨(l.set d v).toArray,ds⟩:=by simp[Act.put]
section
variable {P:Program} {ops:Array Oper} {Q:Exit→Act→World→Prop} {md:Region.Mode} {S:World→Prop} {St:List Nat}
theorem takeL{i:Nat}{oi:Oper}{v:Value}{fuel:Nat}{L L':List Bool}{l l':List Value}{ds:List Deferred}{d:Nat}{w:World}(hi:ops[i]?=some oi)(hd:oi.dst=some d)
  (hk:(Region.noSelect ops && Region.free md ops L.toArray i && (Region.ready md ops L.toArray).contains i && closedB md ops L.toArray && St.all fun s=>waits md ops i ops.size s && !(s == i))=true)
  (hQ:∀c a w,Q (.panic c) (a.put oi.dst v) w→Q (.panic c) a w) (hS:S w) (hy:YieldsIf P ops S oi v ⟨l.toArray,ds⟩) (hl:l.set d v=l') (hL:L.set i true=L')
  (h:wpAnyX P md ops Q S St fuel L'.toArray ⟨l'.toArray,ds⟩ w):wpAnyX P md ops Q S St (fuel+1) L.toArray ⟨l.toArray,ds⟩ w:=by
 refine wpAnyX_take hi hk hQ hS hy ?_
 rw[hd,put_list,hl,List.setIfInBounds_toArray,hL]
 exact h
theorem takeNL{i:Nat}{oi:Oper}{v:Value}{fuel:Nat}{L L':List Bool}{l l':List Value}{ds:List Deferred}{d:Nat}{w:World}(hi:ops[i]?=some oi)(hd:oi.dst=some d)
  (hk:(Region.noSelect ops && Region.free md ops L.toArray i && (Region.ready md ops L.toArray).contains i && St.all fun s=> !(s == i))=true)
  (hQ:∀c a w,Q (.panic c) (a.put oi.dst v) w→Q (.panic c) a w) (hS:NoneUp St (L.toArray.setIfInBounds i true)→S w) (hy:YieldsIf P ops (fun _=>True) oi v ⟨l.toArray,ds⟩) (hl:l.set d v=l') (hL:L.set i true=L')
  (h:wpAnyX P md ops Q S St fuel L'.toArray ⟨l'.toArray,ds⟩ w):wpAnyX P md ops Q S St (fuel+1) L.toArray ⟨l.toArray,ds⟩ w:=by
 refine wpAnyX_takeN hi hk hQ hS hy ?_
 rw[hd,put_list,hl,List.setIfInBounds_toArray,hL]
 exact h
theorem wp_region_xL{id:Nat}{a:Act}{w:World}(S:World→Prop)(St:List Nat){n:Nat}{L:List Bool}(hm:P.follows .mixedOrders=true)(hn:ops.size=n)(hL:List.replicate n false=L)(hS:S w.drew)
  (h:S w.drew→wpAnyX P .any ops Q S St n L.toArray a w.drew):(Code.region id ops true).wp P Q a w:=by
 refine wp_region_x S St hm hS (fun hs=>?_)
 have:=h hs
 rw[← hL,← hn] at this
 have e:(List.replicate ops.size false).toArray=Array.replicate ops.size false:=by simp
 rw[e] at this
 rw[hn] at this ⊢
 exact this
end
end
end Go.Proofs.YtplppdbdfhkljaaGreat
end
section
set_option linter.unusedSimpArgs false
set_option linter.unusedVariables false
namespace Go.Proofs.YtplppdbdfhkljaaGreat
open Go.RowKit Go.MapKept Go.ChangeMaps
section
attribute [-go_sem] loadCells storeCells Instr.build Instr.buildSlice run_string_add_if run_slice_l run_slice_h run_slice_string run_slice_string_h run_slice_string_l
theorem noneUp_any{St:List Nat}{listed:Array Bool}{X:Prop}(h:(St.any fun s=>listed.getD s false)=true):NoneUp St listed→X:=fun hn=>by
 obtain⟨s,hs,he⟩:=List.any_eq_true.1 h
 rw[hn s hs] at he;cases he
theorem row_shape{w:World}{B n:Nat}{e:TypeId}{v:Value}{xs:List Value}(h:w.ownsRow B e 1 v n xs):∃a c,v=.slice a n c:=by
 rcases h.2 with⟨rfl,rfl⟩ | ⟨g,cap,_,rfl,_⟩
 ·exact⟨_,_,rfl⟩
 ·exact⟨_,_,rfl⟩
theorem row_lt{w:World}{B n:Nat}{e:TypeId}{v:Value}{xs:List Value}(h:w.ownsRow B e 1 v n xs):∀g,v.ownBlock=some g→g<w.heap.size∧B≤g∧∃c,w.heap[g]?=some (.cells c e (0,0)):=by
 intro g hg
 rcases h.2 with⟨rfl,_⟩ | ⟨b,cap,cur,rfl,hb,hc,_⟩
 ·simp[Value.ownBlock] at hg
 ·simp[Value.ownBlock] at hg
  subst hg
  exact⟨blk_lt hc,hb,_,hc⟩
theorem row_keep{w w':World}{B n:Nat}{e:TypeId}{v:Value}{xs:List Value}(h:w.ownsRow B e 1 v n xs)(hk:∀g,v.ownBlock=some g→w'.heap[g]?=w.heap[g]?):w'.ownsRow B e 1 v n xs:=by
 refine⟨h.1,?_⟩
 rcases h.2 with q | ⟨b,cap,cur,rfl,hb,hc,r⟩
 ·exact .inl q
 ·exact .inr ⟨b,cap,cur,rfl,hb,(hk b rfl).trans hc,r⟩
theorem row_bl{w:World}{B n:Nat}{e:TypeId}{v:Value}{xs:List Value}(h:w.ownsRow B e 1 v n xs)(hn:0<n):∃g cap rest,v=.slice (some ⟨g,0,none⟩) n cap∧B≤g∧w.heap[g]?=some (.cells (xs++rest).toArray e (0,0)):=by
 rcases h.2 with⟨_,q⟩ | ⟨b,cap,cur,rfl,hb,hc,_,_,_,ht⟩
 ·omega
 ·refine⟨b,cap,cur.toList.drop (n*1),rfl,hb,?_⟩
  rw[← ht,List.take_append_drop]
  simpa using hc
structure G2(w:World)(jb:Nat)(C:Array Value)(T e1 e2:TypeId)(va vb:Value)(xa xb:List Value)(W:World):Prop where
 st:W.heap[jb]?=some (.cells C T (0,0))
 ra:W.ownsRow w.heap.size e1 1 va xa.length xa
 rb:W.ownsRow w.heap.size e2 1 vb xb.length xb
 ne:∀g,va.ownBlock=some g→vb.ownBlock≠some g
 t1:T≠e1
 t2:T≠e2
 up:Upd [] w W
theorem G2.world{w:World}{jb:Nat}{C:Array Value}{T e1 e2:TypeId}{va vb:Value}{xa xb:List Value}{W W':World}(h:G2 w jb C T e1 e2 va vb xa xb W)(hu:Upd [] W W'):G2 w jb C T e1 e2 va vb xa xb W':=
 ⟨(hu.block _ (blk_lt h.st) (by simp)).trans h.st,row_keep h.ra (fun g hg=>hu.block _ (row_lt h.ra g hg).1 (by simp)),row_keep h.rb (fun g hg=>hu.block _ (row_lt h.rb g hg).1 (by simp)),h.ne,h.t1,h.t2,h.up.trans hu⟩
theorem G2.alloc{w:World}{jb:Nat}{C:Array Value}{T e1 e2:TypeId}{va vb:Value}{xa xb:List Value}{W:World}(h:G2 w jb C T e1 e2 va vb xa xb W)(o:Obj):G2 w jb C T e1 e2 va vb xa xb (W.alloc o):=h.world ((Upd.refl _ _).alloc _)
theorem G2.notA{w:World}{jb:Nat}{C:Array Value}{T e1 e2:TypeId}{va vb:Value}{xa xb:List Value}{W:World}(h:G2 w jb C T e1 e2 va vb xa xb W):va.ownBlock≠some jb:=by
 intro q
 obtain⟨_,_,c,hc⟩:=row_lt h.ra jb q
 rw[h.st] at hc
 injection hc with hc;injection hc with _ hc _
 exact h.t1 hc
theorem G2.notB{w:World}{jb:Nat}{C:Array Value}{T e1 e2:TypeId}{va vb:Value}{xa xb:List Value}{W:World}(h:G2 w jb C T e1 e2 va vb xa xb W):vb.ownBlock≠some jb:=by
 intro q
 obtain⟨_,_,c,hc⟩:=row_lt h.rb jb q
 rw[h.st] at hc
 injection hc with hc;injection hc with _ hc _
 exact h.t2 hc
theorem row_push{S e:TypeId}{z:Value}{bytes:Nat}(hS:Tryz.prog.underlying S=some (.slice e))(hi:(Tryz.prog.info? e).map (fun i=>(i.zero,i.size,i.bytes))=some (some z,1,bytes))(hz:z.cells.size=1)(hby:bytes≤1000){w W:World}{v:Value}{xs:List Value}(hu:Upd [] w W)(hp:W.ownsRow w.heap.size e 1 v xs.length xs)(hl:xs.length≤100000){nb:Nat}{x:Value}(hx:x.oneCell'=true)(hnb:W.heap[nb]?=some (.cells #[x] e (0,0))) :
  ∃a c W',(∀ty,(Builtin.append_ #[S,S] ty #[v,.slice (some ⟨nb,0,none⟩) 1 1]).run Tryz.prog W=.ok (.slice a (xs.length+1) c) W')∧W'.ownsRow w.heap.size e 1 (.slice a (xs.length+1) c) (xs ++ [x]).length (xs ++ [x])∧Upd [] w W'∧W.heap.size≤W'.heap.size∧(∀k,k<W.heap.size→v.ownBlock≠some k→W'.heap[k]?=W.heap[k]?)∧(∀g,(Value.slice a (xs.length+1) c).ownBlock=some g→v.ownBlock=some g∨W.heap.size≤g):=by
 obtain⟨i0,hi,hz0,hz1,hz2⟩:=info_parts hi
 obtain⟨v',W',hrun,hown,hg,_,hloc⟩:=run_append_own_at (P:=Tryz.prog) W (ty:=0) w.heap.size S e i0 z 1 bytes hS hi hz0 hz1 hz2 hz (by decide) v xs.length xs hp ⟨nb,0,none⟩ 1 1 [x] rfl
  (fun j u hj=>by
   rw[addr_add,blk_cell hnb]
   match j,hj with
   | 0,hj=>simpa using hj
   | j+1,hj=>simp at hj)
  (fun u hu=>by simp at hu;subst hu;exact hx) (by unfold maxLen;omega) (by have:(xs.length+1)*bytes≤100001*1000:=Nat.mul_le_mul (by omega) hby;omega) hu.size
 obtain⟨a,c,rfl⟩:=row_shape hown
 refine⟨a,c,W',fun _=>hrun,by rw[List.length_append];exact hown,hu.grown hg (fun k hk=> .inr (row_lt hp k hk).2.1),hg.size,fun k hk hne=>hg.block k hk (fun q=>hne q.symm),fun g hg2=>?_⟩
 rcases hloc with q | q
 ·rw[q] at hg2;exact .inl hg2
 ·rw[q] at hg2;injection hg2 with hg2;exact .inr (by omega)
theorem G2.pushA{w:World}{jb:Nat}{C:Array Value}{T e1 e2:TypeId}{va vb:Value}{xa xb:List Value}{W:World}(h:G2 w jb C T e1 e2 va vb xa xb W){S:TypeId}{z:Value}{bytes:Nat}(hS:Tryz.prog.underlying S=some (.slice e1))(hi:(Tryz.prog.info? e1).map (fun i=>(i.zero,i.size,i.bytes))=some (some z,1,bytes))(hz:z.cells.size=1)(hby:bytes≤1000)(hl:xa.length≤100000){nb:Nat}{x:Value}(hx:x.oneCell'=true)(hnb:W.heap[nb]?=some (.cells #[x] e1 (0,0))) :
  ∃a c W',(∀ty,(Builtin.append_ #[S,S] ty #[va,.slice (some ⟨nb,0,none⟩) 1 1]).run Tryz.prog W=.ok (.slice a (xa.length+1) c) W')∧G2 w jb C T e1 e2 (.slice a (xa.length+1) c) vb (xa ++ [x]) xb W'∧∀k,k<W.heap.size→va.ownBlock≠some k→W'.heap[k]?=W.heap[k]?:=by
 obtain⟨a,c,W',h1,h2,h3,_,h5,h6⟩:=row_push hS hi hz hby h.up h.ra hl hx hnb
 refine⟨a,c,W',h1,⟨(h5 _ (blk_lt h.st) h.notA).trans h.st,h2,row_keep h.rb (fun g hg=>h5 g (row_lt h.rb g hg).1 (fun q=>h.ne g q hg)),fun g hg q=>?_,h.t1,h.t2,h3⟩,h5⟩
 rcases h6 g hg with r | r
 ·exact h.ne g r q
 ·have:=(row_lt h.rb g q).1;omega
theorem G2.pushB{w:World}{jb:Nat}{C:Array Value}{T e1 e2:TypeId}{va vb:Value}{xa xb:List Value}{W:World}(h:G2 w jb C T e1 e2 va vb xa xb W){S:TypeId}{z:Value}{bytes:Nat}(hS:Tryz.prog.underlying S=some (.slice e2))(hi:(Tryz.prog.info? e2).map (fun i=>(i.zero,i.size,i.bytes))=some (some z,1,bytes))(hz:z.cells.size=1)(hby:bytes≤1000)(hl:xb.length≤100000){nb:Nat}{x:Value}(hx:x.oneCell'=true)(hnb:W.heap[nb]?=some (.cells #[x] e2 (0,0))) :
  ∃a c W',(∀ty,(Builtin.append_ #[S,S] ty #[vb,.slice (some ⟨nb,0,none⟩) 1 1]).run Tryz.prog W=.ok (.slice a (xb.length+1) c) W')∧G2 w jb C T e1 e2 va (.slice a (xb.length+1) c) xa (xb ++ [x]) W':=by
 obtain⟨a,c,W',h1,h2,h3,_,h5,h6⟩:=row_push hS hi hz hby h.up h.rb hl hx hnb
 refine⟨a,c,W',h1,⟨(h5 _ (blk_lt h.st) h.notB).trans h.st,row_keep h.ra (fun g hg=>h5 g (row_lt h.ra g hg).1 (fun q=>h.ne g hg q)),h2,fun g hg q=>?_,h.t1,h.t2,h3⟩⟩
 rcases h6 g q with r | r
 ·exact h.ne g hg r
 ·have:=(row_lt h.ra g hg).1;omega
theorem G2.set{w:World}{jb:Nat}{C:Array Value}{T e1 e2:TypeId}{va vb:Value}{xa xb:List Value}{W:World}(h:G2 w jb C T e1 e2 va vb xa xb W)(hjb:w.heap.size≤jb)(i:Nat)(v:Value):G2 w jb (C.setIfInBounds i v) T e1 e2 va vb xa xb (W.setCell ⟨jb,i,none⟩ v):=
 ⟨blk_set h.st i v,row_keep h.ra (fun g hg=>blk_set_ne _ _ (fun q=>h.notA (q ▸ hg))),row_keep h.rb (fun g hg=>blk_set_ne _ _ (fun q=>h.notB (q ▸ hg))),h.ne,h.t1,h.t2,h.up.set v (.inr hjb)⟩
theorem zsec_len0:zsec.length=512:=List.length_replicate ..
theorem rd_zsec(w:World):Rd (w.alloc (.cells (bts zsec).toArray 5)) (.slice (some ⟨w.heap.size,0,none⟩) 512 512) zsec:=by
 refine⟨_,_,by rw[zsec_len0],by rw[zsec_len0];omega,fun _=>⟨_,_,rfl,fun i hi=>?_⟩⟩
 rw[blk_cell (blk_alloc _),Nat.zero_add,List.getElem?_toArray]
 simp[bts]
 exact⟨_,List.getElem?_eq_getElem hi,rfl⟩
theorem infoS9:(Tryz.prog.info? 9).map (fun i=>(i.zero,i.size,i.bytes))=some (some (.string ⟨#[]⟩),1,16):=by kernel_rfl
theorem infoB4:(Tryz.prog.info? 4).map (fun i=>(i.zero,i.size,i.bytes))=some (some (.bool false),1,1):=by kernel_rfl
theorem run_build_one{T e:TypeId}(hu:Tryz.prog.underlying T=some (.slice e))(hi:((Tryz.prog.info? e).map fun i=>(i.zero.isSome,i.size))=some (true,1))(x:Value)(hx:x.cells=#[x])(w:World) :
  (Instr.buildSlice T 1 #[(0,x)]).run Tryz.prog w=.ok (.slice (some ⟨w.heap.size,0,none⟩) 1 1) (w.alloc (.cells #[x] e)):=by
 cases hq:Tryz.prog.info? e with
 | none=>rw[hq] at hi;simp at hi
 | some i=>
  rw[hq] at hi
  simp at hi
  obtain⟨hz,hs⟩:=hi
  obtain⟨z,hz⟩:=Option.isSome_iff_exists.1 hz
  have hd:=Great.fill_dense (s:=1) (by decide) [x] 0 ((Array.range (1*i.size)).map (z.cells[· % z.cells.size]!)) (fun v hv=>by simp at hv;subst hv;simp[hx]) (by simp[hs])
  obtain⟨r,hr,hrs,hrk⟩:=hd
  have he:r=#[x]:=by
   apply Array.ext_getElem?
   intro k
   rw[hrk k]
   by_cases hk:k<1
   ·obtain rfl:k=0:=by omega
    rw[if_pos ⟨by omega,by simp⟩]
    simp[hx]
   ·rw[if_neg (by simp;omega),Array.getElem?_eq_none (by simp[hs];omega),Array.getElem?_eq_none (by simp;omega)]
  rw[he] at hr
  refine run_buildSlice w T e 1 _ #[x] i z hu hq hz (by omega) (by omega) ?_
  rw[hs]
  rw[hs] at hr
  exact hr
theorem slice_S(s:ByteArray)(w:World):(Instr.buildSlice 139 1 #[(0,.string s)]).run Tryz.prog w=.ok (.slice (some ⟨w.heap.size,0,none⟩) 1 1) (w.alloc (.cells #[.string s] 9)):=
 run_build_one (e:=9) Tryz.underlying139 (by kernel_rfl) _ rfl w
theorem slice_V(s:Sec)(w:World):(Instr.buildSlice 139 1 #[(0,strV s)]).run Tryz.prog w=.ok (.slice (some ⟨w.heap.size,0,none⟩) 1 1) (w.alloc (.cells #[strV s] 9)):=slice_S (str s) w
theorem slice_B(b:Bool)(w:World):(Instr.buildSlice 29 1 #[(0,.bool b)]).run Tryz.prog w=.ok (.slice (some ⟨w.heap.size,0,none⟩) 1 1) (w.alloc (.cells #[.bool b] 4)):=
 run_build_one (e:=4) Tryz.underlying29 (by kernel_rfl) _ rfl w
theorem wrap_i64_k{k n:Nat}(h:k<n)(hn:n≤100000):IntKind.i64.wrap ((k:Int)+1)=((k+1:Nat):Int):=by
 rw[IntKind.wrap_i64];omega
set_option maxRecDepth 100000 in
set_option maxHeartbeats 16000000 in
theorem rnew_spec(n:Nat)(h0:32≤n)(h1:n≤4096)(w:World) :
  Calls Tryz.prog 29 #[.int .i64 (n:Int)] w fun e w'=>∃g:RG,e=.returned (.pointer (some ⟨g.rb,0,none⟩))∧(∀k,k∈g.all→w.heap.size≤k)∧RdkAt w' g (Dk.new n)∧Upd [] w w':=by
 have hmk:=run_make_512
 have hbd:∀w,(Instr.build 141 #[(3,.int .i64 (-1)),(5,.int .i64 (-1))]).run Tryz.prog w=.ok (.agg #[.slice none 0 0,.slice none 0 0,.bool false,.int .i64 (-1),.int .i64 0,.int .i64 (-1),.string ⟨#[]⟩,.int .i64 0,.int .i64 0]) w:=fun w=>run_build w _ _ _ (by kernel_rfl)
 have hcv:∀(w:World),(convert 34 9 (.slice (some ⟨w.heap.size,0,none⟩) 512 512)).run Tryz.prog (w.alloc (.cells (bts zsec).toArray 5))=.ok (strV zsec) (w.alloc (.cells (bts zsec).toArray 5)):=fun w=>
  run_str (rd_zsec w) (by rw[zsec_len0];decide)
 have hcv1:=hcv (w.alloc (.cells #[.slice none 0 0,.slice none 0 0,.bool false,.int .i64 (-1),.int .i64 0,.int .i64 (-1),.string ⟨#[]⟩,.int .i64 0,.int .i64 0] 141))
 rw[show(w.alloc (.cells #[.slice none 0 0,.slice none 0 0,.bool false,.int .i64 (-1),.int .i64 0,.int .i64 (-1),.string ⟨#[]⟩,.int .i64 0,.int .i64 0] 141)).heap.size=w.heap.size+1 by simp] at hcv1
 clear hcv
 have HJ0:Hid (((w.alloc (.cells #[.slice none 0 0,.slice none 0 0,.bool false,.int .i64 (-1),.int .i64 0,.int .i64 (-1),.string ⟨#[]⟩,.int .i64 0,.int .i64 0] 141)).alloc (.cells (bts zsec).toArray 5)).heap[w.heap.size]?=some (.cells #[.slice none 0 0,.slice none 0 0,.bool false,.int .i64 (-1),.int .i64 0,.int .i64 (-1),.string ⟨#[]⟩,.int .i64 0,.int .i64 0] 141 (0,0))):=Lib.hid ((blk_alloc_ne (by simp)).trans (blk_alloc _))
 have HU0:Hid (Upd [] w ((w.alloc (.cells #[.slice none 0 0,.slice none 0 0,.bool false,.int .i64 (-1),.int .i64 0,.int .i64 (-1),.string ⟨#[]⟩,.int .i64 0,.int .i64 0] 141)).alloc (.cells (bts zsec).toArray 5))):=Lib.hid (((Upd.refl _ _).alloc _).alloc _)
 have hn1:decide ((n:Int)<32)=false:=decide_eq_false (by omega)
 have hn2:decide (4096<(n:Int))=false:=decide_eq_false (by omega)
 have hn3:decide (n<32)=false:=decide_eq_false (by omega)
 have hn4:decide (4096<n)=false:=decide_eq_false (by omega)
 have HNN:=Lib.hid (And.intro h0 h1)
 clear h0 h1
 go_enter Tryz.func29,Tryz.ntmps29
 go_wp2_with fail
 generalize (w.alloc (.cells #[.slice none 0 0,.slice none 0 0,.bool false,.int .i64 (-1),.int .i64 0,.int .i64 (-1),.string ⟨#[]⟩,.int .i64 0,.int .i64 0] 141)).alloc (.cells (bts zsec).toArray 5)=w1 at HJ0 HU0 ⊢
 obtain⟨jb,hjb⟩:∃b,b=w.heap.size:=⟨_,rfl⟩
 rw[← hjb] at HJ0 ⊢
 have HJB:Hid (w.heap.size≤jb):=Lib.hid (by omega)
 clear hjb hmk hbd hcv1 hn1 hn2 hn3 hn4
 go_loopw [5] (fun i wr=>∃(k:Nat) (va vb:Value),k≤n∧i=.int .i64 (k:Int)∧G2 w jb #[va,vb,.bool false,.int .i64 (-1),.int .i64 0,.int .i64 (-1),.string ⟨#[]⟩,.int .i64 0,.int .i64 0] 141 9 9 va vb (List.replicate k (strV zsec)) (List.replicate k (.string ⟨#[]⟩)) wr) (fun i _=>n-(intOf i).toNat)
 case atStart=>exact⟨0,_,_,by omega,rfl,⟨HJ0.out,World.ownsRow_nil _ _ _ _,World.ownsRow_nil _ _ _ _,by simp[Value.ownBlock],by decide,by decide,HU0.out⟩⟩
 case round=>
  obtain⟨k,va,vb,hk,rfl,hg⟩:=hrel
  obtain⟨av,cv,rfl⟩:=row_shape hg.ra
  obtain⟨aw,cw,rfl⟩:=row_shape hg.rb
  simp only[List.length_replicate] at hg
  have HG:=Lib.hid hg
  clear hg
  obtain⟨h0,h1⟩:=HNN.out
  rcases Nat.lt_or_ge k n with hlt | hge
  ·have e1:decide ((k:Int)<(n:Int))=true:=decide_eq_true (by omega)
   have e2:decide (k<n)=true:=decide_eq_true hlt
   have HLEN:Hid ((List.replicate k (strV zsec)).length=k∧(List.replicate k (Value.string ⟨#[]⟩)).length=k∧k≤100000):=Lib.hid ⟨List.length_replicate ..,List.length_replicate ..,by omega⟩
   have HCC:Hid (∀w':World,w'.heap[jb]?=some (.cells #[.slice av k cv,.slice aw k cw,.bool false,.int .i64 (-1),.int .i64 0,.int .i64 (-1),.string ⟨#[]⟩,.int .i64 0,.int .i64 0] 141 (0,0))→w'.cell? ⟨jb,0,none⟩=some (.slice av k cv)∧w'.cell? ⟨jb,1,none⟩=some (.slice aw k cw)):=Lib.hid (fun w' h=>⟨by rw[blk_cell h];rfl,by rw[blk_cell h];rfl⟩)
   have hwk:=wrap_i64_k hlt (by omega)
   clear h0 h1
   go_wp2_with fail
   refine wp_region_xL (fun w'=>w'.heap[jb]?=some (.cells #[.slice av k cv,.slice aw k cw,.bool false,.int .i64 (-1),.int .i64 0,.int .i64 (-1),.string ⟨#[]⟩,.int .i64 0,.int .i64 0] 141 (0,0))) [17] (by kernel_rfl) (by simp only[List.size_toArray,List.length_cons,List.length_nil,Nat.reduceAdd];exact rfl) (by simp only[List.replicate_succ,List.replicate_zero];exact rfl) HG.out.st (fun hHeld=>?_)
   have HG0:=Lib.hid (HG.out.world (Upd.refl _ wr).drew)
   generalize wr.drew=w0 at hHeld HG0 ⊢
   refine takeL (i:=0) (v:=?_) rfl rfl (by kernel_rfl) (fun _ _ _ h=>h) hHeld (Or.inl ⟨by kernel_rfl,?_⟩) (by dsimp only[List.set_cons_succ,List.set_cons_zero]) (by dsimp only[List.set_cons_succ,List.set_cons_zero]) ?_
   rotate_left
   ·(intro w hSw;go_simp<;>with_reducible rfl)
   refine takeL (i:=2) (v:=?_) rfl rfl (by kernel_rfl) (fun _ _ _ h=>h) hHeld (Or.inl ⟨by kernel_rfl,?_⟩) (by dsimp only[List.set_cons_succ,List.set_cons_zero]) (by dsimp only[List.set_cons_succ,List.set_cons_zero]) ?_
   rotate_left
   ·(intro w hSw;go_simp<;>with_reducible rfl)
   refine takeL (i:=3) (v:=?_) rfl rfl (by kernel_rfl) (fun _ _ _ h=>h) hHeld (Or.inl ⟨by kernel_rfl,?_⟩) (by dsimp only[List.set_cons_succ,List.set_cons_zero]) (by dsimp only[List.set_cons_succ,List.set_cons_zero]) ?_
   rotate_left
   ·(intro w hSw;go_simp<;>with_reducible rfl)
   refine takeL (i:=4) (v:=?_) rfl rfl (by kernel_rfl) (fun _ _ _ h=>h) hHeld (Or.inl ⟨by kernel_rfl,?_⟩) (by dsimp only[List.set_cons_succ,List.set_cons_zero]) (by dsimp only[List.set_cons_succ,List.set_cons_zero]) ?_
   rotate_left
   ·(intro w hSw;go_simp<;>with_reducible rfl)
   refine takeL (i:=5) (v:=?_) rfl rfl (by kernel_rfl) (fun _ _ _ h=>h) hHeld (Or.inl ⟨by kernel_rfl,?_⟩) (by dsimp only[List.set_cons_succ,List.set_cons_zero]) (by dsimp only[List.set_cons_succ,List.set_cons_zero]) ?_
   rotate_left
   ·(intro w hSw;obtain⟨x0,x1⟩:=HCC.out _ hSw;go_simp<;>with_reducible rfl)
   refine takeL (i:=6) (v:=?_) rfl rfl (by kernel_rfl) (fun _ _ _ h=>h) hHeld (Or.inl ⟨by kernel_rfl,?_⟩) (by dsimp only[List.set_cons_succ,List.set_cons_zero]) (by dsimp only[List.set_cons_succ,List.set_cons_zero]) ?_
   rotate_left
   ·(intro w hSw;go_simp<;>with_reducible rfl)
   refine takeL (i:=9) (v:=?_) rfl rfl (by kernel_rfl) (fun _ _ _ h=>h) hHeld (Or.inl ⟨by kernel_rfl,?_⟩) (by dsimp only[List.set_cons_succ,List.set_cons_zero]) (by dsimp only[List.set_cons_succ,List.set_cons_zero]) ?_
   rotate_left
   ·(intro w hSw;go_simp<;>with_reducible rfl)
   refine takeL (i:=10) (v:=?_) rfl rfl (by kernel_rfl) (fun _ _ _ h=>h) hHeld (Or.inl ⟨by kernel_rfl,?_⟩) (by dsimp only[List.set_cons_succ,List.set_cons_zero]) (by dsimp only[List.set_cons_succ,List.set_cons_zero]) ?_
   rotate_left
   ·(intro w hSw;go_simp<;>with_reducible rfl)
   refine takeL (i:=11) (v:=?_) rfl rfl (by kernel_rfl) (fun _ _ _ h=>h) hHeld (Or.inl ⟨by kernel_rfl,?_⟩) (by dsimp only[List.set_cons_succ,List.set_cons_zero]) (by dsimp only[List.set_cons_succ,List.set_cons_zero]) ?_
   rotate_left
   ·(intro w hSw;go_simp<;>with_reducible rfl)
   refine takeL (i:=12) (v:=?_) rfl rfl (by kernel_rfl) (fun _ _ _ h=>h) hHeld (Or.inl ⟨by kernel_rfl,?_⟩) (by dsimp only[List.set_cons_succ,List.set_cons_zero]) (by dsimp only[List.set_cons_succ,List.set_cons_zero]) ?_
   rotate_left
   ·(intro w hSw;obtain⟨x0,x1⟩:=HCC.out _ hSw;go_simp<;>with_reducible rfl)
   refine takeNL (i:=1) (v:=?_) rfl rfl (by kernel_rfl) (fun _ _ _ h=>h) (fun _=>hHeld) (Or.inl ⟨by kernel_rfl,?_⟩) (by dsimp only[List.set_cons_succ,List.set_cons_zero]) (by dsimp only[List.set_cons_succ,List.set_cons_zero]) ?_
   rotate_left
   ·(intro w hSw;go_simp<;>with_reducible rfl)
   have hrn7:=slice_V zsec w0
   have hrn13:=slice_S ⟨#[]⟩ w0
   refine wpAnyX_ready (rs:=[7,13]) (by kernel_rfl) (by simp) (AllReadyX.cons (AllReadyX.one rfl (fun K hK=>?_)) (AllReadyX.one rfl (fun K hK=>?_)))
   ·go_simp
    refine hK.out _ _ (fun _=>(HG0.out.alloc _).st) ?_
    clear hK K hrn7 hrn13
    try simp only[Act.put,List.getElem_toArray,List.getElem_cons_zero,List.getElem_cons_succ,List.setIfInBounds_toArray,List.set_cons_zero,List.set_cons_succ]
    have HG1:=Lib.hid (HG0.out.alloc (.cells #[strV zsec] 9))
    have hl7:(w0.alloc (.cells #[strV zsec] 9)).heap[w0.heap.size]?=some (.cells #[strV zsec] 9 (0,0)):=blk_alloc _
    have HSZ1:Hid (w0.heap.size<(w0.alloc (.cells #[strV zsec] 9)).heap.size):=Lib.hid (blk_lt hl7)
    generalize w0.alloc (.cells #[strV zsec] 9)=w1 at HG1 hl7 HSZ1 ⊢
    have hrn8:=HG1
    have hr13:=slice_S ⟨#[]⟩ w1
    obtain⟨a8,c8,w2,hr8,hg8,hk8⟩:=HG1.out.pushA Tryz.underlying139 infoS9 rfl (by decide) (by have:=HLEN.out;omega) rfl hl7
    simp only[HLEN.out.1] at hr8 hg8
    refine wpAnyX_ready (rs:=[8,13]) (by kernel_rfl) (by simp) (AllReadyX.cons (AllReadyX.one rfl (fun K hK=>?_)) (AllReadyX.one rfl (fun K hK=>?_)))
    ·refine step_append_run (by rfl) _ _ _ (by rfl) (by rfl) (by rfl) hr8 ?_
     refine hK.out _ _ (fun _=>hg8.st) ?_
     clear hK K hr13 hrn8 hr8 hk8
     try simp only[Act.put,List.getElem_toArray,List.getElem_cons_zero,List.getElem_cons_succ,List.setIfInBounds_toArray,List.set_cons_zero,List.set_cons_succ]
     have HG2:=Lib.hid hg8
     clear hg8 hl7
     have hrn:=slice_S ⟨#[]⟩ w2
     refine wpAnyX_ready (rs:=[13]) (by kernel_rfl) (by simp) (AllReadyX.one rfl (fun K hK=>?_))
     go_simp
     refine hK.out _ _ (fun _=>(HG2.out.alloc _).st) ?_
     clear hK K hrn
     try simp only[Act.put,List.getElem_toArray,List.getElem_cons_zero,List.getElem_cons_succ,List.setIfInBounds_toArray,List.set_cons_zero,List.set_cons_succ]
     have HG3:=Lib.hid (HG2.out.alloc (.cells #[.string ⟨#[]⟩] 9))
     have hl13:(w2.alloc (.cells #[.string ⟨#[]⟩] 9)).heap[w2.heap.size]?=some (.cells #[.string ⟨#[]⟩] 9 (0,0)):=blk_alloc _
     generalize w2.alloc (.cells #[.string ⟨#[]⟩] 9)=w3 at HG3 hl13 ⊢
     obtain⟨a9,c9,w4,hr9,hg9⟩:=HG3.out.pushB Tryz.underlying139 infoS9 rfl (by decide) (by have:=HLEN.out;omega) rfl hl13
     simp only[HLEN.out.2.1] at hr9 hg9
     refine wpAnyX_ready (rs:=[14]) (by kernel_rfl) (by simp) (AllReadyX.one rfl (fun K hK=>?_))
     refine step_append_run (by rfl) _ _ _ (by rfl) (by rfl) (by rfl) hr9 ?_
     refine hK.out _ _ (fun _=>hg9.st) ?_
     clear hK K
     try simp only[Act.put,List.getElem_toArray,List.getElem_cons_zero,List.getElem_cons_succ,List.setIfInBounds_toArray,List.set_cons_zero,List.set_cons_succ]
     have HG4:=Lib.hid hg9
     clear hg9 hr9
     refine takeL (i:=15) (v:=?_) rfl rfl (by kernel_rfl) (fun _ _ _ h=>h) HG4.out.st (Or.inl ⟨by kernel_rfl,?_⟩) (by dsimp only[List.set_cons_succ,List.set_cons_zero]) (by dsimp only[List.set_cons_succ,List.set_cons_zero]) ?_
     rotate_left
     ·(intro w hSw;go_simp<;>with_reducible rfl)
     refine takeL (i:=16) (v:=?_) rfl rfl (by kernel_rfl) (fun _ _ _ h=>h) HG4.out.st (Or.inl ⟨by kernel_rfl,?_⟩) (by dsimp only[List.set_cons_succ,List.set_cons_zero]) (by dsimp only[List.set_cons_succ,List.set_cons_zero]) ?_
     rotate_left
     ·(intro w hSw;go_simp<;>with_reducible rfl)
     have hs1:=storeW1 HG4.out.st 0 (v:=.slice a8 (k+1) c8) (by first | (simp;done) | (show _<11;omega)) rfl
     have GA:=Lib.hid (HG4.out.set HJB.out 0 (.slice a8 (k+1) c8))
     have hs2:=storeW1 GA.out.st 1 (v:=.slice a9 (k+1) c9) (by first | (simp;done) | (show _<11;omega)) rfl
     have GB:=Lib.hid (GA.out.set HJB.out 1 (.slice a9 (k+1) c9))
     refine wpAnyX_ready (rs:=[17]) (by kernel_rfl) (by simp) (AllReadyX.one rfl (fun K hK=>?_))
     go_simp
     refine hK.out _ _ (noneUp_any (by kernel_rfl)) ?_
     clear hK K
     try simp only[Act.put,List.getElem_toArray,List.getElem_cons_zero,List.getElem_cons_succ,List.setIfInBounds_toArray,List.set_cons_zero,List.set_cons_succ]
     refine wpAnyX_free (by kernel_rfl) ?_
     refine takeL (i:=18) (v:=?_) rfl rfl (by kernel_rfl) (fun _ _ _ h=>h) trivial (Or.inl ⟨by kernel_rfl,?_⟩) (by dsimp only[List.set_cons_succ,List.set_cons_zero]) (by dsimp only[List.set_cons_succ,List.set_cons_zero]) ?_
     rotate_left
     ·(intro w hSw;go_simp<;>with_reducible rfl)
     refine takeL (i:=19) (v:=?_) rfl rfl (by kernel_rfl) (fun _ _ _ h=>h) trivial (Or.inl ⟨by kernel_rfl,?_⟩) (by dsimp only[List.set_cons_succ,List.set_cons_zero]) (by dsimp only[List.set_cons_succ,List.set_cons_zero]) ?_
     rotate_left
     ·(intro w hSw;go_simp<;>with_reducible rfl)
     refine wpAnyX_ready (rs:=[20]) (by kernel_rfl) (by simp) (AllReadyX.one rfl (fun K hK=>?_))
     go_simp
     refine hK.out _ _ (fun _=>trivial) ?_
     clear hK K
     try simp only[Act.put,List.getElem_toArray,List.getElem_cons_zero,List.getElem_cons_succ,List.setIfInBounds_toArray,List.set_cons_zero,List.set_cons_succ]
     clear hs1 hs2
     refine wpAnyX_done (by kernel_rfl) ?_ _
     have HGF:Hid (G2 w jb #[.slice a8 (k+1) c8,.slice a9 (k+1) c9,.bool false,.int .i64 (-1),.int .i64 0,.int .i64 (-1),.string ⟨#[]⟩,.int .i64 0,.int .i64 0] 141 9 9 (.slice a8 (k+1) c8) (.slice a9 (k+1) c9) (List.replicate (k+1) (strV zsec)) (List.replicate (k+1) (.string ⟨#[]⟩)) ((w4.setCell ⟨jb,0,none⟩ (.slice a8 (k+1) c8)).setCell ⟨jb,1,none⟩ (.slice a9 (k+1) c9))):=by
      show G2 _ _ _ _ _ _ _ _ _ _ _
      rw[List.replicate_succ',List.replicate_succ']
      exact GB.out
     go_wp2_with fail
     exact⟨⟨k+1,_,_,by omega,by go_num,HGF.out⟩,by simp[intOf];omega⟩
    ·go_simp
     refine hK.out _ _ (fun _=>(HG1.out.alloc _).st) ?_
     clear hK K hr13 hr8 hg8 hk8 hrn8
     clear w2 a8 c8
     try simp only[Act.put,List.getElem_toArray,List.getElem_cons_zero,List.getElem_cons_succ,List.setIfInBounds_toArray,List.set_cons_zero,List.set_cons_succ]
     have HG2:=Lib.hid (HG1.out.alloc (.cells #[.string ⟨#[]⟩] 9))
     have hl13:(w1.alloc (.cells #[.string ⟨#[]⟩] 9)).heap[w1.heap.size]?=some (.cells #[.string ⟨#[]⟩] 9 (0,0)):=blk_alloc _
     replace hl7:(w1.alloc (.cells #[.string ⟨#[]⟩] 9)).heap[w0.heap.size]?=some (.cells #[strV zsec] 9 (0,0)):=(blk_alloc_ne (blk_lt hl7)).trans hl7
     have HSZ:Hid (w0.heap.size≤w1.heap.size):=Lib.hid (Nat.le_of_lt HSZ1.out)
     generalize w1.alloc (.cells #[.string ⟨#[]⟩] 9)=w2 at HG2 hl13 hl7 ⊢
     obtain⟨a8,c8,w3,hr8,hg8,hk8⟩:=HG2.out.pushA Tryz.underlying139 infoS9 rfl (by decide) (by have:=HLEN.out;omega) rfl hl7
     simp only[HLEN.out.1] at hr8 hg8
     replace hl13:=(hk8 _ (blk_lt hl13) (by intro q;have:=(row_lt HG0.out.ra _ q).1;have:=HSZ.out;omega)).trans hl13
     refine wpAnyX_ready (rs:=[8]) (by kernel_rfl) (by simp) (AllReadyX.one rfl (fun K hK=>?_))
     refine step_append_run (by rfl) _ _ _ (by rfl) (by rfl) (by rfl) hr8 ?_
     refine hK.out _ _ (fun _=>hg8.st) ?_
     clear hK K
     try simp only[Act.put,List.getElem_toArray,List.getElem_cons_zero,List.getElem_cons_succ,List.setIfInBounds_toArray,List.set_cons_zero,List.set_cons_succ]
     have HG3:=Lib.hid hg8
     clear hg8 hk8 hr8
     obtain⟨a9,c9,w4,hr9,hg9⟩:=HG3.out.pushB Tryz.underlying139 infoS9 rfl (by decide) (by have:=HLEN.out;omega) rfl hl13
     simp only[HLEN.out.2.1] at hr9 hg9
     refine wpAnyX_ready (rs:=[14]) (by kernel_rfl) (by simp) (AllReadyX.one rfl (fun K hK=>?_))
     refine step_append_run (by rfl) _ _ _ (by rfl) (by rfl) (by rfl) hr9 ?_
     refine hK.out _ _ (fun _=>hg9.st) ?_
     clear hK K
     try simp only[Act.put,List.getElem_toArray,List.getElem_cons_zero,List.getElem_cons_succ,List.setIfInBounds_toArray,List.set_cons_zero,List.set_cons_succ]
     have HG4:=Lib.hid hg9
     clear hg9 hr9
     refine takeL (i:=15) (v:=?_) rfl rfl (by kernel_rfl) (fun _ _ _ h=>h) HG4.out.st (Or.inl ⟨by kernel_rfl,?_⟩) (by dsimp only[List.set_cons_succ,List.set_cons_zero]) (by dsimp only[List.set_cons_succ,List.set_cons_zero]) ?_
     rotate_left
     ·(intro w hSw;go_simp<;>with_reducible rfl)
     refine takeL (i:=16) (v:=?_) rfl rfl (by kernel_rfl) (fun _ _ _ h=>h) HG4.out.st (Or.inl ⟨by kernel_rfl,?_⟩) (by dsimp only[List.set_cons_succ,List.set_cons_zero]) (by dsimp only[List.set_cons_succ,List.set_cons_zero]) ?_
     rotate_left
     ·(intro w hSw;go_simp<;>with_reducible rfl)
     have hs1:=storeW1 HG4.out.st 0 (v:=.slice a8 (k+1) c8) (by first | (simp;done) | (show _<11;omega)) rfl
     have GA:=Lib.hid (HG4.out.set HJB.out 0 (.slice a8 (k+1) c8))
     have hs2:=storeW1 GA.out.st 1 (v:=.slice a9 (k+1) c9) (by first | (simp;done) | (show _<11;omega)) rfl
     have GB:=Lib.hid (GA.out.set HJB.out 1 (.slice a9 (k+1) c9))
     refine wpAnyX_ready (rs:=[17]) (by kernel_rfl) (by simp) (AllReadyX.one rfl (fun K hK=>?_))
     go_simp
     refine hK.out _ _ (noneUp_any (by kernel_rfl)) ?_
     clear hK K
     try simp only[Act.put,List.getElem_toArray,List.getElem_cons_zero,List.getElem_cons_succ,List.setIfInBounds_toArray,List.set_cons_zero,List.set_cons_succ]
     refine wpAnyX_free (by kernel_rfl) ?_
     refine takeL (i:=18) (v:=?_) rfl rfl (by kernel_rfl) (fun _ _ _ h=>h) trivial (Or.inl ⟨by kernel_rfl,?_⟩) (by dsimp only[List.set_cons_succ,List.set_cons_zero]) (by dsimp only[List.set_cons_succ,List.set_cons_zero]) ?_
     rotate_left
     ·(intro w hSw;go_simp<;>with_reducible rfl)
     refine takeL (i:=19) (v:=?_) rfl rfl (by kernel_rfl) (fun _ _ _ h=>h) trivial (Or.inl ⟨by kernel_rfl,?_⟩) (by dsimp only[List.set_cons_succ,List.set_cons_zero]) (by dsimp only[List.set_cons_succ,List.set_cons_zero]) ?_
     rotate_left
     ·(intro w hSw;go_simp<;>with_reducible rfl)
     refine wpAnyX_ready (rs:=[20]) (by kernel_rfl) (by simp) (AllReadyX.one rfl (fun K hK=>?_))
     go_simp
     refine hK.out _ _ (fun _=>trivial) ?_
     clear hK K
     try simp only[Act.put,List.getElem_toArray,List.getElem_cons_zero,List.getElem_cons_succ,List.setIfInBounds_toArray,List.set_cons_zero,List.set_cons_succ]
     clear hs1 hs2
     refine wpAnyX_done (by kernel_rfl) ?_ _
     have HGF:Hid (G2 w jb #[.slice a8 (k+1) c8,.slice a9 (k+1) c9,.bool false,.int .i64 (-1),.int .i64 0,.int .i64 (-1),.string ⟨#[]⟩,.int .i64 0,.int .i64 0] 141 9 9 (.slice a8 (k+1) c8) (.slice a9 (k+1) c9) (List.replicate (k+1) (strV zsec)) (List.replicate (k+1) (.string ⟨#[]⟩)) ((w4.setCell ⟨jb,0,none⟩ (.slice a8 (k+1) c8)).setCell ⟨jb,1,none⟩ (.slice a9 (k+1) c9))):=by
      show G2 _ _ _ _ _ _ _ _ _ _ _
      rw[List.replicate_succ',List.replicate_succ']
      exact GB.out
     go_wp2_with fail
     exact⟨⟨k+1,_,_,by omega,by go_num,HGF.out⟩,by simp[intOf];omega⟩
   ·go_simp
    refine hK.out _ _ (fun _=>(HG0.out.alloc _).st) ?_
    clear hK K hrn7 hrn13
    try simp only[Act.put,List.getElem_toArray,List.getElem_cons_zero,List.getElem_cons_succ,List.setIfInBounds_toArray,List.set_cons_zero,List.set_cons_succ]
    have HG1:=Lib.hid (HG0.out.alloc (.cells #[.string ⟨#[]⟩] 9))
    have hl13:(w0.alloc (.cells #[.string ⟨#[]⟩] 9)).heap[w0.heap.size]?=some (.cells #[.string ⟨#[]⟩] 9 (0,0)):=blk_alloc _
    have HSZ:Hid (w0.heap.size≤w0.heap.size):=Lib.hid (Nat.le_refl _)
    generalize w0.alloc (.cells #[.string ⟨#[]⟩] 9)=w1 at HG1 hl13 ⊢
    have hrn:=slice_V zsec w1
    refine wpAnyX_ready (rs:=[7]) (by kernel_rfl) (by simp) (AllReadyX.one rfl (fun K hK=>?_))
    go_simp
    refine hK.out _ _ (fun _=>(HG1.out.alloc _).st) ?_
    clear hK K hrn
    try simp only[Act.put,List.getElem_toArray,List.getElem_cons_zero,List.getElem_cons_succ,List.setIfInBounds_toArray,List.set_cons_zero,List.set_cons_succ]
    have HG2:=Lib.hid (HG1.out.alloc (.cells #[strV zsec] 9))
    have hl7:(w1.alloc (.cells #[strV zsec] 9)).heap[w1.heap.size]?=some (.cells #[strV zsec] 9 (0,0)):=blk_alloc _
    replace hl13:(w1.alloc (.cells #[strV zsec] 9)).heap[w0.heap.size]?=some (.cells #[.string ⟨#[]⟩] 9 (0,0)):=(blk_alloc_ne (blk_lt hl13)).trans hl13
    generalize w1.alloc (.cells #[strV zsec] 9)=w2 at HG2 hl13 hl7 ⊢
    obtain⟨a8,c8,w3,hr8,hg8,hk8⟩:=HG2.out.pushA Tryz.underlying139 infoS9 rfl (by decide) (by have:=HLEN.out;omega) rfl hl7
    simp only[HLEN.out.1] at hr8 hg8
    replace hl13:=(hk8 _ (blk_lt hl13) (by intro q;have:=(row_lt HG0.out.ra _ q).1;have:=HSZ.out;omega)).trans hl13
    refine wpAnyX_ready (rs:=[8]) (by kernel_rfl) (by simp) (AllReadyX.one rfl (fun K hK=>?_))
    refine step_append_run (by rfl) _ _ _ (by rfl) (by rfl) (by rfl) hr8 ?_
    refine hK.out _ _ (fun _=>hg8.st) ?_
    clear hK K
    try simp only[Act.put,List.getElem_toArray,List.getElem_cons_zero,List.getElem_cons_succ,List.setIfInBounds_toArray,List.set_cons_zero,List.set_cons_succ]
    have HG3:=Lib.hid hg8
    clear hg8 hk8 hr8
    obtain⟨a9,c9,w4,hr9,hg9⟩:=HG3.out.pushB Tryz.underlying139 infoS9 rfl (by decide) (by have:=HLEN.out;omega) rfl hl13
    simp only[HLEN.out.2.1] at hr9 hg9
    refine wpAnyX_ready (rs:=[14]) (by kernel_rfl) (by simp) (AllReadyX.one rfl (fun K hK=>?_))
    refine step_append_run (by rfl) _ _ _ (by rfl) (by rfl) (by rfl) hr9 ?_
    refine hK.out _ _ (fun _=>hg9.st) ?_
    clear hK K
    try simp only[Act.put,List.getElem_toArray,List.getElem_cons_zero,List.getElem_cons_succ,List.setIfInBounds_toArray,List.set_cons_zero,List.set_cons_succ]
    have HG4:=Lib.hid hg9
    clear hg9 hr9
    refine takeL (i:=15) (v:=?_) rfl rfl (by kernel_rfl) (fun _ _ _ h=>h) HG4.out.st (Or.inl ⟨by kernel_rfl,?_⟩) (by dsimp only[List.set_cons_succ,List.set_cons_zero]) (by dsimp only[List.set_cons_succ,List.set_cons_zero]) ?_
    rotate_left
    ·(intro w hSw;go_simp<;>with_reducible rfl)
    refine takeL (i:=16) (v:=?_) rfl rfl (by kernel_rfl) (fun _ _ _ h=>h) HG4.out.st (Or.inl ⟨by kernel_rfl,?_⟩) (by dsimp only[List.set_cons_succ,List.set_cons_zero]) (by dsimp only[List.set_cons_succ,List.set_cons_zero]) ?_
    rotate_left
    ·(intro w hSw;go_simp<;>with_reducible rfl)
    have hs1:=storeW1 HG4.out.st 0 (v:=.slice a8 (k+1) c8) (by first | (simp;done) | (show _<11;omega)) rfl
    have GA:=Lib.hid (HG4.out.set HJB.out 0 (.slice a8 (k+1) c8))
    have hs2:=storeW1 GA.out.st 1 (v:=.slice a9 (k+1) c9) (by first | (simp;done) | (show _<11;omega)) rfl
    have GB:=Lib.hid (GA.out.set HJB.out 1 (.slice a9 (k+1) c9))
    refine wpAnyX_ready (rs:=[17]) (by kernel_rfl) (by simp) (AllReadyX.one rfl (fun K hK=>?_))
    go_simp
    refine hK.out _ _ (noneUp_any (by kernel_rfl)) ?_
    clear hK K
    try simp only[Act.put,List.getElem_toArray,List.getElem_cons_zero,List.getElem_cons_succ,List.setIfInBounds_toArray,List.set_cons_zero,List.set_cons_succ]
    refine wpAnyX_free (by kernel_rfl) ?_
    refine takeL (i:=18) (v:=?_) rfl rfl (by kernel_rfl) (fun _ _ _ h=>h) trivial (Or.inl ⟨by kernel_rfl,?_⟩) (by dsimp only[List.set_cons_succ,List.set_cons_zero]) (by dsimp only[List.set_cons_succ,List.set_cons_zero]) ?_
    rotate_left
    ·(intro w hSw;go_simp<;>with_reducible rfl)
    refine takeL (i:=19) (v:=?_) rfl rfl (by kernel_rfl) (fun _ _ _ h=>h) trivial (Or.inl ⟨by kernel_rfl,?_⟩) (by dsimp only[List.set_cons_succ,List.set_cons_zero]) (by dsimp only[List.set_cons_succ,List.set_cons_zero]) ?_
    rotate_left
    ·(intro w hSw;go_simp<;>with_reducible rfl)
    refine wpAnyX_ready (rs:=[20]) (by kernel_rfl) (by simp) (AllReadyX.one rfl (fun K hK=>?_))
    go_simp
    refine hK.out _ _ (fun _=>trivial) ?_
    clear hK K
    try simp only[Act.put,List.getElem_toArray,List.getElem_cons_zero,List.getElem_cons_succ,List.setIfInBounds_toArray,List.set_cons_zero,List.set_cons_succ]
    clear hs1 hs2
    refine wpAnyX_done (by kernel_rfl) ?_ _
    have HGF:Hid (G2 w jb #[.slice a8 (k+1) c8,.slice a9 (k+1) c9,.bool false,.int .i64 (-1),.int .i64 0,.int .i64 (-1),.string ⟨#[]⟩,.int .i64 0,.int .i64 0] 141 9 9 (.slice a8 (k+1) c8) (.slice a9 (k+1) c9) (List.replicate (k+1) (strV zsec)) (List.replicate (k+1) (.string ⟨#[]⟩)) ((w4.setCell ⟨jb,0,none⟩ (.slice a8 (k+1) c8)).setCell ⟨jb,1,none⟩ (.slice a9 (k+1) c9))):=by
     show G2 _ _ _ _ _ _ _ _ _ _ _
     rw[List.replicate_succ',List.replicate_succ']
     exact GB.out
    go_wp2_with fail
    exact⟨⟨k+1,_,_,by omega,by go_num,HGF.out⟩,by simp[intOf];omega⟩
  ·obtain rfl:k=n:=by omega
   have e1:decide ((k:Int)<(k:Int))=false:=by simp
   have e2:decide (k<k)=false:=by simp
   have HR:Hid (∃g:RG,g.rb=jb∧(∀q,q∈g.all→w.heap.size≤q)∧RdkAt wr g (Dk.new k)):=by
    show ∃g,_
    have hg:=HG.out
    obtain⟨ga,ca,ra,ea,ba,ha⟩:=row_bl hg.ra (by rw[List.length_replicate];omega)
    obtain⟨gb,cb,rb,eb,bb,hb⟩:=row_bl hg.rb (by rw[List.length_replicate];omega)
    rw[List.length_replicate] at ea eb
    refine⟨⟨jb,ga,gb,ca,cb⟩,rfl,?_,⟨⟨0,?_⟩,⟨ra,?_⟩,⟨rb,?_⟩,rfl,rfl,rfl,Dk.new_ok h0 h1,?_⟩⟩
    ·intro q hq
     simp[RG.all] at hq
     rcases hq with rfl | rfl | rfl
     ·exact HJB.out
     ·exact ba
     ·exact bb
    ·have:=hg.st
     rw[ea,eb] at this
     exact this
    ·have e:lastL (Dk.new k)=List.replicate k (strV zsec):=by
      unfold lastL;rw[show(fun i=>strV ((Dk.new k).last i))=fun _=>strV zsec from rfl,List.map_const',List.length_range];rfl
     show wr.heap[ga]?=_
     rw[e];exact ha
    ·have e:waitL (Dk.new k)=List.replicate k (.string ⟨#[]⟩):=by
      unfold waitL;rw[show(fun i=>wtV ((Dk.new k).wait i))=fun _=> .string ⟨#[]⟩ from rfl,List.map_const',List.length_range];rfl
     show wr.heap[gb]?=_
     rw[e];exact hb
    ·intro q
     have q2:ga=gb:=q
     refine hg.ne ga (by rw[ea];rfl) (by rw[eb,q2];rfl)
   clear h0 h1
   go_wp2_with fail
   go_ret
   obtain⟨g,e,hb,hr⟩:=HR.out
   exact⟨g,by rw[e];rfl,hb,hr,HG.out.up⟩
end
section
attribute [-go_sem] loadCells storeCells Instr.build Instr.buildSlice run_string_add_if run_slice_l run_slice_h run_slice_string run_slice_string_h run_slice_string_l
def rzK(D:Dk)(k:Nat):Dk:=if k=2 then(D.zeroK k).flush.1 else D.zeroK k
theorem rzK_n(D:Dk)(k:Nat):(rzK D k).n=D.n:=by
 unfold rzK
 split
 ·rw[Dk.flush_n,Dk.zeroK_n]
 ·rw[Dk.zeroK_n]
theorem zeroK_succ(D:Dk)(k:Nat):D.zeroK (k+1)=((rzK D k).write (k:Int) zsec).1:=rfl
theorem rzK_on{D:Dk}(h:D.On){k:Nat}(hk:k≤D.n):(rzK D k).On:=by
 unfold rzK
 split
 ·exact(h.zeroK k hk).flushed.1
 ·exact h.zeroK k hk
theorem RdkAt.len{w:World}{g:RG}{D:Dk}(h:RdkAt w g D):w.cell? ⟨g.rb,0,none⟩=some (.slice (some ⟨g.lb,0,none⟩) D.n g.cl):=by
 obtain⟨x,hx⟩:=h.st
 rw[blk_cell hx];rfl
set_option maxRecDepth 100000 in
set_option maxHeartbeats 4000000 in
theorem rformat_spec{w:World}{g:RG}{D:Dk}(h:RdkAt w g D)(ring:Nat)(h0:8≤ring)(h1:ring≤1024)(h2:ring+10≤D.n) :
  Calls Tryz.prog 30 #[.pointer (some ⟨g.rb,0,none⟩),.int .i64 (ring:Int)] w fun e w'=>e=.returned (.int .i64 0)∧RdkAt w' g (D.fmt ring)∧Upd g.all w w':=by
 have H:=Lib.hid h
 have hn1:=h.ok.n1
 have hon:D.On:=⟨h.off,h.armed⟩
 have HON:=Lib.hid hon
 have c0:=h.len
 obtain⟨n,hn⟩:∃n,n=D.n:=⟨_,rfl⟩
 rw[← hn] at c0 h2 hn1
 have a1:decide ((ring:Int)<8)=false:=decide_eq_false (by omega)
 have a2:decide (1024<(ring:Int))=false:=decide_eq_false (by omega)
 have a3:decide (ring<8)=false:=decide_eq_false (by omega)
 have a4:decide (1024<ring)=false:=decide_eq_false (by omega)
 have a5:decide ((n:Int)<(ring:Int)+10)=false:=decide_eq_false (by omega)
 have HN:=Lib.hid (And.intro hn (And.intro hn1 (And.intro h0 (And.intro h1 h2))))
 clear h hn hon
 go_enter Tryz.func30,Tryz.ntmps30
 go_wp2_with fail
 refine(rzeros_spec _ 512 (by omega) (by omega)).mono ?_
 rintro e w1 ⟨rfl,hu1⟩
 have HD1:Hid (RdkAt w1 g (rzK D 0)):=Lib.hid (H.out.below hu1)
 have HU1:=Lib.hid hu1
 clear hu1 c0 a1 a2 a3 a4 a5
 have ez:Value.string (str (List.replicate 512 0))=.string (str zsec):=rfl
 rw[ez]
 clear ez
 go_wp2_with fail
 go_loopw [6] (fun i wr=>∃k:Nat,k≤n∧i=.int .i64 (k:Int)∧RdkAt wr g (rzK D k)∧Upd g.all w wr) (fun i _=>n-(intOf i).toNat)
 case atStart=>exact⟨0,by omega,rfl,HD1.out,HU1.out.mono (by simp)⟩
 case round=>
  obtain⟨k,hk,rfl,hd,hu⟩:=hrel
  have c0:=hd.len
  rw[rzK_n,← HN.out.1] at c0
  have HD:=Lib.hid hd
  have HU:=Lib.hid hu
  rcases Nat.lt_or_ge k n with hlt | hge
  ·have e1:decide ((k:Int)<(n:Int))=true:=decide_eq_true (by omega)
   have e2:decide (k<n)=true:=decide_eq_true hlt
   have hwr:=rwrite_spec hd (k:Int) zsec
   rw[((rzK_on HON.out (k:=k) (by rw[← HN.out.1];exact hk)).written (i:=k) (by rw[rzK_n,← HN.out.1];exact hlt) zsec_len0).2,← zeroK_succ] at hwr
   have HWR:=Lib.hid hwr
   clear hwr hd hu
   go_wp2_with fail
   refine HWR.out.mono ?_
   rintro e w2 ⟨rfl,hd2,hu2⟩
   have HD2:=Lib.hid hd2
   have HU2:=Lib.hid (HU.out.trans hu2)
   clear hd2 hu2 c0
   by_cases h1k:k=1
   ·have f1:((k:Int) == 1)=true:=by rw[h1k];rfl
    have HK:=Lib.hid h1k
    clear h1k
    go_wp2_with fail
    refine(rflush_spec HD2.out).mono ?_
    rintro e w3 ⟨rfl,_,hd3,hu3⟩
    have HD3:Hid (RdkAt w3 g (rzK D (k+1))):=by
     show RdkAt _ _ _
     unfold rzK
     rw[if_pos (by rw[HK.out])]
     exact hd3
    have HU3:=Lib.hid (HU2.out.trans hu3)
    clear hd3 hu3
    go_wp2_with fail
    exact⟨⟨k+1,by omega,by go_num,HD3.out,HU3.out⟩,by simp[intOf];omega⟩
   ·have f1:((k:Int) == 1)=false:=by rw[beq_eq_false_iff_ne];omega
    have HD3:Hid (RdkAt w2 g (rzK D (k+1))):=by
     show RdkAt _ _ _
     unfold rzK
     rw[if_neg (by omega)]
     exact HD2.out
    clear h1k
    go_wp2_with fail
    exact⟨⟨k+1,by omega,by go_num,HD3.out,HU2.out⟩,by simp[intOf];omega⟩
  ·obtain rfl:k=n:=by omega
   have e1:decide ((k:Int)<(k:Int))=false:=by simp
   have e2:decide (k<k)=false:=by simp
   obtain⟨hn,hn1,h0,h1,h2⟩:=HN.out
   have hd':RdkAt wr g (D.zeroK D.n):=by
    have:=hd
    unfold rzK at this
    rw[if_neg (by omega),hn] at this
    exact this
   have HD':=Lib.hid hd'
   have hfl:=HON.out.zeroK D.n (Nat.le_refl _)
   have HFL:=Lib.hid (rflush_spec hd')
   have HZN:Hid ((D.zeroK D.n).flush.1.On∧1<(D.zeroK D.n).flush.1.n):=Lib.hid ⟨hfl.flushed.1,by rw[Dk.flush_n,Dk.zeroK_n];omega⟩
   clear hd hd' hu hfl hn hn1 h2
   go_wp2_with fail
   refine HFL.out.mono ?_
   rintro e w2 ⟨rfl,_,hd2,hu2⟩
   have HU2:=Lib.hid (HU.out.trans hu2)
   have HD2:=Lib.hid hd2
   have HAN:=Lib.hid (ranchor_spec w2 1 1 0 ring (by omega) (by omega) (by omega) (by omega))
   clear hd2 hu2 c0 h0 h1
   go_wp2_with fail
   refine HAN.out.mono ?_
   rintro e w3 ⟨rfl,hu3⟩
   have ea:ancB 1 1 0 ring=Anc.sector ⟨1,1,0,ring⟩:=(anc_bytes ⟨1,1,0,ring⟩).symm
   rw[ea]
   have hwr:=rwrite_spec (HD2.out.below hu3) 1 (Anc.sector ⟨1,1,0,ring⟩)
   have hon2:=HZN.out.1.written (i:=1) HZN.out.2 (Anc.sector_length ⟨1,1,0,ring⟩)
   have e11:(((1:Nat):Int))=1:=rfl
   rw[e11] at hon2
   rw[hon2.2] at hwr
   have HWR:=Lib.hid hwr
   have HU3:=Lib.hid (HU2.out.trans (hu3.mono (by simp)))
   clear ea hwr hon2 e11 hu3
   go_wp2_with fail
   refine HWR.out.mono ?_
   rintro e w4 ⟨rfl,hd4,hu4⟩
   have HF4:=Lib.hid (rflush_spec hd4)
   have HU4:=Lib.hid (HU3.out.trans hu4)
   clear hd4 hu4
   go_wp2_with fail
   refine HF4.out.mono ?_
   rintro e w5 ⟨rfl,_,hd5,hu5⟩
   have HD5:=Lib.hid hd5
   have HU5:=Lib.hid (HU4.out.trans hu5)
   clear hd5 hu5
   go_wp2_with fail
   go_ret
   exact⟨rfl,HD5.out,HU5.out⟩
end
section
attribute [-go_sem] loadCells storeCells Instr.build Instr.buildSlice run_string_add_if run_slice_l run_slice_h run_slice_string run_slice_string_h run_slice_string_l
theorem okB_num{x:Sec}{n:Nat}(h:(ancOf x).okB n=true):(ancOf x).number=numI x 0 8∧0<numI x 0 8:=by
 have h1:=(Anc.okB_parts h).1
 have h2:=numI_nonneg x 0 8
 have e:(ancOf x).number=tagOf x:=rfl
 rw[e] at h1 ⊢
 unfold tagOf at h1 ⊢
 split at h1
 ·rename_i q
  rw[if_pos q]
  exact⟨rfl,by omega⟩
 ·exact absurd rfl h1
theorem anc_pick{D:Dk}{s0 s1:Bool}(e0:s0=(ancOf (D.now 0)).okB D.n)(e1:s1=(ancOf (D.now 1)).okB D.n) :
  (s0=true→s1=true→numI (D.now 0) 0 8<numI (D.now 1) 0 8→D.anc=ancOf (D.now 1))∧(s0=true→s1=true→¬(numI (D.now 0) 0 8<numI (D.now 1) 0 8)→D.anc=ancOf (D.now 0))∧
   (s0=false→s1=true→D.anc=ancOf (D.now 1))∧(s0=true→s1=false→D.anc=ancOf (D.now 0))∧(s0=false→s1=false→D.anc.number=0):=by
 have hk1:D.ancK 1=if(ancOf (D.now 0)).okB D.n=true∧(0:Int)<(ancOf (D.now 0)).number then ancOf (D.now 0) else⟨0,0,0,0⟩:=rfl
 have hk2:D.anc=if(ancOf (D.now 1)).okB D.n=true∧(D.ancK 1).number<(ancOf (D.now 1)).number then ancOf (D.now 1) else D.ancK 1:=rfl
 rw[← e0] at hk1
 rw[← e1] at hk2
 refine⟨fun a b c=>?_,fun a b c=>?_,fun a b=>?_,fun a b=>?_,fun a b=>?_⟩
 ·obtain⟨p1,p2⟩:=okB_num (e0.symm.trans a)
  obtain⟨q1,q2⟩:=okB_num (e1.symm.trans b)
  rw[if_pos ⟨a,by rw[p1];exact p2⟩] at hk1
  rw[hk2,if_pos ⟨b,by rw[hk1,p1,q1];exact c⟩]
 ·obtain⟨p1,p2⟩:=okB_num (e0.symm.trans a)
  obtain⟨q1,q2⟩:=okB_num (e1.symm.trans b)
  rw[if_pos ⟨a,by rw[p1];exact p2⟩] at hk1
  rw[hk2,if_neg (by rw[hk1,p1,q1];exact fun q=>c q.2),hk1]
 ·obtain⟨q1,q2⟩:=okB_num (e1.symm.trans b)
  rw[if_neg (by rw[a];simp)] at hk1
  rw[hk2,if_pos ⟨b,by rw[hk1,q1];exact q2⟩]
 ·obtain⟨p1,p2⟩:=okB_num (e0.symm.trans a)
  rw[if_pos ⟨a,by rw[p1];exact p2⟩] at hk1
  rw[hk2,if_neg (by rw[b];simp),hk1]
 ·rw[if_neg (by rw[a];simp)] at hk1
  rw[hk2,if_neg (by rw[b];simp),hk1]
theorem Scan.turn{D:Dk}{J J':Jn}(h:Scan D J J'):J.turn≤J'.turn∧J'.last=J.last:=by
 induction h with
 | stop _=>exact⟨Int.le_refl _,rfl⟩
 | step _ _ ih=>exact⟨by have:=ih.1;have e:∀(J:Jn) l,(J.note l).turn=J.turn+1:=fun _ _=>rfl;rw[e] at this;omega,ih.2⟩
theorem Scan.stop_eq{D:Dk}{J J':Jn}(h:Scan D J J')(hs:J.stands D=[]):J'=J:=by
 cases h with
 | stop _=>rfl
 | step q _=>exact absurd hs q
theorem Scan.step_of{D:Dk}{J J':Jn}(h:Scan D J J')(hs:J.stands D≠[]):Scan D (J.note (J.stands D)) J':=by
 cases h with
 | stop q=>exact absurd q hs
 | step _ h=>exact h
def Jn.u0(J:Jn):Jn:={ J with used:=0 }
theorem u0_settled(J:Jn):J.u0.settled=J.settled:=rfl
theorem u0_homeF(J:Jn)(D:Dk):∀k,homeF J.u0 D k=homeF J D k
 | 0=>rfl
 | k+1=>by
  unfold homeF
  rw[u0_homeF J D k];rfl
theorem u0_homeD(J:Jn)(D:Dk):homeD J.u0 D=homeD J D:=by
 unfold homeD
 rw[u0_homeF];rfl
theorem stL_nodup{J:Jn}{D:Dk}{n:Nat}(hg:∀k,k<n→J.stGood D k)(hn:n≤J.stN D):∀k,k≤n→((J.stL D k).map (·.1)).Nodup
 | 0,_=>by simp[Jn.stL]
 | k+1,hk=>by
  rw[Jn.stL_succ,List.map_append,List.nodup_append]
  refine⟨stL_nodup hg hn k (by omega),by simp,?_⟩
  intro a ha b hb
  simp at hb
  rintro rfl
  have h3:=(hg k (by omega)).2.2
  refine h3 ((mem_seenK (by omega) _).2 ?_)
  rw[List.mem_map] at ha
  obtain⟨p,hp,e⟩:=ha
  unfold Jn.stL at hp
  rw[List.mem_map] at hp
  obtain⟨m,hm,rfl⟩:=hp
  exact⟨m,by simpa using hm,by rw[hb] at e;exact e⟩
theorem stands_good{J:Jn}{D:Dk}(hok:D.Ok):PutsGood (J.homes D.n) (J.stands D):=by
 obtain⟨h1,h2⟩:=Jn.stands_in (J:=J) hok
 refine⟨h2,?_,by omega⟩
 by_cases hs:J.stands D=[]
 ·rw[hs];simp
 ·obtain⟨e,hg⟩:=Jn.stands_eq hs
  rw[e]
  exact stL_nodup hg (Nat.le_refl _) _ (Nat.le_refl _)
theorem RjmAt.noted0{w:World}{q:QG}{J:Jn}{D:Dk}{l:List Put}(h:RjmAt w q (notedM J l l.length) D)(hJ:J.Ok D.n)(hg:PutsGood (J.homes D.n) l)(hu:J.used=0)(ht:J.turn<4611686018427387000) :
  RjmAt ((w.setCell ⟨q.jb,4,none⟩ (.int .i64 (((J.place+1+l.length) % J.last.ring:Nat):Int))).setCell ⟨q.jb,3,none⟩ (.int .u64 (J.turn+1))) q (J.note l).u0 D∧
   Upd q.own w ((w.setCell ⟨q.jb,4,none⟩ (.int .i64 (((J.place+1+l.length) % J.last.ring:Nat):Int))).setCell ⟨q.jb,3,none⟩ (.int .u64 (J.turn+1))):=by
 have hap:=h.apart
 obtain⟨nl,hn1,hn2⟩:=h.now
 have hnj:q.nb≠q.jb:=by
  intro e
  obtain⟨r1,hl⟩:=hn1
  have:=h.st
  rw[← e,hl] at this;simp at this
 have haj:q.ab≠q.jb:=by
  intro e
  obtain⟨r,hr⟩:=h.away
  have:=h.st
  rw[← e,hr] at this;simp at this
 have u:Upd [q.jb] w ((w.setCell ⟨q.jb,4,none⟩ (.int .i64 (((J.place+1+l.length) % J.last.ring:Nat):Int))).setCell ⟨q.jb,3,none⟩ (.int .u64 (J.turn+1))):=((Upd.refl _ _).set _ (.inl (by simp))).set _ (.inl (by simp))
 have hok:=notedM_ok hJ hg l.length (Nat.le_refl _)
 refine⟨⟨h.disk.upd u (fun x hx=>by simp;rintro rfl;exact hap _ (by simp[QG.own]) hx),?_,?_,⟨nl,hn1.upd u (by simp;exact hnj),?_⟩,?_,h.ne⟩,u.mono (by simp[QG.own])⟩
 ·have:=blk_set (blk_set h.st 4 (.int .i64 (((J.place+1+l.length) % J.last.ring:Nat):Int))) 3 (.int .u64 (J.turn+1))
  have e:(notedM J l l.length).used=0:=hu
  rw[e] at this
  exact this
 ·have:=h.away.upd u (by simp;exact haj)
  rw[notedM_all] at this
  exact this
 ·rw[notedM_all] at hn2
  exact hn2
 ·have hr:=hJ.ring0
  have hr1:=hJ.ring1
  refine⟨hJ.ring0,hJ.ring1,hJ.fits,hJ.lplace,Nat.mod_lt _ (by omega),hJ.num0,hJ.num1,hJ.lturn0,?_,?_,?_,?_⟩
  ·have:=hJ.turn0;show 1≤J.turn+1;omega
  ·show J.turn+1<4611686018427389000;omega
  ·show 0≤100000000;omega
  ·intro i s e
   refine hok.away i s ?_
   rw[notedM_all]
   exact e
theorem RdkAt.lt{w:World}{g:RG}{D:Dk}(h:RdkAt w g D):∀k,k∈g.all→k<w.heap.size:=by
 obtain⟨x,hx⟩:=h.st
 intro k hk
 simp[RG.all] at hk
 rcases hk with rfl | rfl | rfl
 ·exact blk_lt hx
 ·exact h.last.lt
 ·exact h.wait.lt
def rjC(rb:Nat)(D:Dk)(hm:Nat)(va vn:Value):Array Value:=
 #[.pointer (some ⟨rb, 0, none⟩), .int .i64 (D.anc.ring : Int), .int .u64 D.anc.number, .int .u64 D.anc.turn, .int .i64 (D.anc.place : Int), .int .i64 (hm : Int), va, vn, .int .i64 0, .int .i64 D.lives, .bool false]
def nowK(D:Dk)(k:Nat):List Value:=(List.range k).map fun i=>strV (D.now (2+D.anc.ring+i))
theorem nowK_length(D:Dk)(k:Nat):(nowK D k).length=k:=by unfold nowK;rw[List.length_map,List.length_range]
theorem nowK_succ(D:Dk)(k:Nat):nowK D (k+1)=nowK D k ++ [strV (D.now (2+D.anc.ring+k))]:=by
 unfold nowK;rw[List.range_succ,List.map_append];rfl
theorem rj_boot{w W:World}{g:RG}{D:Dk}{jb hm:Nat}{va vn:Value}(hd:RdkAt W g D)(hlt:∀k,k∈g.all→k<w.heap.size)(hanc:D.anc.number≠0)(hhm:hm=D.boot.homes D.n)(hjb:w.heap.size≤jb)
  (h:G2 w jb (rjC g.rb D hm va vn) 150 9 4 vn va (nowK D hm) (List.replicate hm (.bool false)) W) :
  ∃q:QG,q.r=g∧q.jb=jb∧(∀k,k∈q.own→w.heap.size≤k)∧RjmAt W q D.boot D:=by
 have hok:=Dk.boot_ok hanc
 have hpos:0<hm:=by
  rw[hhm]
  have:=hok.fits
  unfold Jn.homes;omega
 obtain⟨ga,ca,ra,ea,ba,ha⟩:=row_bl h.rb (by rw[List.length_replicate];exact hpos)
 obtain⟨gn,cn,rn,en,bn,hn⟩:=row_bl h.ra (by rw[nowK_length];exact hpos)
 rw[List.length_replicate] at ea
 rw[nowK_length] at en
 have hst:=h.st
 rw[ea,en] at hst
 refine⟨⟨jb,ga,gn,ca,cn,g⟩,rfl,rfl,?_,⟨hd,?_,?_,⟨nowK D hm,⟨rn,hn⟩,?_⟩,hok,?_⟩⟩
 ·intro k hk
  simp[QG.own] at hk
  rcases hk with rfl | rfl | rfl
  ·exact hjb
  ·exact ba
  ·exact bn
 ·rw[← hhm];exact hst
 ·refine⟨ra,?_⟩
  have e:awayB D.boot.away (D.boot.homes D.n)=List.replicate hm (.bool false):=by
   unfold awayB
   rw[← hhm,show(fun i=>Value.bool (D.boot.away i).isSome)=fun _=>Value.bool false from rfl,List.map_const',List.length_range]
  rw[e];exact ha
 ·rw[← hhm]
  refine⟨nowK_length D hm,fun i hi=>⟨_,by unfold nowK;rw[List.getElem?_map,List.getElem?_range hi];rfl⟩,fun i s _ e=>?_⟩
  simp[Dk.boot] at e
 ·have h1:=hlt g.lb (by simp[RG.all])
  have h2:=hlt g.wb (by simp[RG.all])
  exact⟨by show gn≠g.lb;omega,by show gn≠g.wb;omega⟩
theorem build_rj(rb:Nat)(S T P R L:Int)(w:World):(Instr.build 150 #[(0,.pointer (some ⟨rb,0,none⟩)),(2,.int .u64 S),(3,.int .u64 T),(4,.int .i64 P),(1,.int .i64 R),(9,.int .i64 L)]).run Tryz.prog w =
  .ok (.agg #[.pointer (some ⟨rb,0,none⟩),.int .i64 R,.int .u64 S,.int .u64 T,.int .i64 P,.int .i64 0,.slice none 0 0,.slice none 0 0,.int .i64 0,.int .i64 L,.bool false]) w:=run_build w _ _ _ (by kernel_rfl)
end
end Go.Proofs.YtplppdbdfhkljaaGreat
end
