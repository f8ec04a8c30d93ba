/-
  pack's read, walked.
-/
import Derived.Test.YtgfbepakonjbnaaGreatU13
import Derived.Test.YtgfbepakonjbnaaGreatU24
import Derived.Test.YtgfbepakonjbnaaGreatU11
import Derived.ChangeKeysEq
import Derived.Test.YtgfbepakonjbnaaGreatU23
section
set_option linter.unusedSimpArgs false
set_option linter.unusedVariables false
namespace Go.Proofs.YtgfbepakonjbnaaGreat
open Go.RowKit Go.MapKept Go.ChangeMaps
section
attribute [local go_sem] Oper.semAt_some
theorem bytes_app2{w:World}{B:Nat}{v x:Value}{l lx:List UInt8}(hp:BRow w B v l)(hx:Rd w x lx)(hx0:0<lx.length)(hln:l.length+lx.length≤100000)(hB:B≤w.heap.size) :
  ∃a c w' S,(∀ty,(Builtin.append_ #[32,32] ty #[v,x]).run Tryz.prog w=.ok (.slice a (l.length+lx.length) c) w')∧BRow w' B (.slice a (l.length+lx.length) c) (l++lx)∧
   Upd S w w'∧∀k,k∈S→B≤k∧∃c,w.heap[k]?=some (.cells c 5 (0,0)):=by
 obtain⟨ao,cap,rfl,hcx,hh⟩:=hx.cells
 obtain⟨i0,hi0,hz0,hz1,hz2⟩:=info_parts infoU8
 obtain⟨ad,rfl,hcell⟩:=hh hx0
 obtain⟨v',w',hrun,hown,hg,_⟩:=run_append_own (P:=Tryz.prog) w B 32 0 5 i0 (.int .u8 0) 1 1 Tryz.underlying32 hi0 hz0 hz1 hz2 rfl (by decide) v l.length _ hp ad lx.length cap (bts lx) (by rw[bts_length,Nat.mul_one])
  (fun k u hj=>hcell k u hj) (bts_one _) (by unfold maxLen;omega) (by omega) hB
 have hsh:∃a c,v'=.slice a (l.length+lx.length) c:=by
  rcases hown.2 with⟨h,h0⟩ | ⟨g,cap,cur,h,_⟩
  ·exact⟨none,0,by rw[h,h0]⟩
  ·exact⟨_,_,h⟩
 obtain⟨a,c',rfl⟩:=hsh
 have hbr:BRow w' B (.slice a (l.length+lx.length) c') (l++lx):=by
  unfold BRow
  rw[List.length_append,show bts (l++lx)=bts l++bts lx by simp[bts]]
  exact hown
 rcases hp.2 with⟨rfl,_⟩ | ⟨g,cap,cur,rfl,hb,hgb,_⟩
 ·exact⟨a,c',w',[],fun _=>hrun,hbr,⟨hg.os,hg.tape,hg.output,hg.size,fun k hk _=>hg.block k hk (by simp[Value.ownBlock])⟩,by simp⟩
 ·refine⟨a,c',w',[g],fun _=>hrun,hbr,⟨hg.os,hg.tape,hg.output,hg.size,fun k hk hs=>hg.block k hk (by simp[Value.ownBlock];simp at hs;exact fun e=>hs e)⟩,?_⟩
  intro k hk
  simp at hk
  subst hk
  exact⟨hb,_,hgb⟩
def rdV(av:Option Addr)(nv cv bk cp pb fr tt:Nat)(ao:Option Addr)(no co:Nat):List (Nat × Nat × Value):=[(0,29,.slice av nv cv),(1,30,.slice (some ⟨bk,0,none⟩) 512 cp),(2,31,.pointer (some ⟨pb,1,none⟩)),(3,32,.int .i64 (fr:Int)),(4,33,.pointer (some ⟨pb,2,none⟩)),(5,34,.int .i64 (tt:Int)),(6,35,.slice (some ⟨bk,fr,none⟩) (tt-fr) (cp-fr)),(7,36,.slice ao no co)]
structure RdJ(w W:World)(g:Sg)(M:Nat→Option Sec)(s a0 n0:Nat)(d:List UInt8)(q a' n' f':Nat)(vo:Value):Prop where
 le:n'≤f'
 sum:a'+n'=a0+n0
 from_:a0≤a'
 drop:(pcs s n0 a0 n0).drop q=pcs s f' a' n'
 sp:SpAt W g M
 b1:W.heap[w.heap.size+1]?=some (.cells #[.pointer (some ⟨g.x.tb,0,none⟩)] 28 (0,0))
 b2:W.heap[w.heap.size+1+1]?=some (.cells #[.slice none 0 0] 32 (0,0))
 b3:W.heap[w.heap.size+1+1+1]?=some (.cells #[.int .i64 0] 29 (0,0))
 b4:W.heap[w.heap.size+1+1+1+1]?=some (.cells #[vo] 32 (0,0))
 row:BRow W (w.heap.size+10) vo ((d.drop a0).take (a'-a0))
 b5:∃v,W.heap[w.heap.size+1+1+1+1+1+1]?=some (.cells #[v] 3 (0,0))
 upd:Upd [g.j.jb] w W
def RdI(w W:World)(g:Sg)(M:Nat→Option Sec)(s a0 n0:Nat)(d:List UInt8)(q:Nat):Prop:=∃a' n' f' vo,RdJ w W g M s a0 n0 d q a' n' f' vo
theorem RdJ.keep{w W W':World}{g:Sg}{M:Nat→Option Sec}{s a0 n0:Nat}{d:List UInt8}{q a' n' f':Nat}{vo:Value}(h:RdJ w W g M s a0 n0 d q a' n' f' vo)(h0:SpAt w g M){S:List Nat}(hu:Upd S W W')
  (hS:∀k,k∈S→w.heap.size≤k∧k≠w.heap.size+1∧k≠w.heap.size+1+1∧k≠w.heap.size+1+1+1∧k≠w.heap.size+1+1+1+1∧∀c,W.heap[k]?≠some (.cells c 5 (0,0)))
  (h5:∃v,W'.heap[w.heap.size+1+1+1+1+1+1]?=some (.cells #[v] 3 (0,0))):RdJ w W' g M s a0 n0 d q a' n' f' vo:=by
 refine⟨h.le,h.sum,h.from_,h.drop,h0.late h.sp h.upd hu (fun k hk=>(hS k hk).1),?_,?_,?_,?_,?_,h5,?_⟩
 ·exact(hu.block _ (blk_lt h.b1) (fun q=>(hS _ q).2.1 rfl)).trans h.b1
 ·exact(hu.block _ (blk_lt h.b2) (fun q=>(hS _ q).2.2.1 rfl)).trans h.b2
 ·exact(hu.block _ (blk_lt h.b3) (fun q=>(hS _ q).2.2.2.1 rfl)).trans h.b3
 ·exact(hu.block _ (blk_lt h.b4) (fun q=>(hS _ q).2.2.2.2.1 rfl)).trans h.b4
 ·exact h.row.other fun k c e=>hu.block _ (blk_lt e) (fun q=>(hS _ q).2.2.2.2.2 c e)
 ·exact h.upd.late hu (fun i hi=> .inr (hS i hi).1)
set_option maxRecDepth 100000 in
set_option maxHeartbeats 4000000 in
theorem readP_spec{w:World}{g:Sg}{M:Nat→Option Sec}(h:SpAt w g M)(hh2:g.h≤4096)(s u v a0 n0:Nat)(d:List UInt8)(hs2:s+16≤g.h)(ha:a0+n0≤d.length)(hdl:d.length≤8192)
  (hd:PkD (g.cur M) s d) :
  Calls Tryz.prog 176 #[stV (s,u,v),.pointer (some ⟨g.x.tb,0,none⟩),.int .i64 (a0:Int),.int .i64 (n0:Int)] w fun e w'=>∃x,e=.returned (.tuple #[x,.int .i64 0])∧BRow w' w.heap.size x ((d.drop a0).take n0)∧SpAt w' g M∧Upd [g.j.jb] w w':=by
 have hlt:=h.lt
 obtain⟨w4,hw4⟩:∃w4,w4=((((w.alloc (.cells #[.int .i64 (s:Int),.int .i64 (u:Int),.int .i64 (v:Int)] 200)).alloc (.cells #[.pointer (some ⟨g.x.tb,0,none⟩)] 28)).alloc (.cells #[.slice none 0 0] 32)).alloc (.cells #[.int .i64 0] 29)).alloc (.cells #[.slice none 0 0] 32):=⟨_,rfl⟩
 unfold stV
 refine(callsIn_wide (n:=5)).1 ?_
 refine callsIn_of_wp_marks Tryz.func176 rfl trivial ?_ rfl
 simp only[Tryz.ntmps176,List.size_toArray,List.length_cons,List.length_nil,Nat.reduceAdd,Nat.reduceSub,Array.replicate_succ,Array.replicate_zero,List.push_toArray,List.append_toArray,List.nil_append,List.cons_append]
 gi_wp2_with fail
 refine⟨trivial,(callsIn_wide.2 (pieces_spec _ _ _ _ _ _)).mono ?_⟩
 rintro e w7 ⟨rfl,hw7⟩
 rw[← hw4] at hw7
 have e4:w4.heap.size=w.heap.size+1+1+1+1+1:=by rw[hw4];simp
 have e7:w7.heap.size=w.heap.size+1+1+1+1+1+1+1+1:=by rw[hw7];simp[e4]
 rw[← hw4,e4]
 have hu4:Upd [] w w4:=by rw[hw4];exact(((((Upd.refl _ _).alloc _).alloc _).alloc _).alloc _).alloc _
 have hu7:Upd [] w w7:=by rw[hw7];exact((hu4.alloc _).alloc _).alloc _
 have hB1:w7.heap[w.heap.size+1]?=some (.cells #[.pointer (some ⟨g.x.tb,0,none⟩)] 28 (0,0)):=by rw[hw7,hw4];simp only[alloc_get,World.size_alloc];repeat (first | rw[if_pos trivial] | rw[if_pos rfl] | rw[if_neg (by omega)])
 have hB2:w7.heap[w.heap.size+1+1]?=some (.cells #[.slice none 0 0] 32 (0,0)):=by rw[hw7,hw4];simp only[alloc_get,World.size_alloc];repeat (first | rw[if_pos trivial] | rw[if_pos rfl] | rw[if_neg (by omega)])
 have hB3:w7.heap[w.heap.size+1+1+1]?=some (.cells #[.int .i64 0] 29 (0,0)):=by rw[hw7,hw4];simp only[alloc_get,World.size_alloc];repeat (first | rw[if_pos trivial] | rw[if_pos rfl] | rw[if_neg (by omega)])
 have hB4:w7.heap[w.heap.size+1+1+1+1]?=some (.cells #[.slice none 0 0] 32 (0,0)):=by rw[hw7,hw4];simp only[alloc_get,World.size_alloc];repeat (first | rw[if_pos trivial] | rw[if_pos rfl] | rw[if_neg (by omega)])
 have hB5:w7.heap[w.heap.size+1+1+1+1+1]?=some (.cells #[.int .i64 (s:Int),.int .i64 (u:Int),.int .i64 (v:Int)] 200 (0,0)):=by rw[hw7,hw4];simp only[alloc_get,World.size_alloc];repeat (first | rw[if_pos trivial] | rw[if_pos rfl] | rw[if_neg (by omega)])
 have hB6:w7.heap[w.heap.size+1+1+1+1+1+1]?=some (.cells #[.int .i64 (a0:Int)] 3 (0,0)):=by rw[hw7,hw4];simp only[alloc_get,World.size_alloc];repeat (first | rw[if_pos trivial] | rw[if_pos rfl] | rw[if_neg (by omega)])
 have hB7:w7.heap[w.heap.size+1+1+1+1+1+1+1]?=some (.cells #[.int .i64 (n0:Int)] 3 (0,0)):=by rw[hw7,hw4];simp only[alloc_get,World.size_alloc];repeat (first | rw[if_pos trivial] | rw[if_pos rfl] | rw[if_neg (by omega)])
 clear hw4 hw7
 gi_wp2_with fail
 refine wpIn_rangeFunc_gives rfl (by omega) (gf:=255) (encs:=encP) (L:=pcs s n0 a0 n0) (bs:=[w.heap.size+1+1+1+1+1+1,w.heap.size+1+1+1+1+1+1+1,w.heap.size+1+1+1+1+1]) (b1:=w.heap.size+1+1+1+1+1+1) (lb:=#[.pointer (some ⟨w.heap.size+1+1+1+1+1+1,0,none⟩),.pointer (some ⟨w.heap.size+1+1+1+1+1+1+1,0,none⟩),.pointer (some ⟨w.heap.size+1+1+1+1+1,0,none⟩)]) rfl trivial
  (enters_of Tryz.func255 (by kernel_rfl) rfl) (pieces_gives hB6 hB7 hB5 (by omega) (by omega) (by omega) (by omega) _) (fun b hb=>?_) (by omega) (fun _=>rfl)
  (fun q W=>RdI w W g M s a0 n0 d q) ?_ ?_ ?_ ?_ ?_
 ·simp at hb;omega
 ·intro q W W' hI hu hn
  obtain⟨a1,n1,f1,v1,hJ⟩:=hI
  obtain⟨v5,b5⟩:=hJ.b5
  refine⟨a1,n1,f1,v1,hJ.keep h hu (fun k hk=>?_) ⟨v5,(hu.block _ (blk_lt b5) (by simp;omega)).trans b5⟩⟩
  have hk':=hk
  simp at hk'
  refine⟨by omega,by omega,by omega,by omega,by omega,fun c e=>hn k hk _ e⟩
 ·intro q W v' hI
  obtain⟨a1,n1,f1,v1,hJ⟩:=hI
  obtain⟨v5,b5⟩:=hJ.b5
  refine⟨a1,n1,f1,v1,hJ.keep h (S:=[w.heap.size+1+1+1+1+1+1]) ((Upd.refl _ _).set _ (by simp)) (fun k hk=>?_) ⟨v',by rw[blk_set b5];rfl⟩⟩
  simp at hk
  subst hk
  refine⟨by omega,by omega,by omega,by omega,by omega,fun c e=>?_⟩
  rw[b5] at e
  injection e with e
  injection e with _ q2
  exact absurd q2 (by decide)
 ·exact⟨a0,n0,n0,_,⟨Nat.le_refl _,rfl,Nat.le_refl _,rfl,h.below hu7,hB1,hB2,hB3,hB4,by rw[Nat.sub_self,List.take_zero];exact BRow.nil _ _,⟨_,hB6⟩,hu7.mono (by simp)⟩⟩
 ·intro l q x W hl hx hI hlW
  obtain⟨a',n',f',vo,hJ⟩:=hI
  obtain⟨hpos,rfl,f2,hf2,hdn⟩:=pcs_step hJ.le hJ.drop hx
  obtain⟨v5,b5⟩:=hJ.b5
  obtain⟨fr,hfr⟩:∃fr,fr=a' % 512:=⟨_,rfl⟩
  obtain⟨k,hk⟩:∃k,k=min (512-fr) n':=⟨_,rfl⟩
  obtain⟨se,hse⟩:∃se,se=s+a' / 512:=⟨_,rfl⟩
  obtain⟨tt,htt⟩:∃tt,tt=fr+k:=⟨_,rfl⟩
  rw[← hfr,← hk] at hdn
  rw[← hfr,← hk,← hse,← htt]
  unfold encP
  dsimp only
  obtain⟨pb,hpb⟩:∃pb,pb=W.heap.size:=⟨_,rfl⟩
  obtain⟨W1,hW1⟩:∃W1,W1=W.alloc (.cells #[.int .i64 (se:Int),.int .i64 (fr:Int),.int .i64 (tt:Int)] 317):=⟨_,rfl⟩
  have hB1':W1.heap[pb]?=some (.cells #[.int .i64 (se:Int),.int .i64 (fr:Int),.int .i64 (tt:Int)] 317 (0,0)):=by rw[hW1,hpb];exact blk_alloc _
  have hU1:Upd [] W W1:=by rw[hW1];exact(Upd.refl _ _).alloc _
  have HFR:=Lib.hid hfr
  have HKK:=Lib.hid hk
  have HSE:=Lib.hid hse
  have HTT:=Lib.hid htt
  have HPB:=Lib.hid hpb
  have HW1:=Lib.hid hW1
  have HE7:=Lib.hid e7
  have HL:=Lib.hid hl
  clear hW1 hfr hk hse htt hpb e7 e4 hl
  gi_wp2_with fail
  have hpb:=HPB.out
  have hW1:=HW1.out
  rw[← hW1]
  clear hW1 hpb
  have hwl:w7.heap.size≤W.heap.size:=by have:=HL.out;omega
  have hJ1:RdJ w W1 g M s a0 n0 d q a' n' f' vo:=hJ.keep h (S:=[]) hU1 (by simp) ⟨v5,(hU1.block _ (blk_lt b5) (by simp)).trans b5⟩
  refine⟨fun b hb=>hU1.block _ (by have:=HL.out;simp at hb;omega) (by simp),fun W2 hu2 ho2=>?_⟩
  have hJ2:RdJ w W2 g M s a0 n0 d q a' n' f' vo:=hJ1.keep h hu2 (fun k hk=>by
   have e7:=HE7.out
   have hl:=HL.out
   simp at hk
   subst hk
   refine⟨by omega,by omega,by omega,by omega,by omega,fun c e=>?_⟩
   obtain⟨o,ho,hn⟩:=ho2
   rw[e] at ho
   cases ho
   exact hn) (by
   have e7:=HE7.out
   have hl:=HL.out
   have b5':=(hU1.block _ (blk_lt b5) (by simp)).trans b5
   exact⟨v5,(hu2.block _ (blk_lt b5') (by simp;omega)).trans b5'⟩)
  have hB2':W2.heap[pb]?=some (.cells #[.int .i64 (se:Int),.int .i64 (fr:Int),.int .i64 (tt:Int)] 317 (0,0)):=(hu2.block _ (blk_lt hB1') (by
   have e7:=HE7.out
   have hl:=HL.out
   have hpb:=HPB.out
   simp;omega)).trans hB1'
  have c1:W2.cell? ⟨w.heap.size+1,0,none⟩=some (.pointer (some ⟨g.x.tb,0,none⟩)):=by rw[blk_cell hJ2.b1];rfl
  have p0:W2.cell? ⟨W.heap.size,0,none⟩=some (.int .i64 (se:Int)):=by rw[← HPB.out,blk_cell hB2'];rfl
  have HRD:=Lib.hid (readS hJ2.sp se (by
   have h1:=HSE.out
   have h2:=hJ.sum
   have h3:=hpos
   omega))
  have HJ:=Lib.hid hJ
  have HJ2:=Lib.hid hJ2
  have HB2:=Lib.hid hB2'
  have HU2:=Lib.hid hu2
  have HU1W:=Lib.hid hU1
  have HDN:=Lib.hid hdn
  have HF2:=Lib.hid hf2
  clear hJ hJ1 hJ2 hB2' hu2 ho2 hU1 hB1' hdn hf2 hx b5
  gi_wp2_with fail
  refine⟨trivial,(CallsIn.inRound l (callsIn_wide.2 HRD.out)).mono ?_⟩
  rintro e W3 ⟨bv0,rfl,ho,h3,hu3⟩
  have hLl:=HJ2.out.sp.cur_len se
  obtain⟨L,hL⟩:∃L,L=g.cur M se:=⟨_,rfl⟩
  rw[← hL] at ho hLl
  obtain⟨bk,bc,rfl,hbc,hbk,-⟩:=ho.sec hLl
  obtain⟨bk',rest,hbk',ebk,hrow⟩:=ho.own (by omega)
  obtain⟨rfl,rfl⟩:bk=bk'∧L.length+rest.length=bc:=by
   injection ebk with e1 e2 e3
   injection e1 with e1
   injection e1 with e1
   exact⟨e1,e3.symm⟩
  have hlt3:∀k,k∈[g.j.jb]→k<w.heap.size:=fun k hk=>hlt.1 k (g.mem k hk)
  have hne3:∀k,w.heap.size≤k→k∉[g.j.jb]:=fun k hk q=>by have:=hlt3 k q;omega
  have b1:=(hu3.block _ (blk_lt HJ2.out.b1) (hne3 _ (by omega))).trans HJ2.out.b1
  have b2:=(hu3.block _ (blk_lt HJ2.out.b2) (hne3 _ (by omega))).trans HJ2.out.b2
  have b3:=(hu3.block _ (blk_lt HJ2.out.b3) (hne3 _ (by omega))).trans HJ2.out.b3
  have b4:=(hu3.block _ (blk_lt HJ2.out.b4) (hne3 _ (by omega))).trans HJ2.out.b4
  have bp:=(hu3.block _ (blk_lt HB2.out) (hne3 _ (by have:=HPB.out;have:=HE7.out;omega))).trans HB2.out
  have row3:BRow W3 (w.heap.size+10) vo ((d.drop a0).take (a'-a0)):=HJ2.out.row.other fun k c e=>hu3.block _ (blk_lt e) (fun q=>by
   simp at q
   subst q
   have:=HJ2.out.sp.jr.at_.st
   rw[this] at e
   injection e with e
   injection e with _ q2
   exact absurd q2 (by decide))
  have hsum:=HJ2.out.sum
  have hfrm:=HJ2.out.from_
  have hpl:((d.drop a0).take (a'-a0)).length=a'-a0:=by rw[List.length_take,List.length_drop];omega
  obtain⟨av,cv,rfl,_,_⟩:=row3.shape
  rw[hpl] at row3 b4
  have hfr512:fr<512:=by have:=HFR.out;omega
  have hkl:k≤n'∧fr+k≤512∧1≤k:=by have:=HKK.out;omega
  have htt:=HTT.out
  have hpart:(L.drop fr).take k=(d.drop a').take k:=by
   have:=hd.part (a:=a') (k:=k) (by have:=HFR.out;omega) (by omega) (by rw[← HSE.out,← hL];exact hLl)
   rw[← HFR.out,← HSE.out,← hL] at this
   exact this
  have hrs:Rd W3.drew (.slice (some ⟨bk,fr,none⟩) (tt-fr) (L.length+rest.length-fr)) ((d.drop a').take k):=by
   have h0:Rd W3 (.slice (some ⟨bk,0,none⟩) L.length (L.length+rest.length)) L:=by
    have:=(ho.own (by omega)).rd
    rw[hLl] at *
    exact this
   have:=h0.sub fr k (L.length+rest.length-fr) (by omega) (by omega)
   rw[hpart,Nat.zero_add,show k=tt-fr by omega] at this
   rw[show k=tt-fr by omega]
   exact this.below ((Upd.refl _ _).drew)
  have hsl:((d.drop a').take k).length=k:=by rw[List.length_take,List.length_drop];omega
  obtain⟨ao,co,W4,S4,hcp0,hrow4,hu4',hS4⟩:=bytes_app2 (B:=w.heap.size+10) (row3.keep ((Upd.refl [] W3).drew)) hrs (by omega) (by rw[hpl];omega) (by
   have h1:=HE7.out
   have h2:=HL.out
   have h3:=HU1W.out.size
   have h4:=HU2.out.size
   have h5:=hu3.size
   show _≤W3.heap.size
   omega)
  rw[hpl,hsl] at hcp0 hrow4
  obtain⟨no,hno⟩:∃no,no=a'-a0+k:=⟨_,rfl⟩
  obtain⟨nv,hnv⟩:∃nv,nv=a'-a0:=⟨_,rfl⟩
  rw[hpl] at *
  rw[← hno,← hnv] at hcp0
  rw[← hno] at hrow4
  rw[← hnv] at b4
  have hcp:∀ty,(Builtin.append_ #[32,32] ty #[.slice av nv cv,.slice (some ⟨bk,fr,none⟩) (tt-fr) (512+rest.length-fr)]).run Tryz.prog W3.drew=.ok (.slice ao no co) W4:=by
   rw[← hLl];exact hcp0
  have hu4w:Upd S4 W3 W4:=((Upd.refl _ _).drew).trans hu4'
  have hS4':∀k,k∈S4→w.heap.size+10≤k∧∃c,W3.heap[k]?=some (.cells c 5 (0,0)):=hS4
  have hno4:∀(k:Nat) (c:Array Value) (T:TypeId) (fr:Nat × Nat),W3.heap[k]?=some (.cells c T fr)→T≠5→k∉S4:=fun k c T fr e hT q=>by
   obtain⟨_,c2,e2⟩:=hS4' k q
   rw[e] at e2
   injection e2 with e2
   injection e2 with _ q2
   exact hT q2
  have HU3:=Lib.hid hu3
  have HU4:=Lib.hid hu4w
  have HL2:=Lib.hid hL
  have HSP3:=Lib.hid h3
  have HROW:=Lib.hid hrow4
  have HS4:=Lib.hid hS4'
  have HNO:=Lib.hid hno
  have HNV:=Lib.hid hnv
  have m2:W3.cell? ⟨w.heap.size+1+1+1+1,0,none⟩=some (.slice av nv cv):=by rw[blk_cell b4];rfl
  have q1:W3.cell? ⟨W.heap.size,1,none⟩=some (.int .i64 (fr:Int)):=by rw[← HPB.out,blk_cell bp];rfl
  have q2:W3.cell? ⟨W.heap.size,2,none⟩=some (.int .i64 (tt:Int)):=by rw[← HPB.out,blk_cell bp];rfl
  have b1':=(hu4w.block _ (blk_lt b1) (hno4 _ _ _ _ b1 (by decide))).trans b1
  have b2':=(hu4w.block _ (blk_lt b2) (hno4 _ _ _ _ b2 (by decide))).trans b2
  have b3':=(hu4w.block _ (blk_lt b3) (hno4 _ _ _ _ b3 (by decide))).trans b3
  have b4':=(hu4w.block _ (blk_lt b4) (hno4 _ _ _ _ b4 (by decide))).trans b4
  have m2_:W3.drew.cell? ⟨w.heap.size+1+1+1+1,0,none⟩=some (.slice av nv cv):=m2
  have q1_:W3.drew.cell? ⟨W.heap.size,1,none⟩=some (.int .i64 (fr:Int)):=q1
  have q2_:W3.drew.cell? ⟨W.heap.size,2,none⟩=some (.int .i64 (tt:Int)):=q2
  have n2_:W4.cell? ⟨w.heap.size+1+1+1+1,0,none⟩=some (.slice av nv cv):=by rw[blk_cell b4'];rfl
  have fz_:=blk_free b4' 0
  obtain⟨W5,hW5⟩:∃W5,W5=W4.setCell ⟨w.heap.size+1+1+1+1,0,none⟩ (.slice ao no co):=⟨_,rfl⟩
  have HW5:=Lib.hid hW5
  have HB1C:=Lib.hid b1'
  have HB2C:=Lib.hid b2'
  have HB3C:=Lib.hid b3'
  have HB4C:=Lib.hid b4'
  have i0:(0:Int)≤(fr:Int):=by omega
  have i1:(fr:Int)≤(tt:Int):=by omega
  have i2:(tt:Int)≤512+(rest.length:Int):=by omega
  have i6:fr≤tt:=by omega
  have i3:¬(512+rest.length=fr):=by omega
  clear hW5 m2 q1 q2 b1' b2' b3' b4' hu4' hu4w hu3 h3 ho row3 b1 b2 b3 b4 bp hrow hL hbk' ebk htt hbk hrs hsl hpl hcp0 hrow4 hS4 hS4' hno hnv hpart c1 p0 hno4
  gi_wp2_with fail
  --REG
  refine wpIn_region_w (fun L=>(if L 7=true then(if L 8=true then W5 else W4) else W3.drew)) (rdV av nv cv bk (512+rest.length) W.heap.size fr tt ao no co) (by kernel_rfl) (by kernel_rfl) 38 rfl rfl rfl ?_ ?_
  ·intro i o L tmps w' ho hI hL hd hcl
   have hi:i<9:=(Array.getElem?_eq_some_iff.1 ho).1
   have t10:tmps[10]?.getD undef=.pointer (some ⟨w.heap.size+1+1+1+1,0,none⟩):=(hI.old 10 (by rfl)).trans rfl
   have t11:tmps[11]?.getD undef=.pointer (some ⟨W.heap.size,0,none⟩):=(hI.old 11 (by rfl)).trans rfl
   have t12:tmps[12]?.getD undef=.slice (some ⟨bk,0,none⟩) 512 (512+rest.length):=(hI.old 12 (by rfl)).trans rfl
   obtain rfl | rfl | rfl | rfl | rfl | rfl | rfl | rfl | rfl:i=0∨i=1∨i=2∨i=3∨i=4∨i=5∨i=6∨i=7∨i=8:=by omega
   ·cases ho
    have g7:L 7=false:=hcl.not_up (i:=0) (s:=7) 9 (by kernel_rfl) hL
    have g8:L 8=false:=hcl.not_up (i:=0) (s:=8) 9 (by kernel_rfl) hL
    have hw0:w'=W3.drew:=by rw[hI.wd];simp[g7,g8]
    have m2:w'.cell? ⟨w.heap.size+1+1+1+1,0,none⟩=some (.slice av nv cv):=by rw[hw0];exact m2_
    have q1:w'.cell? ⟨W.heap.size,1,none⟩=some (.int .i64 (fr:Int)):=by rw[hw0];exact q1_
    have q2:w'.cell? ⟨W.heap.size,2,none⟩=some (.int .i64 (tt:Int)):=by rw[hw0];exact q2_
    have HW0:=Lib.hid hw0
    clear hw0
    refine wpOpIn_step rfl (fun K hK=>?_)
    go_simp
    exact hK _ _ (hI.val_step 0 29 (.slice av nv cv) (by decide) (by rw[hI.wd];rfl) (by simp[rdV]) (by kernel_rfl))
   ·cases ho
    have g7:L 7=false:=hcl.not_up (i:=1) (s:=7) 9 (by kernel_rfl) hL
    have g8:L 8=false:=hcl.not_up (i:=1) (s:=8) 9 (by kernel_rfl) hL
    have hw0:w'=W3.drew:=by rw[hI.wd];simp[g7,g8]
    have m2:w'.cell? ⟨w.heap.size+1+1+1+1,0,none⟩=some (.slice av nv cv):=by rw[hw0];exact m2_
    have q1:w'.cell? ⟨W.heap.size,1,none⟩=some (.int .i64 (fr:Int)):=by rw[hw0];exact q1_
    have q2:w'.cell? ⟨W.heap.size,2,none⟩=some (.int .i64 (tt:Int)):=by rw[hw0];exact q2_
    have HW0:=Lib.hid hw0
    clear hw0
    refine wpOpIn_step rfl (fun K hK=>?_)
    go_simp
    exact hK _ _ (hI.val_step 1 30 (.slice (some ⟨bk,0,none⟩) 512 (512+rest.length)) (by decide) (by rw[hI.wd];rfl) (by simp[rdV]) (by kernel_rfl))
   ·cases ho
    have g7:L 7=false:=hcl.not_up (i:=2) (s:=7) 9 (by kernel_rfl) hL
    have g8:L 8=false:=hcl.not_up (i:=2) (s:=8) 9 (by kernel_rfl) hL
    have hw0:w'=W3.drew:=by rw[hI.wd];simp[g7,g8]
    have m2:w'.cell? ⟨w.heap.size+1+1+1+1,0,none⟩=some (.slice av nv cv):=by rw[hw0];exact m2_
    have q1:w'.cell? ⟨W.heap.size,1,none⟩=some (.int .i64 (fr:Int)):=by rw[hw0];exact q1_
    have q2:w'.cell? ⟨W.heap.size,2,none⟩=some (.int .i64 (tt:Int)):=by rw[hw0];exact q2_
    have HW0:=Lib.hid hw0
    clear hw0
    refine wpOpIn_step rfl (fun K hK=>?_)
    go_simp
    exact hK _ _ (hI.val_step 2 31 (.pointer (some ⟨W.heap.size,1,none⟩)) (by decide) (by rw[hI.wd];rfl) (by simp[rdV]) (by kernel_rfl))
   ·cases ho
    have t31:tmps[31]?.getD undef=.pointer (some ⟨W.heap.size,1,none⟩):=hI.val (2,31,_) (by simp[rdV]) (hd ⟨2,.data⟩ (by simp) rfl)
    have g7:L 7=false:=hcl.not_up (i:=3) (s:=7) 9 (by kernel_rfl) hL
    have g8:L 8=false:=hcl.not_up (i:=3) (s:=8) 9 (by kernel_rfl) hL
    have hw0:w'=W3.drew:=by rw[hI.wd];simp[g7,g8]
    have m2:w'.cell? ⟨w.heap.size+1+1+1+1,0,none⟩=some (.slice av nv cv):=by rw[hw0];exact m2_
    have q1:w'.cell? ⟨W.heap.size,1,none⟩=some (.int .i64 (fr:Int)):=by rw[hw0];exact q1_
    have q2:w'.cell? ⟨W.heap.size,2,none⟩=some (.int .i64 (tt:Int)):=by rw[hw0];exact q2_
    have HW0:=Lib.hid hw0
    clear hw0
    refine wpOpIn_step rfl (fun K hK=>?_)
    go_simp
    exact hK _ _ (hI.val_step 3 32 (.int .i64 (fr:Int)) (by decide) (by rw[hI.wd];rfl) (by simp[rdV]) (by kernel_rfl))
   ·cases ho
    have g7:L 7=false:=hcl.not_up (i:=4) (s:=7) 9 (by kernel_rfl) hL
    have g8:L 8=false:=hcl.not_up (i:=4) (s:=8) 9 (by kernel_rfl) hL
    have hw0:w'=W3.drew:=by rw[hI.wd];simp[g7,g8]
    have m2:w'.cell? ⟨w.heap.size+1+1+1+1,0,none⟩=some (.slice av nv cv):=by rw[hw0];exact m2_
    have q1:w'.cell? ⟨W.heap.size,1,none⟩=some (.int .i64 (fr:Int)):=by rw[hw0];exact q1_
    have q2:w'.cell? ⟨W.heap.size,2,none⟩=some (.int .i64 (tt:Int)):=by rw[hw0];exact q2_
    have HW0:=Lib.hid hw0
    clear hw0
    refine wpOpIn_step rfl (fun K hK=>?_)
    go_simp
    exact hK _ _ (hI.val_step 4 33 (.pointer (some ⟨W.heap.size,2,none⟩)) (by decide) (by rw[hI.wd];rfl) (by simp[rdV]) (by kernel_rfl))
   ·cases ho
    have t33:tmps[33]?.getD undef=.pointer (some ⟨W.heap.size,2,none⟩):=hI.val (4,33,_) (by simp[rdV]) (hd ⟨4,.data⟩ (by simp) rfl)
    have g7:L 7=false:=hcl.not_up (i:=5) (s:=7) 9 (by kernel_rfl) hL
    have g8:L 8=false:=hcl.not_up (i:=5) (s:=8) 9 (by kernel_rfl) hL
    have hw0:w'=W3.drew:=by rw[hI.wd];simp[g7,g8]
    have m2:w'.cell? ⟨w.heap.size+1+1+1+1,0,none⟩=some (.slice av nv cv):=by rw[hw0];exact m2_
    have q1:w'.cell? ⟨W.heap.size,1,none⟩=some (.int .i64 (fr:Int)):=by rw[hw0];exact q1_
    have q2:w'.cell? ⟨W.heap.size,2,none⟩=some (.int .i64 (tt:Int)):=by rw[hw0];exact q2_
    have HW0:=Lib.hid hw0
    clear hw0
    refine wpOpIn_step rfl (fun K hK=>?_)
    go_simp
    exact hK _ _ (hI.val_step 5 34 (.int .i64 (tt:Int)) (by decide) (by rw[hI.wd];rfl) (by simp[rdV]) (by kernel_rfl))
   ·cases ho
    have t30:tmps[30]?.getD undef=.slice (some ⟨bk,0,none⟩) 512 (512+rest.length):=hI.val (1,30,_) (by simp[rdV]) (hd ⟨1,.data⟩ (by simp) rfl)
    have t32:tmps[32]?.getD undef=.int .i64 (fr:Int):=hI.val (3,32,_) (by simp[rdV]) (hd ⟨3,.data⟩ (by simp) rfl)
    have t34:tmps[34]?.getD undef=.int .i64 (tt:Int):=hI.val (5,34,_) (by simp[rdV]) (hd ⟨5,.data⟩ (by simp) rfl)
    have g7:L 7=false:=hcl.not_up (i:=6) (s:=7) 9 (by kernel_rfl) hL
    have g8:L 8=false:=hcl.not_up (i:=6) (s:=8) 9 (by kernel_rfl) hL
    have hw0:w'=W3.drew:=by rw[hI.wd];simp[g7,g8]
    have m2:w'.cell? ⟨w.heap.size+1+1+1+1,0,none⟩=some (.slice av nv cv):=by rw[hw0];exact m2_
    have q1:w'.cell? ⟨W.heap.size,1,none⟩=some (.int .i64 (fr:Int)):=by rw[hw0];exact q1_
    have q2:w'.cell? ⟨W.heap.size,2,none⟩=some (.int .i64 (tt:Int)):=by rw[hw0];exact q2_
    have HW0:=Lib.hid hw0
    clear hw0
    refine wpOpIn_step rfl (fun K hK=>?_)
    go_simp
    exact hK _ _ (hI.val_step 6 35 (.slice (some ⟨bk,fr,none⟩) (tt-fr) (512+rest.length-fr)) (by decide) (by rw[hI.wd];rfl) (by simp[rdV]) (by kernel_rfl))
   ·cases ho
    have t29:tmps[29]?.getD undef=.slice av nv cv:=hI.val (0,29,_) (by simp[rdV]) (hd ⟨0,.data⟩ (by simp) rfl)
    have t35:tmps[35]?.getD undef=.slice (some ⟨bk,fr,none⟩) (tt-fr) (512+rest.length-fr):=hI.val (6,35,_) (by simp[rdV]) (hd ⟨6,.data⟩ (by simp) rfl)
    have g7:L 7=false:=hcl.not_up (i:=7) (s:=7) 9 (by kernel_rfl) hL
    have g8:L 8=false:=hcl.not_up (i:=7) (s:=8) 9 (by kernel_rfl) hL
    have hw0:w'=W3.drew:=by rw[hI.wd];simp[g7,g8]
    have m2:w'.cell? ⟨w.heap.size+1+1+1+1,0,none⟩=some (.slice av nv cv):=by rw[hw0];exact m2_
    have q1:w'.cell? ⟨W.heap.size,1,none⟩=some (.int .i64 (fr:Int)):=by rw[hw0];exact q1_
    have q2:w'.cell? ⟨W.heap.size,2,none⟩=some (.int .i64 (tt:Int)):=by rw[hw0];exact q2_
    have HW0:=Lib.hid hw0
    clear hw0
    have hcp':=hcp
    rw[← HW0.out] at hcp'
    refine wpOpIn_step rfl (fun K hK=>?_)
    rw[if_pos (by rfl)]
    refine wpIn_append_runK (.tmp 29) (.tmp 35) _ _ rfl (by simpa [Act.eval] using t29) (by simpa [Act.eval] using t35) hcp' ?_
    exact hK _ _ (hI.val_step 7 36 (.slice ao no co) (by decide) (by simp[upL,g7,g8]) (by simp[rdV]) (by kernel_rfl))
   ·cases ho
    have t36:tmps[36]?.getD undef=.slice ao no co:=hI.val (7,36,_) (by simp[rdV]) (hd ⟨7,.data⟩ (by simp) rfl)
    have g7:L 7=true:=hcl.dep_up (i:=8) (s:=7) rfl hd 9 (by kernel_rfl) (by decide)
    have g8:L 8=false:=hcl.not_up (i:=8) (s:=8) 9 (by kernel_rfl) hL
    have hw0:w'=W4:=by rw[hI.wd];simp[g7,g8]
    have m2:w'.cell? ⟨w.heap.size+1+1+1+1,0,none⟩=some (.slice av nv cv):=by rw[hw0];exact n2_
    have fz:w'.frozen? ⟨w.heap.size+1+1+1+1,0,none⟩=false:=by rw[hw0];exact fz_
    have HW0:=Lib.hid hw0
    clear hw0
    refine wpOpIn_step rfl (fun K hK=>?_)
    go_simp
    rw[HW0.out,← HW5.out]
    exact hK _ _ (hI.none_step 8 (by simp[upL,g7,g8]) (by kernel_rfl))
  ·intro Lu tmps w9 hI hall
   have hat:=hI.fin rfl (fun t ht=>hall _ (by have h9:=List.all_eq_true.1 (show((rdV av nv cv bk (512+rest.length) W.heap.size fr tt ao no co).all fun t=>decide (t.1<9))=true from rfl) t ht;simpa using h9))
   have hw9:w9=W5:=by rw[hI.wd];simp[hall 7 (by decide),hall 8 (by decide)]
   clear hI hall
   simp only[rdV,List.map_cons,List.map_nil,sets,List.setIfInBounds_toArray,List.set_cons_zero,List.set_cons_succ] at hat
   rw[hat]
   clear hat tmps
   rw[hw9]
   clear hw9
   gi_wp2_with fail
   have hfr:=HFR.out
   have hk:=HKK.out
   have hse:=HSE.out
   have e7:=HE7.out
   have hll:=HL.out
   have hf2:=HF2.out
   have J:=HJ2.out
   have h1:=J.sum
   have h2:=J.from_
   have hw5:=HW5.out
   have hu5:Upd [w.heap.size+1+1+1+1] W4 W5:=by rw[hw5];exact(Upd.refl _ _).set _ (by simp)
   have hz1:=HU1W.out.size
   have hz2:=HU2.out.size
   have hz3:=HU3.out.size
   have hA:∀i,w.heap.size≤i→i<w.heap.size+10→i≠w.heap.size+1+1+1+1→W5.heap[i]?=W2.heap[i]?:=fun i hi hi2 hne=>by
    have a1:=HU3.out.block i (by omega) (fun q=>by have:=hlt.1 i (g.mem i q);omega)
    have a2:=HU4.out.block i (by omega) (fun q=>by have:=(HS4.out i q).1;omega)
    have a3:=hu5.block i (by have:=HU4.out.size;omega) (by simpa using hne)
    exact a3.trans (a2.trans a1)
   refine⟨fun b hb=>hA _ (by simp at hb;omega) (by simp at hb;omega) (by simp at hb;omega),?_,fun b hb=>?_⟩
   ·have b4':W5.heap[w.heap.size+1+1+1+1]?=some (.cells #[.slice ao no co] 32 (0,0)):=by rw[hw5,blk_set HB4C.out];rfl
    have hcat:(d.drop a0).take (a'-a0)++(d.drop a').take k=(d.drop a0).take (a'+k-a0):=by
     rw[Nat.sub_add_comm h2,List.take_add,List.drop_drop,Nat.add_sub_of_le h2]
    have hrow:=HROW.out
    rw[hcat] at hrow
    have hue:Upd [g.j.jb] w W5:=by
     have a1:Upd [g.j.jb] w W3:=J.upd.trans HU3.out
     have a2:=a1.late HU4.out (fun i hi=> .inr (by have:=(HS4.out i hi).1;omega))
     exact a2.late hu5 (fun i hi=> .inr (by simp at hi;omega))
    refine⟨a'+k,n'-k,f2,.slice ao no co,?_,?_,?_,HDN.out,?_,?_,?_,?_,b4',?_,?_,hue⟩
    ·have:=J.le;omega
    ·omega
    ·omega
    ·have a1:Upd [g.j.jb] w W3:=J.upd.trans HU3.out
     have s4:SpAt W4 g M:=h.late HSP3.out a1 HU4.out (fun i hi=>by have:=(HS4.out i hi).1;omega)
     have a2:=a1.late HU4.out (fun i hi=> .inr (by have:=(HS4.out i hi).1;omega))
     exact h.late s4 a2 hu5 (fun i hi=>by simp at hi;omega)
    ·rw[hw5,blk_set_ne 0 _ (by omega)];exact HB1C.out
    ·rw[hw5,blk_set_ne 0 _ (by omega)];exact HB2C.out
    ·rw[hw5,blk_set_ne 0 _ (by omega)];exact HB3C.out
    ·exact hrow.other fun k c e=>hu5.block _ (blk_lt e) (fun q=>by
      simp at q
      subst q
      rw[HB4C.out] at e
      injection e with e
      injection e with _ q2
      exact absurd q2 (by decide))
    ·obtain⟨v5,b5⟩:=J.b5
     exact⟨v5,(hA _ (by omega) (by omega) (by omega)).trans b5⟩
   ·have hb':w.heap.size≤b∧b≠w.heap.size+1+1+1+1∧b<w7.heap.size:=by simp at hb;omega
    have b1:=HU1W.out.block b (by omega) (by simp)
    have b2:=HU2.out.block b (by omega) (by simp;omega)
    have b3:=hA b hb'.1 (by omega) hb'.2.1
    exact b3.trans (b2.trans b1)
  --END
 ·intro W hI hK
  obtain⟨a',n',f',vo,hJ⟩:=hI
  have hn0:=pcs_done hJ.le hJ.drop
  have hae:a'-a0=n0:=by have:=hJ.sum;omega
  have hrow:=hJ.row
  rw[hae] at hrow
  have b2:=hJ.b2
  have b3:=hJ.b3
  have b4:=hJ.b4
  have hvo:∃a n c,vo=.slice a n c:=by
   obtain⟨a,c,e,_⟩:=hrow.shape
   exact⟨a,_,c,e⟩
  obtain⟨va,vn,vc,rfl⟩:=hvo
  have m2:W.cell? ⟨w.heap.size+1+1,0,none⟩=some (.slice none 0 0):=by rw[blk_cell b2];rfl
  have m3:W.cell? ⟨w.heap.size+1+1+1,0,none⟩=some (.int .i64 0):=by rw[blk_cell b3];rfl
  have m4:W.cell? ⟨w.heap.size+1+1+1+1,0,none⟩=some (.slice va vn vc):=by rw[blk_cell b4];rfl
  have f2:=blk_free b2 0
  have f3:=blk_free b3 0
  have HJ:=Lib.hid hJ
  have HR:=Lib.hid hrow
  have HK:=Lib.hid hK
  have HB2:=Lib.hid b2
  have HB3:=Lib.hid b3
  clear hJ hrow hK b2 b3 b4
  gi_wp2_with fail
  have J:=HJ.out
  obtain⟨Wf,hWf⟩:∃Wf,Wf=(W.setCell ⟨w.heap.size+1+1,0,none⟩ (.slice va vn vc)).setCell ⟨w.heap.size+1+1+1,0,none⟩ (.int .i64 0):=⟨_,rfl⟩
  rw[← hWf]
  have hbf2:Wf.heap[w.heap.size+1+1]?=some (.cells #[.slice va vn vc] 32 (0,0)):=by rw[hWf,blk_set_ne 0 _ (by omega),blk_set HB2.out];rfl
  have hbf:Wf.heap[w.heap.size+1+1+1]?=some (.cells #[.int .i64 0] 29 (0,0)):=by
   rw[hWf]
   have h0:(W.setCell ⟨w.heap.size+1+1,0,none⟩ (.slice va vn vc)).heap[w.heap.size+1+1+1]?=some (.cells #[.int .i64 0] 29 (0,0)):=by rw[blk_set_ne 0 _ (by omega)];exact HB3.out
   rw[blk_set h0];rfl
  have huf:Upd [w.heap.size+1+1,w.heap.size+1+1+1,w7.heap.size] W Wf:=by rw[hWf];exact((Upd.refl _ _).set _ (by simp)).set _ (by simp)
  have hKf:Wf.heap[w7.heap.size]?=some (.deferred (some [])):=by rw[hWf,blk_set_ne 0 _ (by omega),blk_set_ne 0 _ (by omega)];exact HK.out
  clear hWf
  refine⟨by simp,.inl ⟨_,_,rfl,run_takeDeferred hKf,?_⟩⟩
  obtain⟨Wg,hWg⟩:∃Wg,Wg=Wf.putObj w7.heap.size (.deferred none):=⟨_,rfl⟩
  rw[← hWg]
  have hbg:Wg.heap[w.heap.size+1+1+1]?=some (.cells #[.int .i64 0] 29 (0,0)):=by rw[hWg,World.putObj_heap_other (by omega)];exact hbf
  have hbg2:Wg.heap[w.heap.size+1+1]?=some (.cells #[.slice va vn vc] 32 (0,0)):=by rw[hWg,World.putObj_heap_other (by omega)];exact hbf2
  have hug:Upd [w.heap.size+1+1,w.heap.size+1+1+1,w7.heap.size] W Wg:=huf.trans (by
   rw[hWg]
   exact⟨rfl,rfl,rfl,by simp,fun k hk hs=>World.putObj_heap_other (by simp at hs;omega)⟩)
  have cg:Wg.cell? ⟨w.heap.size+1+1+1,0,none⟩=some (.int .i64 0):=by rw[blk_cell hbg];rfl
  have cg2:Wg.cell? ⟨w.heap.size+1+1,0,none⟩=some (.slice va vn vc):=by rw[blk_cell hbg2];rfl
  clear hWg
  have hge:∀k,k∈[w.heap.size+1+1,w.heap.size+1+1+1,w7.heap.size]→w.heap.size≤k:=fun k hk=>by simp at hk;omega
  have hrg:BRow Wg w.heap.size (.slice va vn vc) ((d.drop a0).take n0):=(HR.out.low (by omega)).other fun k c e=>hug.block _ (blk_lt e) (fun q=>by
   simp at q
   rcases q with rfl | rfl | rfl
   ·rw[HB2.out] at e
    injection e with e
    injection e with _ q2
    exact absurd q2 (by decide)
   ·rw[HB3.out] at e
    injection e with e
    injection e with _ q2
    exact absurd q2 (by decide)
   ·rw[HK.out] at e;cases e)
  refine⟨.tuple #[.slice va vn vc,.int .i64 0],?_,_,rfl,hrg,h.late J.sp J.upd hug hge,J.upd.late hug (fun i hi=> .inr (hge i hi))⟩
  simp[results,Tryz.f176,go_sem,cg,cg2]
end
end Go.Proofs.YtgfbepakonjbnaaGreat
end
section
section
set_option linter.unusedSimpArgs false
set_option linter.unusedVariables false
namespace Go.Proofs.YtgfbepakonjbnaaGreat
open Go.RowKit Go.MapKept Go.ChangeMaps
def JsAt(w:World)(j:JG)(n ring:Nat)(b:Int)(H:Nat→Sec):Prop:=
 ∃(J:Jn) (D:Dk) (t m:Int),JrAt w j J D n ring t m H∧(∀i,(H i).length=512)∧t≤b∧m≤b+1
structure TxP(w0:World)(j:JG)(n ring:Nat)(b:Int)(H:Nat→Sec)(g:Sg):Prop where
 j:g.j=j
 n:g.n=n
 ring:g.ring=ring
 H:g.H=H
 turn:g.turn=g.t-1
 t:g.t≤b
 m:g.m≤b+1
 tb:w0.heap.size≤g.x.tb
 wb:w0.heap.size≤g.x.wb
theorem TxP.h{w0:World}{j:JG}{n ring:Nat}{b:Int}{H:Nat→Sec}{g:Sg}(h:TxP w0 j n ring b H g):g.h=n-2-ring:=by unfold Sg.h;rw[h.n,h.ring]
theorem TxP.S{w0:World}{j:JG}{n ring:Nat}{b:Int}{H:Nat→Sec}{g:Sg}(h:TxP w0 j n ring b H g):∀k,k∈g.S→k∈j.all∨w0.heap.size≤k:=by
 intro k hk
 rw[Sg.S,h.j] at hk
 rcases List.mem_cons.1 hk with rfl | q
 ·exact .inr h.wb
 ·exact .inl q
theorem begin_js{w:World}{j:JG}{n ring:Nat}{b:Int}{H:Nat→Sec}(h:JsAt w j n ring b H) :
  Calls Tryz.prog 18 #[.pointer (some ⟨j.jb,0,none⟩)] w fun e w'=>∃g:Sg,e=.returned (.tuple #[.pointer (some ⟨g.x.tb,0,none⟩),.int .i64 0])∧TxP w j n ring b H g∧SpAt w' g (fun _=>none)∧Upd j.all w w':=by
 obtain⟨J,D,t,m,h1,h2,h4,h5⟩:=h
 refine(begin_hi h1).mono ?_
 rintro e w' ⟨x,rfl,hx1,hx2,hx,hr,hu⟩
 exact⟨⟨x,j,J,D,n,ring,t-1,t,m,H⟩,rfl,⟨rfl,rfl,rfl,rfl,rfl,h4,h5,hx1,hx2⟩,⟨hr,hx,h1.at_.late hx2,MOk.none _,h2⟩,hu⟩
theorem commit_js{w0 w:World}{j:JG}{n ring:Nat}{b:Int}{H:Nat→Sec}{g:Sg}{M:Nat→Option Sec}(hg:TxP w0 j n ring b H g)(h:SpAt w g M)(hn:n≤5000)(hb:b<900000)(h1:cntM M g.h≤40)(h2:cntM M g.h<ring) :
  Calls Tryz.prog 21 #[.pointer (some ⟨g.x.tb,0,none⟩)] w fun e w'=>e=.returned (.int .i64 0)∧JsAt w' j n ring (b+1) (g.cur M)∧Upd (g.x.tb :: j.all) w w':=by
 have hx:=h.tx
 rw[hg.turn] at hx
 refine(commit_hi h.jr hx h.ne h.ok (by rw[hg.n];exact hn) h1 (by rw[hg.ring];exact h2:cntM M g.h<g.ring) (by have:=hg.t;omega) (by have:=hg.m;omega)).mono ?_
 rintro e w' ⟨rfl,_,⟨J',D',t',hr,ht'⟩,hu⟩
 have e1:=hg.j
 have e2:=hg.n
 have e3:=hg.ring
 refine⟨rfl,⟨J',D',t',g.m+1,?_,fun i=>h.cur_len i,?_,?_⟩,by rw[← e1];exact hu⟩
 ·rw[← e1,← e2,← e3];exact hr
 ·have:=hg.t;rw[ht'];split<;>omega
 ·have:=hg.m;omega
theorem PksAt.zero{c:Nat→Sec}{h:Nat}{T:Nat→Bool}(hl:∀i,(c i).length=512)(h2:c 2=zsec)(h3:c 3=zsec):PksAt c h T (fun _=>Option.none):=by
 refine⟨hl,fun n hn=>?_,fun _ _=>rfl,fun _ _ e=>(by cases e),fun _ _ e=>(by cases e),fun _ _ _ _ e=>(by cases e),fun _ _ e=>(by cases e)⟩
 have e:c (2+n / 32)=zsec:=by
  have:n / 32=0∨n / 32=1:=by omega
  rcases this with q | q<;>rw[q]
  ·exact h2
  ·exact h3
 unfold lookP
 rw[e,entW_zero (by omega)]
 dsimp only
 rw[if_neg (by omega)]
 rfl
end Go.Proofs.YtgfbepakonjbnaaGreat
end
section
set_option linter.unusedSimpArgs false
set_option linter.unusedVariables false
namespace Go.Proofs.YtgfbepakonjbnaaGreat
open Go.RowKit Go.MapKept Go.ChangeMaps
theorem cellsOf_u8P:Tryz.prog.cellsOf 5=1:=by kernel_rfl
theorem run_eqBytesP(d:Nat)(a b:List UInt8)(w:World):∀is:List Nat,(∀i,i∈is→i<a.length∧i<b.length)→
  ∃r:Bool,(Op.eqItems (d+1) 5 1 (bts a).toArray (bts b).toArray is).run Tryz.prog w=.ok r w∧(r=true↔∀i,i∈is→a[i]?=b[i]?)
 | [],_=>⟨true,by simp[Op.eqItems],by simp⟩
 | i :: is,h=>by
  obtain⟨hi,hj⟩:=h i (by simp)
  obtain⟨r,hr,hiff⟩:=run_eqBytesP d a b w is (fun k hk=>h k (by simp[hk]))
  have e1:(bts a).toArray[i]?=some (bv a[i]):=by simp[bts,hi]
  have e2:(bts b).toArray[i]?=some (bv b[i]):=by simp[bts,hj]
  have p1:=run_part_plain (P:=Tryz.prog) (w:=w) (e:=5) (by kernel_rfl) e1
  have p2:=run_part_plain (P:=Tryz.prog) (w:=w) (e:=5) (by kernel_rfl) e2
  have p3:=run_equalIn_int (P:=Tryz.prog) w d 5 .u8 .u8 (a[i].toNat:Int) (b[i].toNat:Int) Tryz.underlying5
  unfold Op.eqItems
  simp only[Nat.mul_one,Sem.run_bind,p1,p2,Result.andThen_ok]
  unfold bv
  simp only[p3,Result.andThen_ok]
  by_cases hab:a[i]=b[i]
  ·refine⟨r,by simp[hab,hr],?_⟩
   rw[hiff]
   simp only[List.mem_cons,forall_eq_or_imp,List.getElem?_eq_getElem hi,List.getElem?_eq_getElem hj,hab,true_and]
  ·have:((a[i].toNat:Int) == (b[i].toNat:Int))=false:=by
    rw[beq_eq_false_iff_ne]
    intro q
    exact hab (UInt8.toNat_inj.1 (by omega))
   refine⟨false,by simp[this],?_⟩
   simp only[Bool.false_eq_true,false_iff,List.mem_cons,forall_eq_or_imp,List.getElem?_eq_getElem hi,List.getElem?_eq_getElem hj,Option.some.injEq]
   exact fun q=>hab q.1
set_option maxRecDepth 100000 in
theorem run_eqArrP{a b:List UInt8}(ha:a.length=32)(hb:b.length=32)(w:World):(Op.equalIn 10000 35 (.agg (bts a).toArray) (.agg (bts b).toArray)).run Tryz.prog w=.ok (decide (a=b)) w:=by
 obtain⟨r,hr,hiff⟩:=run_eqBytesP 9998 a b w (List.range 32) (fun i hi=>by have:=List.mem_range.1 hi;omega)
 have hu:=Tryz.underlying35
 obtain⟨i0,hi0⟩:∃i0,Tryz.prog.info? 5=some i0:=Option.isSome_iff_exists.1 (by kernel_rfl)
 have h1:=run_equalIn_array (P:=Tryz.prog) w 9999 (t:=35) (bts a).toArray (bts b).toArray hu hi0
 rw[cellsOf_u8P] at h1
 rw[h1,hr]
 congr 1
 cases hr':r
 ·symm;rw[decide_eq_false_iff_not]
  rintro rfl
  rw[hr'] at hiff
  simp at hiff
 ·symm;rw[decide_eq_true_eq]
  apply List.ext_getElem?
  intro i
  by_cases hi:i<32
  ·exact hiff.1 hr' i (List.mem_range.2 hi)
  ·rw[List.getElem?_eq_none (by omega),List.getElem?_eq_none (by omega)]
set_option maxRecDepth 100000 in
set_option maxHeartbeats 4000000 in
theorem get_pk{w:World}{g:Sg}{M:Nat→Option Sec}{K:Nat→Option Pk}(h:SpAt w g M)(hk:PksAt (g.cur M) g.h (g.T M) K)(hh:20≤g.h)(hh2:g.h≤4096){n:Nat}{p:Pk}(hp:K n=some p)(at_ ln:Nat)(key b:List UInt8)(hkl:key.length=32)(hbl:b.length≤4200)(hln:ln=46+b.length)
  (hal:at_+ln≤p.data.length) (hfr:(p.data.drop at_).take ln=frameB key b) :
  Calls Tryz.prog 88 #[.pointer (some ⟨g.x.tb,0,none⟩),plV (n,at_,ln),.agg (bts key).toArray] w fun e w'=>∃x,e=.returned (.tuple #[x,.int .i64 0])∧BRow w' w.heap.size x b∧SpAt w' g M∧Upd [g.j.jb] w w':=by
 have hlt:=h.lt
 have hlow:=hk.low n p hp
 obtain⟨st,hst⟩:∃st,st=p.start:=⟨_,rfl⟩
 obtain⟨us,hus⟩:∃us,us=p.data.length:=⟨_,rfl⟩
 obtain⟨lv,hlv⟩:∃lv,lv=p.live:=⟨_,rfl⟩
 obtain⟨pb,hpb⟩:∃pb,pb=w.heap.size:=⟨_,rfl⟩
 obtain⟨w1,hw1⟩:∃w1,w1=(w.alloc (.cells #[.int .i64 (n:Int),.int .i64 (at_:Int),.int .i64 (ln:Int)] 92)).alloc (.cells (bts key).toArray 35):=⟨_,rfl⟩
 have hu1:Upd [] w w1:=by rw[hw1];exact((Upd.refl _ _).alloc _).alloc _
 have hbp:w1.heap[pb]?=some (.cells #[.int .i64 (n:Int),.int .i64 (at_:Int),.int .i64 (ln:Int)] 92 (0,0)):=by
  rw[hw1,hpb]
  exact(((Upd.refl [] _).alloc _).block _ (by simp) (by simp)).trans (blk_alloc _)
 have hbk:w1.heap[pb+1]?=some (.cells (bts key).toArray 35 (0,0)):=by
  rw[hw1,hpb]
  have:=blk_alloc (w:=w.alloc (.cells #[.int .i64 (n:Int),.int .i64 (at_:Int),.int .i64 (ln:Int)] 92)) (.cells (bts key).toArray 35)
  rwa [World.size_alloc] at this
 have h1:=h.below hu1
 have hwi:=within_spec h1 hk hh hh2 hp at_ ln (by omega) hal
 unfold stV plV at hwi
 dsimp only at hwi
 rw[← hst,← hus,← hlv] at hwi
 have HRDP:Hid (∀w',SpAt w' g M→Calls Tryz.prog 176 #[.agg #[.int .i64 (st:Int),.int .i64 (us:Int),.int .i64 (lv:Int)],.pointer (some ⟨g.x.tb,0,none⟩),.int .i64 (at_:Int),.int .i64 (ln:Int)] w' fun e w''=>∃x,e=.returned (.tuple #[x,.int .i64 0])∧BRow w'' w'.heap.size x (frameB key b)∧SpAt w'' g M∧Upd [g.j.jb] w' w''):=by
  show ∀w',_
  intro w' h'
  have:=readP_spec h' hh2 st us lv at_ ln p.data (by omega) hal (by omega) (by rw[hst];exact hk.data n p hp)
  rw[hfr] at this
  exact this
 have hik:(Tryz.prog.info? 35).map (·.size)=some (bts key).toArray.size:=by rw[List.size_toArray,bts_length,hkl];exact infoIDp
 have hone:(bts key).toArray.all (·.oneCell')=true:=by
  rw[Array.all_eq_true_iff_forall_mem]
  intro x hx
  exact bts_one _ x (by simpa using hx)
 have heq:∀w',(Op.equalIn 10000 35 (.agg (bts key).toArray) (.agg (bts key).toArray)).run Tryz.prog w'=.ok true w':=fun w'=>by
  have:=run_eqArrP hkl hkl w'
  rwa [decide_eq_true rfl] at this
 have HWI:=Lib.hid hwi
 have HLT:=Lib.hid hlt
 have HU1:=Lib.hid hu1
 have HBP:=Lib.hid hbp
 have HBK:=Lib.hid hbk
 have HPB:=Lib.hid hpb
 have HW1:=Lib.hid hw1
 have HBL:=Lib.hid hbl
 have HLN:=Lib.hid hln
 have HKL:=Lib.hid hkl
 have hq:((ln:Int) != (ln:Int))=false:=by simp
 have p0:w1.cell? ⟨pb,0,none⟩=some (.int .i64 (n:Int)):=by rw[blk_cell hbp];rfl
 have p1:w1.cell? ⟨pb,1,none⟩=some (.int .i64 (at_:Int)):=by rw[blk_cell hbp];rfl
 have p2:w1.cell? ⟨pb,2,none⟩=some (.int .i64 (ln:Int)):=by rw[blk_cell hbp];rfl
 clear h hlt hk hp hst hus hlv hpb hw1 hu1 hbp hbk hwi h1 hfr hlow hal hbl hln
 unfold plV
 go_enter Tryz.func88,Tryz.ntmps88
 go_upto_region 1 with(fail)
 have hw1:=HW1.out
 have hpb:=HPB.out
 rw[← hw1,← hpb]
 clear hw1 hpb
 go_wp2_with fail
 refine HWI.out.mono ?_
 rintro e w4 ⟨rfl,h4,hu4⟩
 have hne:∀i,pb≤i→i∉[g.j.jb]:=fun i hi q=>by have:=HLT.out.1 i (g.mem i q);have:=HPB.out;omega
 have hbp4:=(hu4.block _ (blk_lt HBP.out) (hne _ (Nat.le_refl _))).trans HBP.out
 have hbk4:=(hu4.block _ (blk_lt HBK.out) (hne _ (by omega))).trans HBK.out
 obtain⟨w5,hw5⟩:∃w5,w5=w4.alloc (.cells #[.int .i64 (st:Int),.int .i64 (us:Int),.int .i64 (lv:Int)] 200):=⟨_,rfl⟩
 obtain⟨sb,hsb⟩:∃sb,sb=w4.heap.size:=⟨_,rfl⟩
 have hu5:Upd [] w4 w5:=by rw[hw5];exact(Upd.refl _ _).alloc _
 have hb5:w5.heap[sb]?=some (.cells #[.int .i64 (st:Int),.int .i64 (us:Int),.int .i64 (lv:Int)] 200 (0,0)):=by rw[hw5,hsb];exact blk_alloc _
 have hbp5:=(hu5.block _ (blk_lt hbp4) (by simp)).trans hbp4
 have hbk5:=(hu5.block _ (blk_lt hbk4) (by simp)).trans hbk4
 have h5:=h4.below hu5
 have HRD5:=Lib.hid (HRDP.out w5 h5)
 have HU5:=Lib.hid (((HU1.out.mono (by simp)).trans hu4).trans (hu5.mono (by simp)))
 have m0:w5.cell? ⟨sb,0,none⟩=some (.int .i64 (st:Int)):=by rw[blk_cell hb5];rfl
 have m1:w5.cell? ⟨sb,1,none⟩=some (.int .i64 (us:Int)):=by rw[blk_cell hb5];rfl
 have m2:w5.cell? ⟨sb,2,none⟩=some (.int .i64 (lv:Int)):=by rw[blk_cell hb5];rfl
 have n1:w5.cell? ⟨pb,1,none⟩=some (.int .i64 (at_:Int)):=by rw[blk_cell hbp5];rfl
 have n2:w5.cell? ⟨pb,2,none⟩=some (.int .i64 (ln:Int)):=by rw[blk_cell hbp5];rfl
 have HBP5:=Lib.hid hbp5
 have HBK5:=Lib.hid hbk5
 have HW5:=Lib.hid hw5
 have HSB:=Lib.hid hsb
 clear p0 p1 p2 h4 hu4 hbp4 hbk4 hw5 hsb hu5 hb5 hbp5 hbk5 h5
 go_upto_region 2 with(fail)
 have hw5:=HW5.out
 have hsb:=HSB.out
 rw[← hw5,← hsb]
 clear hw5 hsb
 go_wp2_with fail
 refine HRD5.out.mono ?_
 rintro e w6 ⟨x0,rfl,hrow,h6,hu6⟩
 have hbp6:=(hu6.block _ (blk_lt HBP5.out) (hne _ (Nat.le_refl _))).trans HBP5.out
 have hbk6:=(hu6.block _ (blk_lt HBK5.out) (hne _ (by omega))).trans HBK5.out
 have htk:=take_frame (rest:=[]) (key:=key) (b:=b) (by rw[List.append_nil];exact hrow.rd) hkl HBL.out (by simp)
 rw[← HLN.out] at htk
 have HTK:=Lib.hid htk
 have H6:=Lib.hid h6
 have HU6:=Lib.hid (HU5.out.trans hu6)
 have HBP6:=Lib.hid hbp6
 have HBK6:=Lib.hid hbk6
 clear m0 m1 m2 n1 n2 hrow h6 hu6 hbp6 hbk6 htk
 go_wp2_with fail
 refine HTK.out.mono ?_
 rintro e w7 ⟨x,rfl,hrow,hu7⟩
 have hbp7:=(hu7.block _ (blk_lt HBP6.out) (by simp)).trans HBP6.out
 have hbk7:=(hu7.block _ (blk_lt HBK6.out) (by simp)).trans HBK6.out
 have h7:=H6.out.below hu7
 have HROW:=Lib.hid hrow
 have H7:=Lib.hid h7
 have HU7:=Lib.hid (HU6.out.trans (hu7.mono (by simp)))
 have HBP7:=Lib.hid hbp7
 have HBK7:=Lib.hid hbk7
 clear hrow h7 hu7 hbp7 hbk7
 go_upto_region 8 with(refine wpList_store_row (by rfl) 35 (.tmp 11) (.tmp 39) (by rfl) w7.heap.size (bts key).toArray (by rfl) (by rfl) _ _ (blk_alloc _) hik (by simp[bts_length,hkl]) hone ?_)
 obtain⟨w8,hw8⟩:∃w8,w8=(w7.alloc (.cells (bts zb32).toArray 35)).setRow w7.heap.size (bts key).toArray:=⟨_,rfl⟩
 obtain⟨ib,hib⟩:∃ib,ib=w7.heap.size:=⟨_,rfl⟩
 rw[zb32_lit,← hw8,← hib]
 have hb8:w8.heap[ib]?=some (.cells (bts key).toArray 35 (0,0)):=by rw[hw8,hib];exact setRow_heap _ _ _ _ _ _ (blk_alloc _)
 have hu8:Upd [] w7 w8:=by rw[hw8];exact upd_rowW ((Upd.refl _ _).alloc _) _ (.inr (Nat.le_refl _))
 have hbp8:=(hu8.block _ (blk_lt HBP7.out) (by simp)).trans HBP7.out
 have hbk8:=(hu8.block _ (blk_lt HBK7.out) (by simp)).trans HBK7.out
 have q2:w8.cell? ⟨pb,2,none⟩=some (.int .i64 (ln:Int)):=by rw[blk_cell hbp8];rfl
 have HB8:=Lib.hid hb8
 have HBK8:=Lib.hid hbk8
 have H8:=Lib.hid (H7.out.below hu8)
 have HU8:=Lib.hid (HU7.out.trans (hu8.mono (by simp)))
 have HROW8:=Lib.hid (HROW.out.keep hu8)
 clear hw8 hib hb8 hu8 hbp8 hbk8
 go_wp2_with (first | (refine wpList_load_row (by rfl) 35 (.tmp 11) (by rfl) ib (by rfl) _ _ _ _ HB8.out Tryz.underlying35 rfl hik ?_) | (refine wpList_load_row (by rfl) 35 (.tmp 5) (by rfl) (pb+1) (by rfl) _ _ _ _ HBK8.out Tryz.underlying35 rfl hik ?_))
 go_ret2
 have hsz:=HU6.out.size
 exact⟨x,rfl,HROW8.out.low (by omega),H8.out,HU8.out⟩
end Go.Proofs.YtgfbepakonjbnaaGreat
end
section
set_option linter.unusedSimpArgs false
set_option linter.unusedVariables false
namespace Go.Proofs.YtgfbepakonjbnaaGreat
open Go.RowKit Go.MapKept Go.ChangeMaps
section
attribute [-go_sem] loadCells storeCells Instr.build
end
end Go.Proofs.YtgfbepakonjbnaaGreat
end
end
section
set_option linter.unusedSimpArgs false
set_option linter.unusedVariables false
namespace Go.Proofs.YtgfbepakonjbnaaGreat
open Go.RowKit Go.MapKept Go.ChangeMaps
theorem leftN_pre{T:Nat→Bool}{F:Nat}(hT:∀i,T i=decide (i<F)):∀h,leftN T h=h-F
 | 0=>by simp[leftN]
 | h+1=>by
  unfold leftN
  rw[leftN_pre hT h,hT h]
  by_cases e:h<F
  ·rw[decide_eq_true e];simp;omega
  ·rw[decide_eq_false e];simp;omega
structure RowK(S:List Nat)(K:Nat→Option Pk)(T:Nat→Bool)(m:Nat):Prop where
 here:∀n,n<m→∃p,K n=some p
 out:∀n,m≤n→K n=none
 bits:∀i,T i=decide (i<4+S.length+16*m)
theorem RowK.free{S:List Nat}{K:Nat→Option Pk}{T:Nat→Bool}{m:Nat}(r:RowK S K T m)(hm:m<64){l free:Nat}{but:Int}(q:RoomR K but l 64 free):free=m:=by
 have h2:¬m<free:=fun h=>q.free_first m hm h (r.out m (Nat.le_refl _))
 have h3:¬free<m:=fun h=>by
  obtain⟨p,hp⟩:=r.here free h
  rw[q.free_none (by omega)] at hp;cases hp
 omega
theorem RowK.add{S:List Nat}{K K':Nat→Option Pk}{T T':Nat→Bool}{m h:Nat}{f:List UInt8}{o:Option (Nat × Nat)}(r:RowK S K T m)(hm:m<64)(hh:4+S.length+16*m+16≤h)(a:AddOut K T h f K' T' o) :
  ∃y,o=some y∧((T'=T∧RowK S K' T' m)∨(y.1=m∧(∀n p,K n=some p→8192<p.data.length+f.length)∧RowK S K' T' (m+1)∧K'=setP K m (some ⟨4+S.length+16*m,f,f.length⟩))):=by
 cases o with
 | none=>
  exfalso
  obtain⟨free,q,_,_,e | e⟩:=a
  ·have:=r.free hm q;omega
  ·exact e (4+S.length+16*m) (by omega) (fun q _=>by rw[r.bits,decide_eq_false_iff_not];omega)
 | some y=>
  refine⟨y,rfl,?_⟩
  rcases a with⟨free,p,_,h1,h2,h3,rfl,rfl⟩ | ⟨st,q,h1,h2,h3,rfl,h4⟩
  ·refine .inl ⟨rfl,fun n hn=>?_,fun n hn=>?_,r.bits⟩
   ·by_cases e:n=y.1
    ·exact⟨_,by rw[e,setP_same]⟩
    ·rw[setP_ne _ _ e];exact r.here n hn
   ·have e:n≠y.1:=fun e=>by rw[← e,r.out n hn] at h2;cases h2
    rw[setP_ne _ _ e];exact r.out n hn
  ·have hy:=r.free hm q
   have hst:st=4+S.length+16*m:=by
    obtain⟨_,a2,a3⟩:=h3
    have b1:¬st<4+S.length+16*m:=fun hlt=>by
     have:=a2 0 (by omega)
     rw[r.bits,decide_eq_false_iff_not] at this
     omega
    have b2:¬4+S.length+16*m<st:=fun hlt=>a3 _ hlt fun q _=>by rw[r.bits,decide_eq_false_iff_not];omega
    omega
   refine .inr ⟨hy,fun n p hp=>?_,⟨fun n hn=>?_,fun n hn=>?_,fun i=>?_⟩,by rw[hy,hst]⟩
   ·have hlt:n<64:=by
     rcases Nat.lt_or_ge n m with e | e
     ·omega
     ·rw[r.out n e] at hp;cases hp
    rcases Nat.lt_or_ge 8192 (p.data.length+f.length) with e | e
    ·exact e
    ·exact absurd ⟨by omega,p,hp,e⟩ (q.first n hlt)
   ·by_cases e:n=y.1
    ·exact⟨_,by rw[e,setP_same]⟩
    ·rw[setP_ne _ _ e];exact r.here n (by omega)
   ·rw[setP_ne _ _ (by omega)];exact r.out n (by omega)
   ·rw[h4 i,hst,r.bits i]
    by_cases e:4+S.length+16*m≤i∧i<4+S.length+16*m+16
    ·rw[if_pos e,decide_eq_true (by omega)]
    ·rw[if_neg e];exact decide_eq_decide.2 (by omega)
theorem RowK.put{g:Sg}{M M':Nat→Option Sec}{S S':List Nat}{K:Nat→Option Pk}{m n k:Nat}(r:RowK S K (g.T M) m)(hF:4+S.length+16*m≤g.h)(hs:∀s,s∈S'→s<g.h)(hG:Grown g M M' S S' n k):RowK S' K (g.T M') m:=by
 obtain⟨F,hp⟩:=hG.pre ⟨_,r.bits⟩
 have hFh:F≤g.h:=by
  rcases Nat.lt_or_ge g.h F with e | e
  ·exfalso
   have h1:=hp g.h
   rw[decide_eq_true e,hG.T,r.bits,decide_eq_false (by omega),Bool.false_or,decide_eq_true_iff] at h1
   have:=hs _ h1;omega
  ·exact e
 have h1:=hG.left
 rw[leftN_pre hp,leftN_pre r.bits] at h1
 refine⟨r.here,r.out,fun i=>?_⟩
 rw[hp i]
 exact decide_eq_decide.2 (by omega)
def KpH(H:Nat→Sec)(h:Nat)(S:List Nat)(K:Nat→Option Pk)(R:List Rc):Prop:=KpM H h (fun i=>bitB (fixB (H 1)) i) (num (H 0) 0 4) S K R R∧SortR R
def KjAt(W:World)(j:JG)(n ring:Nat)(b:Int)(H:Nat→Sec)(S:List Nat)(K:Nat→Option Pk)(R:List Rc):Prop:=JsAt W j n ring b H∧KpH H (n-2-ring) S K R
structure KtAt(w W:World)(j:JG)(n ring:Nat)(b:Int)(g:Sg)(M:Nat→Option Sec)(S:List Nat)(K:Nat→Option Pk)(R:List Rc):Prop where
 tx:∃w0,TxP w0 j n ring b g.H g∧w.heap.size≤w0.heap.size
 sp:SpAt W g M
 kp:KpAt g M S K R
 upd:Upd [] w W
theorem KtAt.S{w W:World}{j:JG}{n ring:Nat}{b:Int}{g:Sg}{M:Nat→Option Sec}{S:List Nat}{K:Nat→Option Pk}{R:List Rc}(h:KtAt w W j n ring b g M S K R)(hj:∀k,k∈j.all→w.heap.size≤k):(∀k,k∈g.S→w.heap.size≤k)∧w.heap.size≤g.x.tb:=by
 obtain⟨w0,ht,hw⟩:=h.tx
 refine⟨fun k hk=>?_,Nat.le_trans hw ht.tb⟩
 rcases ht.S k hk with q | q
 ·exact hj k q
 ·omega
theorem KtAt.h{w W:World}{j:JG}{n ring:Nat}{b:Int}{g:Sg}{M:Nat→Option Sec}{S:List Nat}{K:Nat→Option Pk}{R:List Rc}(h:KtAt w W j n ring b g M S K R):g.h=n-2-ring:=by
 obtain⟨w0,ht,hw⟩:=h.tx
 exact ht.h
theorem KtAt.below{w W W':World}{j:JG}{n ring:Nat}{b:Int}{g:Sg}{M:Nat→Option Sec}{S:List Nat}{K:Nat→Option Pk}{R:List Rc}(h:KtAt w W j n ring b g M S K R)(hu:Upd [] W W'):KtAt w W' j n ring b g M S K R:=⟨h.tx,h.sp.below hu,h.kp,h.upd.trans hu⟩
theorem KtAt.commit{w W:World}{j:JG}{n ring:Nat}{b:Int}{g:Sg}{M:Nat→Option Sec}{S:List Nat}{K:Nat→Option Pk}{R:List Rc}(h:KtAt w W j n ring b g M S K R)(hn:n≤5000)(hb:b<900000)(hc:cntM M g.h≤40)(hr:41≤ring) :
  Calls Tryz.prog 21 #[.pointer (some ⟨g.x.tb,0,none⟩)] W fun e w'=>e=.returned (.int .i64 0)∧KjAt w' j n ring (b+1) (g.cur M) S K R∧Upd (g.x.tb :: j.all) W w':=by
 obtain⟨w0,ht,hw⟩:=h.tx
 refine(commit_js ht h.sp hn hb hc (by omega)).mono ?_
 rintro e w' ⟨rfl,h1,hu⟩
 refine⟨rfl,⟨h1,?_,h.kp.sort⟩,hu⟩
 have:=h.kp.m
 rw[h.h] at this
 exact this
theorem KjAt.begin{w W:World}{j:JG}{n ring:Nat}{b:Int}{H:Nat→Sec}{S:List Nat}{K:Nat→Option Pk}{R:List Rc}(h:KjAt W j n ring b H S K R)(hj:∀k,k∈j.all→w.heap.size≤k)(hu:Upd [] w W) :
  Calls Tryz.prog 18 #[.pointer (some ⟨j.jb,0,none⟩)] W fun e w'=>∃g:Sg,e=.returned (.tuple #[.pointer (some ⟨g.x.tb,0,none⟩),.int .i64 0])∧KtAt w w' j n ring b g (fun _=>none) S K R∧(∀i,g.T (fun _=>none) i=bitB (fixB (H 1)) i)∧Upd j.all W w':=by
 obtain⟨hjs,hk,hs⟩:=h
 refine(begin_js hjs).mono ?_
 rintro e w' ⟨g,rfl,ht,hsp,hu2⟩
 have hH:(g.cur fun _=>none)=H:=by
  funext i
  unfold Sg.cur
  rw[ht.H];rfl
 have hgT:(g.T fun _=>none)=fun i=>bitB (fixB (H 1)) i:=by
  funext i
  show bitB (fixB ((g.cur fun _=>none) 1)) i=_
  rw[hH]
 refine⟨g,rfl,⟨⟨W,by rw[ht.H];exact ht,hu.size⟩,hsp,⟨?_,hs⟩,late_all hu hu2 hj⟩,fun i=>by rw[hgT],hu2⟩
 unfold Sg.R
 rw[hH,hgT,ht.h]
 exact hk
end Go.Proofs.YtgfbepakonjbnaaGreat
end
