/-
  tree.part: a new sector is taken, both halves are written. tree.put at a leaf.
-/
import Derived.Test.YtgfbepakonjbnaaGreatU21
section
section
namespace Go.Proofs.YtgfbepakonjbnaaGreat
open Go.RowKit Go.MapKept Go.ChangeMaps
def NodeRd(S:List Nat)(w:World)(kd:Int)(vk vv vd:Value)(enc:Sec):Prop:=
 (∀a l c,vk=.slice (some a) l c→a.block∉S)∧(∀a l c,vv=.slice (some a) l c→a.block∉S)∧(∀a l c,vd=.slice (some a) l c→a.block∉S)∧
 ((∃ks vs,kd=1∧RRd w vk 32 (ks.map bts)∧RRd w vv 16 (vs.map bts)∧LeafOk ks vs∧enc=encLeaf ks vs)∨(∃ks ds,kd=2∧RRd w vk 32 (ks.map bts)∧KRd w vd ds∧InnerOk ks ds∧enc=encInner ks ds))
theorem NodeRd.keep{S:List Nat}{w w':World}{kd:Int}{vk vv vd:Value}{enc:Sec}(h:NodeRd S w kd vk vv vd enc)(hu:Upd S w w'):NodeRd S w' kd vk vv vd enc:=by
 obtain⟨a1,a2,a3,⟨ks,vs,e1,h1,h2,h3,h4⟩ | ⟨ks,ds,e1,h1,h2,h3,h4⟩⟩:=h
 ·exact⟨a1,a2,a3,.inl ⟨ks,vs,e1,h1.keep hu a1,h2.keep hu a2,h3,h4⟩⟩
 ·exact⟨a1,a2,a3,.inr ⟨ks,ds,e1,h1.keep hu a1,h2.keep hu a3,h3,h4⟩⟩
theorem NodeRd.below{S:List Nat}{w w':World}{kd:Int}{vk vv vd:Value}{enc:Sec}(h:NodeRd S w kd vk vv vd enc)(hu:Upd [] w w'):NodeRd S w' kd vk vv vd enc:=by
 exact h.keep (hu.mono (by simp))
theorem write_node{w:World}{g:Sg}{M:Nat→Option Sec}(h:SpAt w g M){S:List Nat}{kd:Int}{vk vv vd:Value}{enc:Sec}(hn:NodeRd S w kd vk vv vd enc)(at_:Nat)(hat:at_<g.h)(hat2:at_<4294967296)(hc:(M at_).isSome=true∨cntM M g.h<40) :
  Calls Tryz.prog 127 #[.agg #[.int .i64 kd,vk,vv,vd],.pointer (some ⟨g.x.tb,0,none⟩),.int .u32 (at_:Int)] w fun e w'=>e=.returned (.int .i64 0)∧SpAt w' g (putS M at_ enc)∧Upd [g.x.wb] w w':=by
 obtain⟨_,_,_,⟨ks,vs,rfl,h1,h2,h3,rfl⟩ | ⟨ks,ds,rfl,h1,h2,h3,rfl⟩⟩:=hn
 ·exact write_leaf h h1 h2 h3 at_ hat hat2 hc
 ·exact write_inner h h1 h2 h3 at_ hat hat2 hc
def splC:Option (Bs × Nat)→List Value
 | none=>bts (List.replicate 32 0) ++ [.int .u32 0,.bool false]
 | some (k,b)=>bts k ++ [.int .u32 (b:Int),.bool true]
def splV(o:Option (Bs × Nat)):Value:=.agg (splC o).toArray
def takM(g:Sg)(M:Nat→Option Sec)(s:Nat):Nat→Option Sec:=put1 M (setR (fixB (g.cur M 1)) s true 1)
theorem exists_free{T:Nat→Bool}:∀{h:Nat},0<leftN T h→∃s,s<h∧T s=false∧∀q,q<s→T q=true
 | 0,h=>by simp[leftN] at h
 | h+1,hp=>by
  by_cases hq:0<leftN T h
  ·obtain⟨s,h1,h2,h3⟩:=exists_free hq
   exact⟨s,by omega,h2,h3⟩
  ·unfold leftN at hp
   cases hT:T h
   ·refine⟨h,by omega,hT,fun q hq2=>?_⟩
    have h0:leftN T h=0:=by omega
    exact leftN_zero h0 q hq2
   ·rw[hT] at hp;simp at hp;omega
where leftN_zero {T:Nat→Bool}:∀{h:Nat},leftN T h=0→∀q,q<h→T q=true
 | 0,_,q,hq=>by omega
 | h+1,h0,q,hq=>by
  unfold leftN at h0
  cases hT:T h
  ·rw[hT] at h0;simp at h0
  ·rw[hT] at h0;simp at h0
   by_cases e:q=h
   ·rw[e];exact hT
   ·exact leftN_zero h0 q (by omega)
def Sg.Fr(g:Sg)(M:Nat→Option Sec)(s:Nat):Prop:=g.T M s=false∧∀i,i<s→g.T M i=true
def Sg.Pre(g:Sg)(M:Nat→Option Sec):Prop:=∃F,∀i,g.T M i=decide (i<F)
theorem take_one{w:World}{g:Sg}{M:Nat→Option Sec}(h:SpAt w g M)(hh:1<g.h)(hh2:g.h≤4096)(hc:(M 1).isSome=true∨cntM M g.h<40)(hl:0<leftN (g.T M) g.h) :
  Calls Tryz.prog 50 #[.pointer (some ⟨g.x.tb,0,none⟩),.int .i64 1] w fun e w'=>∃s,4≤s∧s<g.h∧g.Fr M s∧e=.returned (.tuple #[.int .i64 (s:Int),.int .i64 0])∧SpAt w' g (takM g M s)∧Upd g.S w w':=by
 obtain⟨s,h1,h2,h3⟩:=exists_free hl
 refine(take_spec h hh hh2 hc 1 (by omega) (by omega)).mono fun e w' hp=>?_
 have hp:=hp.at (s:=s) (by omega) (fun q hq=>by rw[show s+q=s from by omega];exact h2) (fun s' hs=>⟨0,by omega,h3 _ (by omega)⟩)
 refine⟨s,?_,h1,⟨h2,h3⟩,hp.1,hp.2.1,hp.2.2⟩
 cases Nat.lt_or_ge s 4 with
 | inr q=>exact q
 | inl q=>rw[Sg.T_low (h.cur_len 1) q] at h2;simp at h2
def Ty9(T:TypeId):Prop:=T=228∨T=220∨T=35∨T=115∨T=79
theorem SpAt.other9{w:World}{g:Sg}{M:Nat→Option Sec}(h:SpAt w g M){b:Nat}{c:Array Value}{T:TypeId}{fr:Nat × Nat}(hb:w.heap[b]?=some (.cells c T fr))(t1:Ty9 T):b∉g.S:=by
 simp only[Sg.S,List.mem_cons,not_or]
 rcases t1 with rfl | rfl | rfl | rfl | rfl
 all_goals exact⟨by rintro rfl;exact h.tx.map hb,h.jr.at_.kind hb (by decide) (by decide) (by decide)⟩
theorem SpAt.turned9{w w':World}{g:Sg}{M:Nat→Option Sec}(h:SpAt w g M){S:List Nat}(hb:∀b,b∈S→∃c T fr,w.heap[b]?=some (.cells c T fr)∧Ty9 T)(hu:Upd S w w'):SpAt w' g M:=by
 refine⟨h.jr.own hu (fun k hk=>?_),h.tx.upd hu (fun hk=>?_) (fun hk=>?_) (fun k c hk e=>?_),h.ne,h.ok,h.len⟩
 ·obtain⟨c,T,fr,hb,t⟩:=hb k hk
  rcases t with rfl | rfl | rfl | rfl | rfl
  all_goals exact⟨_,_,_,hb,by decide,by decide,by decide,by decide⟩
 ·obtain⟨c,T,fr,hb,t⟩:=hb _ hk
  have:=h.tx.st;rw[hb] at this
  rcases t with rfl | rfl | rfl | rfl | rfl
  all_goals simp at this
 ·obtain⟨c,T,fr,hb,t⟩:=hb _ hk
  exact h.tx.map hb
 ·obtain⟨c2,T,fr,hb,t⟩:=hb _ hk
  rcases t with rfl | rfl | rfl | rfl | rfl
  all_goals rw[hb] at e;simp at e
attribute [-go_sem] loadCells storeCells Instr.build
theorem build_spl0(w:World):(Instr.build 228 #[]).run Tryz.prog w=.ok (splV none) w:=run_build w _ _ _ (by kernel_rfl)
theorem build_spl1{key:Bs}(hk:key.length=32)(s:Int)(w:World):(Instr.build 228 #[(0,.agg (bts key).toArray),(1,.int .u32 s),(2,.bool true)]).run Tryz.prog w=.ok (.agg (bts key ++ [Value.int .u32 s,Value.bool true]).toArray) w:=by
 match key,hk with
 | [x0,x1,x2,x3,x4,x5,x6,x7,x8,x9,x10,x11,x12,x13,x14,x15,x16,x17,x18,x19,x20,x21,x22,x23,x24,x25,x26,x27,x28,x29,x30,x31],_=>exact run_build w _ _ _ (by kernel_rfl)
theorem store_blk{w:World}{b:Nat}{C:Array Value}{T:TypeId}(h:w.heap[b]?=some (.cells C T (0,0))){l:List Value}(hl:l.length=C.size)(h1:∀u∈l,u.oneCell'=true):(storeCells ⟨b,0,none⟩ l 0).run Tryz.prog w=.ok () (w.setRow b l.toArray):=by
 have:=run_storeCells_from (P:=Tryz.prog) b T l 0 C w h (by omega) h1
 rw[this,List.take_zero,List.nil_append]
theorem splC_len(o:Option (Bs × Nat))(h:∀k b,o=some (k,b)→k.length=32):(splC o).length=34:=by
 cases o with
 | none=>rfl
 | some p=>obtain⟨k,b⟩:=p;unfold splC;rw[List.length_append,bts_length,h k b rfl];rfl
theorem splC_one(o:Option (Bs × Nat)):∀u∈splC o,u.oneCell'=true:=by
 intro u hu
 cases o with
 | none=>exact(List.mem_append.1 hu).elim (bts_one _ u) (by simp;rintro(rfl | rfl)<;>rfl)
 | some p=>exact(List.mem_append.1 hu).elim (bts_one _ u) (by simp;rintro(rfl | rfl)<;>rfl)
theorem infoSpl:(Tryz.prog.info? 228).map (·.size)=some 34:=by kernel_rfl
theorem spl_size{o:Option (Bs × Nat)}(h:∀k b,o=some (k,b)→k.length=32):(Tryz.prog.info? 228).map (·.size)=some (splC o).toArray.size:=by
 rw[infoSpl,List.size_toArray,splC_len o h]
set_option maxRecDepth 100000 in
set_option maxHeartbeats 4000000 in
theorem part_spec{w:World}{g:Sg}{M:Nat→Option Sec}(h:SpAt w g M)(hh:1<g.h)(hh2:g.h≤4096){kx ky:Int}{a1 a2 a3 a4 a5 a6:Option Addr}{n1 n2 n3 n4 n5 n6 c1 c2 c3 c4 c5 c6:Nat}{ex ey:Sec}
  (hx:NodeRd g.S w kx (.slice a1 n1 c1) (.slice a2 n2 c2) (.slice a3 n3 c3) ex) (hy:NodeRd g.S w ky (.slice a4 n4 c4) (.slice a5 n5 c5) (.slice a6 n6 c6) ey) (at_:Nat) (hat:at_<g.h) (key:Bs) (hkey:key.length=32)
  (hl:0<leftN (g.T M) g.h) (hc:(M 1).isSome=true∨cntM M g.h<40) (hc2:∀s,4≤s→s<g.h→g.Fr M s→((takM g M s) at_).isSome=true∨cntM (takM g M s) g.h<40) (hc3:∀s,4≤s→s<g.h→g.Fr M s→cntM (putS (takM g M s) at_ ex) g.h<40) :
  Calls Tryz.prog 208 #[.pointer (some ⟨g.x.tb,0,none⟩),.int .u32 (at_:Int),.agg #[.int .i64 kx,.slice a1 n1 c1,.slice a2 n2 c2,.slice a3 n3 c3],.agg #[.int .i64 ky,.slice a4 n4 c4,.slice a5 n5 c5,.slice a6 n6 c6],arr key] w fun e w'=>
   ∃s,4≤s∧s<g.h∧g.Fr M s∧e=.returned (.tuple #[splV (some (key,s)),.int .i64 0])∧SpAt w' g (putS (putS (takM g M s) at_ ex) s ey)∧Upd g.S w w':=by
 obtain⟨wA,hwA⟩:∃wA,wA=(((w.alloc (.cells #[.int .i64 kx,.slice a1 n1 c1,.slice a2 n2 c2,.slice a3 n3 c3] 220)).alloc (.cells #[.int .i64 ky,.slice a4 n4 c4,.slice a5 n5 c5,.slice a6 n6 c6] 220)).alloc (.cells (bts key).toArray 35)).alloc (.cells (splC none).toArray 228):=⟨_,rfl⟩
 have huA:Upd [] w wA:=by rw[hwA];exact((((Upd.refl _ _).alloc _).alloc _).alloc _).alloc _
 obtain⟨b7,hb7⟩:∃b,b=w.heap.size:=⟨_,rfl⟩
 obtain⟨b8,hb8⟩:∃b,b=w.heap.size+1:=⟨_,rfl⟩
 obtain⟨b9,hb9⟩:∃b,b=w.heap.size+1+1:=⟨_,rfl⟩
 obtain⟨b10,hb10⟩:∃b,b=w.heap.size+1+1+1:=⟨_,rfl⟩
 have H10:Hid (wA.heap[b10]?=some (.cells (splC none).toArray 228 (0,0))):=by
  show wA.heap[b10]?=_
  rw[hwA];have:=blk_alloc (w:=((w.alloc (.cells #[.int .i64 kx,.slice a1 n1 c1,.slice a2 n2 c2,.slice a3 n3 c3] 220)).alloc (.cells #[.int .i64 ky,.slice a4 n4 c4,.slice a5 n5 c5,.slice a6 n6 c6] 220)).alloc (.cells (bts key).toArray 35)) (.cells (splC none).toArray 228)
  simpa [hb10] using this
 have H9:Hid (wA.heap[b9]?=some (.cells (bts key).toArray 35 (0,0))):=by
  show wA.heap[b9]?=_
  rw[hwA,blk_alloc_ne (by simp[hb9];try omega)]
  have:=blk_alloc (w:=(w.alloc (.cells #[.int .i64 kx,.slice a1 n1 c1,.slice a2 n2 c2,.slice a3 n3 c3] 220)).alloc (.cells #[.int .i64 ky,.slice a4 n4 c4,.slice a5 n5 c5,.slice a6 n6 c6] 220)) (.cells (bts key).toArray 35)
  simpa [hb9] using this
 have H8:Hid (wA.heap[b8]?=some (.cells #[.int .i64 ky,.slice a4 n4 c4,.slice a5 n5 c5,.slice a6 n6 c6] 220 (0,0))):=by
  show wA.heap[b8]?=_
  rw[hwA,blk_alloc_ne (by simp[hb8];try omega),blk_alloc_ne (by simp[hb8];try omega)]
  have:=blk_alloc (w:=w.alloc (.cells #[.int .i64 kx,.slice a1 n1 c1,.slice a2 n2 c2,.slice a3 n3 c3] 220)) (.cells #[.int .i64 ky,.slice a4 n4 c4,.slice a5 n5 c5,.slice a6 n6 c6] 220)
  simpa [hb8] using this
 have H7:Hid (wA.heap[b7]?=some (.cells #[.int .i64 kx,.slice a1 n1 c1,.slice a2 n2 c2,.slice a3 n3 c3] 220 (0,0))):=by
  show wA.heap[b7]?=_
  rw[hwA,hb7,blk_alloc_ne (by simp;try omega),blk_alloc_ne (by simp;try omega),blk_alloc_ne (by simp)]
  exact blk_alloc _
 have HTK:=Lib.hid (take_one (h.below huA) hh hh2 hc hl)
 have HX:=Lib.hid (hx.below huA)
 have HY:=Lib.hid (hy.below huA)
 have HA:=Lib.hid (h.below huA)
 have HW:=Lib.hid hwA
 have HUA:=Lib.hid huA
 have HB:=Lib.hid (And.intro hb7 (And.intro hb8 (And.intro hb9 hb10)))
 have HC2:=Lib.hid hc2
 have HC3:=Lib.hid hc3
 clear h hx hy hwA huA hb7 hb8 hb9 hb10 hl hc hc2 hc3
 unfold arr
 go_enter Tryz.func208,Tryz.ntmps208
 go_wp2_with fail
 have hwA:=HW.out
 obtain⟨hb7,hb8,hb9,hb10⟩:=HB.out
 rw[show(#[.int .u8 0,.int .u8 0,.int .u8 0,.int .u8 0,.int .u8 0,.int .u8 0,.int .u8 0,.int .u8 0,.int .u8 0,.int .u8 0,.int .u8 0,.int .u8 0,.int .u8 0,.int .u8 0,.int .u8 0,.int .u8 0,.int .u8 0,.int .u8 0,.int .u8 0,.int .u8 0,.int .u8 0,.int .u8 0,.int .u8 0,.int .u8 0,.int .u8 0,.int .u8 0,.int .u8 0,.int .u8 0,.int .u8 0,.int .u8 0,.int .u8 0,.int .u8 0,.int .u32 0,.bool false]:Array Value)=(splC none).toArray from rfl,← hwA,← hb10,← hb9,← hb8,← hb7]
 clear hwA hb7 hb8 hb9 hb10
 refine HTK.out.mono ?_
 rintro e w1 ⟨s,hs4,hsh,hsT,rfl,h1,hu1⟩
 have h7:=(hu1.block _ (blk_lt H7.out) (HA.out.other9 H7.out (.inr (.inl rfl)))).trans H7.out
 have h8:=(hu1.block _ (blk_lt H8.out) (HA.out.other9 H8.out (.inr (.inl rfl)))).trans H8.out
 have h9:=(hu1.block _ (blk_lt H9.out) (HA.out.other9 H9.out (.inr (.inr (.inl rfl))))).trans H9.out
 have h10:=(hu1.block _ (blk_lt H10.out) (HA.out.other9 H10.out (.inl rfl))).trans H10.out
 have l7:=run_cells_blk (n:=4) (cs:=[.int .i64 kx,.slice a1 n1 c1,.slice a2 n2 c2,.slice a3 n3 c3]) h7 rfl
 have hx1:=HX.out.keep hu1
 have hy1:=HY.out.keep hu1
 have HWX:=Lib.hid (write_node h1 hx1 at_ hat (by omega) (HC2.out s hs4 hsh hsT))
 have HC3s:=Lib.hid (HC3.out s hs4 hsh hsT)
 have ws:IntKind.u32.wrap (s:Int)=(s:Int):=by rw[IntKind.wrap_u32];omega
 have HU1:=Lib.hid hu1
 have H71:=Lib.hid h7
 have H81:=Lib.hid h8
 have H91:=Lib.hid h9
 have H101:=Lib.hid h10
 have HY1:=Lib.hid hy1
 have H1:=Lib.hid h1
 have HT:=Lib.hid hsT
 clear hu1 h7 h8 h9 h10 hx1 hy1 h1 hsT
 go_wp2_with fail
 refine HWX.out.mono ?_
 rintro e w2 ⟨rfl,h2,hu2⟩
 have nS:∀b,b∉g.S→b∉[g.x.wb]:=fun b hb=>by simp[Sg.S] at hb;simpa using hb.1
 have h8:=(hu2.block _ (blk_lt H81.out) (nS _ (H1.out.other9 H81.out (.inr (.inl rfl))))).trans H81.out
 have h9:=(hu2.block _ (blk_lt H91.out) (nS _ (H1.out.other9 H91.out (.inr (.inr (.inl rfl)))))).trans H91.out
 have h10:=(hu2.block _ (blk_lt H101.out) (nS _ (H1.out.other9 H101.out (.inl rfl)))).trans H101.out
 have l8:=run_cells_blk (n:=4) (cs:=[.int .i64 ky,.slice a4 n4 c4,.slice a5 n5 c5,.slice a6 n6 c6]) h8 rfl
 have hy2:=HY1.out.keep (hu2.mono g.memw)
 have HWY:=Lib.hid (write_node h2 hy2 s hsh (by omega) (.inr HC3s.out))
 have HU2:=Lib.hid (HU1.out.trans (hu2.mono g.memw))
 have H92:=Lib.hid h9
 have H102:=Lib.hid h10
 have H2:=Lib.hid h2
 clear hu2 h8 h9 h10 hy2 h2 nS
 go_wp2_with fail
 refine HWY.out.mono ?_
 rintro e w3 ⟨rfl,h3,hu3⟩
 have nS:∀b,b∉g.S→b∉[g.x.wb]:=fun b hb=>by simp[Sg.S] at hb;simpa using hb.1
 have h9:=(hu3.block _ (blk_lt H92.out) (nS _ (H2.out.other9 H92.out (.inr (.inr (.inl rfl)))))).trans H92.out
 have h10:=(hu3.block _ (blk_lt H102.out) (nS _ (H2.out.other9 H102.out (.inl rfl)))).trans H102.out
 have l9:=run_cells_blk (n:=32) h9 (by rw[bts_length,hkey])
 have s10:=store_blk h10 (l:=splC (some (key,s))) (by rw[List.size_toArray,splC_len _ (by intro k b e;cases e;exact hkey),splC_len _ (by simp)]) (splC_one _)
 have HU3:=Lib.hid (HU2.out.trans (hu3.mono g.memw))
 have H3:=Lib.hid h3
 clear hu3 nS h9 h3
 have b10s:=build_spl1 hkey (s:Int)
 unfold splC at s10
 go_wp2_with fail
 refine bodyPost_ret (results_row_tmp (p:=10) (u:=11) (ty:=228) (by rfl) _ _ b10 _ (by rfl) (run_loadVar_row _ b10 _ _ _ _ _ (setRow_heap _ _ _ _ _ _ h10) Tryz.underlying228 rfl (spl_size (o:=some (key,s)) (by intro k b e;cases e;exact hkey)))) (by rfl) ?_
 have hr:Upd [b10] w3 (w3.setRow b10 (splC (some (key,s))).toArray):=upd_row (Upd.refl _ _) _ (.inl (by simp))
 refine⟨s,hs4,hsh,HT.out,rfl,H3.out.turned9 (fun b hb=>?_) hr,((HUA.out.mono (by simp)).trans HU3.out).late hr (fun k hk=> .inr ?_)⟩
 ·simp at hb;subst hb;exact⟨_,_,_,h10,.inl rfl⟩
 ·simp at hk;subst hk;have:=HB.out.2.2.2;omega
end Go.Proofs.YtgfbepakonjbnaaGreat
end
section
namespace Go.Proofs.YtgfbepakonjbnaaGreat
open Go.RowKit Go.MapKept Go.ChangeMaps
theorem flat_len{sz:Nat}:∀{es:List (List Value)},(∀e,e∈es→e.length=sz)→es.flatten.length=es.length*sz
 | [],_=>by simp
 | e :: es,h=>by
  have:=flat_len (es:=es) (fun x hx=>h x (by simp[hx]))
  rw[List.flatten_cons,List.length_append,this,h e (by simp),List.length_cons,Nat.add_mul]
  omega
theorem flat_take{sz:Nat}:∀{es:List (List Value)} (i:Nat),(∀e,e∈es→e.length=sz)→(es.take i).flatten=es.flatten.take (i*sz)
 | [],i,_=>by simp
 | e :: es,0,_=>by simp
 | e :: es,i+1,h=>by
  have:=flat_take (es:=es) i (fun x hx=>h x (by simp[hx]))
  have he:=h e (by simp)
  rw[List.take_succ_cons,List.flatten_cons,List.flatten_cons,this,List.take_append,List.take_of_length_le (l:=e) (by rw[he,Nat.add_mul];omega),he,Nat.add_mul,Nat.one_mul,Nat.add_sub_cancel]
theorem flat_drop{sz:Nat}:∀{es:List (List Value)} (i:Nat),(∀e,e∈es→e.length=sz)→(es.drop i).flatten=es.flatten.drop (i*sz)
 | [],i,_=>by simp
 | e :: es,0,_=>by simp
 | e :: es,i+1,h=>by
  have:=flat_drop (es:=es) i (fun x hx=>h x (by simp[hx]))
  have he:=h e (by simp)
  rw[List.drop_succ_cons,List.flatten_cons,this,List.drop_append,List.drop_eq_nil_of_le (show e.length≤(i+1)*sz by rw[he,Nat.add_mul];omega),he,Nat.add_mul,Nat.one_mul,Nat.add_sub_cancel,List.nil_append]
theorem map_len{ls:List Bs}{n:Nat}(h:∀x,x∈ls→x.length=n):∀e,e∈ls.map bts→e.length=n:=fun e he=>by
 obtain⟨k,hk,rfl⟩:=List.mem_map.1 he;rw[bts_length];exact h k hk
theorem flat_ins{ls:List Bs}{n i:Nat}{x:Bs}(h:∀x,x∈ls→x.length=n):((insAt ls i x).map bts).flatten=((ls.map bts).flatten.take (i*n)++bts x)++(ls.map bts).flatten.drop (i*n):=by
 rw[← flat_take i (map_len h),← flat_drop i (map_len h)]
 simp[insAt,List.map_take,List.map_drop]
theorem flat_set{ls:List Bs}{n i:Nat}{x:Bs}(h:∀x,x∈ls→x.length=n)(hi:i<ls.length):((ls.set i x).map bts).flatten=((ls.map bts).flatten.take (i*n)++bts x)++(ls.map bts).flatten.drop ((i+1)*n):=by
 rw[← flat_take i (map_len h),← flat_drop (i+1) (map_len h),List.set_eq_take_append_cons_drop,if_pos hi]
 simp[List.map_take,List.map_drop]
theorem flat_one(ls:List Bs):∀u∈(ls.map bts).flatten,u.oneCell'=true:=by
 intro u hu
 obtain⟨e,he,hu⟩:=List.mem_flatten.1 hu
 obtain⟨k,_,rfl⟩:=List.mem_map.1 he
 exact bts_one k u hu
theorem VOwn.turn{w:World}{B:Nat}{v:Value}{vs:List Bs}(h:VOwn w B v vs)(hl:∀x,x∈vs→x.length=16){P:Nat}(hP:P<vs.length){x:Bs}(hx:x.length=16) :
  ∃gv cap cur r,v=.slice (some ⟨gv,0,none⟩) vs.length cap∧B≤gv∧w.heap[gv]?=some (.cells cur 115 (0,0))∧(storeCells ⟨gv,P*16,none⟩ (bts x) 0).run Tryz.prog w=.ok () (w.setRow gv r)∧VOwn (w.setRow gv r) B v (vs.set P x):=by
 rcases h.2 with⟨_,h0⟩ | ⟨gv,cap,cur,rfl,hb,hg,hc,hm,hs,ht⟩
 ·omega
 ·have hcl:cur.toList.length=cap*16:=by rw[Array.length_toList,hs]
  have hbl:=bts_length x
  have hrun:=run_storeCells_at (P:=Tryz.prog) gv (P*16) _ (bts x) 0 cur w hg (by rw[hbl,hx,hs];omega) (bts_one x)
  refine⟨gv,cap,cur,_,rfl,hb,hg,hrun,?_⟩
  have hfl:=flat_len (map_len hl)
  rw[List.length_map] at hfl
  unfold VOwn
  refine⟨?_,.inr ⟨gv,cap,_,by rw[List.length_set],hb,setRow_heap _ _ _ _ _ _ hg,by rw[List.length_set];exact hc,hm,?_,?_⟩⟩
  ·rw[flat_len (map_len (n:=16) (by intro y hy;rcases List.mem_or_eq_of_mem_set hy with q | q;exact hl y q;rw[q];exact hx)),List.length_map]
  ·rw[List.size_toArray];simp only[List.length_append,List.length_take,List.length_drop,hcl,hbl,hx];omega
  ·rw[flat_set hl hP,List.length_set,← ht,Nat.add_zero,hbl,hx]
   have e1:(List.take (vs.length*16) cur.toList).take (P*16)=cur.toList.take (P*16):=by rw[List.take_take];congr 1;omega
   rw[e1,List.append_assoc,List.append_assoc,List.take_append,List.take_append,List.take_of_length_le (i:=vs.length*16) (l:=cur.toList.take (P*16)) (by rw[List.length_take];omega),List.take_of_length_le (i:=_) (l:=bts x) (by rw[List.length_take,hcl,hbl,hx];omega)]
   congr 2
   rw[List.drop_take,show P*16+16=(P+1)*16 from by omega]
   congr 1
   rw[List.length_take,hcl,hbl,hx];omega
theorem put_end{w w5:World}{g:Sg}{M:Nat→Option Sec}{b10:Nat}{C:Array Value}(h5:SpAt w5 g M)(h10:w5.heap[b10]?=some (.cells C 228 (0,0)))(hb:w.heap.size≤b10)(hu:Upd g.S w w5)(cs:Array Value):SpAt (w5.setRow b10 cs) g M∧Upd g.S w (w5.setRow b10 cs):=by
 have hr:Upd [b10] w5 (w5.setRow b10 cs):=upd_row (Upd.refl _ _) _ (.inl (by simp))
 refine⟨h5.turned9 (fun b hb=>?_) hr,hu.late hr (fun k hk=> .inr ?_)⟩
 ·simp at hb;subst hb;exact⟨_,_,_,h10,.inl rfl⟩
 ·simp at hk;subst hk;exact hb
theorem Sg.notw{g:Sg}{b:Nat}(hb:b∉g.S):b∉[g.x.wb]:=fun q=>hb (g.memw b q)
attribute [-go_sem] loadCells storeCells Instr.build
attribute [local go_sem] build_spl0 store4_run
set_option maxRecDepth 100000 in
set_option maxHeartbeats 4000000 in
theorem put_there{w:World}{g:Sg}{M:Nat→Option Sec}(h:SpAt w g M)(at_:Nat)(hat:at_<g.h)(hat2:at_<4294967296){ks vs:List Bs}(hok:LeafOk ks vs)(hcur:g.cur M at_=encLeaf ks vs)(key v:Bs)(hkey:key.length=32)(hv:v.length=16)(deep:Int)(hd:(deep == 0)=false)(hc:(M at_).isSome=true∨cntM M g.h<40)(hh:hasK ks key=true){P:Nat}(hPk:posK ks key=P) :
  Calls Tryz.prog 131 #[.pointer (some ⟨g.x.tb,0,none⟩),.int .u32 (at_:Int),arr key,arr v,.int .i64 deep] w fun e w'=>e=.returned (.tuple #[splV none,.int .i64 0])∧SpAt w' g (putS M at_ (encLeaf ks (vs.set P v)))∧Upd g.S w w':=by
 obtain⟨wA,hwA⟩:∃wA,wA=((w.alloc (.cells (bts key).toArray 35)).alloc (.cells (bts v).toArray 115)).alloc (.cells (splC none).toArray 228):=⟨_,rfl⟩
 have huA:Upd [] w wA:=by rw[hwA];exact(((Upd.refl _ _).alloc _).alloc _).alloc _
 obtain⟨b7,hb7⟩:∃b,b=w.heap.size:=⟨_,rfl⟩
 obtain⟨b8,hb8⟩:∃b,b=w.heap.size+1:=⟨_,rfl⟩
 obtain⟨b10,hb10⟩:∃b,b=w.heap.size+1+1:=⟨_,rfl⟩
 have H10:Hid (wA.heap[b10]?=some (.cells (splC none).toArray 228 (0,0))):=by
  show wA.heap[b10]?=_
  rw[hwA];have:=blk_alloc (w:=(w.alloc (.cells (bts key).toArray 35)).alloc (.cells (bts v).toArray 115)) (.cells (splC none).toArray 228)
  simpa [hb10] using this
 have H8:Hid (wA.heap[b8]?=some (.cells (bts v).toArray 115 (0,0))):=by
  show wA.heap[b8]?=_
  rw[hwA,blk_alloc_ne (by simp[hb8];try omega)]
  have:=blk_alloc (w:=w.alloc (.cells (bts key).toArray 35)) (.cells (bts v).toArray 115)
  simpa [hb8] using this
 have H7:Hid (wA.heap[b7]?=some (.cells (bts key).toArray 35 (0,0))):=by
  show wA.heap[b7]?=_
  rw[hwA,hb7,blk_alloc_ne (by simp;try omega),blk_alloc_ne (by simp;try omega)]
  exact blk_alloc _
 have hA:=h.below huA
 have HO7:=Lib.hid (hA.other9 H7.out (.inr (.inr (.inl rfl))))
 have HO8:=Lib.hid (hA.other9 H8.out (.inr (.inr (.inr (.inl rfl)))))
 have HO10:=Lib.hid (hA.other9 H10.out (.inl rfl))
 have HBB:Hid (b7<wA.heap.size∧b8<wA.heap.size∧b10<wA.heap.size):=Lib.hid ⟨blk_lt H7.out,blk_lt H8.out,blk_lt H10.out⟩
 have HR:=Lib.hid (read_leaf hA at_ hat hat2 hok hcur)
 have HW:=Lib.hid hwA
 have HUA:=Lib.hid huA
 have HB:=Lib.hid (And.intro hb7 (And.intro hb8 hb10))
 have HOK:=Lib.hid hok
 have HA:=Lib.hid hA
 clear h hA hok hcur hwA huA hb7 hb8 hb10
 unfold arr
 go_enter Tryz.func131,Tryz.ntmps131
 go_wp2_with fail
 have hwA:=HW.out
 obtain⟨hb7,hb8,hb10⟩:=HB.out
 rw[show(#[.int .u8 0,.int .u8 0,.int .u8 0,.int .u8 0,.int .u8 0,.int .u8 0,.int .u8 0,.int .u8 0,.int .u8 0,.int .u8 0,.int .u8 0,.int .u8 0,.int .u8 0,.int .u8 0,.int .u8 0,.int .u8 0,.int .u8 0,.int .u8 0,.int .u8 0,.int .u8 0,.int .u8 0,.int .u8 0,.int .u8 0,.int .u8 0,.int .u8 0,.int .u8 0,.int .u8 0,.int .u8 0,.int .u8 0,.int .u8 0,.int .u8 0,.int .u8 0,.int .u32 0,.bool false]:Array Value)=(splC none).toArray from rfl,← hwA,← hb10,← hb8,← hb7]
 clear hwA hb7 hb8 hb10
 refine HR.out.mono ?_
 rintro e w1 ⟨vk,vv,rfl,hK,hV,h1,hu1⟩
 obtain⟨ak,ck,rfl⟩:=own_shape hK
 obtain⟨av,cv,rfl⟩:=own_shape hV
 have nj:∀b,b∉g.S→b∉[g.j.jb]:=fun b hb q=>hb (g.mem b q)
 obtain⟨w2,hw2⟩:∃w2,w2=w1.alloc (.cells #[.int .i64 1,.slice ak ks.length ck,.slice av vs.length cv,.slice none 0 0] 220):=⟨_,rfl⟩
 have hu2:Upd [] w1 w2:=by rw[hw2];exact(Upd.refl _ _).alloc _
 obtain⟨b12,hb12⟩:∃b,b=w1.heap.size:=⟨_,rfl⟩
 have h7:=(hu2.block _ (Nat.lt_of_lt_of_le HBB.out.1 hu1.size) (by simp)).trans ((hu1.block _ HBB.out.1 (nj _ HO7.out)).trans H7.out)
 have h8:=(hu2.block _ (Nat.lt_of_lt_of_le HBB.out.2.1 hu1.size) (by simp)).trans ((hu1.block _ HBB.out.2.1 (nj _ HO8.out)).trans H8.out)
 have h10:=(hu2.block _ (Nat.lt_of_lt_of_le HBB.out.2.2 hu1.size) (by simp)).trans ((hu1.block _ HBB.out.2.2 (nj _ HO10.out)).trans H10.out)
 have h12:w2.heap[b12]?=some (.cells #[.int .i64 1,.slice ak ks.length ck,.slice av vs.length cv,.slice none 0 0] 220 (0,0)):=by rw[hw2,hb12];exact blk_alloc _
 have H712:=Lib.hid h7
 have H812:=Lib.hid h8
 have H1012:=Lib.hid h10
 have H12:=Lib.hid h12
 have H2:=Lib.hid (h1.below hu2)
 have HK2:=Lib.hid (own_upd (S:=[]) hK hu2 (by simp))
 have HV2:=Lib.hid (own_upd (S:=[]) hV hu2 (by simp))
 have HU2:=Lib.hid ((hu1.mono (by simp)).trans (hu2.mono (by simp)):Upd [g.j.jb] wA w2)
 have HW2:=Lib.hid hw2
 have HB12:=Lib.hid hb12
 have HBG:=Lib.hid (Nat.le_trans (Nat.le_of_eq rfl) hu1.size:wA.heap.size≤w1.heap.size)
 have l1:=run_cells_blk (n:=4) (cs:=[.int .i64 1,.slice ak ks.length ck,.slice av vs.length cv,.slice none 0 0]) h12 rfl
 have l7:=run_cells_blk (n:=32) h7 (by rw[bts_length,hkey])
 have m0:=blk_cell h12 0
 rw[hw2] at l1 l7
 rw[hw2,hb12] at m0
 rw[hb12] at l1
 clear hK hV h1 hu1 hu2 h7 h8 h10 h12 nj hw2 hb12
 have hF:=find_spec (w:=w2) (vv:=.slice av vs.length cv) (vd:=.slice none 0 0) 1 (KOwn.rd HK2.out HOK.out.k) HOK.out.k (by have:=HOK.out.most;omega) key hkey
 rw[hh,hPk] at hF
 have HF:=Lib.hid hF
 clear hF
 unfold arr at *
 have hP:P<vs.length:=by
  have:=HOK.out.n
  rw[← hPk]
  unfold hasK at hh
  have:=of_decide_eq_true hh
  have:=(List.getElem?_eq_some_iff.1 this).1
  omega
 clear hh hPk
 have hP0:(P:Int)<(vs.length:Int):=by omega
 go_wp2_with fail
 have hw2:=HW2.out
 have hb12:=HB12.out
 rw[← hw2,← hb12]
 clear hw2 hb12
 refine HF.out.mono ?_
 rintro e w3 ⟨rfl,hu3⟩
 have hV3:=own_upd (S:=[]) HV2.out hu3 (by simp)
 have hK3:=own_upd (S:=[]) HK2.out hu3 (by simp)
 obtain⟨gv,cap,cur,r,ev,hBg,hgv,hst,hV4⟩:=VOwn.turn hV3 HOK.out.v hP hv
 injection ev with e1 _ e3
 subst e1 e3
 have h7:=(hu3.block _ (blk_lt H712.out) (by simp)).trans H712.out
 have h8:=(hu3.block _ (blk_lt H812.out) (by simp)).trans H812.out
 have h10:=(hu3.block _ (blk_lt H1012.out) (by simp)).trans H1012.out
 have h12:=(hu3.block _ (blk_lt H12.out) (by simp)).trans H12.out
 have h3:=H2.out.below hu3
 have m2:=blk_cell h12 2
 have l8:=run_cells_blk (n:=16) h8 (by rw[bts_length,hv])
 obtain⟨w4,hw4⟩:∃w4,w4=w3.setRow gv r:=⟨_,rfl⟩
 have hu4:Upd [gv] w3 w4:=by rw[hw4];exact upd_row (Upd.refl _ _) _ (.inl (by simp))
 have n12:b12≠gv:=by rintro rfl;rw[hgv] at h12;simp at h12
 have n10:b10≠gv:=by rintro rfl;rw[hgv] at h10;simp at h10
 have h12':=(hu4.block _ (blk_lt h12) (by simpa using n12)).trans h12
 have h10':=(hu4.block _ (blk_lt h10) (by simpa using n10)).trans h10
 have h4:=h3.turned9 (S:=[gv]) (fun b hb=>by simp at hb;subst hb;exact⟨_,_,_,hgv,.inr (.inr (.inr (.inl rfl)))⟩) hu4
 have hK4:=own_upd hK3 hu4 (fun k c hk _ e=>by simp at hk;subst hk;rw[hgv] at e;simp at e)
 rw[← hw4] at hst hV4
 have hok2:LeafOk ks (vs.set P v):=⟨HOK.out.k,fun x hx=>by rcases List.mem_or_eq_of_mem_set hx with q | q;exact HOK.out.v x q;rw[q];exact hv,by rw[List.length_set];exact HOK.out.n,HOK.out.most⟩
 have hWR:=write_leaf h4 (vd:=.slice none 0 0) (KOwn.rd hK4 HOK.out.k) (VOwn.rd hV4 hok2.v) hok2 at_ hat hat2 hc
 have l12:=run_cells_blk (n:=4) (cs:=[.int .i64 1,.slice ak ks.length ck,.slice (some ⟨gv,0,none⟩) vs.length cv,.slice none 0 0]) h12' rfl
 have HWR:=Lib.hid hWR
 have H10':=Lib.hid h10'
 have H4:=Lib.hid h4
 have HU4:Hid (Upd [g.j.jb] wA w4):=by
  show Upd _ _ _
  exact(HU2.out.trans (hu3.mono (by simp))).late hu4 (fun k hk=> .inr (by simp at hk;subst hk;exact hBg))
 clear hV3 hK3 hgv hV4 h7 h8 h10 h12 h3 hu4 hw4 n12 n10 h12' h10' h4 hK4 hok2 hWR
 go_wp2_with fail
 refine HWR.out.mono ?_
 rintro e w5 ⟨rfl,h5,hu5⟩
 have h10:=(hu5.block _ (blk_lt H10'.out) (Sg.notw HO10.out)).trans H10'.out
 have s10:=store_blk h10 (l:=splC none) (by rw[List.size_toArray]) (splC_one _)
 have HU5:=Lib.hid ((HU4.out.mono g.mem).trans (hu5.mono g.memw))
 have H5:=Lib.hid h5
 clear hu5 h5
 unfold splV
 go_wp2_with fail
 refine bodyPost_ret (results_row_tmp (p:=10) (u:=11) (ty:=228) (by rfl) _ _ b10 _ (by rfl) (run_loadVar_row _ b10 _ _ _ _ _ (setRow_heap _ _ _ _ _ _ h10) Tryz.underlying228 rfl (spl_size (o:=none) (by simp)))) (by rfl) ?_
 exact⟨rfl,put_end H5.out h10 (by have:=HB.out.2.2;omega) ((HUA.out.mono (by simp)).trans HU5.out) _⟩
end Go.Proofs.YtgfbepakonjbnaaGreat
end
end
section
section
namespace Go.Proofs.YtgfbepakonjbnaaGreat
open Go.RowKit
theorem leftN_take{T T':Nat→Bool}{s:Nat}(h1:∀i,T' i=(T i || decide (i=s)))(h2:T s=false):∀h,leftN T h=leftN T' h+(if s<h then 1 else 0)
 | 0=>by simp[leftN]
 | h+1=>by
  have ih:=leftN_take h1 h2 h
  unfold leftN
  rw[h1 h]
  by_cases e:h=s
  ·subst e
   rw[h2,ih]
   simp
  ·rw[ih]
   have:(s<h+1)=(s<h):=by rw[eq_iff_iff];omega
   simp only[this,e,decide_false,Bool.or_false]
   cases T h
   ·simp only[Bool.false_eq_true,if_false];omega
   ·simp
def c1M(M:Nat→Option Sec):Nat:=if(M 1).isSome then 0 else 1
theorem T_put{g:Sg}{M:Nat→Option Sec}{a:Nat}(x:Sec)(ha:a≠1)(i:Nat):g.T (putS M a x) i=g.T M i:=by
 unfold Sg.T Sg.cur putS
 rw[if_neg (Ne.symm ha)]
theorem cur_put{g:Sg}{M:Nat→Option Sec}(a:Nat)(x:Sec)(i:Nat):g.cur (putS M a x) i=if i=a then x else g.cur M i:=by
 unfold Sg.cur putS
 split<;>rfl
theorem cur_tak{g:Sg}{M:Nat→Option Sec}(s i:Nat)(hi:i≠1):g.cur (takM g M s) i=g.cur M i:=by
 unfold Sg.cur takM put1
 rw[if_neg hi]
theorem T_tak{g:Sg}{M:Nat→Option Sec}(hl:(g.cur M 1).length=512){s:Nat}(hs:4≤s)(hh:s<4096)(i:Nat):g.T (takM g M s) i=(g.T M i || decide (i=s)):=by
 unfold takM
 rw[Sg.T_turn hl true hs (by omega)]
 by_cases e:i=s
 ·subst e;simp
 ·rw[if_neg (by omega)];simp[e]
theorem c1_put{M:Nat→Option Sec}{a:Nat}(x:Sec)(ha:a≠1):c1M (putS M a x)=c1M M:=by
 unfold c1M putS
 rw[if_neg (Ne.symm ha)]
theorem c1_tak(g:Sg)(M:Nat→Option Sec)(s:Nat):c1M (takM g M s)=0:=by
 unfold c1M takM put1;simp
theorem cnt_put{M:Nat→Option Sec}{h a:Nat}{x:Sec}(ho:MOk M h)(ha:a<h):cntM (putS M a x) h≤cntM M h+1:=by
 have:=cntM_put (s:=x) ho ha
 unfold putS
 rw[this];split<;>omega
theorem cnt_tak{g:Sg}{M:Nat→Option Sec}{h:Nat}(s:Nat)(ho:MOk M h)(hh:1<h):cntM (takM g M s) h=cntM M h+c1M M:=by
 unfold takM put1 c1M
 rw[cntM_put ho hh]
 split<;>rfl
structure Grown(g:Sg)(M M':Nat→Option Sec)(S S':List Nat)(n m:Nat):Prop where
 sub:∀s,s∈S→s∈S'
 nd:S'.Nodup
 new:∀s,s∈S'→s∈S∨(g.T M s=false∧4≤s∧s<g.h)
 T:∀i,g.T M' i=(g.T M i || decide (i∈S'))
 keep:∀i,i∉S'→i≠1→M' i=M i
 cnt:cntM M' g.h+c1M M'≤cntM M g.h+c1M M+m
 left:leftN (g.T M') g.h+S'.length=leftN (g.T M) g.h+S.length
 len:S'.length≤S.length+n
 pre:g.Pre M→g.Pre M'
structure Held9(g:Sg)(M:Nat→Option Sec)(S:List Nat):Prop where
 nd:S.Nodup
 low:∀s,s∈S→4≤s∧s<g.h
 T:∀s,s∈S→g.T M s=true
section
variable {g:Sg} {M M1:Nat→Option Sec} {S S':List Nat} {n m:Nat}
theorem Held9.refl(h:Held9 g M S):Grown g M M S S 0 0:=
 ⟨fun _ q=>q,h.nd,fun _ q=> .inl q,fun i=>by
  by_cases e:i∈S
  ·rw[h.T i e];simp
  ·simp[e],fun _ _ _=>rfl,Nat.le_refl _,rfl,Nat.le_refl _,id⟩
theorem Grown.held(h:Grown g M M1 S S' n m)(hs:Held9 g M S):Held9 g M1 S':=
 ⟨h.nd,fun s q=>by rcases h.new s q with r | r;exact hs.low s r;exact r.2,fun s q=>by rw[h.T];simp[q]⟩
theorem Grown.perm(h:Grown g M M1 S S' n m){S2:List Nat}(hp:S'.Perm S2):Grown g M M1 S S2 n m:=
 ⟨fun s q=>hp.mem_iff.1 (h.sub s q),hp.nodup_iff.1 h.nd,fun s q=>h.new s (hp.mem_iff.2 q),fun i=>by rw[h.T];simp only[hp.mem_iff],fun i q=>h.keep i (fun r=>q (hp.mem_iff.1 r)),h.cnt,by rw[← hp.length_eq];exact h.left,by rw[← hp.length_eq];exact h.len,h.pre⟩
theorem Grown.mono(h:Grown g M M1 S S' n m){n' m':Nat}(hn:n≤n')(hm:m≤m'):Grown g M M1 S S' n' m':=
 ⟨h.sub,h.nd,h.new,h.T,h.keep,Nat.le_trans h.cnt (by omega),h.left,Nat.le_trans h.len (by omega),h.pre⟩
theorem Grown.put(h:Grown g M M1 S S' n m)(ho:MOk M1 g.h){a:Nat}(ha:a∈S')(ha1:4≤a)(hh:a<g.h)(x:Sec):Grown g M (putS M1 a x) S S' n (m+1):=by
 refine⟨h.sub,h.nd,h.new,fun i=>by rw[T_put x (by omega)];exact h.T i,fun i q r=>?_,?_,?_,h.len,fun q=>by
  have e:g.T (putS M1 a x)=g.T M1:=funext fun i=>T_put x (by omega) i
  unfold Sg.Pre;rw[e];exact h.pre q⟩
 ·unfold putS
  rw[if_neg (by rintro rfl;exact q ha)]
  exact h.keep i q r
 ·rw[c1_put x (by omega)]
  have:=cnt_put (x:=x) ho hh
  have:=h.cnt
  omega
 ·rw[show g.T (putS M1 a x)=g.T M1 from funext fun i=>T_put x (by omega) i];exact h.left
theorem Grown.take(h:Grown g M M1 S S' n m)(ho:MOk M1 g.h)(hl:(g.cur M1 1).length=512)(hh:1<g.h)(hh2:g.h≤4096){s:Nat}(hs:4≤s)(hs2:s<g.h)(hF:g.Fr M1 s):Grown g M (takM g M1 s) S (s :: S') (n+1) m:=by
 have hT:=hF.1
 have hT1:=T_tak hl hs (show s<4096 by omega)
 have h0:g.T M s=false∧s∉S':=by
  have:=h.T s
  rw[hT] at this
  cases q:g.T M s
  ·rw[q] at this;simp at this;exact⟨rfl,this⟩
  ·rw[q] at this;simp at this
 refine⟨fun i q=>List.mem_cons_of_mem _ (h.sub i q),List.nodup_cons.2 ⟨h0.2,h.nd⟩,fun i q=>?_,fun i=>?_,fun i q r=>?_,?_,?_,?_,fun q=>?_⟩
 ·rcases List.mem_cons.1 q with rfl | q
  ·exact .inr ⟨h0.1,hs,hs2⟩
  ·exact h.new i q
 ·rw[hT1,h.T]
  by_cases e:i=s
  ·subst e;simp
  ·simp[e]
 ·simp only[List.mem_cons,not_or] at q
  unfold takM put1
  rw[if_neg r]
  exact h.keep i q.2 r
 ·rw[c1_tak,cnt_tak s ho hh];exact h.cnt
 ·have:=leftN_take hT1 hT g.h
  rw[if_pos hs2] at this
  have:=h.left
  simp only[List.length_cons]
  omega
 ·have:=h.len
  simp only[List.length_cons];omega
 ·obtain⟨F,hFF⟩:=h.pre q
  have e:s=F:=by
   have a1:¬s<F:=by have:=hFF s;rw[hT] at this;simpa using this.symm
   have a2:¬F<s:=fun hlt=>by have:=hF.2 F hlt;rw[hFF F] at this;simp at this
   omega
  refine⟨F+1,fun i=>?_⟩
  rw[hT1,hFF,e]
  by_cases a:i=F
  ·subst a;simp
  ·by_cases b:i<F
   ·simp[b];omega
   ·simp[a,b];omega
theorem Grown.lift{Sc Sc' X Y:List Nat}(h:Grown g M M1 Sc Sc' n m)(hs:Held9 g M (X++(Sc++Y))):Grown g M M1 (X++(Sc++Y)) (X++(Sc'++Y)) n m:=by
 have hX:∀s,s∈X→g.T M s=true:=fun s q=>hs.T s (by simp[q])
 have hY:∀s,s∈Y→g.T M s=true:=fun s q=>hs.T s (by simp[q])
 have hd1:=List.nodup_append.1 hs.nd
 have hd2:=List.nodup_append.1 hd1.2.1
 have out:∀s,s∈Sc'→(s∈X∨s∈Y)→s∈Sc:=fun s q r=>by
  rcases h.new s q with c | c
  ·exact c
  ·rcases r with r | r
   ·rw[hX s r] at c;simp at c
   ·rw[hY s r] at c;simp at c
 refine⟨fun s q=>?_,?_,fun s q=>?_,fun i=>?_,fun i q r=>?_,h.cnt,?_,?_,h.pre⟩
 ·simp only[List.mem_append] at q ⊢
  rcases q with q | q | q
  ·exact .inl q
  ·exact .inr (.inl (h.sub s q))
  ·exact .inr (.inr q)
 ·refine List.nodup_append.2 ⟨hd1.1,List.nodup_append.2 ⟨h.nd,hd2.2.1,fun a ha b hb e=>?_⟩,fun a ha b hb e=>?_⟩
  ·subst e
   exact hd2.2.2 a (out a ha (.inr hb)) a hb rfl
  ·subst e
   rcases List.mem_append.1 hb with q | q
   ·exact hd1.2.2 a ha a (by simp[out a q (.inl ha)]) rfl
   ·exact hd1.2.2 a ha a (by simp[q]) rfl
 ·simp only[List.mem_append] at q ⊢
  rcases q with q | q | q
  ·exact .inl (.inl q)
  ·rcases h.new s q with c | c
   ·exact .inl (.inr (.inl c))
   ·exact .inr c
  ·exact .inl (.inr (.inr q))
 ·rw[h.T i]
  by_cases e:i∈X∨i∈Y
  ·have:g.T M i=true:=by rcases e with e | e;exact hX i e;exact hY i e
   rw[this];simp
  ·simp only[not_or] at e
   simp[e.1,e.2]
 ·simp only[List.mem_append,not_or] at q
  exact h.keep i q.2.1 r
 ·have:=h.left
  simp only[List.length_append];omega
 ·have:=h.len
  simp only[List.length_append];omega
end
end Go.Proofs.YtgfbepakonjbnaaGreat
end
section
namespace Go.Proofs.YtgfbepakonjbnaaGreat
open Go.RowKit
def PutAt(g:Sg)(M M':Nat→Option Sec)(root:Bool)(d a:Nat)(l:List Pair9)(S:List Nat)(key v:Bs):Option (Bs × Nat)→Prop
 | none=>∃S',Shape (g.cur M') root d a (insL l key v) S'∧Grown g M M' S S' d (2*d+1)∧(lookL l key≠none→∃x s,x∈S∧M'=putS M x s)
 | some (k',b)=>lookL l key=none∧∃l1 l2 S1 S2,insL l key v=l1++l2∧k'.length=32∧Shape (g.cur M') false d a l1 S1∧Shape (g.cur M') false d b l2 S2∧(∀p,p∈l1→ltB p.1 k'=true)∧(∀p,p∈l2→ltB p.1 k'=false)∧Grown g M M' S (S1++S2) (d+1) (2*d+2)
theorem PutAt.grown{g:Sg}{M M':Nat→Option Sec}{root:Bool}{d a:Nat}{l:List Pair9}{S:List Nat}{key v:Bs}:∀{o:Option (Bs × Nat)},PutAt g M M' root d a l S key v o→∃S',Grown g M M' S S' (d+1) (2*d+2)
 | none,h=>by obtain⟨S',_,h,_⟩:=h;exact⟨S',h.mono (by omega) (by omega)⟩
 | some (k',b),h=>by obtain⟨_,l1,l2,S1,S2,_,_,_,_,_,_,h⟩:=h;exact⟨_,h⟩
theorem LeafOk.pairs{l:List Pair9}(h:LeafOk (l.map (·.1)) (l.map (·.2))):∀p,p∈l→p.1.length=32∧p.2.length=16:=fun p hp=>⟨h.k _ (List.mem_map.2 ⟨p,hp,rfl⟩),h.v _ (List.mem_map.2 ⟨p,hp,rfl⟩)⟩
theorem leafOk_mk{l:List Pair9}(h:∀p,p∈l→p.1.length=32∧p.2.length=16)(hm:l.length≤10):LeafOk (l.map (·.1)) (l.map (·.2)):=
 ⟨fun x hx=>by obtain⟨p,hp,rfl⟩:=List.mem_map.1 hx;exact(h p hp).1,fun x hx=>by obtain⟨p,hp,rfl⟩:=List.mem_map.1 hx;exact(h p hp).2,by simp,by simpa using hm⟩
theorem Shape.leaf{C:Nat→Sec}{root:Bool}{a:Nat}{l:List Pair9}(ha:a<4294967296)(h:∀p,p∈l→p.1.length=32∧p.2.length=16)(hm:l.length≤10)(hc:C a=encLeaf (l.map (·.1)) (l.map (·.2)))(hn:(if root then 1 else 5)≤l.length)(hs:(l.map (·.1)).Pairwise (fun x y=>ltB x y=true)):Shape C root 0 a l [a]:=
 ⟨rfl,ha,leafOk_mk h hm,hc,hn,hs⟩
theorem insL_pairs{l:List Pair9}{key v:Bs}(h:∀p,p∈l→p.1.length=32∧p.2.length=16)(hk:key.length=32)(hv:v.length=16):∀p,p∈insL l key v→p.1.length=32∧p.2.length=16:=fun p hp=>by
 rcases insL_mem hp with rfl | q
 ·exact⟨hk,hv⟩
 ·exact h p q
section
variable {g:Sg} {M M1:Nat→Option Sec} {S:List Nat} {root:Bool} {a d:Nat} {l:List Pair9} {key v:Bs}
theorem cur_put_eq(g:Sg)(M:Nat→Option Sec)(a:Nat)(x:Sec):g.cur (putS M a x) a=x:=by rw[cur_put,if_pos rfl]
theorem cur_put_ne(g:Sg)(M:Nat→Option Sec){a i:Nat}(x:Sec)(h:i≠a):g.cur (putS M a x) i=g.cur M i:=by rw[cur_put,if_neg h]
theorem putAt_there(hs:Shape (g.cur M) root 0 a l S)(hh:Held9 g M S)(ho:MOk M g.h)(hk:key.length=32)(hv:v.length=16)(ht:hasK (l.map (·.1)) key=true):PutAt g M (putS M a (encLeaf (l.map (·.1)) ((l.map (·.2)).set (posK (l.map (·.1)) key) v))) root 0 a l S key v none:=by
 have hlow:=hh.low a hs.mem.1
 obtain⟨rfl,ha,hok,hc,hn,hp⟩:=hs
 have hl:(insL l key v).length=l.length:=by rw[insL_length,if_pos ht]
 refine⟨[a],Shape.leaf ha (insL_pairs hok.pairs hk hv) (by rw[hl];simpa using hok.most) ?_ (by rw[hl];exact hn) (insL_sorted hp),hh.refl.put ho (by simp) hlow.1 hlow.2 _,fun _=>⟨a,_,by simp,rfl⟩⟩
 rw[cur_put_eq,insL_keys,insL_vals,if_pos ht,if_pos ht]
theorem putAt_room(hs:Shape (g.cur M) root 0 a l S)(hh:Held9 g M S)(ho:MOk M g.h)(hk:key.length=32)(hv:v.length=16)(ht:hasK (l.map (·.1)) key=false)(hr:(l.map (·.1)).length≤9):PutAt g M (putS M a (encLeaf (insAt (l.map (·.1)) (posK (l.map (·.1)) key) key) (insAt (l.map (·.2)) (posK (l.map (·.1)) key) v))) root 0 a l S key v none:=by
 have hlow:=hh.low a hs.mem.1
 obtain⟨rfl,ha,hok,hc,hn,hp⟩:=hs
 have hl:(insL l key v).length=l.length+1:=by rw[insL_length,ht];simp
 rw[List.length_map] at hr
 refine⟨[a],Shape.leaf ha (insL_pairs hok.pairs hk hv) (by omega) ?_ (by rw[hl];omega) (insL_sorted hp),hh.refl.put ho (by simp) hlow.1 hlow.2 _,fun _=>⟨a,_,by simp,rfl⟩⟩
 rw[cur_put_eq,insL_keys,insL_vals,ht]
 simp
theorem putAt_part(hs:Shape (g.cur M) root 0 a l S)(hh:Held9 g M S)(ho:MOk M g.h)(hl1:(g.cur M 1).length=512)(h1:1<g.h)(h2:g.h≤4096)(hk:key.length=32)(hv:v.length=16)(ht:hasK (l.map (·.1)) key=false)(hr:(l.map (·.1)).length=10){K V:List Bs}(hK:insAt (l.map (·.1)) (posK (l.map (·.1)) key) key=K)(hV:insAt (l.map (·.2)) (posK (l.map (·.1)) key) v=V)
  {k':Bs} (hk':K[5]?=some k') {s:Nat} (hs4:4≤s) (hsh:s<g.h) (hT:g.Fr M s) (ho1:MOk (takM g M s) g.h) (ho2:MOk (putS (takM g M s) a (encLeaf (K.take 5) (V.take 5))) g.h):PutAt g M (putS (putS (takM g M s) a (encLeaf (K.take 5) (V.take 5))) s (encLeaf (K.drop 5) (V.drop 5))) root 0 a l S key v (some (k',s)):=by
 have hlow:=hh.low a hs.mem.1
 have hTa:=hh.T a hs.mem.1
 obtain⟨rfl,ha,hok,hc,hn,hp⟩:=hs
 rw[List.length_map] at hr
 have hl:(insL l key v).length=11:=by rw[insL_length,ht];simp[hr]
 have hK2:(insL l key v).map (·.1)=K:=by rw[insL_keys,ht];simpa using hK
 have hV2:(insL l key v).map (·.2)=V:=by rw[insL_vals,ht];simpa using hV
 have hso:=insL_sorted (key:=key) (v:=v) hp
 have hpr:=insL_pairs hok.pairs hk hv
 have hlk:lookL l key=none:=by rw[lookL_leaf,ht];simp
 obtain⟨L,hL⟩:∃L,insL l key v=L:=⟨_,rfl⟩
 rw[hL] at hl hK2 hV2 hso
 simp only[hL] at hpr
 have has:a≠s:=by rintro rfl;have hT:=hT.1;rw[hTa] at hT;simp at hT
 subst hK2 hV2
 refine⟨hlk,L.take 5,L.drop 5,[a],[s],by rw[List.take_append_drop];exact hL,?_,?_,?_,?_,?_,?_⟩
 ·obtain⟨p,hp,rfl⟩:=List.mem_map.1 (List.mem_of_getElem? hk')
  exact(hpr p hp).1
 ·refine Shape.leaf ha (fun p q=>hpr p (List.mem_of_mem_take q)) (by simp;omega) ?_ (by simp;omega) ?_
  ·rw[cur_put_ne _ _ _ has,cur_put_eq,List.map_take,List.map_take]
  ·rw[List.map_take];exact hso.sublist (List.take_sublist _ _)
 ·refine Shape.leaf (by omega) (fun p q=>hpr p (List.mem_of_mem_drop q)) (by simp;omega) ?_ (by simp;omega) ?_
  ·rw[cur_put_eq,List.map_drop,List.map_drop]
  ·rw[List.map_drop];exact hso.sublist (List.drop_sublist _ _)
 ·intro p hp
  obtain⟨i,hi⟩:=List.mem_iff_getElem?.1 hp
  have hi5:i<5:=by
   have:=(List.getElem?_eq_some_iff.1 hi).1
   simp at this;omega
  rw[List.getElem?_take_of_lt hi5] at hi
  obtain⟨hj,ej⟩:=List.getElem?_eq_some_iff.1 hk'
  obtain⟨hi',ei⟩:=List.getElem?_eq_some_iff.1 hi
  have:=List.pairwise_iff_getElem.1 hso i 5 (by simpa using hi') hj hi5
  rw[ej] at this
  rw[← ei]
  simpa using this
 ·intro p hp
  obtain⟨i,hi⟩:=List.mem_iff_getElem?.1 hp
  rw[List.getElem?_drop] at hi
  obtain⟨hj,ej⟩:=List.getElem?_eq_some_iff.1 hk'
  obtain⟨hi',ei⟩:=List.getElem?_eq_some_iff.1 hi
  cases i with
  | zero=>
   have:p.1=k':=by rw[← ei,← ej];simp
   rw[this];exact ltB_irrefl _
  | succ i=>
   have:=List.pairwise_iff_getElem.1 hso 5 (5+(i+1)) hj (by simpa using hi') (by omega)
   rw[ej] at this
   have e:p.1=(L.map (·.1))[5+(i+1)]'(by simpa using hi'):=by rw[← ei];simp
   rw[e]
   exact ltB_asymm this
 ·have t1:=hh.refl.take ho hl1 h1 h2 hs4 hsh hT
  have t2:=t1.put ho1 (a:=a) (by simp) hlow.1 hlow.2 (encLeaf ((L.map (·.1)).take 5) ((L.map (·.2)).take 5))
  have t3:=t2.put ho2 (a:=s) (by simp) hs4 hsh (encLeaf ((L.map (·.1)).drop 5) ((L.map (·.2)).drop 5))
  exact t3.perm (List.Perm.swap _ _ _)
end
structure AtKid(g:Sg)(M:Nat→Option Sec)(root:Bool)(d a:Nat)(l:List Pair9)(S:List Nat)(key v:Bs)(ks:List Bs)(ds:List Nat)(kid:Nat)(lc:List Pair9)(Sc:List Nat):Prop where
 ok:InnerOk ks ds
 enc:g.cur M a=encInner ks ds
 at_:ds[chK ks key]?=some kid
 shape:Shape (g.cur M) false d kid lc Sc
 held:Held9 g M Sc
 whole:∀M1,PutAt g M M1 false d kid lc Sc key v none→PutAt g M M1 root (d+1) a l S key v none
 len:∀M1 k' b,PutAt g M M1 false d kid lc Sc key v (some (k',b))→k'.length=32∧b<4294967296
 room:∀M1 k' b,PutAt g M M1 false d kid lc Sc key v (some (k',b))→MOk M1 g.h→ks.length≤12→PutAt g M (putS M1 a (encInner (insAt ks (chK ks key) k') (insAt ds (chK ks key+1) b))) root (d+1) a l S key v none
 part:∀M1 k' b,PutAt g M M1 false d kid lc Sc key v (some (k',b))→MOk M1 g.h→(g.cur M1 1).length=512→1<g.h→g.h≤4096→ks.length=13→∀k7 s,(insAt ks (chK ks key) k')[7]?=some k7→4≤s→s<g.h→g.Fr M1 s→MOk (takM g M1 s) g.h→MOk (putS (takM g M1 s) a (encInner ((insAt ks (chK ks key) k').take 7) ((insAt ds (chK ks key+1) b).take 8))) g.h→
  PutAt g M (putS (putS (takM g M1 s) a (encInner ((insAt ks (chK ks key) k').take 7) ((insAt ds (chK ks key+1) b).take 8))) s (encInner ((insAt ks (chK ks key) k').drop 8) ((insAt ds (chK ks key+1) b).drop 8))) root (d+1) a l S key v (some (k7,s))
theorem chK_le(ks:List Bs)(key:Bs):chK ks key≤ks.length:=by
 unfold chK hasK
 split
 ·next h=>have:=(List.getElem?_eq_some_iff.1 (of_decide_eq_true h)).1;omega
 ·exact posK_le _ _
theorem innerOk_ins{ks:List Bs}{ds:List Nat}(h:InnerOk ks ds){i:Nat}(hi:i≤ks.length){k':Bs}(hk:k'.length=32){b:Nat}(hb:b<4294967296):(∀x,x∈insAt ks i k'→x.length=32)∧(∀x,x∈insAt ds (i+1) b→x<4294967296)∧(insAt ks i k').length=ks.length+1∧(insAt ds (i+1) b).length=ks.length+2:=by
 refine⟨fun x q=>?_,fun x q=>?_,insAt_length _ _ _ hi,?_⟩
 ·rcases mem_insAt q with rfl | r
  ·exact hk
  ·exact h.k x r
 ·rcases mem_insAt q with rfl | r
  ·exact hb
  ·exact h.d x r
 ·rw[insAt_length _ _ _ (by rw[h.n];omega),h.n]
theorem Grown.cur{g:Sg}{M M1:Nat→Option Sec}{S S':List Nat}{n m:Nat}(h:Grown g M M1 S S' n m){i:Nat}(hi:i∉S')(h1:i≠1):g.cur M1 i=g.cur M i:=by
 unfold Sg.cur;rw[h.keep i hi h1]
theorem Shape.at{g:Sg}{M:Nat→Option Sec}{root:Bool}{d a:Nat}{l:List Pair9}{S:List Nat}{key v:Bs}(hs:Shape (g.cur M) root (d+1) a l S)(hh:Held9 g M S):∃ks ds kid lc Sc,AtKid g M root d a l S key v ks ds kid lc Sc:=by
 have hlow:=hh.low a hs.mem.1
 obtain⟨ha,ks,ds,S',rfl,hok,hc,hn,hp,hkids⟩:=hs
 obtain⟨kid,la,lc,lb,Sa,Sc,Sb,e1,rfl,rfl,hsc,hla,hlb,hf,t1,t2⟩:=hkids.turn (key:=key) hp
 have hh2:Held9 g M ((a :: Sa)++(Sc++Sb)):=hh
 have hI:=chK_le ks key
 have hlc:Held9 g M Sc:=⟨(List.nodup_append.1 (List.nodup_append.1 hh2.nd).2.1).1,fun s q=>hh.low s (by simp[q]),fun s q=>hh.T s (by simp[q])⟩
 have out:∀{M1:Nat→Option Sec} {Sc':List Nat} {n m:Nat},Grown g M M1 Sc Sc' n m→∀i,(i=a∨i∈Sa∨i∈Sb)→i∉Sc'∧g.cur M1 i=g.cur M i:=by
  intro M1 Sc' n m hG i hi
  have hnd:=(hG.lift hh2).nd
  have hout:i∉Sc':=by
   have n1:=List.nodup_append.1 hnd
   have n2:=List.nodup_append.1 n1.2.1
   intro q
   rcases hi with rfl | hi | hi
   ·exact n1.2.2 i (by simp) i (by simp[q]) rfl
   ·exact n1.2.2 i (by simp[hi]) i (by simp[q]) rfl
   ·exact n2.2.2 i q i hi rfl
  have hi4:4≤i:=by
   rcases hi with rfl | hi | hi
   ·exact hlow.1
   ·exact(hh.low i (by simp[hi])).1
   ·exact(hh.low i (by simp[hi])).1
  exact⟨hout,hG.cur hout (by omega)⟩
 have ana:∀i,(i∈Sa∨i∈Sb)→i≠a:=by
  rintro i hi rfl
  have:=(List.nodup_cons.1 hh.nd).1
  rcases hi with q | q<;>simp[q] at this
 refine⟨ks,ds,kid,lc,Sc,hok,hc,e1,hsc,hlc,?_,?_,?_,?_⟩
 ·rintro M1 ⟨Sc',hq,hG,hlk⟩
  have ho:=out hG
  refine⟨(a :: Sa)++(Sc'++Sb),⟨ha,ks,ds,Sa++(Sc'++Sb),rfl,hok,(ho a (.inl rfl)).2.trans hc,hn,hp,?_⟩,(hG.lift hh2).mono (by omega) (by omega),fun hn=>?_⟩
  ·rw[insL_mid hla hlb]
   exact t1 _ _ _ (fun k l2 S2 hP hS=>hP.keep fun s q=>(ho s (.inr (hS s q))).2) hq hf.ins
  ·rw[lookL_mid hla hlb] at hn
   obtain⟨x,s,hx,e⟩:=hlk hn
   exact⟨x,s,by simp[hx],e⟩
 ·rintro M1 k' b ⟨_,l1,l2,S1,S2,_,hk',_,h2,_⟩
  exact⟨hk',h2.mem.2⟩
 ·rintro M1 k' b ⟨hlk,l1,l2,S1,S2,el,hk',q1,q2,b1,b2,hG⟩ ho1 hroom
  have ho:=out hG
  obtain⟨i1,i2,i3,i4⟩:=innerOk_ins hok hI hk' q2.mem.2
  have hG2:=(hG.lift hh2).put ho1 (a:=a) (by simp) hlow.1 hlow.2 (encInner (insAt ks (chK ks key) k') (insAt ds (chK ks key+1) b))
  have na:∀s,s∈S1++S2→s≠a:=by rintro s q rfl;exact(ho s (.inl rfl)).1 q
  have hf2:Fits ks key (l1++l2):=by rw[← el];exact hf.ins
  have hfk:=hf2.key q1.ne q2.ne b1 b2
  refine⟨(a :: Sa)++((S1++S2)++Sb),⟨ha,_,_,Sa++((S1++S2)++Sb),rfl,⟨i1,i2,by rw[i3,i4],by omega⟩,cur_put_eq _ _ _ _,by rw[i3];omega,pair_ins hp hfk,?_⟩,hG2.mono (by omega) (by omega),fun hn=>absurd ((lookL_mid hla hlb).trans hlk) hn⟩
  rw[insL_mid hla hlb,el]
  exact t2 _ _ _ _ _ _ _ (fun k l2 S2 hP hS=>hP.keep fun s q=>by rw[cur_put_ne _ _ _ (ana s (hS s q))];exact(ho s (.inr (hS s q))).2) (q1.keep fun s q=>cur_put_ne _ _ _ (na s (by simp[q]))) (q2.keep fun s q=>cur_put_ne _ _ _ (na s (by simp[q]))) b1 b2 hf2 hfk
 ·rintro M1 k' b ⟨hlk,l1,l2,S1,S2,el,hk',q1,q2,b1,b2,hG⟩ ho1 hl1 h1 h2 hr k7 s h7 hs4 hsh hT ho2 ho3
  have ho:=out hG
  obtain⟨i1,i2,i3,i4⟩:=innerOk_ins hok hI hk' q2.mem.2
  have hL:=hG.lift hh2
  have hHL:=hL.held hh2
  have hG1:=hL.take ho1 hl1 h1 h2 hs4 hsh hT
  have hG2:=hG1.put ho2 (a:=a) (by simp) hlow.1 hlow.2 (encInner ((insAt ks (chK ks key) k').take 7) ((insAt ds (chK ks key+1) b).take 8))
  have hG3:=hG2.put ho3 (a:=s) (by simp) hs4 hsh (encInner ((insAt ks (chK ks key) k').drop 8) ((insAt ds (chK ks key+1) b).drop 8))
  have ns:∀i,i∈(a :: Sa)++((S1++S2)++Sb)→i≠s∧i≠1:=by
   intro i q
   refine⟨?_,by have:=(hHL.low i q).1;omega⟩
   rintro rfl
   have hT:=hT.1
   rw[hHL.T i q] at hT;simp at hT
  have na:∀i,i∈S1++S2→i≠a:=by rintro i q rfl;exact(ho i (.inl rfl)).1 q
  have hcur:∀i,i∈Sa++((S1++S2)++Sb)→i≠a→g.cur (putS (putS (takM g M1 s) a (encInner ((insAt ks (chK ks key) k').take 7) ((insAt ds (chK ks key+1) b).take 8))) s (encInner ((insAt ks (chK ks key) k').drop 8) ((insAt ds (chK ks key+1) b).drop 8))) i=g.cur M1 i:=by
   intro i q qa
   have:=ns i (List.mem_cons_of_mem _ q)
   rw[cur_put_ne _ _ _ this.1,cur_put_ne _ _ _ qa,cur_tak _ _ this.2]
  have hf2:Fits ks key (l1++l2):=by rw[← el];exact hf.ins
  have hfk:=hf2.key q1.ne q2.ne b1 b2
  have hps:=pair_ins hp hfk
  have hK:=t2 (fun k l S=>Shape (g.cur (putS (putS (takM g M1 s) a (encInner ((insAt ks (chK ks key) k').take 7) ((insAt ds (chK ks key+1) b).take 8))) s (encInner ((insAt ks (chK ks key) k').drop 8) ((insAt ds (chK ks key+1) b).drop 8)))) false d k l S) b k' l1 S1 l2 S2
   (fun k l2 S2 hP hS=>hP.keep fun i q=>by
    rw[hcur i (by rcases hS i q with r | r<;>simp[r]) (ana i (hS i q))];exact(ho i (.inr (hS i q))).2)
   (q1.keep fun i q=>hcur i (by simp[q]) (na i (by simp[q]))) (q2.keep fun i q=>hcur i (by simp[q]) (na i (by simp[q]))) b1 b2 hf2 hfk
  obtain⟨L1,T1,L2,T2,f1,f2,k1,k2,c1,c2⟩:=hK.part hps h7
  have has:a≠s:=(ns a (by simp)).1
  refine⟨(lookL_mid hla hlb).trans hlk,L1,L2,a :: T1,s :: T2,by rw[insL_mid hla hlb,el,f1],i1 _ (List.mem_of_getElem? h7),⟨ha,_,_,T1,rfl,⟨fun x q=>i1 x (List.mem_of_mem_take q),fun x q=>i2 x (List.mem_of_mem_take q),by rw[List.length_take,List.length_take,i3,i4];omega,by rw[List.length_take];omega⟩,?_,?_,hps.sublist (List.take_sublist _ _),k1⟩,
   ⟨by omega,_,_,T2,rfl,⟨fun x q=>i1 x (List.mem_of_mem_drop q),fun x q=>i2 x (List.mem_of_mem_drop q),by rw[List.length_drop,List.length_drop,i3,i4];omega,by rw[List.length_drop,i3];omega⟩,?_,?_,hps.sublist (List.drop_sublist _ _),k2⟩,c1,c2,?_⟩
  ·rw[cur_put_ne _ _ _ has,cur_put_eq]
  ·rw[List.length_take,i3,hr];decide
  ·rw[cur_put_eq]
  ·rw[List.length_drop,i3,hr];decide
  ·refine(hG3.mono (by omega) (by omega)).perm ?_
   have e:s :: ((a :: Sa)++((S1++S2)++Sb))=s :: a :: (T1++T2):=by rw[← f2];rfl
   rw[e]
   refine(List.Perm.swap _ _ _).trans (List.Perm.cons _ ?_)
   exact List.perm_middle.symm
end Go.Proofs.YtgfbepakonjbnaaGreat
end
section
namespace Go.Proofs.YtgfbepakonjbnaaGreat
open Go.RowKit
theorem Kids.size{P:Nat→List Pair9→List Nat→Prop}(hP:∀k l S,P k l S→4*S.length+1≤l.length){ks:List Bs}{ds:List Nat}{l:List Pair9}{S:List Nat}(h:Kids P ks ds l S):4*S.length+ks.length+1≤l.length:=by
 induction h with
 | one h=>have:=hP _ _ _ h;simpa using this
 | more h _ _ _ ih=>have:=hP _ _ _ h;simp only[List.length_append,List.length_cons];omega
theorem Shape.size{C:Nat→Sec}:∀{d:Nat} {root:Bool} {a:Nat} {l:List Pair9} {S:List Nat},Shape C root d a l S→4*S.length+(if root then 0 else 4)≤l.length+3
 | 0,root,a,l,S,h=>by
  obtain⟨rfl,_,_,_,hn,_⟩:=h
  cases root<;>simp at hn ⊢<;>omega
 | d+1,root,a,l,S,h=>by
  obtain⟨_,ks,ds,S',rfl,_,_,hn,_,hk⟩:=h
  have:=hk.size fun k l S h=>by have:=Shape.size (d:=d) h;simp at this;omega
  cases root<;>simp at hn ⊢<;>omega
theorem Kids.many{P:Nat→List Pair9→List Nat→Prop}{B:Nat}(hP:∀k l S,P k l S→B≤l.length){ks:List Bs}{ds:List Nat}{l:List Pair9}{S:List Nat}(h:Kids P ks ds l S):(ks.length+1)*B≤l.length:=by
 induction h with
 | one h=>have:=hP _ _ _ h;simpa using this
 | more h _ _ _ ih=>
  have:=hP _ _ _ h
  simp only[List.length_append,List.length_cons]
  rw[Nat.add_mul (_+1) 1 B,Nat.one_mul];omega
theorem Shape.many{C:Nat→Sec}:∀{d:Nat} {a:Nat} {l:List Pair9} {S:List Nat},Shape C false d a l S→5*7 ^ d≤l.length
 | 0,a,l,S,h=>by simpa using h.2.2.2.2.1
 | d+1,a,l,S,h=>by
  obtain⟨_,ks,ds,S',_,_,_,hn,_,hk⟩:=h
  have:=hk.many fun k l S h=>Shape.many (d:=d) h
  have hn:6≤ks.length:=by simpa using hn
  have h2:=Nat.mul_le_mul_right (5*7 ^ d) (show 7≤ks.length+1 by omega)
  rw[Nat.pow_succ];omega
theorem Shape.manyR{C:Nat→Sec}{d:Nat}{a:Nat}{l:List Pair9}{S:List Nat}(h:Shape C true (d+1) a l S):10*7 ^ d≤l.length:=by
 obtain⟨_,ks,ds,S',_,_,_,hn,_,hk⟩:=h
 have:=hk.many fun k l S h=>Shape.many (d:=d) h
 have hn:1≤ks.length:=by simpa using hn
 have h2:=Nat.mul_le_mul_right (5*7 ^ d) (show 2≤ks.length+1 by omega)
 omega
theorem Shape.flat{C:Nat→Sec}{d:Nat}{a:Nat}{l:List Pair9}{S:List Nat}(h:Shape C true d a l S)(hl:l.length<490):d≤2:=by
 cases d with
 | zero=>omega
 | succ d=>
  have:=h.manyR
  cases d with
  | zero=>omega
  | succ d=>
   cases d with
   | zero=>omega
   | succ d=>
    have:1≤7 ^ d:=Nat.pos_of_ne_zero (by simp)
    simp only[Nat.pow_succ] at *;omega
def TreeAt(C:Nat→Sec)(r:Nat)(l:List Pair9)(S:List Nat):Prop:=(r=0∧l=[]∧S=[])∨(r≠0∧∃d,Shape C true d r l S)
theorem TreeAt.size{C:Nat→Sec}{r:Nat}{l:List Pair9}{S:List Nat}(h:TreeAt C r l S):4*S.length≤l.length+3:=by
 rcases h with⟨_,rfl,rfl⟩ | ⟨_,d,h⟩
 ·simp
 ·have:=h.size;simp at this;omega
theorem TreeAt.keep{C C':Nat→Sec}{r:Nat}{l:List Pair9}{S:List Nat}(h:TreeAt C r l S)(hc:∀s,s∈S→C' s=C s):TreeAt C' r l S:=by
 rcases h with h | ⟨h0,d,h⟩
 ·exact .inl h
 ·exact .inr ⟨h0,d,h.keep hc⟩
def PutTop(g:Sg)(M M':Nat→Option Sec)(r r':Nat)(l:List Pair9)(S:List Nat)(key v:Bs)(m:Nat):Prop:=
 ∃S',TreeAt (g.cur M') r' (insL l key v) S'∧r'≠0∧Grown g M M' S S' 4 m∧(lookL l key≠none→r'=r∧∃x s,x∈S∧M'=putS M x s)
theorem putTop_whole{g:Sg}{M M':Nat→Option Sec}{d r:Nat}{l:List Pair9}{S:List Nat}{key v:Bs}(hr:r≠0)(hd:d≤2)(h:PutAt g M M' true d r l S key v none){m:Nat}(hm:2*d+1≤m):PutTop g M M' r r l S key v m:=by
 obtain⟨S',h1,h2,h3⟩:=h
 exact⟨S',.inr ⟨hr,d,h1⟩,hr,h2.mono (by omega) hm,fun q=>⟨rfl,h3 q⟩⟩
theorem putTop_part{g:Sg}{M M1:Nat→Option Sec}{d r:Nat}{l:List Pair9}{S:List Nat}{key v k':Bs}{b:Nat}(hr:r<4294967296)(hd:d≤2)(hh:Held9 g M S)(h:PutAt g M M1 true d r l S key v (some (k',b))){m:Nat}(hm:2*d+3≤m)(ho:MOk M1 g.h)(hl1:(g.cur M1 1).length=512)(h1:1<g.h)(h2:g.h≤4096){s:Nat}(hs4:4≤s)(hsh:s<g.h)(hT:g.Fr M1 s)(ho1:MOk (takM g M1 s) g.h) :
  InnerOk [k'] [r,b]∧PutTop g M (putS (takM g M1 s) s (encInner [k'] [r,b])) r s l S key v m:=by
 obtain⟨hlk,l1,l2,S1,S2,el,hk',q1,q2,b1,b2,hG⟩:=h
 have hG1:=hG.take ho hl1 h1 h2 hs4 hsh hT
 have hG2:=hG1.put ho1 (a:=s) (by simp) hs4 hsh (encInner [k'] [r,b])
 have hH:=hG.held hh
 have ns:∀i,i∈S1++S2→i≠s∧i≠1:=by
  intro i q
  refine⟨?_,by have:=(hH.low i q).1;omega⟩
  rintro rfl
  have hT:=hT.1
  rw[hH.T i q] at hT;simp at hT
 have hcur:∀i,i∈S1++S2→g.cur (putS (takM g M1 s) s (encInner [k'] [r,b])) i=g.cur M1 i:=fun i q=>by
  rw[cur_put_ne _ _ _ (ns i q).1,cur_tak _ _ (ns i q).2]
 have hok:InnerOk [k'] [r,b]:=⟨by simpa using hk',by intro x q;simp at q;rcases q with rfl | rfl;exact hr;exact q2.mem.2,rfl,by simp⟩
 refine⟨hok,s :: (S1++S2),.inr ⟨by omega,d+1,by omega,[k'],[r,b],S1++S2,rfl,hok,cur_put_eq _ _ _ _,by simp,by simp,?_⟩,by omega,hG2.mono (by omega) (by omega),fun q=>absurd hlk q⟩
 rw[el]
 exact .more (q1.keep fun i q=>hcur i (by simp[q])) b1 b2 (.one (q2.keep fun i q=>hcur i (by simp[q])))
theorem putTop_first{g:Sg}{M:Nat→Option Sec}{key v:Bs}(hk:key.length=32)(hv:v.length=16)(ho:MOk M g.h)(hl1:(g.cur M 1).length=512)(h1:1<g.h)(h2:g.h≤4096){s:Nat}(hs4:4≤s)(hsh:s<g.h)(hT:g.Fr M s)(ho1:MOk (takM g M s) g.h) :
  LeafOk [key] [v]∧PutTop g M (putS (takM g M s) s (encLeaf [key] [v])) 0 s [] [] key v 1:=by
 have hh:Held9 g M []:=⟨by simp,by simp,by simp⟩
 have hG1:=hh.refl.take ho hl1 h1 h2 hs4 hsh hT
 have hG2:=hG1.put ho1 (a:=s) (by simp) hs4 hsh (encLeaf [key] [v])
 have hok:LeafOk [key] [v]:=⟨by simpa using hk,by simpa using hv,rfl,by simp⟩
 refine⟨hok,[s],.inr ⟨by omega,0,Shape.leaf (by omega) (by intro p hp;simp[insL] at hp;rw[hp];exact⟨hk,hv⟩) (by simp[insL]) (cur_put_eq _ _ _ _) (by simp[insL]) (by simp[insL])⟩,by omega,hG2.mono (by omega) (by omega),fun q=>absurd rfl q⟩
end Go.Proofs.YtgfbepakonjbnaaGreat
end
end
