/-
  bytes.Equal, frame.Take.
-/
import Derived.Test.YtgfbepakonjbnaaGreatW14
import Derived.Test.YtgfbepakonjbnaaGreatW21
import Derived.Test.YtgfbepakonjbnaaGreatW12
import Derived.Test.YtgfbepakonjbnaaGreatW10
import Derived.ChangeKeysEq
set_option maxRecDepth 100000
set_option maxHeartbeats 16000000
section
set_option linter.unusedSimpArgs false
set_option linter.unusedVariables false
namespace Go.Proofs.YtgfbepakonjbnaaGreat
open Go.RowKit Go.MapKept Go.ChangeMaps
section
attribute [-go_sem] loadCells storeCells Instr.build
theorem By8{w:World}{va vb:Value}{a b:List UInt8}(ha:Rd w va a)(hb:Rd w vb b)(ha0:0<a.length)(hb0:0<b.length) :
  Calls Tryz.prog 226 #[va,vb] w λ e w'=>e=.returned (.bool (decide (a=b)))/\w=w':=by
 have c1:=Bb3 ha ha0;have c2:=Bb3 hb hb0;obtain⟨aa,ca,rfl,_⟩:=ha;obtain⟨ab,cb,rfl,_⟩:=hb;go_enter Tryz.func226,Tryz.ntmps226
 go_wp2_with fail
 go_ret;refine⟨?_,rfl⟩;by_cases h:a=b
 ·rw[Da9 h,decide_eq_true h];rfl
 ·rw[Db0 h,decide_eq_false h];rfl
theorem Rd.sub{w:World}{bk off cap:Nat}{f:List UInt8}(h:Rd w (.slice (some ⟨bk,off,none⟩) f.length cap) f)(i n c:Nat)(hi:i+n<=f.length)(hc:n<=c):Rd w (.slice (some ⟨bk,off+i,none⟩) n c) ((f.drop i).take n):=by
 obtain⟨ao,cp,e,hcp,hh⟩:=h;cases e
 have hl:((f.drop i).take n).length=n:=by rw[List.length_take,List.length_drop];omega
 refine⟨_,_,by rw[hl],by rw[hl];exact hc,λ hp=>?_⟩;rw[hl] at hp;obtain⟨b,o,e,hcell⟩:=hh (by omega);cases e
 refine⟨_,_,rfl,λ k hk=>?_⟩;rw[hl] at hk;have:=hcell (i+k) (by omega);rw[List.getElem_take,List.getElem_drop,Nat.add_assoc];exact this
theorem Bn6{key b rest:List UInt8}(hk:key.length=32)(hb:b.length<4294967296) :
  (E1 key b++rest)[0]?=some 199/\(E1 key b++rest)[1]?=some 70/\num (E1 key b++rest) 2 4=b.length/\(((E1 key b++rest).drop 14).take 32)=key/\(((E1 key b++rest).drop 46).take b.length)=b/\(((E1 key b++rest).drop 6).take 8)=chk key b:=by
 have e:E1 key b++rest=[199,70]++(be 4 b.length++(chk key b++(key++(b++rest)))):=by unfold E1;simp only[List.append_assoc]
 have h4:=E7 4 b.length;have h8:=P7 key b;rw[e];refine⟨rfl,rfl,?_,?_,?_,?_⟩
 ·unfold num;rw[show([199,70]++(be 4 b.length++(chk key b++(key++(b++rest)))):List UInt8).drop 2=be 4 b.length++(chk key b++(key++(b++rest))) from rfl,List.take_append_of_le_length (by omega),List.take_of_length_le (by omega),Ca7];exact Nat.mod_eq_of_lt (by omega)
 ·rw[show(14:Nat)=2+(4+(8+0)) by rfl,← List.append_assoc,← List.append_assoc,List.drop_append_of_le_length (by simp;omega),List.drop_eq_nil_of_le (by simp;omega),List.nil_append,List.take_append_of_le_length (by omega),List.take_of_length_le (by omega)]
 ·rw[← List.append_assoc,← List.append_assoc,← List.append_assoc,List.drop_append_of_le_length (by simp;omega),List.drop_eq_nil_of_le (by simp;omega),List.nil_append,List.take_append_of_le_length (by omega),List.take_of_length_le (by omega)]
 ·rw[← List.append_assoc,List.drop_append_of_le_length (by simp;omega),List.drop_eq_nil_of_le (by simp;omega),List.nil_append,List.take_append_of_le_length (by omega),List.take_of_length_le (by omega)]
theorem I9.other{w w':World}{B:Nat}{v:Value}{l:List UInt8}(h:I9 w B v l)(hk:∀(k:Nat) (c:Array Value),w.heap[k]?=some (.cells c 5 (0,0))->w'.heap[k]?=w.heap[k]?):I9 w' B v l:=by
 refine⟨h.1,?_⟩;rcases h.2 with h | ⟨g,cap,cur,hv,hb,hg,r⟩
 ·exact .inl h
 ·exact .inr ⟨g,cap,cur,hv,hb,(hk g cur hg).trans hg,r⟩
theorem Au6{fn:Func}{p u v x:Tmp}{ty:TypeId}(h:fn.results=#[.cell p ty,.tmp u,.tmp v,.tmp x])(tmps:Array Value)(w:World)(g:Nat)(cs:Array Value)
  (hp:tmps.getD p undef=.pointer (some ⟨g,0,none⟩)) (hl:(loadVar ty ⟨g,0,none⟩).run Tryz.prog w=.ok (.agg cs) w) :
  (results fn tmps).run Tryz.prog w=.ok (.tuple #[.agg cs,tmps.getD u undef,tmps.getD v undef,tmps.getD x undef]) w:=by
 have hp':tmps[p]?.getD undef=.pointer (some ⟨g,0,none⟩):=by simpa using hp
 simp[results,h,hp',asAddr,hl]
theorem By9(a:Option Addr)(c:Nat)(w:World):(Instr.arrayAt 35 (.slice a 32 c)).run Tryz.prog w=.ok (.pointer a) w:=by
 simp[Instr.arrayAt,run_underlying Tryz.underlying35]
attribute [local go_sem] By9
theorem Bz0{w:World}{v:Value}{key b rest:List UInt8}(hr:Rd w v (E1 key b++rest))(hk:key.length=32)(hb:b.length<=4200)(hrest:rest.length<=100000) :
  Calls Tryz.prog 177 #[v] w λ e w'=>∃x,e=.returned (.tuple #[.agg (bts key).toArray,x,.int .i64 ((46+b.length:Nat):Int),.int .i64 0])/\I9 w' w.heap.size x b/\Upd [] w w':=by
 obtain⟨p0,p1,p2,p3,p4,p5⟩:=Bn6 (rest:=rest) hk (show b.length<4294967296 by omega);obtain⟨f,hf⟩:∃f,f=E1 key b++rest:=⟨_,rfl⟩;have hfl:f.length=46+b.length+rest.length:=by rw[hf,List.length_append,V7 hk]
 rw[← hf] at hr p0 p1 p2 p3 p4 p5;obtain⟨av,cap,rfl,hcap,hh⟩:=id hr;obtain⟨bk,off,rfl,hcell⟩:=hh (by omega);obtain⟨w1,hw1⟩:∃w1,w1=w.alloc (.cells (bts As9).toArray 35):=⟨_,rfl⟩;obtain⟨b2,hb2⟩:∃b2,b2=w.heap.size:=⟨_,rfl⟩;have hc2:w1.heap[b2]?=some (.cells (bts As9).toArray 35 (0,0)):=by rw[hw1,hb2];exact A4 _
 have hu1:Upd [] w w1:=by rw[hw1];exact(Upd.refl _ _).alloc _
 have hr1:=hr.below hu1;have cell1:∀i x,f[i]?=some x->w1.cell? ⟨bk,off+i,none⟩=some (bv x):=λ i x hx=>by
  obtain⟨hi,rfl⟩:=List.getElem?_eq_some_iff.1 hx;exact An5 (hcell i hi) hu1 (by simp)
 have m0:w1.cell? ⟨bk,off,none⟩=some (.int .u8 199):=cell1 0 199 p0;have m1:w1.cell? ⟨bk,off+1,none⟩=some (.int .u8 70):=cell1 1 70 p1;have hat:=Am9 _ f 2 4 w1 hr1 (by omega) (by omega) (by omega) (by omega);rw[p2] at hat;have hkey:=hr1.sub 14 32 32 (by omega) (by omega);rw[p3] at hkey;have hdat:=hr1.sub 46 b.length b.length (by omega) (by omega);rw[p4] at hdat;have hsum:=hr1.sub 6 8 (cap-6) (by omega) (by omega);rw[p5] at hsum;obtain⟨N,hN⟩:∃N,N=f.length:=⟨_,rfl⟩;obtain⟨n,hn⟩:∃n,n=b.length:=⟨_,rfl⟩;obtain⟨E,hE⟩:∃E,E=46+n:=⟨_,rfl⟩;rw[← hn] at hat hdat ⊢;rw[← hN] at hat ⊢;rw[show((4:Nat):Int)=4 from rfl,show((2:Nat):Int)=2 from rfl] at hat;rw[← hE];have t0:decide ((N:Int)<46)=false:=decide_eq_false (by omega);have t1:decide ((4200:Int)<(n:Int))=false:=decide_eq_false (by omega);have t2:decide ((N:Int)<(E:Int))=false:=decide_eq_false (by omega);have t3:decide (N<E)=false:=decide_eq_false (by omega);have e1:IntKind.i64.wrap (46+(n:Int))=(E:Int):=by rw[IntKind.wrap_i64];omega
 have e2:IntKind.i64.wrap (n:Int)=(n:Int):=by rw[IntKind.wrap_i64];omega
 have g0:(0:Int)<N:=by omega
 have g1:(1:Int)<N:=by omega
 have g2:(46:Int)<=N:=by omega
 have g3:(46:Int)<=cap:=by omega
 have g4:(46:Int)<=E:=by omega
 have g5:(E:Int)<=cap:=by omega
 have g6:(14:Int)<=cap:=by omega
 have g7:¬cap=6:=by omega
 have g8:¬cap=14:=by omega
 have HAT:=η hat;have HKEY:=η hkey;have HDAT:=η hdat;have HSUM:=η hsum;have HC2:=η hc2;have HU1:=η hu1;have HW1:=η hw1;have HB2:=η hb2;have HNN:=η hn;have HE:=η hE;have HN:=η hN;clear hr hh hcell hc2 hu1 hr1 cell1 hat hkey hdat hsum hw1 hb2 hn hE hN p0 p1 p2 p3 p4 p5 hf hfl hcap;go_enter Tryz.func177,Tryz.ntmps177
 go_upto_region 1 with(fail)
 have hw1:=HW1.out;have hb2:=HB2.out;rw[Ah4,← hw1,← hb2];clear hw1 hb2;go_wp2_with fail
 refine HAT.out.mono ?_;rintro e w' ⟨rfl,rfl⟩;go_wp2_with fail
 go_quiet (fail)
 obtain⟨dv,hdv⟩:∃dv,dv=Value.slice (if E=46 then some ⟨bk,off,none⟩ else some ⟨bk,off+46,none⟩) (E-46) (E-46):=⟨_,rfl⟩;obtain⟨wq,hwq⟩:∃wq,wq=w1.drewN nq:=⟨_,rfl⟩;rw[← hdv,← hwq];have huq:Upd [] w1 wq:=by rw[hwq];exact(Upd.refl _ _).drewN _
 have hdat:Rd w1 dv b:=by
  have e1:=HE.out;have e2:=HNN.out;have hd:=HDAT.out;rw[hdv,show E-46=n by omega];by_cases h0:E=46
  ·rw[if_pos h0];have hn0:b.length=0:=by omega
   obtain rfl:b=[]:=List.length_eq_zero_iff.1 hn0;exact⟨_,_,by rw[e2],by simp,λ q=>by simp at q⟩
  ·rw[if_neg h0];exact hd
 have HCK:∀w',Upd [] w1 w'->Calls Tryz.prog 186 #[.slice (some ⟨bk,off+14,none⟩) 32 32,dv] w' λ e w''=>∃g,e=.returned (.slice (some ⟨g,0,none⟩) 8 8)/\w'.heap.size<=g/\Rd w'' (.slice (some ⟨g,0,none⟩) 8 8) (chk key b)/\Upd [] w' w'':=λ w' hu=>Bc6 (HKEY.out.below hu) (hdat.below hu) (by omega);have HEQ:∀(w':World) g,Upd [] w1 w'->Rd w' (.slice (some ⟨g,0,none⟩) 8 8) (chk key b)->Calls Tryz.prog 226 #[.slice (some ⟨g,0,none⟩) 8 8,.slice (some ⟨bk,off+6,none⟩) 8 (cap-6)] w' λ e w''=>e=.returned (.bool true)/\w'=w'':=λ w' g hu hg=>by
  have:=By8 hg (HSUM.out.below hu) (by rw[P7];omega) (by rw[P7];omega);rw[decide_eq_true rfl] at this;exact this
 have HDA:=η hdat;have HUQ:=η huq;have HDV:=η hdv;clear hdv hwq huq hdat;go_upto_region 12 with(fail)
 go_cut [54] (λ s54 wx=>s54=.bool false/\Upd [] w1 wx)
 case first=>
  go_region_law (first | (go_simp;go_at_call 186;(with_reducible refine(HCK _ ?_).mono ?_);(first | exact HUQ.out.drew | exact HUQ.out);rintro e w' ⟨g,rfl,hg1,hg2,hg3⟩;dsimp only) | (go_simp;go_at_call 226;(with_reducible refine(HEQ _ _ ?_ hg2).mono ?_);(first | exact HUQ.out.drew.trans hg3);rintro e w2 ⟨rfl,rfl⟩;dsimp only))
  all_goals
   go_wp2_with fail
   go_meet
   exact⟨rfl,by first | exact(HUQ.out.drew.trans hg3) | exact(HUQ.out.drew.trans hg3).drew⟩
 case rest=>
  rename World=>wx
  obtain⟨rfl,hux⟩:=hcut;have hkr:∀w':World,Upd [] w1 w'->(loadCells ⟨bk,off+14,none⟩ 32).run Tryz.prog w'=.ok (bts key).toArray w':=λ w' hu=>by
   have hr:=HKEY.out.below hu;obtain⟨ao,cp,e,_,hh⟩:=hr;obtain⟨b',o',e2,hcell⟩:=hh (by omega);injection e with q1 q2 q3;rw[← q1] at e2;cases e2
   have:=run_loadCells_list (P:=Tryz.prog) w' ⟨bk,off+14,none⟩ (bts key) (λ j v hv=>by
    rw[Ai0] at hv;obtain⟨c,hc,rfl⟩:=Option.map_eq_some_iff.1 hv;obtain⟨hj,rfl⟩:=List.getElem?_eq_some_iff.1 hc;rw[Q4];exact hcell j hj)
   rwa [A5,hk] at this
  have hxd:Upd [] w1 wx.drew:=hux.drew;have hxa:Upd [] w1 (wx.alloc (.cells #[] 5)).drew:=(hux.alloc _).drew;have hrow:I9 (wx.alloc (.cells #[] 5)).drew wx.heap.size (.slice (some ⟨wx.heap.size,0,none⟩) 0 0) []:=
   ⟨by simp,.inr ⟨wx.heap.size,0,_,rfl,Nat.le_refl _,A4 (w:=wx) _,by simp,by unfold maxLen;omega,by simp,by simp⟩⟩
  obtain⟨a,c,w',hrun,hown,hu'⟩:=Ac3 hrow (HDA.out.below hxa) (by simp;omega) (by simp);rw[List.length_nil,Nat.zero_add] at hrun hown;rw[List.nil_append] at hown;have hxw:Upd [] w1 w':=by
   have h0:Upd [] w1 w1:=Upd.refl _ _;exact hu' w1 hux.size hxa
  have ld0:=hkr _ hxd;have ld1:=hkr _ hxa;have ld2:=hkr _ hxw;have hc2':=(hxw.block _ (A3 HC2.out) (by simp)).trans HC2.out;have st:=N7 hc2' (l:=bts key) (by rw[List.size_toArray,A5,A5,hk];rfl) (G7 _);have hkl:(bts key).length=32:=by rw[A5,hk]
  have hik:(Tryz.prog.info? 35).map (·.size)=some (bts key).toArray.size:=by rw[List.size_toArray,A5,hk];exact Bp7
  have HX:Hid (w.heap.size<=wx.heap.size):=η (Nat.le_trans HU1.out.size hux.size);have HOW:=η hown;have HC2W:=η hc2';have HFU:Hid (Upd [] w (w'.setRow b2 (bts key).toArray)):=η (X1 (HU1.out.trans hxw) _ (.inr (by have:=HB2.out;omega)));clear hkr hxd hxa hrow hown hu' hxw hc2' hux;go_wp2_with fail
  go_region_law (first | (refine M0 (by rfl) _ _ _ (by rfl) (by rfl) (by rfl) hrun ?_))
  all_goals
   go_wp2_with fail
   have hbe:=setRow_heap _ _ _ (bts key).toArray _ _ HC2W.out;refine bodyPost_ret (Au6 (p:=2) (u:=3) (v:=4) (x:=5) (ty:=35) (by rfl) _ _ b2 _ (by rfl) (run_loadVar_row _ b2 _ _ _ _ _ hbe Tryz.underlying35 rfl hik)) (by rfl) ?_;refine⟨_,by rw[HE.out,HNN.out];rfl,?_,HFU.out⟩;refine(HOW.out.low HX.out).other (λ k c e=>setRow_other _ _ _ _ ?_);rintro rfl;rw[HC2W.out] at e;injection e with e;injection e with q1 q2;exact absurd q2 (by decide)
end
section
attribute [local go_sem] Oper.semAt_some
theorem Cc2{w:World}{B:Nat}{v x:Value}{l lx:List UInt8}(hp:I9 w B v l)(hx:Rd w x lx)(hx0:0<lx.length)(hln:l.length+lx.length<=100000)(hB:B<=w.heap.size) :
  ∃a c w' S,(∀ty,(Builtin.append_ #[32,32] ty #[v,x]).run Tryz.prog w=.ok (.slice a (l.length+lx.length) c) w')/\I9 w' B (.slice a (l.length+lx.length) c) (l++lx)/\
   Upd S w w'/\∀k,k∈S->B<=k/\∃c,w.heap[k]?=some (.cells c 5 (0,0)):=by
 obtain⟨ao,cap,rfl,hcx,hh⟩:=hx.cells;obtain⟨i0,hi0,hz0,hz1,hz2⟩:=info_parts Ap2;obtain⟨ad,rfl,hcell⟩:=hh hx0;obtain⟨v',w',hrun,hown,hg,_⟩:=run_append_own (P:=Tryz.prog) w B 32 0 5 i0 (.int .u8 0) 1 1 Tryz.underlying32 hi0 hz0 hz1 hz2 rfl (by decide) v l.length _ hp ad lx.length cap (bts lx) (by rw[A5,Nat.mul_one])
  (λ k u hj=>hcell k u hj) (G7 _) (by unfold maxLen;omega) (by omega) hB
 have hsh:∃a c,v'=.slice a (l.length+lx.length) c:=by
  rcases hown.2 with⟨h,h0⟩ | ⟨g,cap,cur,h,_⟩
  ·exact⟨none,0,by rw[h,h0]⟩
  ·exact⟨_,_,h⟩
 obtain⟨a,c',rfl⟩:=hsh;have hbr:I9 w' B (.slice a (l.length+lx.length) c') (l++lx):=by
  unfold I9;rw[List.length_append,show bts (l++lx)=bts l++bts lx by simp[bts]];exact hown
 rcases hp.2 with⟨rfl,_⟩ | ⟨g,cap,cur,rfl,hb,hgb,_⟩
 ·exact⟨a,c',w',[],λ _=>hrun,hbr,⟨hg.os,hg.tape,hg.output,hg.size,λ k hk _=>hg.block k hk (by simp[Value.ownBlock])⟩,by simp⟩
 ·refine⟨a,c',w',[g],λ _=>hrun,hbr,⟨hg.os,hg.tape,hg.output,hg.size,λ k hk hs=>hg.block k hk (by simp[Value.ownBlock];simp at hs;exact λ e=>hs e)⟩,?_⟩;intro k hk;simp at hk;subst hk;exact⟨hb,_,hgb⟩
def rdV(av:Option Addr)(nv cv bk cp pb fr tt:Nat)(ao:Option Addr)(no co:Nat):List (Nat × Nat × Value):=[(0,29,.slice av nv cv),(1,30,.slice (some ⟨bk,0,none⟩) 512 cp),(2,31,.pointer (some ⟨pb,1,none⟩)),(3,32,.int .i64 (fr:Int)),(4,33,.pointer (some ⟨pb,2,none⟩)),(5,34,.int .i64 (tt:Int)),(6,35,.slice (some ⟨bk,fr,none⟩) (tt-fr) (cp-fr)),(7,36,.slice ao no co)]
structure RdJ(w W:World)(g:Sg)(M:Nat->Option Sec)(s a0 n0:Nat)(d:List UInt8)(q a' n' f':Nat)(vo:Value):Prop where
 le:n'<=f'
 sum:a'+n'=a0+n0
 from_:a0<=a'
 drop:(pcs s n0 a0 n0).drop q=pcs s f' a' n'
 sp:B9 W g M
 b1:W.heap[w.heap.size+1]?=some (.cells #[.pointer (some ⟨g.x.tb,0,none⟩)] 28 (0,0))
 b2:W.heap[w.heap.size+1+1]?=some (.cells #[.slice none 0 0] 32 (0,0))
 b3:W.heap[w.heap.size+1+1+1]?=some (.cells #[.int .i64 0] 29 (0,0))
 b4:W.heap[w.heap.size+1+1+1+1]?=some (.cells #[vo] 32 (0,0))
 row:I9 W (w.heap.size+10) vo ((d.drop a0).take (a'-a0))
 b5:∃v,W.heap[w.heap.size+1+1+1+1+1+1]?=some (.cells #[v] 3 (0,0))
 upd:Upd [g.j.jb] w W
def RdI(w W:World)(g:Sg)(M:Nat->Option Sec)(s a0 n0:Nat)(d:List UInt8)(q:Nat):Prop:=∃a' n' f' vo,RdJ w W g M s a0 n0 d q a' n' f' vo
theorem RdJ.keep{w W W':World}{g:Sg}{M:Nat->Option Sec}{s a0 n0:Nat}{d:List UInt8}{q a' n' f':Nat}{vo:Value}(h:RdJ w W g M s a0 n0 d q a' n' f' vo)(h0:B9 w g M){S:List Nat}(hu:Upd S W W')
  (hS:∀k,k∈S->w.heap.size<=k/\k≠w.heap.size+1/\k≠w.heap.size+1+1/\k≠w.heap.size+1+1+1/\k≠w.heap.size+1+1+1+1/\∀c,W.heap[k]?≠some (.cells c 5 (0,0)))
  (h5:∃v,W'.heap[w.heap.size+1+1+1+1+1+1]?=some (.cells #[v] 3 (0,0))):RdJ w W' g M s a0 n0 d q a' n' f' vo:=by
 refine⟨h.le,h.sum,h.from_,h.drop,h0.late h.sp h.upd hu (λ k hk=>(hS k hk).1),?_,?_,?_,?_,?_,h5,?_⟩
 ·exact(hu.block _ (A3 h.b1) (λ q=>(hS _ q).2.1 rfl)).trans h.b1
 ·exact(hu.block _ (A3 h.b2) (λ q=>(hS _ q).2.2.1 rfl)).trans h.b2
 ·exact(hu.block _ (A3 h.b3) (λ q=>(hS _ q).2.2.2.1 rfl)).trans h.b3
 ·exact(hu.block _ (A3 h.b4) (λ q=>(hS _ q).2.2.2.2.1 rfl)).trans h.b4
 ·exact h.row.other λ k c e=>hu.block _ (A3 e) (λ q=>(hS _ q).2.2.2.2.2 c e)
 ·exact h.upd.late hu (λ i hi=> .inr (hS i hi).1)
theorem Cc3{w:World}{g:Sg}{M:Nat->Option Sec}(h:B9 w g M)(hh2:g.h<=4096)(s u v a0 n0:Nat)(d:List UInt8)(hs2:s+16<=g.h)(ha:a0+n0<=d.length)(hdl:d.length<=8192)
  (hd:PkD (g.cur M) s d) :
  Calls Tryz.prog 176 #[stV (s,u,v),.pointer (some ⟨g.x.tb,0,none⟩),.int .i64 (a0:Int),.int .i64 (n0:Int)] w λ e w'=>∃x,e=.returned (.tuple #[x,.int .i64 0])/\I9 w' w.heap.size x ((d.drop a0).take n0)/\B9 w' g M/\Upd [g.j.jb] w w':=by
 have hlt:=h.lt;obtain⟨w4,hw4⟩:∃w4,w4=((((w.alloc (.cells #[.int .i64 (s:Int),.int .i64 (u:Int),.int .i64 (v:Int)] 200)).alloc (.cells #[.pointer (some ⟨g.x.tb,0,none⟩)] 28)).alloc (.cells #[.slice none 0 0] 32)).alloc (.cells #[.int .i64 0] 29)).alloc (.cells #[.slice none 0 0] 32):=⟨_,rfl⟩;unfold stV;refine(callsIn_wide (n:=5)).1 ?_;refine callsIn_of_wp_marks Tryz.func176 rfl trivial ?_ rfl;simp only[Tryz.ntmps176,List.size_toArray,List.length_cons,List.length_nil,Nat.reduceAdd,Nat.reduceSub,Array.replicate_succ,Array.replicate_zero,List.push_toArray,List.append_toArray,List.nil_append,List.cons_append];gi_wp2_with fail
 refine⟨trivial,(callsIn_wide.2 (Ay9 _ _ _ _ _ _)).mono ?_⟩;rintro e w7 ⟨rfl,hw7⟩;rw[← hw4] at hw7;have e4:w4.heap.size=w.heap.size+1+1+1+1+1:=by rw[hw4];simp
 have e7:w7.heap.size=w.heap.size+1+1+1+1+1+1+1+1:=by rw[hw7];simp[e4]
 rw[← hw4,e4];have hu4:Upd [] w w4:=by rw[hw4];exact(((((Upd.refl _ _).alloc _).alloc _).alloc _).alloc _).alloc _
 have hu7:Upd [] w w7:=by rw[hw7];exact((hu4.alloc _).alloc _).alloc _
 have hB1:w7.heap[w.heap.size+1]?=some (.cells #[.pointer (some ⟨g.x.tb,0,none⟩)] 28 (0,0)):=by rw[hw7,hw4];simp only[N4,World.size_alloc];repeat (first | rw[if_pos trivial] | rw[if_pos rfl] | rw[if_neg (by omega)])
 have hB2:w7.heap[w.heap.size+1+1]?=some (.cells #[.slice none 0 0] 32 (0,0)):=by rw[hw7,hw4];simp only[N4,World.size_alloc];repeat (first | rw[if_pos trivial] | rw[if_pos rfl] | rw[if_neg (by omega)])
 have hB3:w7.heap[w.heap.size+1+1+1]?=some (.cells #[.int .i64 0] 29 (0,0)):=by rw[hw7,hw4];simp only[N4,World.size_alloc];repeat (first | rw[if_pos trivial] | rw[if_pos rfl] | rw[if_neg (by omega)])
 have hB4:w7.heap[w.heap.size+1+1+1+1]?=some (.cells #[.slice none 0 0] 32 (0,0)):=by rw[hw7,hw4];simp only[N4,World.size_alloc];repeat (first | rw[if_pos trivial] | rw[if_pos rfl] | rw[if_neg (by omega)])
 have hB5:w7.heap[w.heap.size+1+1+1+1+1]?=some (.cells #[.int .i64 (s:Int),.int .i64 (u:Int),.int .i64 (v:Int)] 200 (0,0)):=by rw[hw7,hw4];simp only[N4,World.size_alloc];repeat (first | rw[if_pos trivial] | rw[if_pos rfl] | rw[if_neg (by omega)])
 have hB6:w7.heap[w.heap.size+1+1+1+1+1+1]?=some (.cells #[.int .i64 (a0:Int)] 3 (0,0)):=by rw[hw7,hw4];simp only[N4,World.size_alloc];repeat (first | rw[if_pos trivial] | rw[if_pos rfl] | rw[if_neg (by omega)])
 have hB7:w7.heap[w.heap.size+1+1+1+1+1+1+1]?=some (.cells #[.int .i64 (n0:Int)] 3 (0,0)):=by rw[hw7,hw4];simp only[N4,World.size_alloc];repeat (first | rw[if_pos trivial] | rw[if_pos rfl] | rw[if_neg (by omega)])
 clear hw4 hw7;gi_wp2_with fail
 refine Ab4 rfl (by omega) (gf:=255) (encs:=Cj5) (L:=pcs s n0 a0 n0) (bs:=[w.heap.size+1+1+1+1+1+1,w.heap.size+1+1+1+1+1+1+1,w.heap.size+1+1+1+1+1]) (b1:=w.heap.size+1+1+1+1+1+1) (lb:=#[.pointer (some ⟨w.heap.size+1+1+1+1+1+1,0,none⟩),.pointer (some ⟨w.heap.size+1+1+1+1+1+1+1,0,none⟩),.pointer (some ⟨w.heap.size+1+1+1+1+1,0,none⟩)]) rfl trivial
  (enters_of Tryz.func255 (by kernel_rfl) rfl) (As2 hB6 hB7 hB5 (by omega) (by omega) (by omega) (by omega) _) (λ b hb=>?_) (by omega) (λ _=>rfl)
  (λ q W=>RdI w W g M s a0 n0 d q) ?_ ?_ ?_ ?_ ?_
 ·simp at hb;omega
 ·intro q W W' hI hu hn;obtain⟨a1,n1,f1,v1,hJ⟩:=hI;obtain⟨v5,b5⟩:=hJ.b5;refine⟨a1,n1,f1,v1,hJ.keep h hu (λ k hk=>?_) ⟨v5,(hu.block _ (A3 b5) (by simp;omega)).trans b5⟩⟩;have hk':=hk;simp at hk';refine⟨by omega,by omega,by omega,by omega,by omega,λ c e=>hn k hk _ e⟩
 ·intro q W v' hI;obtain⟨a1,n1,f1,v1,hJ⟩:=hI;obtain⟨v5,b5⟩:=hJ.b5;refine⟨a1,n1,f1,v1,hJ.keep h (S:=[w.heap.size+1+1+1+1+1+1]) ((Upd.refl _ _).set _ (by simp)) (λ k hk=>?_) ⟨v',by rw[A8 b5];rfl⟩⟩;simp at hk;subst hk;refine⟨by omega,by omega,by omega,by omega,by omega,λ c e=>?_⟩;rw[b5] at e;injection e with e;injection e with _ q2;exact absurd q2 (by decide)
 ·exact⟨a0,n0,n0,_,⟨Nat.le_refl _,rfl,Nat.le_refl _,rfl,h.below hu7,hB1,hB2,hB3,hB4,by rw[Nat.sub_self,List.take_zero];exact I9.nil _ _,⟨_,hB6⟩,hu7.mono (by simp)⟩⟩
 ·intro l q x W hl hx hI hlW;obtain⟨a',n',f',vo,hJ⟩:=hI;obtain⟨hpos,rfl,f2,hf2,hdn⟩:=Bu9 hJ.le hJ.drop hx;obtain⟨v5,b5⟩:=hJ.b5;obtain⟨fr,hfr⟩:∃fr,fr=a' % 512:=⟨_,rfl⟩;obtain⟨k,hk⟩:∃k,k=min (512-fr) n':=⟨_,rfl⟩;obtain⟨se,hse⟩:∃se,se=s+a' / 512:=⟨_,rfl⟩;obtain⟨tt,htt⟩:∃tt,tt=fr+k:=⟨_,rfl⟩;rw[← hfr,← hk] at hdn;rw[← hfr,← hk,← hse,← htt];unfold Cj5;dsimp only;obtain⟨pb,hpb⟩:∃pb,pb=W.heap.size:=⟨_,rfl⟩;obtain⟨W1,hW1⟩:∃W1,W1=W.alloc (.cells #[.int .i64 (se:Int),.int .i64 (fr:Int),.int .i64 (tt:Int)] 317):=⟨_,rfl⟩;have hB1':W1.heap[pb]?=some (.cells #[.int .i64 (se:Int),.int .i64 (fr:Int),.int .i64 (tt:Int)] 317 (0,0)):=by rw[hW1,hpb];exact A4 _
  have hU1:Upd [] W W1:=by rw[hW1];exact(Upd.refl _ _).alloc _
  have HFR:=η hfr;have HKK:=η hk;have HSE:=η hse;have HTT:=η htt;have HPB:=η hpb;have HW1:=η hW1;have HE7:=η e7;have HL:=η hl;clear hW1 hfr hk hse htt hpb e7 e4 hl;gi_wp2_with fail
  have hpb:=HPB.out;have hW1:=HW1.out;rw[← hW1];clear hW1 hpb;have hwl:w7.heap.size<=W.heap.size:=by have:=HL.out;omega
  have hJ1:RdJ w W1 g M s a0 n0 d q a' n' f' vo:=hJ.keep h (S:=[]) hU1 (by simp) ⟨v5,(hU1.block _ (A3 b5) (by simp)).trans b5⟩;refine⟨λ b hb=>hU1.block _ (by have:=HL.out;simp at hb;omega) (by simp),λ W2 hu2 ho2=>?_⟩;have hJ2:RdJ w W2 g M s a0 n0 d q a' n' f' vo:=hJ1.keep h hu2 (λ k hk=>by
   have e7:=HE7.out;have hl:=HL.out;simp at hk;subst hk;refine⟨by omega,by omega,by omega,by omega,by omega,λ c e=>?_⟩;obtain⟨o,ho,hn⟩:=ho2;rw[e] at ho;cases ho
   exact hn) (by
   have e7:=HE7.out;have hl:=HL.out;have b5':=(hU1.block _ (A3 b5) (by simp)).trans b5;exact⟨v5,(hu2.block _ (A3 b5') (by simp;omega)).trans b5'⟩)
  have hB2':W2.heap[pb]?=some (.cells #[.int .i64 (se:Int),.int .i64 (fr:Int),.int .i64 (tt:Int)] 317 (0,0)):=(hu2.block _ (A3 hB1') (by
   have e7:=HE7.out;have hl:=HL.out;have hpb:=HPB.out;simp;omega)).trans hB1'
  have c1:W2.cell? ⟨w.heap.size+1,0,none⟩=some (.pointer (some ⟨g.x.tb,0,none⟩)):=by rw[A2 hJ2.b1];rfl
  have p0:W2.cell? ⟨W.heap.size,0,none⟩=some (.int .i64 (se:Int)):=by rw[← HPB.out,A2 hB2'];rfl
  have HRD:=η (At0 hJ2.sp se (by
   have h1:=HSE.out;have h2:=hJ.sum;have h3:=hpos;omega))
  have HJ:=η hJ;have HJ2:=η hJ2;have HB2:=η hB2';have HU2:=η hu2;have HU1W:=η hU1;have HDN:=η hdn;have HF2:=η hf2;clear hJ hJ1 hJ2 hB2' hu2 ho2 hU1 hB1' hdn hf2 hx b5;gi_wp2_with fail
  refine⟨trivial,(CallsIn.inRound l (callsIn_wide.2 HRD.out)).mono ?_⟩;rintro e W3 ⟨bv0,rfl,ho,h3,hu3⟩;have hLl:=HJ2.out.sp.cur_len se;obtain⟨L,hL⟩:∃L,L=g.cur M se:=⟨_,rfl⟩;rw[← hL] at ho hLl;obtain⟨bk,bc,rfl,hbc,hbk,-⟩:=ho.sec hLl;obtain⟨bk',rest,hbk',ebk,hrow⟩:=ho.own (by omega);obtain⟨rfl,rfl⟩:bk=bk'/\L.length+rest.length=bc:=by
   injection ebk with e1 e2 e3;injection e1 with e1;injection e1 with e1;exact⟨e1,e3.symm⟩
  have hlt3:∀k,k∈[g.j.jb]->k<w.heap.size:=λ k hk=>hlt.1 k (g.mem k hk);have hne3:∀k,w.heap.size<=k->k∉[g.j.jb]:=λ k hk q=>by have:=hlt3 k q;omega
  have b1:=(hu3.block _ (A3 HJ2.out.b1) (hne3 _ (by omega))).trans HJ2.out.b1;have b2:=(hu3.block _ (A3 HJ2.out.b2) (hne3 _ (by omega))).trans HJ2.out.b2;have b3:=(hu3.block _ (A3 HJ2.out.b3) (hne3 _ (by omega))).trans HJ2.out.b3;have b4:=(hu3.block _ (A3 HJ2.out.b4) (hne3 _ (by omega))).trans HJ2.out.b4;have bp:=(hu3.block _ (A3 HB2.out) (hne3 _ (by have:=HPB.out;have:=HE7.out;omega))).trans HB2.out;have row3:I9 W3 (w.heap.size+10) vo ((d.drop a0).take (a'-a0)):=HJ2.out.row.other λ k c e=>hu3.block _ (A3 e) (λ q=>by
   simp at q;subst q;have:=HJ2.out.sp.jr.at_.st;rw[this] at e;injection e with e;injection e with _ q2;exact absurd q2 (by decide))
  have hsum:=HJ2.out.sum;have hfrm:=HJ2.out.from_;have hpl:((d.drop a0).take (a'-a0)).length=a'-a0:=by rw[List.length_take,List.length_drop];omega
  obtain⟨av,cv,rfl,_,_⟩:=row3.shape;rw[hpl] at row3 b4;have hfr512:fr<512:=by have:=HFR.out;omega
  have hkl:k<=n'/\fr+k<=512/\1<=k:=by have:=HKK.out;omega
  have htt:=HTT.out;have hpart:(L.drop fr).take k=(d.drop a').take k:=by
   have:=hd.part (a:=a') (k:=k) (by have:=HFR.out;omega) (by omega) (by rw[← HSE.out,← hL];exact hLl);rw[← HFR.out,← HSE.out,← hL] at this;exact this
  have hrs:Rd W3.drew (.slice (some ⟨bk,fr,none⟩) (tt-fr) (L.length+rest.length-fr)) ((d.drop a').take k):=by
   have h0:Rd W3 (.slice (some ⟨bk,0,none⟩) L.length (L.length+rest.length)) L:=by
    have:=(ho.own (by omega)).rd;rw[hLl] at *;exact this
   have:=h0.sub fr k (L.length+rest.length-fr) (by omega) (by omega);rw[hpart,Nat.zero_add,show k=tt-fr by omega] at this;rw[show k=tt-fr by omega];exact this.below ((Upd.refl _ _).drew)
  have hsl:((d.drop a').take k).length=k:=by rw[List.length_take,List.length_drop];omega
  obtain⟨ao,co,W4,S4,hcp0,hrow4,hu4',hS4⟩:=Cc2 (B:=w.heap.size+10) (row3.keep ((Upd.refl [] W3).drew)) hrs (by omega) (by rw[hpl];omega) (by
   have h1:=HE7.out;have h2:=HL.out;have h3:=HU1W.out.size;have h4:=HU2.out.size;have h5:=hu3.size;show _<=W3.heap.size
   omega)
  rw[hpl,hsl] at hcp0 hrow4;obtain⟨no,hno⟩:∃no,no=a'-a0+k:=⟨_,rfl⟩;obtain⟨nv,hnv⟩:∃nv,nv=a'-a0:=⟨_,rfl⟩;rw[hpl] at *;rw[← hno,← hnv] at hcp0;rw[← hno] at hrow4;rw[← hnv] at b4;have hcp:∀ty,(Builtin.append_ #[32,32] ty #[.slice av nv cv,.slice (some ⟨bk,fr,none⟩) (tt-fr) (512+rest.length-fr)]).run Tryz.prog W3.drew=.ok (.slice ao no co) W4:=by
   rw[← hLl];exact hcp0
  have hu4w:Upd S4 W3 W4:=((Upd.refl _ _).drew).trans hu4';have hS4':∀k,k∈S4->w.heap.size+10<=k/\∃c,W3.heap[k]?=some (.cells c 5 (0,0)):=hS4;have hno4:∀(k:Nat) (c:Array Value) (T:TypeId) (fr:Nat × Nat),W3.heap[k]?=some (.cells c T fr)->T≠5->k∉S4:=λ k c T fr e hT q=>by
   obtain⟨_,c2,e2⟩:=hS4' k q;rw[e] at e2;injection e2 with e2;injection e2 with _ q2;exact hT q2
  have HU3:=η hu3;have HU4:=η hu4w;have HL2:=η hL;have HSP3:=η h3;have HROW:=η hrow4;have HS4:=η hS4';have HNO:=η hno;have HNV:=η hnv;have m2:W3.cell? ⟨w.heap.size+1+1+1+1,0,none⟩=some (.slice av nv cv):=by rw[A2 b4];rfl
  have q1:W3.cell? ⟨W.heap.size,1,none⟩=some (.int .i64 (fr:Int)):=by rw[← HPB.out,A2 bp];rfl
  have q2:W3.cell? ⟨W.heap.size,2,none⟩=some (.int .i64 (tt:Int)):=by rw[← HPB.out,A2 bp];rfl
  have b1':=(hu4w.block _ (A3 b1) (hno4 _ _ _ _ b1 (by decide))).trans b1;have b2':=(hu4w.block _ (A3 b2) (hno4 _ _ _ _ b2 (by decide))).trans b2;have b3':=(hu4w.block _ (A3 b3) (hno4 _ _ _ _ b3 (by decide))).trans b3;have b4':=(hu4w.block _ (A3 b4) (hno4 _ _ _ _ b4 (by decide))).trans b4;have m2_:W3.drew.cell? ⟨w.heap.size+1+1+1+1,0,none⟩=some (.slice av nv cv):=m2;have q1_:W3.drew.cell? ⟨W.heap.size,1,none⟩=some (.int .i64 (fr:Int)):=q1;have q2_:W3.drew.cell? ⟨W.heap.size,2,none⟩=some (.int .i64 (tt:Int)):=q2;have n2_:W4.cell? ⟨w.heap.size+1+1+1+1,0,none⟩=some (.slice av nv cv):=by rw[A2 b4'];rfl
  have fz_:=B7 b4' 0;obtain⟨W5,hW5⟩:∃W5,W5=W4.setCell ⟨w.heap.size+1+1+1+1,0,none⟩ (.slice ao no co):=⟨_,rfl⟩;have HW5:=η hW5;have HB1C:=η b1';have HB2C:=η b2';have HB3C:=η b3';have HB4C:=η b4';have i0:(0:Int)<=(fr:Int):=by omega
  have i1:(fr:Int)<=(tt:Int):=by omega
  have i2:(tt:Int)<=512+(rest.length:Int):=by omega
  have i6:fr<=tt:=by omega
  have i3:¬(512+rest.length=fr):=by omega
  clear hW5 m2 q1 q2 b1' b2' b3' b4' hu4' hu4w hu3 h3 ho row3 b1 b2 b3 b4 bp hrow hL hbk' ebk htt hbk hrs hsl hpl hcp0 hrow4 hS4 hS4' hno hnv hpart c1 p0 hno4;gi_wp2_with fail
  --REG
  refine Ao8 (λ L=>(if L 7=true then(if L 8=true then W5 else W4) else W3.drew)) (rdV av nv cv bk (512+rest.length) W.heap.size fr tt ao no co) (by kernel_rfl) (by kernel_rfl) 38 rfl rfl rfl ?_ ?_
  ·intro i o L tmps w' ho hI hL hd hcl;have hi:i<9:=(Array.getElem?_eq_some_iff.1 ho).1;have t10:tmps[10]?.getD undef=.pointer (some ⟨w.heap.size+1+1+1+1,0,none⟩):=(hI.old 10 (by rfl)).trans rfl;have t11:tmps[11]?.getD undef=.pointer (some ⟨W.heap.size,0,none⟩):=(hI.old 11 (by rfl)).trans rfl;have t12:tmps[12]?.getD undef=.slice (some ⟨bk,0,none⟩) 512 (512+rest.length):=(hI.old 12 (by rfl)).trans rfl;obtain rfl | rfl | rfl | rfl | rfl | rfl | rfl | rfl | rfl:i=0∨i=1∨i=2∨i=3∨i=4∨i=5∨i=6∨i=7∨i=8:=by omega
   ·cases ho
    have g7:L 7=false:=hcl.not_up (i:=0) (s:=7) 9 (by kernel_rfl) hL;have g8:L 8=false:=hcl.not_up (i:=0) (s:=8) 9 (by kernel_rfl) hL;have hw0:w'=W3.drew:=by rw[hI.wd];simp[g7,g8]
    have m2:w'.cell? ⟨w.heap.size+1+1+1+1,0,none⟩=some (.slice av nv cv):=by rw[hw0];exact m2_
    have q1:w'.cell? ⟨W.heap.size,1,none⟩=some (.int .i64 (fr:Int)):=by rw[hw0];exact q1_
    have q2:w'.cell? ⟨W.heap.size,2,none⟩=some (.int .i64 (tt:Int)):=by rw[hw0];exact q2_
    have HW0:=η hw0;clear hw0;refine wpOpIn_step rfl (λ K hK=>?_);go_simp;exact hK _ _ (hI.val_step 0 29 (.slice av nv cv) (by decide) (by rw[hI.wd];rfl) (by simp[rdV]) (by kernel_rfl))
   ·cases ho
    have g7:L 7=false:=hcl.not_up (i:=1) (s:=7) 9 (by kernel_rfl) hL;have g8:L 8=false:=hcl.not_up (i:=1) (s:=8) 9 (by kernel_rfl) hL;have hw0:w'=W3.drew:=by rw[hI.wd];simp[g7,g8]
    have m2:w'.cell? ⟨w.heap.size+1+1+1+1,0,none⟩=some (.slice av nv cv):=by rw[hw0];exact m2_
    have q1:w'.cell? ⟨W.heap.size,1,none⟩=some (.int .i64 (fr:Int)):=by rw[hw0];exact q1_
    have q2:w'.cell? ⟨W.heap.size,2,none⟩=some (.int .i64 (tt:Int)):=by rw[hw0];exact q2_
    have HW0:=η hw0;clear hw0;refine wpOpIn_step rfl (λ K hK=>?_);go_simp;exact hK _ _ (hI.val_step 1 30 (.slice (some ⟨bk,0,none⟩) 512 (512+rest.length)) (by decide) (by rw[hI.wd];rfl) (by simp[rdV]) (by kernel_rfl))
   ·cases ho
    have g7:L 7=false:=hcl.not_up (i:=2) (s:=7) 9 (by kernel_rfl) hL;have g8:L 8=false:=hcl.not_up (i:=2) (s:=8) 9 (by kernel_rfl) hL;have hw0:w'=W3.drew:=by rw[hI.wd];simp[g7,g8]
    have m2:w'.cell? ⟨w.heap.size+1+1+1+1,0,none⟩=some (.slice av nv cv):=by rw[hw0];exact m2_
    have q1:w'.cell? ⟨W.heap.size,1,none⟩=some (.int .i64 (fr:Int)):=by rw[hw0];exact q1_
    have q2:w'.cell? ⟨W.heap.size,2,none⟩=some (.int .i64 (tt:Int)):=by rw[hw0];exact q2_
    have HW0:=η hw0;clear hw0;refine wpOpIn_step rfl (λ K hK=>?_);go_simp;exact hK _ _ (hI.val_step 2 31 (.pointer (some ⟨W.heap.size,1,none⟩)) (by decide) (by rw[hI.wd];rfl) (by simp[rdV]) (by kernel_rfl))
   ·cases ho
    have t31:tmps[31]?.getD undef=.pointer (some ⟨W.heap.size,1,none⟩):=hI.val (2,31,_) (by simp[rdV]) (hd ⟨2,.data⟩ (by simp) rfl);have g7:L 7=false:=hcl.not_up (i:=3) (s:=7) 9 (by kernel_rfl) hL;have g8:L 8=false:=hcl.not_up (i:=3) (s:=8) 9 (by kernel_rfl) hL;have hw0:w'=W3.drew:=by rw[hI.wd];simp[g7,g8]
    have m2:w'.cell? ⟨w.heap.size+1+1+1+1,0,none⟩=some (.slice av nv cv):=by rw[hw0];exact m2_
    have q1:w'.cell? ⟨W.heap.size,1,none⟩=some (.int .i64 (fr:Int)):=by rw[hw0];exact q1_
    have q2:w'.cell? ⟨W.heap.size,2,none⟩=some (.int .i64 (tt:Int)):=by rw[hw0];exact q2_
    have HW0:=η hw0;clear hw0;refine wpOpIn_step rfl (λ K hK=>?_);go_simp;exact hK _ _ (hI.val_step 3 32 (.int .i64 (fr:Int)) (by decide) (by rw[hI.wd];rfl) (by simp[rdV]) (by kernel_rfl))
   ·cases ho
    have g7:L 7=false:=hcl.not_up (i:=4) (s:=7) 9 (by kernel_rfl) hL;have g8:L 8=false:=hcl.not_up (i:=4) (s:=8) 9 (by kernel_rfl) hL;have hw0:w'=W3.drew:=by rw[hI.wd];simp[g7,g8]
    have m2:w'.cell? ⟨w.heap.size+1+1+1+1,0,none⟩=some (.slice av nv cv):=by rw[hw0];exact m2_
    have q1:w'.cell? ⟨W.heap.size,1,none⟩=some (.int .i64 (fr:Int)):=by rw[hw0];exact q1_
    have q2:w'.cell? ⟨W.heap.size,2,none⟩=some (.int .i64 (tt:Int)):=by rw[hw0];exact q2_
    have HW0:=η hw0;clear hw0;refine wpOpIn_step rfl (λ K hK=>?_);go_simp;exact hK _ _ (hI.val_step 4 33 (.pointer (some ⟨W.heap.size,2,none⟩)) (by decide) (by rw[hI.wd];rfl) (by simp[rdV]) (by kernel_rfl))
   ·cases ho
    have t33:tmps[33]?.getD undef=.pointer (some ⟨W.heap.size,2,none⟩):=hI.val (4,33,_) (by simp[rdV]) (hd ⟨4,.data⟩ (by simp) rfl);have g7:L 7=false:=hcl.not_up (i:=5) (s:=7) 9 (by kernel_rfl) hL;have g8:L 8=false:=hcl.not_up (i:=5) (s:=8) 9 (by kernel_rfl) hL;have hw0:w'=W3.drew:=by rw[hI.wd];simp[g7,g8]
    have m2:w'.cell? ⟨w.heap.size+1+1+1+1,0,none⟩=some (.slice av nv cv):=by rw[hw0];exact m2_
    have q1:w'.cell? ⟨W.heap.size,1,none⟩=some (.int .i64 (fr:Int)):=by rw[hw0];exact q1_
    have q2:w'.cell? ⟨W.heap.size,2,none⟩=some (.int .i64 (tt:Int)):=by rw[hw0];exact q2_
    have HW0:=η hw0;clear hw0;refine wpOpIn_step rfl (λ K hK=>?_);go_simp;exact hK _ _ (hI.val_step 5 34 (.int .i64 (tt:Int)) (by decide) (by rw[hI.wd];rfl) (by simp[rdV]) (by kernel_rfl))
   ·cases ho
    have t30:tmps[30]?.getD undef=.slice (some ⟨bk,0,none⟩) 512 (512+rest.length):=hI.val (1,30,_) (by simp[rdV]) (hd ⟨1,.data⟩ (by simp) rfl);have t32:tmps[32]?.getD undef=.int .i64 (fr:Int):=hI.val (3,32,_) (by simp[rdV]) (hd ⟨3,.data⟩ (by simp) rfl);have t34:tmps[34]?.getD undef=.int .i64 (tt:Int):=hI.val (5,34,_) (by simp[rdV]) (hd ⟨5,.data⟩ (by simp) rfl);have g7:L 7=false:=hcl.not_up (i:=6) (s:=7) 9 (by kernel_rfl) hL;have g8:L 8=false:=hcl.not_up (i:=6) (s:=8) 9 (by kernel_rfl) hL;have hw0:w'=W3.drew:=by rw[hI.wd];simp[g7,g8]
    have m2:w'.cell? ⟨w.heap.size+1+1+1+1,0,none⟩=some (.slice av nv cv):=by rw[hw0];exact m2_
    have q1:w'.cell? ⟨W.heap.size,1,none⟩=some (.int .i64 (fr:Int)):=by rw[hw0];exact q1_
    have q2:w'.cell? ⟨W.heap.size,2,none⟩=some (.int .i64 (tt:Int)):=by rw[hw0];exact q2_
    have HW0:=η hw0;clear hw0;refine wpOpIn_step rfl (λ K hK=>?_);go_simp;exact hK _ _ (hI.val_step 6 35 (.slice (some ⟨bk,fr,none⟩) (tt-fr) (512+rest.length-fr)) (by decide) (by rw[hI.wd];rfl) (by simp[rdV]) (by kernel_rfl))
   ·cases ho
    have t29:tmps[29]?.getD undef=.slice av nv cv:=hI.val (0,29,_) (by simp[rdV]) (hd ⟨0,.data⟩ (by simp) rfl);have t35:tmps[35]?.getD undef=.slice (some ⟨bk,fr,none⟩) (tt-fr) (512+rest.length-fr):=hI.val (6,35,_) (by simp[rdV]) (hd ⟨6,.data⟩ (by simp) rfl);have g7:L 7=false:=hcl.not_up (i:=7) (s:=7) 9 (by kernel_rfl) hL;have g8:L 8=false:=hcl.not_up (i:=7) (s:=8) 9 (by kernel_rfl) hL;have hw0:w'=W3.drew:=by rw[hI.wd];simp[g7,g8]
    have m2:w'.cell? ⟨w.heap.size+1+1+1+1,0,none⟩=some (.slice av nv cv):=by rw[hw0];exact m2_
    have q1:w'.cell? ⟨W.heap.size,1,none⟩=some (.int .i64 (fr:Int)):=by rw[hw0];exact q1_
    have q2:w'.cell? ⟨W.heap.size,2,none⟩=some (.int .i64 (tt:Int)):=by rw[hw0];exact q2_
    have HW0:=η hw0;clear hw0;have hcp':=hcp;rw[← HW0.out] at hcp';refine wpOpIn_step rfl (λ K hK=>?_);rw[if_pos (by rfl)];refine Av9 (.tmp 29) (.tmp 35) _ _ rfl (by simpa [Act.eval] using t29) (by simpa [Act.eval] using t35) hcp' ?_;exact hK _ _ (hI.val_step 7 36 (.slice ao no co) (by decide) (by simp[upL,g7,g8]) (by simp[rdV]) (by kernel_rfl))
   ·cases ho
    have t36:tmps[36]?.getD undef=.slice ao no co:=hI.val (7,36,_) (by simp[rdV]) (hd ⟨7,.data⟩ (by simp) rfl);have g7:L 7=true:=hcl.dep_up (i:=8) (s:=7) rfl hd 9 (by kernel_rfl) (by decide);have g8:L 8=false:=hcl.not_up (i:=8) (s:=8) 9 (by kernel_rfl) hL;have hw0:w'=W4:=by rw[hI.wd];simp[g7,g8]
    have m2:w'.cell? ⟨w.heap.size+1+1+1+1,0,none⟩=some (.slice av nv cv):=by rw[hw0];exact n2_
    have fz:w'.frozen? ⟨w.heap.size+1+1+1+1,0,none⟩=false:=by rw[hw0];exact fz_
    have HW0:=η hw0;clear hw0;refine wpOpIn_step rfl (λ K hK=>?_);go_simp;rw[HW0.out,← HW5.out];exact hK _ _ (hI.none_step 8 (by simp[upL,g7,g8]) (by kernel_rfl))
  ·intro Lu tmps w9 hI hall;have hat:=hI.fin rfl (λ t ht=>hall _ (by have h9:=List.all_eq_true.1 (show((rdV av nv cv bk (512+rest.length) W.heap.size fr tt ao no co).all λ t=>decide (t.1<9))=true from rfl) t ht;simpa using h9));have hw9:w9=W5:=by rw[hI.wd];simp[hall 7 (by decide),hall 8 (by decide)]
   clear hI hall;simp only[rdV,List.map_cons,List.map_nil,Ac0,αs,αz,αc] at hat;rw[hat];clear hat tmps;rw[hw9];clear hw9;gi_wp2_with fail
   have hfr:=HFR.out;have hk:=HKK.out;have hse:=HSE.out;have e7:=HE7.out;have hll:=HL.out;have hf2:=HF2.out;have J:=HJ2.out;have h1:=J.sum;have h2:=J.from_;have hw5:=HW5.out;have hu5:Upd [w.heap.size+1+1+1+1] W4 W5:=by rw[hw5];exact(Upd.refl _ _).set _ (by simp)
   have hz1:=HU1W.out.size;have hz2:=HU2.out.size;have hz3:=HU3.out.size;have hA:∀i,w.heap.size<=i->i<w.heap.size+10->i≠w.heap.size+1+1+1+1->W5.heap[i]?=W2.heap[i]?:=λ i hi hi2 hne=>by
    have a1:=HU3.out.block i (by omega) (λ q=>by have:=hlt.1 i (g.mem i q);omega);have a2:=HU4.out.block i (by omega) (λ q=>by have:=(HS4.out i q).1;omega);have a3:=hu5.block i (by have:=HU4.out.size;omega) (by simpa using hne);exact a3.trans (a2.trans a1)
   refine⟨λ b hb=>hA _ (by simp at hb;omega) (by simp at hb;omega) (by simp at hb;omega),?_,λ b hb=>?_⟩
   ·have b4':W5.heap[w.heap.size+1+1+1+1]?=some (.cells #[.slice ao no co] 32 (0,0)):=by rw[hw5,A8 HB4C.out];rfl
    have hcat:(d.drop a0).take (a'-a0)++(d.drop a').take k=(d.drop a0).take (a'+k-a0):=by
     rw[Nat.sub_add_comm h2,List.take_add,List.drop_drop,Nat.add_sub_of_le h2]
    have hrow:=HROW.out;rw[hcat] at hrow;have hue:Upd [g.j.jb] w W5:=by
     have a1:Upd [g.j.jb] w W3:=J.upd.trans HU3.out;have a2:=a1.late HU4.out (λ i hi=> .inr (by have:=(HS4.out i hi).1;omega));exact a2.late hu5 (λ i hi=> .inr (by simp at hi;omega))
    refine⟨a'+k,n'-k,f2,.slice ao no co,?_,?_,?_,HDN.out,?_,?_,?_,?_,b4',?_,?_,hue⟩
    ·have:=J.le;omega
    ·omega
    ·omega
    ·have a1:Upd [g.j.jb] w W3:=J.upd.trans HU3.out;have s4:B9 W4 g M:=h.late HSP3.out a1 HU4.out (λ i hi=>by have:=(HS4.out i hi).1;omega);have a2:=a1.late HU4.out (λ i hi=> .inr (by have:=(HS4.out i hi).1;omega));exact h.late s4 a2 hu5 (λ i hi=>by simp at hi;omega)
    ·rw[hw5,C6 0 _ (by omega)];exact HB1C.out
    ·rw[hw5,C6 0 _ (by omega)];exact HB2C.out
    ·rw[hw5,C6 0 _ (by omega)];exact HB3C.out
    ·exact hrow.other λ k c e=>hu5.block _ (A3 e) (λ q=>by
      simp at q;subst q;rw[HB4C.out] at e;injection e with e;injection e with _ q2;exact absurd q2 (by decide))
    ·obtain⟨v5,b5⟩:=J.b5;exact⟨v5,(hA _ (by omega) (by omega) (by omega)).trans b5⟩
   ·have hb':w.heap.size<=b/\b≠w.heap.size+1+1+1+1/\b<w7.heap.size:=by simp at hb;omega
    have b1:=HU1W.out.block b (by omega) (by simp);have b2:=HU2.out.block b (by omega) (by simp;omega);have b3:=hA b hb'.1 (by omega) hb'.2.1;exact b3.trans (b2.trans b1)
  --END
 ·intro W hI hK;obtain⟨a',n',f',vo,hJ⟩:=hI;have hn0:=Bv0 hJ.le hJ.drop;have hae:a'-a0=n0:=by have:=hJ.sum;omega
  have hrow:=hJ.row;rw[hae] at hrow;have b2:=hJ.b2;have b3:=hJ.b3;have b4:=hJ.b4;have hvo:∃a n c,vo=.slice a n c:=by
   obtain⟨a,c,e,_⟩:=hrow.shape;exact⟨a,_,c,e⟩
  obtain⟨va,vn,vc,rfl⟩:=hvo;have m2:W.cell? ⟨w.heap.size+1+1,0,none⟩=some (.slice none 0 0):=by rw[A2 b2];rfl
  have m3:W.cell? ⟨w.heap.size+1+1+1,0,none⟩=some (.int .i64 0):=by rw[A2 b3];rfl
  have m4:W.cell? ⟨w.heap.size+1+1+1+1,0,none⟩=some (.slice va vn vc):=by rw[A2 b4];rfl
  have f2:=B7 b2 0;have f3:=B7 b3 0;have HJ:=η hJ;have HR:=η hrow;have HK:=η hK;have HB2:=η b2;have HB3:=η b3;clear hJ hrow hK b2 b3 b4;gi_wp2_with fail
  have J:=HJ.out;obtain⟨Wf,hWf⟩:∃Wf,Wf=(W.setCell ⟨w.heap.size+1+1,0,none⟩ (.slice va vn vc)).setCell ⟨w.heap.size+1+1+1,0,none⟩ (.int .i64 0):=⟨_,rfl⟩;rw[← hWf];have hbf2:Wf.heap[w.heap.size+1+1]?=some (.cells #[.slice va vn vc] 32 (0,0)):=by rw[hWf,C6 0 _ (by omega),A8 HB2.out];rfl
  have hbf:Wf.heap[w.heap.size+1+1+1]?=some (.cells #[.int .i64 0] 29 (0,0)):=by
   rw[hWf];have h0:(W.setCell ⟨w.heap.size+1+1,0,none⟩ (.slice va vn vc)).heap[w.heap.size+1+1+1]?=some (.cells #[.int .i64 0] 29 (0,0)):=by rw[C6 0 _ (by omega)];exact HB3.out
   rw[A8 h0];rfl
  have huf:Upd [w.heap.size+1+1,w.heap.size+1+1+1,w7.heap.size] W Wf:=by rw[hWf];exact((Upd.refl _ _).set _ (by simp)).set _ (by simp)
  have hKf:Wf.heap[w7.heap.size]?=some (.deferred (some [])):=by rw[hWf,C6 0 _ (by omega),C6 0 _ (by omega)];exact HK.out
  clear hWf;refine⟨by simp,.inl ⟨_,_,rfl,run_takeDeferred hKf,?_⟩⟩;obtain⟨Wg,hWg⟩:∃Wg,Wg=Wf.putObj w7.heap.size (.deferred none):=⟨_,rfl⟩;rw[← hWg];have hbg:Wg.heap[w.heap.size+1+1+1]?=some (.cells #[.int .i64 0] 29 (0,0)):=by rw[hWg,World.putObj_heap_other (by omega)];exact hbf
  have hbg2:Wg.heap[w.heap.size+1+1]?=some (.cells #[.slice va vn vc] 32 (0,0)):=by rw[hWg,World.putObj_heap_other (by omega)];exact hbf2
  have hug:Upd [w.heap.size+1+1,w.heap.size+1+1+1,w7.heap.size] W Wg:=huf.trans (by
   rw[hWg];exact⟨rfl,rfl,rfl,by simp,λ k hk hs=>World.putObj_heap_other (by simp at hs;omega)⟩)
  have cg:Wg.cell? ⟨w.heap.size+1+1+1,0,none⟩=some (.int .i64 0):=by rw[A2 hbg];rfl
  have cg2:Wg.cell? ⟨w.heap.size+1+1,0,none⟩=some (.slice va vn vc):=by rw[A2 hbg2];rfl
  clear hWg;have hge:∀k,k∈[w.heap.size+1+1,w.heap.size+1+1+1,w7.heap.size]->w.heap.size<=k:=λ k hk=>by simp at hk;omega
  have hrg:I9 Wg w.heap.size (.slice va vn vc) ((d.drop a0).take n0):=(HR.out.low (by omega)).other λ k c e=>hug.block _ (A3 e) (λ q=>by
   simp at q;rcases q with rfl | rfl | rfl
   ·rw[HB2.out] at e;injection e with e;injection e with _ q2;exact absurd q2 (by decide)
   ·rw[HB3.out] at e;injection e with e;injection e with _ q2;exact absurd q2 (by decide)
   ·rw[HK.out] at e;cases e)
  refine⟨.tuple #[.slice va vn vc,.int .i64 0],?_,_,rfl,hrg,h.late J.sp J.upd hug hge,J.upd.late hug (λ i hi=> .inr (hge i hi))⟩;simp[results,Tryz.f176,go_sem,cg,cg2]
end
end Go.Proofs.YtgfbepakonjbnaaGreat
end
section
section
set_option linter.unusedSimpArgs false
set_option linter.unusedVariables false
namespace Go.Proofs.YtgfbepakonjbnaaGreat
open Go.RowKit Go.MapKept Go.ChangeMaps
def Cj7(w:World)(j:JG)(n ring:Nat)(b:Int)(H:Nat->Sec):Prop:=
 ∃(J:Jn) (D:Dk) (t m:Int),X6 w j J D n ring t m H/\(∀i,(H i).length=512)/\t<=b/\m<=b+1
theorem Cj7.below{w w':World}{j:JG}{n ring:Nat}{b:Int}{H:Nat->Sec}(h:Cj7 w j n ring b H)(hu:Upd [] w w'):Cj7 w' j n ring b H:=by
 obtain⟨J,D,t,m,h1,h2⟩:=h;exact⟨J,D,t,m,h1.below hu,h2⟩
structure TxP(w0:World)(j:JG)(n ring:Nat)(b:Int)(H:Nat->Sec)(g:Sg):Prop where
 j:g.j=j
 n:g.n=n
 ring:g.ring=ring
 H:g.H=H
 turn:g.turn=g.t-1
 t:g.t<=b
 m:g.m<=b+1
 tb:w0.heap.size<=g.x.tb
 wb:w0.heap.size<=g.x.wb
theorem TxP.h{w0:World}{j:JG}{n ring:Nat}{b:Int}{H:Nat->Sec}{g:Sg}(h:TxP w0 j n ring b H g):g.h=n-2-ring:=by unfold Sg.h;rw[h.n,h.ring]
theorem TxP.S{w0:World}{j:JG}{n ring:Nat}{b:Int}{H:Nat->Sec}{g:Sg}(h:TxP w0 j n ring b H g):∀k,k∈g.S->k∈j.all∨w0.heap.size<=k:=by
 intro k hk;rw[Sg.S,h.j] at hk;rcases List.mem_cons.1 hk with rfl | q
 ·exact .inr h.wb
 ·exact .inl q
theorem Cr1{w:World}{j:JG}{n ring:Nat}{b:Int}{H:Nat->Sec}(h:Cj7 w j n ring b H) :
  Calls Tryz.prog 18 #[.pointer (some ⟨j.jb,0,none⟩)] w λ e w'=>∃g:Sg,e=.returned (.tuple #[.pointer (some ⟨g.x.tb,0,none⟩),.int .i64 0])/\TxP w j n ring b H g/\B9 w' g (λ _=>none)/\Upd j.all w w':=by
 obtain⟨J,D,t,m,h1,h2,h4,h5⟩:=h;refine(Bt0 h1).mono ?_;rintro e w' ⟨x,rfl,hx1,hx2,hx,hr,hu⟩;exact⟨⟨x,j,J,D,n,ring,t-1,t,m,H⟩,rfl,⟨rfl,rfl,rfl,rfl,rfl,h4,h5,hx1,hx2⟩,⟨hr,hx,h1.at_.late hx2,MOk.none _,h2⟩,hu⟩
theorem Cj8{w0 w:World}{j:JG}{n ring:Nat}{b:Int}{H:Nat->Sec}{g:Sg}{M:Nat->Option Sec}(hg:TxP w0 j n ring b H g)(h:B9 w g M)(hn:n<=5000)(hb:b<900000)(h1:D9 M g.h<=40)(h2:D9 M g.h<ring) :
  Calls Tryz.prog 21 #[.pointer (some ⟨g.x.tb,0,none⟩)] w λ e w'=>e=.returned (.int .i64 0)/\Cj7 w' j n ring (b+1) (g.cur M)/\Upd (g.x.tb :: j.all) w w':=by
 have hx:=h.tx;rw[hg.turn] at hx;refine(Bk1 h.jr hx h.ne h.ok (by rw[hg.n];exact hn) h1 (by rw[hg.ring];exact h2:D9 M g.h<g.ring) (by have:=hg.t;omega) (by have:=hg.m;omega)).mono ?_;rintro e w' ⟨rfl,_,⟨J',D',t',hr,ht'⟩,hu⟩;have e1:=hg.j;have e2:=hg.n;have e3:=hg.ring;refine⟨rfl,⟨J',D',t',g.m+1,?_,λ i=>h.cur_len i,?_,?_⟩,by rw[← e1];exact hu⟩
 ·rw[← e1,← e2,← e3];exact hr
 ·have:=hg.t;rw[ht'];split<;>omega
 ·have:=hg.m;omega
theorem M4.zero{c:Nat->Sec}{h:Nat}{T:Nat->Bool}(hl:∀i,(c i).length=512)(h2:c 2=E0)(h3:c 3=E0):M4 c h T (λ _=>Option.none):=by
 refine⟨hl,λ n hn=>?_,λ _ _=>rfl,λ _ _ e=>(by cases e),λ _ _ e=>(by cases e),λ _ _ _ _ e=>(by cases e),λ _ _ e=>(by cases e)⟩;have e:c (2+n / 32)=E0:=by
  have:n / 32=0∨n / 32=1:=by omega
  rcases this with q | q<;>rw[q]
  ·exact h2
  ·exact h3
 unfold Al3;rw[e,Bl5 (by omega)];dsimp only;rw[if_neg (by omega)];rfl
end Go.Proofs.YtgfbepakonjbnaaGreat
end
section
set_option linter.unusedSimpArgs false
set_option linter.unusedVariables false
namespace Go.Proofs.YtgfbepakonjbnaaGreat
open Go.RowKit Go.MapKept Go.ChangeMaps
theorem Bv6:Tryz.prog.cellsOf 5=1:=by kernel_rfl
theorem As3(d:Nat)(a b:List UInt8)(w:World):∀is:List Nat,(∀i,i∈is->i<a.length/\i<b.length)->
  ∃r:Bool,(Op.eqItems (d+1) 5 1 (bts a).toArray (bts b).toArray is).run Tryz.prog w=.ok r w/\(r=true↔∀i,i∈is->a[i]?=b[i]?)
 | [],_=>⟨true,by simp[Op.eqItems],by simp⟩
 | i :: is,h=>by
  obtain⟨hi,hj⟩:=h i (by simp);obtain⟨r,hr,hiff⟩:=As3 d a b w is (λ k hk=>h k (by simp[hk]));have e1:(bts a).toArray[i]?=some (bv a[i]):=by simp[bts,hi]
  have e2:(bts b).toArray[i]?=some (bv b[i]):=by simp[bts,hj]
  have p1:=run_part_plain (P:=Tryz.prog) (w:=w) (e:=5) (by kernel_rfl) e1;have p2:=run_part_plain (P:=Tryz.prog) (w:=w) (e:=5) (by kernel_rfl) e2;have p3:=run_equalIn_int (P:=Tryz.prog) w d 5 .u8 .u8 (a[i].toNat:Int) (b[i].toNat:Int) Tryz.underlying5;unfold Op.eqItems;simp only[Nat.mul_one,Sem.run_bind,p1,p2,Result.andThen_ok];unfold bv;simp only[p3,Result.andThen_ok];by_cases hab:a[i]=b[i]
  ·refine⟨r,by simp[hab,hr],?_⟩;rw[hiff];simp only[List.mem_cons,forall_eq_or_imp,List.getElem?_eq_getElem hi,List.getElem?_eq_getElem hj,hab,true_and]
  ·have:((a[i].toNat:Int) == (b[i].toNat:Int))=false:=by
    rw[beq_eq_false_iff_ne];intro q;exact hab (UInt8.toNat_inj.1 (by omega))
   refine⟨false,by simp[this],?_⟩;simp only[Bool.false_eq_true,false_iff,List.mem_cons,forall_eq_or_imp,List.getElem?_eq_getElem hi,List.getElem?_eq_getElem hj,Option.some.injEq];exact λ q=>hab q.1
theorem Cc5{a b:List UInt8}(ha:a.length=32)(hb:b.length=32)(w:World):(Op.equalIn 10000 35 (.agg (bts a).toArray) (.agg (bts b).toArray)).run Tryz.prog w=.ok (decide (a=b)) w:=by
 obtain⟨r,hr,hiff⟩:=As3 9998 a b w (List.range 32) (λ i hi=>by have:=List.mem_range.1 hi;omega);have hu:=Tryz.underlying35;obtain⟨i0,hi0⟩:∃i0,Tryz.prog.info? 5=some i0:=Option.isSome_iff_exists.1 (by kernel_rfl);have h1:=run_equalIn_array (P:=Tryz.prog) w 9999 (t:=35) (bts a).toArray (bts b).toArray hu hi0;rw[Bv6] at h1;rw[h1,hr];congr 1
 cases hr':r
 ·symm;rw[decide_eq_false_iff_not]
  rintro rfl;rw[hr'] at hiff;simp at hiff
 ·symm;rw[decide_eq_true_eq]
  apply List.ext_getElem?;intro i;by_cases hi:i<32
  ·exact hiff.1 hr' i (List.mem_range.2 hi)
  ·rw[List.getElem?_eq_none (by omega),List.getElem?_eq_none (by omega)]
theorem Cr2{w:World}{g:Sg}{M:Nat->Option Sec}{K:Nat->Option Pk}(h:B9 w g M)(hk:M4 (g.cur M) g.h (g.T M) K)(hh:20<=g.h)(hh2:g.h<=4096){n:Nat}{p:Pk}(hp:K n=some p)(at_ ln:Nat)(key b:List UInt8)(hkl:key.length=32)(hbl:b.length<=4200)(hln:ln=46+b.length)
  (hal:at_+ln<=p.data.length) (hfr:(p.data.drop at_).take ln=E1 key b) :
  Calls Tryz.prog 88 #[.pointer (some ⟨g.x.tb,0,none⟩),plV (n,at_,ln),.agg (bts key).toArray] w λ e w'=>∃x,e=.returned (.tuple #[x,.int .i64 0])/\I9 w' w.heap.size x b/\B9 w' g M/\Upd [g.j.jb] w w':=by
 have hlt:=h.lt;have hlow:=hk.low n p hp;obtain⟨st,hst⟩:∃st,st=p.start:=⟨_,rfl⟩;obtain⟨us,hus⟩:∃us,us=p.data.length:=⟨_,rfl⟩;obtain⟨lv,hlv⟩:∃lv,lv=p.live:=⟨_,rfl⟩;obtain⟨pb,hpb⟩:∃pb,pb=w.heap.size:=⟨_,rfl⟩;obtain⟨w1,hw1⟩:∃w1,w1=(w.alloc (.cells #[.int .i64 (n:Int),.int .i64 (at_:Int),.int .i64 (ln:Int)] 92)).alloc (.cells (bts key).toArray 35):=⟨_,rfl⟩;have hu1:Upd [] w w1:=by rw[hw1];exact((Upd.refl _ _).alloc _).alloc _
 have hbp:w1.heap[pb]?=some (.cells #[.int .i64 (n:Int),.int .i64 (at_:Int),.int .i64 (ln:Int)] 92 (0,0)):=by
  rw[hw1,hpb];exact(((Upd.refl [] _).alloc _).block _ (by simp) (by simp)).trans (A4 _)
 have hbk:w1.heap[pb+1]?=some (.cells (bts key).toArray 35 (0,0)):=by
  rw[hw1,hpb];have:=A4 (w:=w.alloc (.cells #[.int .i64 (n:Int),.int .i64 (at_:Int),.int .i64 (ln:Int)] 92)) (.cells (bts key).toArray 35);rwa [World.size_alloc] at this
 have h1:=h.below hu1;have hwi:=Az2 h1 hk hh hh2 hp at_ ln (by omega) hal;unfold stV plV at hwi;dsimp only at hwi;rw[← hst,← hus,← hlv] at hwi;have HRDP:Hid (∀w',B9 w' g M->Calls Tryz.prog 176 #[.agg #[.int .i64 (st:Int),.int .i64 (us:Int),.int .i64 (lv:Int)],.pointer (some ⟨g.x.tb,0,none⟩),.int .i64 (at_:Int),.int .i64 (ln:Int)] w' λ e w''=>∃x,e=.returned (.tuple #[x,.int .i64 0])/\I9 w'' w'.heap.size x (E1 key b)/\B9 w'' g M/\Upd [g.j.jb] w' w''):=by
  show ∀w',_
  intro w' h';have:=Cc3 h' hh2 st us lv at_ ln p.data (by omega) hal (by omega) (by rw[hst];exact hk.data n p hp);rw[hfr] at this;exact this
 have hik:(Tryz.prog.info? 35).map (·.size)=some (bts key).toArray.size:=by rw[List.size_toArray,A5,hkl];exact Af2
 have hone:(bts key).toArray.all (·.oneCell')=true:=by
  rw[Array.all_eq_true_iff_forall_mem];intro x hx;exact G7 _ x (by simpa using hx)
 have heq:∀w',(Op.equalIn 10000 35 (.agg (bts key).toArray) (.agg (bts key).toArray)).run Tryz.prog w'=.ok true w':=λ w'=>by
  have:=Cc5 hkl hkl w';rwa [decide_eq_true rfl] at this
 have HWI:=η hwi;have HLT:=η hlt;have HU1:=η hu1;have HBP:=η hbp;have HBK:=η hbk;have HPB:=η hpb;have HW1:=η hw1;have HBL:=η hbl;have HLN:=η hln;have HKL:=η hkl;have hq:((ln:Int) != (ln:Int))=false:=by simp
 have p0:w1.cell? ⟨pb,0,none⟩=some (.int .i64 (n:Int)):=by rw[A2 hbp];rfl
 have p1:w1.cell? ⟨pb,1,none⟩=some (.int .i64 (at_:Int)):=by rw[A2 hbp];rfl
 have p2:w1.cell? ⟨pb,2,none⟩=some (.int .i64 (ln:Int)):=by rw[A2 hbp];rfl
 clear h hlt hk hp hst hus hlv hpb hw1 hu1 hbp hbk hwi h1 hfr hlow hal hbl hln;unfold plV;go_enter Tryz.func88,Tryz.ntmps88
 go_upto_region 1 with(fail)
 have hw1:=HW1.out;have hpb:=HPB.out;rw[← hw1,← hpb];clear hw1 hpb;go_wp2_with fail
 refine HWI.out.mono ?_;rintro e w4 ⟨rfl,h4,hu4⟩;have hne:∀i,pb<=i->i∉[g.j.jb]:=λ i hi q=>by have:=HLT.out.1 i (g.mem i q);have:=HPB.out;omega
 have hbp4:=(hu4.block _ (A3 HBP.out) (hne _ (Nat.le_refl _))).trans HBP.out;have hbk4:=(hu4.block _ (A3 HBK.out) (hne _ (by omega))).trans HBK.out;obtain⟨w5,hw5⟩:∃w5,w5=w4.alloc (.cells #[.int .i64 (st:Int),.int .i64 (us:Int),.int .i64 (lv:Int)] 200):=⟨_,rfl⟩;obtain⟨sb,hsb⟩:∃sb,sb=w4.heap.size:=⟨_,rfl⟩;have hu5:Upd [] w4 w5:=by rw[hw5];exact(Upd.refl _ _).alloc _
 have hb5:w5.heap[sb]?=some (.cells #[.int .i64 (st:Int),.int .i64 (us:Int),.int .i64 (lv:Int)] 200 (0,0)):=by rw[hw5,hsb];exact A4 _
 have hbp5:=(hu5.block _ (A3 hbp4) (by simp)).trans hbp4;have hbk5:=(hu5.block _ (A3 hbk4) (by simp)).trans hbk4;have h5:=h4.below hu5;have HRD5:=η (HRDP.out w5 h5);have HU5:=η (((HU1.out.mono (by simp)).trans hu4).trans (hu5.mono (by simp)));have m0:w5.cell? ⟨sb,0,none⟩=some (.int .i64 (st:Int)):=by rw[A2 hb5];rfl
 have m1:w5.cell? ⟨sb,1,none⟩=some (.int .i64 (us:Int)):=by rw[A2 hb5];rfl
 have m2:w5.cell? ⟨sb,2,none⟩=some (.int .i64 (lv:Int)):=by rw[A2 hb5];rfl
 have n1:w5.cell? ⟨pb,1,none⟩=some (.int .i64 (at_:Int)):=by rw[A2 hbp5];rfl
 have n2:w5.cell? ⟨pb,2,none⟩=some (.int .i64 (ln:Int)):=by rw[A2 hbp5];rfl
 have HBP5:=η hbp5;have HBK5:=η hbk5;have HW5:=η hw5;have HSB:=η hsb;clear p0 p1 p2 h4 hu4 hbp4 hbk4 hw5 hsb hu5 hb5 hbp5 hbk5 h5;go_upto_region 2 with(fail)
 have hw5:=HW5.out;have hsb:=HSB.out;rw[← hw5,← hsb];clear hw5 hsb;go_wp2_with fail
 refine HRD5.out.mono ?_;rintro e w6 ⟨x0,rfl,hrow,h6,hu6⟩;have hbp6:=(hu6.block _ (A3 HBP5.out) (hne _ (Nat.le_refl _))).trans HBP5.out;have hbk6:=(hu6.block _ (A3 HBK5.out) (hne _ (by omega))).trans HBK5.out;have htk:=Bz0 (rest:=[]) (key:=key) (b:=b) (by rw[List.append_nil];exact hrow.rd) hkl HBL.out (by simp);rw[← HLN.out] at htk;have HTK:=η htk;have H6:=η h6;have HU6:=η (HU5.out.trans hu6);have HBP6:=η hbp6;have HBK6:=η hbk6;clear m0 m1 m2 n1 n2 hrow h6 hu6 hbp6 hbk6 htk;go_wp2_with fail
 refine HTK.out.mono ?_;rintro e w7 ⟨x,rfl,hrow,hu7⟩;have hbp7:=(hu7.block _ (A3 HBP6.out) (by simp)).trans HBP6.out;have hbk7:=(hu7.block _ (A3 HBK6.out) (by simp)).trans HBK6.out;have h7:=H6.out.below hu7;have HROW:=η hrow;have H7:=η h7;have HU7:=η (HU6.out.trans (hu7.mono (by simp)));have HBP7:=η hbp7;have HBK7:=η hbk7;clear hrow h7 hu7 hbp7 hbk7;go_upto_region 8 with(refine wpList_store_row (by rfl) 35 (.tmp 11) (.tmp 39) (by rfl) w7.heap.size (bts key).toArray (by rfl) (by rfl) _ _ (A4 _) hik (by simp[A5,hkl]) hone ?_)
 obtain⟨w8,hw8⟩:∃w8,w8=(w7.alloc (.cells (bts As9).toArray 35)).setRow w7.heap.size (bts key).toArray:=⟨_,rfl⟩;obtain⟨ib,hib⟩:∃ib,ib=w7.heap.size:=⟨_,rfl⟩;rw[Ah4,← hw8,← hib];have hb8:w8.heap[ib]?=some (.cells (bts key).toArray 35 (0,0)):=by rw[hw8,hib];exact setRow_heap _ _ _ _ _ _ (A4 _)
 have hu8:Upd [] w7 w8:=by rw[hw8];exact X1 ((Upd.refl _ _).alloc _) _ (.inr (Nat.le_refl _))
 have hbp8:=(hu8.block _ (A3 HBP7.out) (by simp)).trans HBP7.out;have hbk8:=(hu8.block _ (A3 HBK7.out) (by simp)).trans HBK7.out;have q2:w8.cell? ⟨pb,2,none⟩=some (.int .i64 (ln:Int)):=by rw[A2 hbp8];rfl
 have HB8:=η hb8;have HBK8:=η hbk8;have H8:=η (H7.out.below hu8);have HU8:=η (HU7.out.trans (hu8.mono (by simp)));have HROW8:=η (HROW.out.keep hu8);clear hw8 hib hb8 hu8 hbp8 hbk8;go_wp2_with (first | (refine wpList_load_row (by rfl) 35 (.tmp 11) (by rfl) ib (by rfl) _ _ _ _ HB8.out Tryz.underlying35 rfl hik ?_) | (refine wpList_load_row (by rfl) 35 (.tmp 5) (by rfl) (pb+1) (by rfl) _ _ _ _ HBK8.out Tryz.underlying35 rfl hik ?_))
 go_ret2;have hsz:=HU6.out.size;exact⟨x,rfl,HROW8.out.low (by omega),H8.out,HU8.out⟩
end Go.Proofs.YtgfbepakonjbnaaGreat
end
section
set_option linter.unusedSimpArgs false
set_option linter.unusedVariables false
namespace Go.Proofs.YtgfbepakonjbnaaGreat
open Go.RowKit Go.MapKept Go.ChangeMaps
section
attribute [-go_sem] loadCells storeCells Instr.build
end
end Go.Proofs.YtgfbepakonjbnaaGreat
end
end
