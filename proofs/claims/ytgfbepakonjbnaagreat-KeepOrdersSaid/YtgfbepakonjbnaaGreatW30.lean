/-
  keep.Scan.
-/
import Derived.Test.YtgfbepakonjbnaaGreatW29
set_option maxRecDepth 100000
set_option maxHeartbeats 16000000
section
set_option linter.unusedSimpArgs false
set_option linter.unusedVariables false
namespace Go.Proofs.YtgfbepakonjbnaaGreat
open Go.RowKit Go.MapKept Go.ChangeMaps
section
theorem Cb1(d:Nat){T:TypeId}{n:Nat}(hu:Tryz.prog.underlying T=some (.array n 5)){a:List UInt8}(ha:a.length=n)(w:World):(Op.equalIn (d+2) T (.agg (bts a).toArray) (.agg (bts a).toArray)).run Tryz.prog w=.ok true w:=by
 obtain⟨r,hr,hiff⟩:=Am1 d a a w (List.range n) (λ i hi=>by have:=List.mem_range.1 hi;omega);obtain⟨i0,hi0⟩:∃i0,Tryz.prog.info? 5=some i0:=Option.isSome_iff_exists.1 (by kernel_rfl);have h1:=run_equalIn_array (P:=Tryz.prog) w (d+1) (t:=T) (bts a).toArray (bts a).toArray hu hi0;rw[Bg4] at h1;rw[h1,hr,hiff.2 (λ _ _=>rfl)]
theorem Bt3{w:World}{b o:Nat}{p:C3}(h:w.rangeAt b o (pc p))(h1:p.1.length=32)(h2:p.2.length=16):(loadCells ⟨b,o,none⟩ 48).run Tryz.prog w=.ok (pc p).toArray w:=by
 have:=run_loadCells_list (P:=Tryz.prog) w ⟨b,o,none⟩ (pc p) (λ j v hv=>by rw[Addr.add_mid];exact h j v hv);rw[Ac9 h1 h2] at this;exact this
theorem B9.turnedRc{w w':World}{g:Sg}{M:Nat->Option Sec}(h:B9 w g M){S:List Nat}(hb:∀b,b∈S->∃c fr,w.heap[b]?=some (.cells c TRc fr))(hu:Upd S w w'):B9 w' g M:=by
 refine⟨h.jr.own hu (λ k hk=>?_),h.tx.upd hu (λ hk=>?_) (λ hk=>?_) (λ k c hk e=>?_),h.ne,h.ok,h.len⟩
 ·obtain⟨c,fr,hb⟩:=hb k hk;exact⟨_,_,_,hb,by decide,by decide,by decide,by decide⟩
 ·obtain⟨c,fr,hb⟩:=hb _ hk;have:=h.tx.st;rw[hb] at this;simp[TRc] at this
 ·obtain⟨c,fr,hb⟩:=hb _ hk;exact h.tx.map hb
 ·obtain⟨c2,fr,hb⟩:=hb _ hk;rw[hb] at e;simp[TRc] at e
theorem Bk4{w:World}{b:Nat}{cs:List Value}{T:TypeId}{fr:Nat × Nat}(h:w.heap[b]?=some (.cells cs.toArray T fr)):w.rangeAt b 0 cs:=λ j v hv=>by
 rw[Nat.zero_add,A2 h];simpa using hv
theorem Db4{w:World}{b:Nat}{p:C3}{T:TypeId}{fr:Nat × Nat}(h:w.heap[b]?=some (.cells (pc p).toArray T fr))(h1:p.1.length=32):w.rangeAt b 32 (bts p.2):=λ j v hv=>by
 have:=Bk4 h (32+j) v (by unfold pc;rw[List.getElem?_append_right (by rw[A5];omega),A5,h1,Nat.add_sub_cancel_left];exact hv);rwa [Nat.zero_add] at this
theorem Cz3{w:World}{b:Nat}{p:C3}{T:TypeId}{fr:Nat × Nat}(h:w.heap[b]?=some (.cells (pc p).toArray T fr)):w.rangeAt b 0 (bts p.1):=λ j v hv=>
 Bk4 h j v (by unfold pc;rw[List.getElem?_append_left (List.getElem?_eq_some_iff.1 hv).1];exact hv)
theorem I9.under{w w':World}{B:Nat}{v:Value}{l:List UInt8}(h:I9 w B v l){S:List Nat}(hu:Upd S w w')(hS:∀k,k∈S->k<B):I9 w' B v l:=by
 refine⟨h.1,?_⟩;rcases h.2 with h | ⟨g,cap,cur,e,hb,hg,r⟩
 ·exact .inl h
 ·exact .inr ⟨g,cap,cur,e,hb,(hu.block _ (A3 hg) λ q=>by have:=hS _ q;omega).trans hg,r⟩
theorem Z0.under{w w':World}{B:Nat}{v:Value}{l:List (Bs × Bs)}(h:Z0 w B v l){S:List Nat}(hu:Upd S w w')(hS:∀k,k∈S->k<B):Z0 w' B v l:=by
 obtain⟨ps,h1,h2,h3⟩:=h;refine⟨ps,C5 h1 hu (λ k c hk hB=>by have:=hS _ hk;omega),h2,λ k p q hp hq=>?_⟩;obtain⟨a,b,c⟩:=h3 k p q hp hq;exact⟨a,b,c.under hu hS⟩
theorem Ci6:(#[.int .u8 0,.int .u8 0,.int .u8 0,.int .u8 0,.int .u8 0,.int .u8 0,.int .u8 0,.int .u8 0,.int .u8 0,.int .u8 0,.int .u8 0,.int .u8 0,.int .u8 0,.int .u8 0,.int .u8 0,.int .u8 0,.int .u8 0,.int .u8 0,.int .u8 0,.int .u8 0,.int .u8 0,.int .u8 0,.int .u8 0,.int .u8 0,.int .u8 0,.int .u8 0,.int .u8 0,.int .u8 0,.int .u8 0,.int .u8 0,.int .u8 0,.int .u8 0,.int .u8 0,.int .u8 0,.int .u8 0,.int .u8 0,.int .u8 0,.int .u8 0,.int .u8 0,.int .u8 0,.int .u8 0,.int .u8 0,.int .u8 0,.int .u8 0,.int .u8 0,.int .u8 0,.int .u8 0,.int .u8 0]:Array Value)=(bts (List.replicate 48 0)).toArray:=rfl
def Be6:List (Nat × Nat):=[(0,42),(1,43),(2,44),(3,45),(4,46),(5,47)]
def Db5(tb xb:Nat)(key v:List UInt8)(x:Nat × Nat × Nat):Nat->Kd
 | 0=> .c (.pointer (some ⟨tb,0,none⟩))
 | 1=> .c (.pointer (some ⟨xb,32,none⟩))
 | 2=> .c (.agg (bts v).toArray)
 | 3=> .c (.agg #[.int .i64 (x.1:Int),.int .i64 (x.2.1:Int),.int .i64 (x.2.2:Int)])
 | 4=> .c (.pointer (some ⟨xb,0,none⟩))
 | 5=> .c (.agg (bts key).toArray)
 | _=> .c undef
theorem Ci7(tb xb:Nat)(key v:List UInt8)(x:Nat × Nat × Nat):∀k,(Db5 tb xb key v x k).lasts:=by
 intro k;unfold Db5;split<;>first | trivial
def Be7:List (Nat × Nat):=[(7,41),(8,49),(9,50),(10,14),(11,15)]
def Db6(vv:Value):Nat->Kd
 | 7=> .c (.tuple #[vv,.int .i64 0])
 | 8=> .c (vv)
 | 9=> .c (.int .i64 0)
 | 10=> .c (vv)
 | 11=> .c (.int .i64 0)
 | _=> .c undef
theorem Cp2(vv:Value):∀k,(Db6 vv k).lasts:=by
 intro k;unfold Db6;split<;>first | trivial
attribute [-go_sem] loadCells storeCells Instr.build Instr.buildSlice
theorem Cb2{w:World}{g:Sg}{M:Nat->Option Sec}(h:B9 w g M)(hh:20<=g.h)(hh2:g.h<=4096){S:List Nat}{K:Nat->Option Pk}{R:List Rc}(k:Av5 g M S K R)(hl:R.length<490)(fr:Bs)(hfr:fr.length=32)(m:Nat)(hm:1<=m) :
  Calls Tryz.prog 26 #[.pointer (some ⟨g.x.tb,0,none⟩),arr fr,.int .i64 (m:Int)] w λ e w'=>∃v,e=.returned (.tuple #[v,.int .i64 0])/\Z0 w' w.heap.size v ((Ay4 fr m R).map Af8)/\B9 w' g M/\Upd g.S w w':=by
 have hlt:=h.lt;obtain⟨kb,hkb⟩:∃x,x=w.heap.size:=⟨_,rfl⟩;obtain⟨w1,hw1⟩:∃w1,w1=w.alloc (.cells (bts fr).toArray 35):=⟨_,rfl⟩;have hu1:Upd [] w w1:=by rw[hw1];exact(Upd.refl _ _).alloc _
 have k1:w1.heap[kb]?=some (.cells (bts fr).toArray 35 (0,0)):=by rw[hw1,hkb];exact A4 _
 have hik:(Tryz.prog.info? 35).map (·.size)=some (bts fr).toArray.size:=by rw[List.size_toArray,A5,hfr];exact Af2
 have hrt:=Bq0 (h.below hu1) (by omega) 0 (by omega);rw[show((0:Nat):Int)=0 from rfl] at hrt;obtain⟨X,hX⟩:∃X,X=Ay4 fr m R:=⟨_,rfl⟩;have hXR:∀x,x∈X->x∈R:=λ x hx=>Ci5 (by rw[← hX];exact hx);have hXl:X.length<490:=by
  have:X.length<=R.length:=by rw[hX];unfold Ay4;rw[List.length_take];exact Nat.le_trans (Nat.min_le_right _ _) (List.length_filter_le _ _)
  omega
 have hsc:∀W,B9 W g M->Calls Tryz.prog 63 #[.pointer (some ⟨g.x.tb,0,none⟩),.int .u32 (g.R M 0:Int),.agg (bts fr).toArray,.int .i64 (m:Int)] W λ e w'=>∃v,e=.returned (.tuple #[v,.int .i64 0])/\Aa4 w' W.heap.size v (X.map Rc.ent)/\B9 w' g M/\Upd [g.j.jb] W w':=λ W hW=>by
  have:=Ce2 hW (by omega) hh2 k.tree (by rw[List.length_map];exact hl) hfr m hm;rw[Ci4,← hX] at this;exact this
 have hel:∀x,x∈X->x.key.length=32/\(L6 x.n x.at_ x.len).length=16/\x.b.length<=4200/\(∀W,Calls Tryz.prog 90 #[.agg (bts (L6 x.n x.at_ x.len)).toArray] W λ e w'=>e=.returned (.agg #[.int .i64 (x.n:Int),.int .i64 (x.at_:Int),.int .i64 (x.len:Int)])/\Upd [] W w')/\
   ∀W,B9 W g M->Calls Tryz.prog 88 #[.pointer (some ⟨g.x.tb,0,none⟩),.agg #[.int .i64 (x.n:Int),.int .i64 (x.at_:Int),.int .i64 (x.len:Int)],.agg (bts x.key).toArray] W λ e w'=>∃v,e=.returned (.tuple #[v,.int .i64 0])/\I9 w' W.heap.size v x.b/\B9 w' g M/\Upd [g.j.jb] W w':=λ x hx=>by
  have hxm:=hXR x hx;obtain⟨hkl,hb42,p,hp,hal,hfrm⟩:=k.m.rc.rec_ x hxm;obtain⟨s1,s2,s3⟩:=k.small x hxm;obtain⟨e1,e2,e3⟩:=Bt7 (n:=x.n) (a:=x.at_) (l:=x.len) (by omega) (by omega) (by omega);refine⟨hkl,U6 _ _ _,hb42,λ W=>?_,λ W hW=>Cr2 hW k.m.pk hh hh2 hp x.at_ x.len x.key x.b hkl hb42 rfl hal hfrm⟩;have:=Ay5 (L6 x.n x.at_ x.len) (U6 _ _ _) W;rw[e1,e2,e3] at this;exact this
 obtain⟨r,hr⟩:∃r,r=g.R M 0:=⟨_,rfl⟩;rw[← hr] at hrt hsc;rw[← hX];have HRT:=η hrt;have HSC:Hid (∀W,B9 W g M->Calls Tryz.prog 63 #[.pointer (some ⟨g.x.tb,0,none⟩),.int .u32 (r:Int),.agg (bts fr).toArray,.int .i64 (m:Int)] W λ e w'=>∃v,e=.returned (.tuple #[v,.int .i64 0])/\Aa4 w' W.heap.size v (X.map Rc.ent)/\B9 w' g M/\Upd [g.j.jb] W w'):=η hsc;have HEL:=η hel;have HW1:=η hw1;have HKB:=η hkb;have HU1:=η hu1;have HK1:=η k1;have HLT:=η hlt;clear hrt hsc hel hw1 hkb hu1 k1 hlt hX hXR hr k h hl;unfold arr;go_enter Tryz.func26,Tryz.ntmps26
 go_upto_region 1 with(fail)
 have hw1:=HW1.out;have hkb:=HKB.out;rw[← hw1,← hkb];clear hw1 hkb;go_wp2_with fail
 refine HRT.out.mono ?_;rintro e wA ⟨rfl,hA,huA⟩;have hnS:∀b,w.heap.size<=b->b∉g.S:=λ b hb q=>by have:=HLT.out.1 b q;omega
 have kA:=(huA.block _ (A3 HK1.out) (hnS _ (by have:=HKB.out;omega))).trans HK1.out;have HA:=η hA;have HKA:=η kA;have HUA:=η ((HU1.out.mono (by simp)).trans huA);clear hnS kA hA huA;go_wp2_with (refine wpList_load_row (by rfl) 35 (.tmp 4) (by rfl) kb (by rfl) _ _ _ _ HKA.out Tryz.underlying35 rfl hik ?_)
 refine(HSC.out wA HA.out).mono ?_;rintro e wB ⟨vp,rfl,hpr,hB,huB⟩;obtain⟨ap,cp,rfl⟩:=hpr.shape;rw[List.length_map];have HPR:=η hpr;have HB:=η hB;have HUB:=η (HUA.out.trans (huB.mono g.mem));rw[List.length_map] at HPR;have hjb:g.j.jb<wA.heap.size:=HA.out.jr.at_.lt.1;have HJB:=η hjb;clear hpr hB huB hjb;go_wp2_with fail
 go_loopw [37,11] (λ i lo wr=>∃q:Nat,i=.int .i64 (q:Int)/\q<=X.length/\Hid (Z0 wr w.heap.size lo ((X.take q).map Af8))/\Hid (Aa4 wr wA.heap.size (.slice ap X.length cp) (X.map Rc.ent))/\Hid (B9 wr g M)/\Hid (Upd g.S w wr)) (λ i _ _=>491-(intOf i).toNat)
 case atStart=>exact⟨0,rfl,by omega,η (Z0.nil _ _),HPR,HB,HUB⟩
 case round=>
  obtain⟨q,rfl,hq,HRB,HPW,HSW,HUW⟩:=hrel;obtain⟨al,cl,rfl⟩:=HRB.out.shape;have hll:((X.take q).map Af8).length=q:=by rw[List.length_map,List.length_take];omega
  rw[hll] at HRB ⊢;rcases Nat.lt_or_ge q X.length with h4 | h4
  ·have cj:decide ((q:Int)<(X.length:Int))=true:=decide_eq_true (by omega);obtain⟨x,hx⟩:∃x,X[q]?=some x:=⟨_,List.getElem?_eq_getElem h4⟩;have hxX:x∈X:=List.mem_of_getElem? hx;obtain⟨xk1,xv1,xb1,hpl,hgt⟩:=HEL.out x hxX;have hrr:=Bb9 HPW.out (by simp) (λ e he=>by
    rw[List.mem_map] at he;obtain⟨p',hp',rfl⟩:=he;rw[List.mem_map] at hp';obtain⟨x',hx',rfl⟩:=hp';obtain⟨y1,y2,_⟩:=HEL.out x' hx';exact Ac9 y1 y2)
   obtain⟨bx,ox,rfl,hrg⟩:=hrr.at (i:=q) (e:=pc x.ent) (by rw[List.getElem?_map,List.getElem?_map,hx];rfl);have l48:=Bt3 hrg xk1 xv1;obtain⟨xb,hxb⟩:∃b,b=wr.heap.size:=⟨_,rfl⟩;obtain⟨wa,hwa⟩:∃wa,wa=wr.alloc (.cells (bts (List.replicate 48 0)).toArray TP):=⟨_,rfl⟩;have ka:wa.heap[xb]?=some (.cells (bts (List.replicate 48 0)).toArray TP (0,0)):=by rw[hwa,hxb];exact A4 _
   have s48:=J8 ka (l:=pc x.ent) (by rw[List.size_toArray,A5,Ac9 xk1 xv1];rfl) (Cu8 _);have k48:=setRow_heap wa xb (bts (List.replicate 48 0)).toArray (pc x.ent).toArray TP (0,0) ka;have hus:Upd [] wr (wa.setRow xb (pc x.ent).toArray):=by
    have a2:Upd [xb] wa (wa.setRow xb (pc x.ent).toArray):=J6 (Upd.refl _ _) _ (.inl (by simp));have a1:Upd [] wr wa:=by rw[hwa];exact(Upd.refl _ _).alloc _
    exact a1.late a2 (λ k hk=>by simp at hk;subst hk;exact .inr (by omega))
   obtain⟨ws,hws⟩:∃ws,ws=wa.setRow xb (pc x.ent).toArray:=⟨_,rfl⟩;rw[← hws] at s48 k48 hus;rw[hwa,hxb,← Ci6] at s48;have hsp:=HSW.out.below hus;obtain⟨xn,hxn⟩:∃q,q=x.n:=⟨_,rfl⟩;obtain⟨xa,hxa⟩:∃q,q=x.at_:=⟨_,rfl⟩;obtain⟨xl,hxl⟩:∃q,q=x.len:=⟨_,rfl⟩;obtain⟨xv,hxv⟩:∃q,q=L6 x.n x.at_ x.len:=⟨_,rfl⟩;obtain⟨xk,hxk⟩:∃q,q=x.key:=⟨_,rfl⟩;obtain⟨xd,hxd⟩:∃q,q=x.b:=⟨_,rfl⟩;have hent:x.ent=(xk,xv):=by rw[hxk,hxv];rfl
   have hrp:Af8 x=(xk,xd):=by rw[hxk,hxd];rfl
   rw[hent] at l48 s48 k48 hws;rw[← hxv] at xv1 hpl;rw[← hxn,← hxa,← hxl] at hpl hgt;rw[← hxk] at hgt xk1;rw[← hxd] at hgt xb1;have hgt2:∀W,Upd [] ws W->Calls Tryz.prog 88 #[.pointer (some ⟨g.x.tb,0,none⟩),.agg #[.int .i64 (xn:Int),.int .i64 (xa:Int),.int .i64 (xl:Int)],.agg (bts xk).toArray] W λ e w'=>∃v,e=.returned (.tuple #[v,.int .i64 0])/\I9 w' W.heap.size v xd/\B9 w' g M/\Upd [g.j.jb] W w':=λ W hW=>hgt W (hsp.below hW);have HGT:Hid (∀W,Upd [] ws W->Calls Tryz.prog 88 #[.pointer (some ⟨g.x.tb,0,none⟩),.agg #[.int .i64 (xn:Int),.int .i64 (xa:Int),.int .i64 (xl:Int)],.agg (bts xk).toArray] W λ e w'=>∃v,e=.returned (.tuple #[v,.int .i64 0])/\I9 w' W.heap.size v xd/\B9 w' g M/\Upd [g.j.jb] W w'):=η hgt2;have HPL:Hid (∀W,Calls Tryz.prog 90 #[.agg (bts xv).toArray] W λ e w'=>e=.returned (.agg #[.int .i64 (xn:Int),.int .i64 (xa:Int),.int .i64 (xl:Int)])/\Upd [] W w'):=η hpl;have HX:=η k48;have HXB:=η hxb;have HUS:=η hus;have HRP:=η hrp;have HXX:=η hx;have hp48:(pc (xk,xv)).length=48:=Ac9 xk1 xv1;have HQ0:(0:Int)<=(q:Int):=by omega
   have HQ1:(q:Int)<(X.length:Int):=by omega
   clear hxX hpl hgt hgt2 hrr hrg hxb hwa ka k48 hus hws hsp hxn hxa hxl hxv hxk hxd hent hrp hx;go_upto_region 11 with(fail)
   have hxb:=HXB.out;rw[← hxb];clear hxb s48 l48 hp48;refine Al2 6 Be6 (Db5 g.x.tb xb xk xv (xn,xa,xl)) (by kernel_rfl) (by kernel_rfl) (by kernel_rfl) (by decide) 63 rfl rfl ?_ ?_
   ·intro i o L tmps w' hi ho hI hL hd;have t0:tmps[0]?.getD undef=.pointer (some ⟨g.x.tb,0,none⟩):=(hI.old 0 (by rfl)).trans rfl;have t13:tmps[13]?.getD undef=.pointer (some ⟨xb,0,none⟩):=(hI.old 13 (by rfl)).trans rfl;have hgw:=hI.gw;have q13:=(hgw.block _ (A3 HX.out) (by simp)).trans HX.out;have l32:=Af5 (Db4 q13 xk1) xv1;have l0:=F4 (Cz3 q13) xk1;obtain rfl | rfl | rfl | rfl | rfl | rfl:i=0∨i=1∨i=2∨i=3∨i=4∨i=5:=by omega
    ·cases ho
     refine wpOp_step rfl (λ K hK=>?_);go_simp;exact hK _ _ (hI.ustep (Ci7 g.x.tb xb xk xv (xn,xa,xl)) 0 42 (.pointer (some ⟨g.x.tb,0,none⟩)) (by decide) (by kernel_rfl) (Upd.refl _ _) (rfl))
    ·cases ho
     refine wpOp_step rfl (λ K hK=>?_);go_simp;exact hK _ _ (hI.ustep (Ci7 g.x.tb xb xk xv (xn,xa,xl)) 1 43 (.pointer (some ⟨xb,32,none⟩)) (by decide) (by kernel_rfl) (Upd.refl _ _) (rfl))
    ·cases ho
     have t43:tmps[43]?.getD undef=.pointer (some ⟨xb,32,none⟩):=hI.val (1,43) (by simp[Be6]) (hd ⟨1,.data⟩ (by simp) rfl);refine wpOp_step rfl (λ K hK=>?_);go_simp;exact hK _ _ (hI.ustep (Ci7 g.x.tb xb xk xv (xn,xa,xl)) 2 44 (.agg (bts xv).toArray) (by decide) (by kernel_rfl) (Upd.refl _ _) (rfl))
    ·cases ho
     have t44:tmps[44]?.getD undef=.agg (bts xv).toArray:=hI.val (2,44) (by simp[Be6]) (hd ⟨2,.data⟩ (by simp) rfl);refine wpOp_step rfl (λ K hK=>?_);go_simp;go_at_call 90
     refine(HPL.out w').mono ?_;rintro e w2 ⟨rfl,hu⟩;exact hK _ _ (hI.ustep (Ci7 g.x.tb xb xk xv (xn,xa,xl)) 3 45 (.agg #[.int .i64 (xn:Int),.int .i64 (xa:Int),.int .i64 (xl:Int)]) (by decide) (by kernel_rfl) hu (rfl))
    ·cases ho
     refine wpOp_step rfl (λ K hK=>?_);go_simp;exact hK _ _ (hI.ustep (Ci7 g.x.tb xb xk xv (xn,xa,xl)) 4 46 (.pointer (some ⟨xb,0,none⟩)) (by decide) (by kernel_rfl) (Upd.refl _ _) (rfl))
    ·cases ho
     have t46:tmps[46]?.getD undef=.pointer (some ⟨xb,0,none⟩):=hI.val (4,46) (by simp[Be6]) (hd ⟨4,.data⟩ (by simp) rfl);refine wpOp_step rfl (λ K hK=>?_);go_simp;exact hK _ _ (hI.ustep (Ci7 g.x.tb xb xk xv (xn,xa,xl)) 5 47 (.agg (bts xk).toArray) (by decide) (by kernel_rfl) (Upd.refl _ _) (rfl))
   ·intro L tmps w' hI hall;have hat:=hI.tmps_eq rfl [(42,.pointer (some ⟨g.x.tb,0,none⟩)),(43,.pointer (some ⟨xb,32,none⟩)),(44,.agg (bts xv).toArray),(45,.agg #[.int .i64 (xn:Int),.int .i64 (xa:Int),.int .i64 (xl:Int)]),(46,.pointer (some ⟨xb,0,none⟩)),(47,.agg (bts xk).toArray)] (λ j hj=>by simp[Be6] at hj ⊢;simp[hj]) (by
     intro p hp;simp only[List.mem_cons,List.not_mem_nil,or_false] at hp;rcases hp with rfl | rfl | rfl | rfl | rfl | rfl
     ·exact hI.val (0,42) (by simp[Be6]) (hall 0 (by decide))
     ·exact hI.val (1,43) (by simp[Be6]) (hall 1 (by decide))
     ·exact hI.val (2,44) (by simp[Be6]) (hall 2 (by decide))
     ·exact hI.val (3,45) (by simp[Be6]) (hall 3 (by decide))
     ·exact hI.val (4,46) (by simp[Be6]) (hall 4 (by decide))
     ·exact hI.val (5,47) (by simp[Be6]) (hall 5 (by decide)))
    have hgw:=hI.gw;clear hI hall;try dsimp only at hat
    simp only[Ac0,αs,αz,αc] at hat;subst hat;refine wpOp_step rfl (λ K hK=>?_);go_simp;go_at_call 88
    refine(HGT.out w' hgw).mono ?_;rintro e w2 ⟨vv,rfl,hbr,h2,hu2⟩;refine hK _ _ ?_;clear hK K;try simp only[Act.put,αs,αz,αc]
    refine Cq4 Be7 (Db6 vv) (by kernel_rfl) (by kernel_rfl) 63 rfl rfl ?_ ?_
    ·intro i o L tmps w' hi ho hI hL hd;have hi2:i<12:=(Array.getElem?_eq_some_iff.1 ho).1;have t48:tmps[48]?.getD undef=.tuple #[vv,.int .i64 0]:=(hI.old 48 (by rfl)).trans rfl;have hgw2:=hI.gw;obtain rfl | rfl | rfl | rfl | rfl:i=7∨i=8∨i=9∨i=10∨i=11:=by omega
     ·cases ho
      refine wpOp_step rfl (λ K hK=>?_);go_simp;exact hK _ _ (hI.ustep (Cp2 vv) 7 41 (.tuple #[vv,.int .i64 0]) (by decide) (by kernel_rfl) (Upd.refl _ _) (rfl))
     ·cases ho
      have t41:tmps[41]?.getD undef=.tuple #[vv,.int .i64 0]:=hI.val (7,41) (by simp[Be7]) (hd ⟨7,.data⟩ (by simp) rfl);refine wpOp_step rfl (λ K hK=>?_);go_simp;exact hK _ _ (hI.ustep (Cp2 vv) 8 49 (vv) (by decide) (by kernel_rfl) (Upd.refl _ _) (rfl))
     ·cases ho
      have t41:tmps[41]?.getD undef=.tuple #[vv,.int .i64 0]:=hI.val (7,41) (by simp[Be7]) (hd ⟨7,.data⟩ (by simp) rfl);refine wpOp_step rfl (λ K hK=>?_);go_simp;exact hK _ _ (hI.ustep (Cp2 vv) 9 50 (.int .i64 0) (by decide) (by kernel_rfl) (Upd.refl _ _) (rfl))
     ·cases ho
      have t49:tmps[49]?.getD undef=vv:=hI.val (8,49) (by simp[Be7]) (hd ⟨8,.data⟩ (by simp) rfl);refine wpOp_step rfl (λ K hK=>?_);go_simp;exact hK _ _ (hI.ustep (Cp2 vv) 10 14 (vv) (by decide) (by kernel_rfl) (Upd.refl _ _) (rfl))
     ·cases ho
      have t50:tmps[50]?.getD undef=.int .i64 0:=hI.val (9,50) (by simp[Be7]) (hd ⟨9,.data⟩ (by simp) rfl);refine wpOp_step rfl (λ K hK=>?_);go_simp;exact hK _ _ (hI.ustep (Cp2 vv) 11 15 (.int .i64 0) (by decide) (by kernel_rfl) (Upd.refl _ _) (rfl))
    ·intro L tmps w5 hI hall;have hat:=hI.tmps_eq rfl [(41,.tuple #[vv,.int .i64 0]),(49,vv),(50,.int .i64 0),(14,vv),(15,.int .i64 0)] (λ j hj=>by simp[Be7] at hj ⊢;simp[hj]) (by
      intro p hp;simp only[List.mem_cons,List.not_mem_nil,or_false] at hp;rcases hp with rfl | rfl | rfl | rfl | rfl
      ·exact hI.val (7,41) (by simp[Be7]) (hall 7 (by decide))
      ·exact hI.val (8,49) (by simp[Be7]) (hall 8 (by decide))
      ·exact hI.val (9,50) (by simp[Be7]) (hall 9 (by decide))
      ·exact hI.val (10,14) (by simp[Be7]) (hall 10 (by decide))
      ·exact hI.val (11,15) (by simp[Be7]) (hall 11 (by decide)))
     have hu5:=hI.gw;clear hI hall;try dsimp only at hat
     simp only[Ac0,αs,αz,αc] at hat;rw[hat];clear hat tmps;obtain⟨av,cv,rfl,_⟩:=hbr.shape;have hwx:w'.heap[xb]?=some (.cells (pc (xk,xv)).toArray TP (0,0)):=(hgw.block _ (A3 HX.out) (by simp)).trans HX.out;have hjx:xb∉[g.j.jb]:=λ q=>by
      have h1:=HSW.out.jr.at_.lt.1;have h2:=HXB.out;simp at q;omega
     have h2x:=(hu2.block _ (A3 hwx) hjx).trans hwx;have h5x:=(hu5.block _ (A3 h2x) (by simp)).trans h2x;have hur5:Upd [g.j.jb] wr w5:=((HUS.out.mono (by simp)).trans (hgw.mono (by simp))).trans (hu2.trans (hu5.mono (by simp)));have hpw5:Aa4 w5 wA.heap.size (.slice (some ⟨bx,ox,none⟩) X.length cp) (X.map Rc.ent):=C5 (S:=[g.j.jb]) HPW.out hur5 (λ k c hk hB=>by have:=HJB.out;simp at hk;omega);have hsz5:=HUW.out.size;have hszr:wr.heap.size<=w'.heap.size:=Nat.le_trans HUS.out.size hgw.size;have hrb5:=HRB.out.under hur5 (λ k hk=>by simp at hk;subst hk;exact HLT.out.1 _ (g.mem _ (by simp)));have hbr5:I9 w5 w.heap.size (.slice av xd.length cv) xd:=(hbr.keep hu5).low (by omega);have h5:=h2.below hu5;have l0:=F4 (Cz3 h5x) xk1;have bld:=Ci3 xk1 av xd.length cv w5;have bR:=Cx1 (p:=(xk,.slice av xd.length cv)) xk1 w5;have hu05:Upd g.S w w5:=HUW.out.trans (hur5.mono g.mem);obtain⟨a',b',c',w6,S9,hrun,hrb6,hu6,hS9⟩:=Cp1 hrb5 (by rw[hll];omega) hu05.size xk1 hbr5;have hpw6:Aa4 w6 wA.heap.size (.slice (some ⟨bx,ox,none⟩) X.length cp) (X.map Rc.ent):=C5 (S:=S9) hpw5 hu6 (λ k c hk hB e=>by
      obtain⟨_,c2,h⟩:=hS9 k hk;rw[h] at e;injection e with e;injection e with _ e _;exact absurd e (by decide))
     have h6:=h5.turnedRc (λ b hb=>by obtain⟨_,c,e⟩:=hS9 b hb;exact⟨c,_,e⟩) hu6;have hu06:Upd g.S w w6:=hu05.late hu6 (λ i hi=> .inr (hS9 i hi).1);have htk:(X.take q).map Af8 ++ [(xk,xd)]=(X.take (q+1)).map Af8:=by
      rw[List.take_add_one,HXX.out,List.map_append,← HRP.out];rfl
     rw[htk] at hrb6;have HRB6:=η hrb6;have HPW6:=η hpw6;have H6:=η h6;have HU6:=η hu06;clear hbr hwx hjx h2x h5x hur5 hpw5 hsz5 hszr hrb5 hbr5 h5 hu05 hu6 hS9 hrb6 hpw6 h6 hu06 htk h2 hu2 hgw hu5 HUS HUW HRB HPW HSW;go_wp2_with (at_builtin;refine C4 rfl _ _ _ rfl rfl rfl hrun ?_)
     exact⟨⟨q+1,by go_num,by omega,HRB6,HPW6,H6,HU6⟩,by simp[intOf];omega⟩
  ·have cj:decide ((q:Int)<(X.length:Int))=false:=decide_eq_false (by omega);have htk:X.take q=X:=List.take_of_length_le h4;go_wp2_with fail
   go_ret2;have:=HRB.out;rw[htk] at this;exact⟨_,rfl,this,HSW.out,HUW.out⟩
end
section
def Af0(w:World)(B:Nat)(v:Value)(l:List (Bs × Bs)):Prop:=∃ps:List (Bs × Value),RRd w v 33 (ps.map rcC)/\ps.length=l.length/\∀(k:Nat) p q,ps[k]?=some p->l[k]?=some q->p.1=q.1/\p.1.length=32/\I9 w B p.2 q.2
theorem Z0.read{w:World}{B:Nat}{v:Value}{l:List (Bs × Bs)}(h:Z0 w B v l):Af0 w B v l:=h.rrd
theorem Af0.turn{w w':World}{B:Nat}{v:Value}{l:List (Bs × Bs)}(h:Af0 w B v l){S:List Nat}(hu:Upd S w w')(h1:∀a n c,v=.slice (some a) n c->a.block∉S)(h2:∀k,k∈S->k<B∨∀c,w.heap[k]?≠some (.cells c 5 (0,0))):Af0 w' B v l:=by
 obtain⟨ps,p1,p2,p3⟩:=h;refine⟨ps,p1.keep hu h1,p2,λ k p q hp hq=>?_⟩;obtain⟨a,b,c⟩:=p3 k p q hp hq;refine⟨a,b,c.1,?_⟩;rcases c.2 with h | ⟨g,cap,cur,e,hb,hg,r⟩
 ·exact .inl h
 ·refine .inr ⟨g,cap,cur,e,hb,(hu.block _ (A3 hg) λ q=>?_).trans hg,r⟩;rcases h2 _ q with h | h
  ·omega
  ·exact h _ hg
theorem Af0.shape{w:World}{B:Nat}{v:Value}{l:List (Bs × Bs)}(h:Af0 w B v l):∃a c,v=.slice a l.length c:=by
 obtain⟨ps,p1,p2,_⟩:=h;obtain⟨a,c,e⟩:=p1.shape;exact⟨a,c,by rw[e,List.length_map,p2]⟩
theorem Z0.lt{w:World}{B n c:Nat}{a:Option Addr}{l:List (Bs × Bs)}(h:Z0 w B (.slice a n c) l):∀b,a=some b->B<=b.block/\b.block<w.heap.size:=λ b e=>by
 obtain⟨ps,p1,_⟩:=h;subst e;rcases p1.2 with⟨e,_⟩ | ⟨g,cap,cur,e,hb,hg,_⟩
 ·cases e
 ·cases e;exact⟨hb,A3 hg⟩
theorem Cp3{w:World}{v:Value}{l:List UInt8}(h:Rd w v l):(convert 32 9 v).run Tryz.prog w=.ok (.string (str l)) w:=by
 rcases Nat.lt_or_ge 0 l.length with h0 | h0
 ·exact Bb3 h h0
 ·obtain rfl:l=[]:=List.length_eq_zero_iff.1 (by omega);obtain⟨ao,cap,rfl,_⟩:=h;cases ao<;>simp[convert,go_sem,str,Conv.bytesToString]<;>rfl
theorem Bt4{w:World}{v:Value}{l:List UInt8}{T:ByteArray}(h:Rd w v l)(hT:T=str l):(convert 32 9 v).run Tryz.prog w=.ok (.string T) w:=by rw[hT];exact Cp3 h
theorem Cp4{w:World}{b o:Nat}{p:Bs × Value}(h:w.rangeAt b o (rcC p)):w.rangeAt b o (bts p.1):=λ j v hv=>h j v (by unfold rcC;rw[List.getElem?_append_left (List.getElem?_eq_some_iff.1 hv).1];exact hv)
theorem Cp5{p:Bs × Value}(h:p.1.length=32):(rcC p)[32]?=some p.2:=by
 unfold rcC;rw[List.getElem?_append_right (by rw[A5,h];exact Nat.le_refl _),A5,h];rfl
theorem Bo6{R:List Rc}(h:∀x,x∈R->x.key.length=32):(R.filter λ x=> !ltB x.key z32)=R:=by
 rw[List.filter_eq_self];intro x hx;have h3:=Bi1 32 x.key (h x hx);unfold z32;rw[h3];rfl
theorem Ci8{R:List Rc}(h:∀x,x∈R->x.key.length=32){m:Nat}(hm:R.length<=m):Ay4 z32 m R=R:=by
 unfold Ay4;rw[Bo6 h,List.take_of_length_le hm]
theorem Cb3{w:World}{g:Sg}{M:Nat->Option Sec}(h:B9 w g M)(hh:20<=g.h)(hh2:g.h<=4096){S:List Nat}{K:Nat->Option Pk}{R:List Rc}(k:Av5 g M S K R)(hl:R.length<490) :
  Calls Tryz.prog 25 #[.pointer (some ⟨g.x.tb,0,none⟩)] w λ e w'=>∃v,e=.returned (.tuple #[v,.bool true])/\Z0 w' w.heap.size v (R.map Af8)/\B9 w' g M/\Upd g.S w w':=by
 have hsc:=Cb2 h hh hh2 k hl z32 Y0 1048576 (by omega);rw[Ci8 (λ x hx=>(k.m.rc.rec_ x hx).1) (by omega)] at hsc;unfold arr at hsc;rw[show((1048576:Nat):Int)=1048576 from rfl] at hsc;have HSC:=η hsc;have hbi:=Bn3;clear hsc k h;go_enter Tryz.func25,Tryz.ntmps25
 go_wp2_with fail
 refine HSC.out.mono ?_;rintro e w2 ⟨v,rfl,hr,h2,hu2⟩;have HR:=η hr;have H2:=η h2;have HU2:=η hu2;clear hr h2 hu2;go_wp2_with fail
 go_ret2;exact⟨v,rfl,HR.out,H2.out,HU2.out⟩
def akV(ba oa bb ob N ca cb q:Nat)(key:List UInt8)(d1 d2:Value)(T:ByteArray):List (Nat × Nat × Value):=[(0,17,.slice (some ⟨ba,oa,none⟩) N ca),(1,18,.int .i64 (q:Int)),(2,19,.pointer (some ⟨ba,oa+q*33,none⟩)),(3,20,.pointer (some ⟨ba,oa+q*33,none⟩)),(4,21,.agg (bts key).toArray),(5,22,.slice (some ⟨bb,ob,none⟩) N cb),(6,23,.int .i64 (q:Int)),(7,24,.pointer (some ⟨bb,ob+q*33,none⟩)),(8,25,.pointer (some ⟨bb,ob+q*33,none⟩)),(9,26,.agg (bts key).toArray),(10,27,.bool false),(11,28,.bool false),(12,29,.slice (some ⟨ba,oa,none⟩) N ca),(13,30,.int .i64 (q:Int)),(14,31,.pointer (some ⟨ba,oa+q*33,none⟩)),(15,32,.pointer (some ⟨ba,oa+q*33+32,none⟩)),(16,33,d1),(17,34,.string T),(18,35,.slice (some ⟨bb,ob,none⟩) N cb),(19,36,.int .i64 (q:Int)),(20,37,.pointer (some ⟨bb,ob+q*33,none⟩)),(21,38,.pointer (some ⟨bb,ob+q*33+32,none⟩)),(22,39,d2),(23,40,.string T),(24,41,.bool false),(25,42,.bool false)]
attribute [-go_sem] loadCells storeCells Instr.build Instr.buildSlice Op.eqFields run_equalIn_agg Program.fieldsOf
theorem Bo7{w:World}{l:List (Bs × Bs)}(hle:l.length<=1000){v1 v2:Value}{B1 B2:Nat}(h1:Af0 w B1 v1 l)(h2:Af0 w B2 v2 l) :
  Calls Tryz.prog 27 #[v1,v2] w λ e w'=>e=.returned (.bool true)/\Upd [] w w':=by
 obtain⟨aa,ca,rfl⟩:=h1.shape;obtain⟨ab,cb,rfl⟩:=h2.shape;obtain⟨ps,p1,p2,p3⟩:=h1;obtain⟨qs,q1,q2,q3⟩:=h2;have HA:=η p1;have HB:=η q1;have HP:=η (And.intro p2 p3);have HQ:=η (And.intro q2 q3);have hnb:(((l.length:Nat):Int) == (l.length:Int))=true:=beq_self_eq_true _;clear p1 p2 p3 q1 q2 q3;go_enter Tryz.func27,Tryz.ntmps27
 go_wp2_with fail
 go_loopw [5] (λ i wr=>∃q:Nat,q<=l.length/\i=.int .i64 (q:Int)/\Upd [] w wr) (λ i _=>l.length-(intOf i).toNat)
 case atStart=>exact⟨0,by omega,rfl,Upd.refl _ _⟩
 case round=>
  obtain⟨q,hq,rfl,hu⟩:=hrel;have HU:=η hu;rcases Nat.lt_or_ge q l.length with hlt | hge
  ·have hqb:decide ((q:Int)<(l.length:Int))=true:=decide_eq_true (by omega);have hqi:(q:Int)<(l.length:Int):=by omega
   have hq0:(0:Int)<=(q:Int):=by omega
   obtain⟨hp2,hp3⟩:=HP.out;obtain⟨hq2,hq3⟩:=HQ.out;obtain⟨⟨xk,xd⟩,hx⟩:∃p,l[q]?=some p:=⟨_,List.getElem?_eq_getElem hlt⟩;obtain⟨⟨ka,da⟩,ha⟩:∃p,ps[q]?=some p:=⟨_,List.getElem?_eq_getElem (by omega)⟩;obtain⟨⟨kb,db⟩,hb⟩:∃p,qs[q]?=some p:=⟨_,List.getElem?_eq_getElem (by omega)⟩;obtain⟨e1,hk32,hd1⟩:=hp3 q _ _ ha hx;obtain⟨e2,_,hd2⟩:=hq3 q _ _ hb hx;dsimp only at e1 e2 hk32 hd1 hd2;subst e1;subst e2;obtain⟨a1,c1,rfl,_⟩:=hd1.shape;obtain⟨a2,c2,rfl,_⟩:=hd2.shape;obtain⟨ba,oa,rfl,hra⟩:=RRd.at HA.out (i:=q) (e:=rcC (kb,.slice a1 xd.length c1)) (by rw[List.getElem?_map,ha];rfl);obtain⟨bb,ob,rfl,hrb⟩:=RRd.at HB.out (i:=q) (e:=rcC (kb,.slice a2 xd.length c2)) (by rw[List.getElem?_map,hb];rfl);obtain⟨xk,hxk⟩:∃x,x=kb:=⟨_,rfl⟩;rw[← hxk] at hra hrb hk32;have HRA:=η (F0 hra hu (by simp));have HRB:=η (F0 hrb hu (by simp));have HD1:=η (hd1.rd.below hu);have HD2:=η (hd2.rd.below hu);obtain⟨T,hT⟩:∃T,T=str xd:=⟨_,rfl⟩;have HT:=η hT;have heq:∀w,(Op.equalIn 10000 35 (.agg (bts xk).toArray) (.agg (bts xk).toArray)).run Tryz.prog w=.ok true w:=λ w=>Cb1 9998 Tryz.underlying35 hk32 w;clear hp2 hp3 hq2 hq3 hx ha hb hd1 hd2 hra hrb hxk hT hu;go_upto_region 6 with(fail)
   refine W0 (akV ba oa bb ob l.length ca cb q xk (.slice a1 xd.length c1) (.slice a2 xd.length c2) T) [] (by kernel_rfl) (by kernel_rfl) 43 rfl rfl ?_ ?_
   ·intro i o L tmps w' ho hI hL hd;have hi:i<26:=(Array.getElem?_eq_some_iff.1 ho).1;have hgw:=(Upd.refl [] _).drew.trans hI.upd;have ra:=F0 HRA.out hgw (by simp);have rb:=F0 HRB.out hgw (by simp);have l1:=F4 (Cp4 ra) hk32;have l2:=F4 (Cp4 rb) hk32;have m1:=ra 32 _ (Cp5 (p:=(xk,.slice a1 xd.length c1)) hk32);have m2:=rb 32 _ (Cp5 (p:=(xk,.slice a2 xd.length c2)) hk32);have s1:=Bt4 (HD1.out.below hgw) HT.out;have s2:=Bt4 (HD2.out.below hgw) HT.out;clear ra rb;have t0:tmps[0]?.getD undef=.slice (some ⟨ba,oa,none⟩) l.length ca:=(hI.old 0 (by rfl)).trans rfl;have t1:tmps[1]?.getD undef=.slice (some ⟨bb,ob,none⟩) l.length cb:=(hI.old 1 (by rfl)).trans rfl;have t5:tmps[5]?.getD undef=.int .i64 (q:Int):=(hI.old 5 (by rfl)).trans rfl;obtain rfl | rfl | rfl | rfl | rfl | rfl | rfl | rfl | rfl | rfl | rfl | rfl | rfl | rfl | rfl | rfl | rfl | rfl | rfl | rfl | rfl | rfl | rfl | rfl | rfl | rfl:i=0∨i=1∨i=2∨i=3∨i=4∨i=5∨i=6∨i=7∨i=8∨i=9∨i=10∨i=11∨i=12∨i=13∨i=14∨i=15∨i=16∨i=17∨i=18∨i=19∨i=20∨i=21∨i=22∨i=23∨i=24∨i=25:=by omega
    ·cases ho
     refine wpOp_step rfl (λ K hK=>?_);go_simp;exact hK _ _ (hI.val_step 0 17 (.slice (some ⟨ba,oa,none⟩) l.length ca) (by decide) (Upd.refl _ _) (by simp[akV]) (by kernel_rfl))
    ·cases ho
     refine wpOp_step rfl (λ K hK=>?_);go_simp;exact hK _ _ (hI.val_step 1 18 (.int .i64 (q:Int)) (by decide) (Upd.refl _ _) (by simp[akV]) (by kernel_rfl))
    ·cases ho
     have t17:tmps[17]?.getD undef=.slice (some ⟨ba,oa,none⟩) l.length ca:=hI.val (0,17,_) (by simp[akV]) (hd ⟨0,.data⟩ (by simp) rfl);have t18:tmps[18]?.getD undef=.int .i64 (q:Int):=hI.val (1,18,_) (by simp[akV]) (hd ⟨1,.data⟩ (by simp) rfl);refine wpOp_step rfl (λ K hK=>?_);go_simp;exact hK _ _ (hI.val_step 2 19 (.pointer (some ⟨ba,oa+q*33,none⟩)) (by decide) (Upd.refl _ _) (by simp[akV]) (by kernel_rfl))
    ·cases ho
     have t19:tmps[19]?.getD undef=.pointer (some ⟨ba,oa+q*33,none⟩):=hI.val (2,19,_) (by simp[akV]) (hd ⟨2,.data⟩ (by simp) rfl);refine wpOp_step rfl (λ K hK=>?_);go_simp;exact hK _ _ (hI.val_step 3 20 (.pointer (some ⟨ba,oa+q*33,none⟩)) (by decide) (Upd.refl _ _) (by simp[akV]) (by kernel_rfl))
    ·cases ho
     have t20:tmps[20]?.getD undef=.pointer (some ⟨ba,oa+q*33,none⟩):=hI.val (3,20,_) (by simp[akV]) (hd ⟨3,.data⟩ (by simp) rfl);refine wpOp_step rfl (λ K hK=>?_);go_simp;exact hK _ _ (hI.val_step 4 21 (.agg (bts xk).toArray) (by decide) (Upd.refl _ _) (by simp[akV]) (by kernel_rfl))
    ·cases ho
     refine wpOp_step rfl (λ K hK=>?_);go_simp;exact hK _ _ (hI.val_step 5 22 (.slice (some ⟨bb,ob,none⟩) l.length cb) (by decide) (Upd.refl _ _) (by simp[akV]) (by kernel_rfl))
    ·cases ho
     refine wpOp_step rfl (λ K hK=>?_);go_simp;exact hK _ _ (hI.val_step 6 23 (.int .i64 (q:Int)) (by decide) (Upd.refl _ _) (by simp[akV]) (by kernel_rfl))
    ·cases ho
     have t22:tmps[22]?.getD undef=.slice (some ⟨bb,ob,none⟩) l.length cb:=hI.val (5,22,_) (by simp[akV]) (hd ⟨5,.data⟩ (by simp) rfl);have t23:tmps[23]?.getD undef=.int .i64 (q:Int):=hI.val (6,23,_) (by simp[akV]) (hd ⟨6,.data⟩ (by simp) rfl);refine wpOp_step rfl (λ K hK=>?_);go_simp;exact hK _ _ (hI.val_step 7 24 (.pointer (some ⟨bb,ob+q*33,none⟩)) (by decide) (Upd.refl _ _) (by simp[akV]) (by kernel_rfl))
    ·cases ho
     have t24:tmps[24]?.getD undef=.pointer (some ⟨bb,ob+q*33,none⟩):=hI.val (7,24,_) (by simp[akV]) (hd ⟨7,.data⟩ (by simp) rfl);refine wpOp_step rfl (λ K hK=>?_);go_simp;exact hK _ _ (hI.val_step 8 25 (.pointer (some ⟨bb,ob+q*33,none⟩)) (by decide) (Upd.refl _ _) (by simp[akV]) (by kernel_rfl))
    ·cases ho
     have t25:tmps[25]?.getD undef=.pointer (some ⟨bb,ob+q*33,none⟩):=hI.val (8,25,_) (by simp[akV]) (hd ⟨8,.data⟩ (by simp) rfl);refine wpOp_step rfl (λ K hK=>?_);go_simp;exact hK _ _ (hI.val_step 9 26 (.agg (bts xk).toArray) (by decide) (Upd.refl _ _) (by simp[akV]) (by kernel_rfl))
    ·cases ho
     have t21:tmps[21]?.getD undef=.agg (bts xk).toArray:=hI.val (4,21,_) (by simp[akV]) (hd ⟨4,.data⟩ (by simp) rfl);have t26:tmps[26]?.getD undef=.agg (bts xk).toArray:=hI.val (9,26,_) (by simp[akV]) (hd ⟨9,.data⟩ (by simp) rfl);refine wpOp_step rfl (λ K hK=>?_);go_simp;exact hK _ _ (hI.val_step 10 27 (.bool false) (by decide) (Upd.refl _ _) (by simp[akV]) (by kernel_rfl))
    ·cases ho
     have t27:tmps[27]?.getD undef=.bool false:=hI.val (10,27,_) (by simp[akV]) (hd ⟨10,.data⟩ (by simp) rfl);refine wpOp_step rfl (λ K hK=>?_);go_simp;exact hK _ _ (hI.val_step 11 28 (.bool false) (by decide) (Upd.refl _ _) (by simp[akV]) (by kernel_rfl))
    ·cases ho
     have t28:tmps[28]?.getD undef=.bool false:=hI.val (11,28,_) (by simp[akV]) (hd ⟨11,.guard⟩ (by simp) rfl);have tg:=E5 t28;clear t28;refine wpOp_step rfl (λ K hK=>?_);go_simp;exact hK _ _ (hI.val_step 12 29 (.slice (some ⟨ba,oa,none⟩) l.length ca) (by decide) (Upd.refl _ _) (by simp[akV]) (by kernel_rfl))
    ·cases ho
     have t28:tmps[28]?.getD undef=.bool false:=hI.val (11,28,_) (by simp[akV]) (hd ⟨11,.guard⟩ (by simp) rfl);have tg:=E5 t28;clear t28;refine wpOp_step rfl (λ K hK=>?_);go_simp;exact hK _ _ (hI.val_step 13 30 (.int .i64 (q:Int)) (by decide) (Upd.refl _ _) (by simp[akV]) (by kernel_rfl))
    ·cases ho
     have t29:tmps[29]?.getD undef=.slice (some ⟨ba,oa,none⟩) l.length ca:=hI.val (12,29,_) (by simp[akV]) (hd ⟨12,.data⟩ (by simp) rfl);have t30:tmps[30]?.getD undef=.int .i64 (q:Int):=hI.val (13,30,_) (by simp[akV]) (hd ⟨13,.data⟩ (by simp) rfl);have t28:tmps[28]?.getD undef=.bool false:=hI.val (11,28,_) (by simp[akV]) (hd ⟨11,.guard⟩ (by simp) rfl);have tg:=E5 t28;clear t28;refine wpOp_step rfl (λ K hK=>?_);go_simp;exact hK _ _ (hI.val_step 14 31 (.pointer (some ⟨ba,oa+q*33,none⟩)) (by decide) (Upd.refl _ _) (by simp[akV]) (by kernel_rfl))
    ·cases ho
     have t31:tmps[31]?.getD undef=.pointer (some ⟨ba,oa+q*33,none⟩):=hI.val (14,31,_) (by simp[akV]) (hd ⟨14,.data⟩ (by simp) rfl);have t28:tmps[28]?.getD undef=.bool false:=hI.val (11,28,_) (by simp[akV]) (hd ⟨11,.guard⟩ (by simp) rfl);have tg:=E5 t28;clear t28;refine wpOp_step rfl (λ K hK=>?_);go_simp;exact hK _ _ (hI.val_step 15 32 (.pointer (some ⟨ba,oa+q*33+32,none⟩)) (by decide) (Upd.refl _ _) (by simp[akV]) (by kernel_rfl))
    ·cases ho
     have t32:tmps[32]?.getD undef=.pointer (some ⟨ba,oa+q*33+32,none⟩):=hI.val (15,32,_) (by simp[akV]) (hd ⟨15,.data⟩ (by simp) rfl);have t28:tmps[28]?.getD undef=.bool false:=hI.val (11,28,_) (by simp[akV]) (hd ⟨11,.guard⟩ (by simp) rfl);have tg:=E5 t28;clear t28;refine wpOp_step rfl (λ K hK=>?_);go_simp;exact hK _ _ (hI.val_step 16 33 (.slice a1 xd.length c1) (by decide) (Upd.refl _ _) (by simp[akV]) (by kernel_rfl))
    ·cases ho
     have t33:tmps[33]?.getD undef=.slice a1 xd.length c1:=hI.val (16,33,_) (by simp[akV]) (hd ⟨16,.data⟩ (by simp) rfl);have t28:tmps[28]?.getD undef=.bool false:=hI.val (11,28,_) (by simp[akV]) (hd ⟨11,.guard⟩ (by simp) rfl);have tg:=E5 t28;clear t28;refine wpOp_step rfl (λ K hK=>?_);go_simp;exact hK _ _ (hI.val_step 17 34 (.string T) (by decide) (Upd.refl _ _) (by simp[akV]) (by kernel_rfl))
    ·cases ho
     have t28:tmps[28]?.getD undef=.bool false:=hI.val (11,28,_) (by simp[akV]) (hd ⟨11,.guard⟩ (by simp) rfl);have tg:=E5 t28;clear t28;refine wpOp_step rfl (λ K hK=>?_);go_simp;exact hK _ _ (hI.val_step 18 35 (.slice (some ⟨bb,ob,none⟩) l.length cb) (by decide) (Upd.refl _ _) (by simp[akV]) (by kernel_rfl))
    ·cases ho
     have t28:tmps[28]?.getD undef=.bool false:=hI.val (11,28,_) (by simp[akV]) (hd ⟨11,.guard⟩ (by simp) rfl);have tg:=E5 t28;clear t28;refine wpOp_step rfl (λ K hK=>?_);go_simp;exact hK _ _ (hI.val_step 19 36 (.int .i64 (q:Int)) (by decide) (Upd.refl _ _) (by simp[akV]) (by kernel_rfl))
    ·cases ho
     have t35:tmps[35]?.getD undef=.slice (some ⟨bb,ob,none⟩) l.length cb:=hI.val (18,35,_) (by simp[akV]) (hd ⟨18,.data⟩ (by simp) rfl);have t36:tmps[36]?.getD undef=.int .i64 (q:Int):=hI.val (19,36,_) (by simp[akV]) (hd ⟨19,.data⟩ (by simp) rfl);have t28:tmps[28]?.getD undef=.bool false:=hI.val (11,28,_) (by simp[akV]) (hd ⟨11,.guard⟩ (by simp) rfl);have tg:=E5 t28;clear t28;refine wpOp_step rfl (λ K hK=>?_);go_simp;exact hK _ _ (hI.val_step 20 37 (.pointer (some ⟨bb,ob+q*33,none⟩)) (by decide) (Upd.refl _ _) (by simp[akV]) (by kernel_rfl))
    ·cases ho
     have t37:tmps[37]?.getD undef=.pointer (some ⟨bb,ob+q*33,none⟩):=hI.val (20,37,_) (by simp[akV]) (hd ⟨20,.data⟩ (by simp) rfl);have t28:tmps[28]?.getD undef=.bool false:=hI.val (11,28,_) (by simp[akV]) (hd ⟨11,.guard⟩ (by simp) rfl);have tg:=E5 t28;clear t28;refine wpOp_step rfl (λ K hK=>?_);go_simp;exact hK _ _ (hI.val_step 21 38 (.pointer (some ⟨bb,ob+q*33+32,none⟩)) (by decide) (Upd.refl _ _) (by simp[akV]) (by kernel_rfl))
    ·cases ho
     have t38:tmps[38]?.getD undef=.pointer (some ⟨bb,ob+q*33+32,none⟩):=hI.val (21,38,_) (by simp[akV]) (hd ⟨21,.data⟩ (by simp) rfl);have t28:tmps[28]?.getD undef=.bool false:=hI.val (11,28,_) (by simp[akV]) (hd ⟨11,.guard⟩ (by simp) rfl);have tg:=E5 t28;clear t28;refine wpOp_step rfl (λ K hK=>?_);go_simp;exact hK _ _ (hI.val_step 22 39 (.slice a2 xd.length c2) (by decide) (Upd.refl _ _) (by simp[akV]) (by kernel_rfl))
    ·cases ho
     have t39:tmps[39]?.getD undef=.slice a2 xd.length c2:=hI.val (22,39,_) (by simp[akV]) (hd ⟨22,.data⟩ (by simp) rfl);have t28:tmps[28]?.getD undef=.bool false:=hI.val (11,28,_) (by simp[akV]) (hd ⟨11,.guard⟩ (by simp) rfl);have tg:=E5 t28;clear t28;refine wpOp_step rfl (λ K hK=>?_);go_simp;exact hK _ _ (hI.val_step 23 40 (.string T) (by decide) (Upd.refl _ _) (by simp[akV]) (by kernel_rfl))
    ·cases ho
     have t34:tmps[34]?.getD undef=.string T:=hI.val (17,34,_) (by simp[akV]) (hd ⟨17,.data⟩ (by simp) rfl);have t40:tmps[40]?.getD undef=.string T:=hI.val (23,40,_) (by simp[akV]) (hd ⟨23,.data⟩ (by simp) rfl);have t28:tmps[28]?.getD undef=.bool false:=hI.val (11,28,_) (by simp[akV]) (hd ⟨11,.guard⟩ (by simp) rfl);have tg:=E5 t28;clear t28;refine wpOp_step rfl (λ K hK=>?_);go_simp;exact hK _ _ (hI.val_step 24 41 (.bool false) (by decide) (Upd.refl _ _) (by simp[akV]) (by kernel_rfl))
    ·cases ho
     have t28:tmps[28]?.getD undef=.bool false:=hI.val (11,28,_) (by simp[akV]) (hd ⟨11,.data⟩ (by simp) rfl);have t41:tmps[41]?.getD undef=.bool false:=hI.val (24,41,_) (by simp[akV]) (hd ⟨24,.data⟩ (by simp) rfl);refine wpOp_step rfl (λ K hK=>?_);go_simp;exact hK _ _ (hI.val_step 25 42 (.bool false) (by decide) (Upd.refl _ _) (by simp[akV]) (by kernel_rfl))
   ·intro L tmps w4 hI hall;have hat:=hI.fin rfl (λ t ht=>hall _ (by have h9:=List.all_eq_true.1 (show((akV ba oa bb ob l.length ca cb q xk (.slice a1 xd.length c1) (.slice a2 xd.length c2) T).all λ t=>decide (t.1<26))=true from rfl) t ht;simpa using h9));have hu4:=hI.upd;clear hI hall;simp only[akV,List.map_cons,List.map_nil,Ac0,αs,αz,αc] at hat;rw[hat];clear hat tmps;have HU4:=η ((HU.out.trans ((Upd.refl [] _).drew)).trans hu4);clear hu4 heq;go_wp2_with fail
    exact⟨⟨q+1,by omega,by go_num,HU4.out⟩,by simp[intOf];omega⟩
  ·obtain rfl:q=l.length:=by omega
   have hqb:decide ((l.length:Int)<(l.length:Int))=false:=decide_eq_false (by omega);clear hu;go_wp2_with fail
   go_ret;exact⟨rfl,HU.out⟩
end

section
theorem Bt5{i n:Nat}(h:i<n):V4 (i:Int) n=i:=by
 unfold V4;rw[Int.emod_eq_of_lt (by omega) (by omega)];rfl
theorem Bk5(i:Nat)(hi:i<40)(w:World):Calls Tryz.prog 24 #[.int .i64 (i:Int)] w λ e w'=>e=.returned (arr (T9 (i:Int)))/\Upd [] w w':=by
 have:=Be5 (i:Int) w;rw[Bt5 hi] at this;exact this
attribute [-go_sem] loadCells storeCells Instr.build Instr.buildSlice
end
theorem Cp6:(Tryz.prog.info? 3).map (λ i=>(i.zero,i.size,i.bytes))=some (some (.int .i64 0),1,8):=by kernel_rfl
def icl(P:List Nat):List Value:=P.map fun(k:Nat)=>Value.int .i64 (k:Int)
theorem Bi6(n:Nat)(hn:n<=100000)(w:World):(Instr.makeSlice 43 (.int .i64 (n:Int)) (.int .i64 (n:Int))).run Tryz.prog w=.ok (.slice (some ⟨w.heap.size,0,none⟩) n n) (w.alloc (.cells (icl (List.replicate n 0)).toArray 3)):=by
 obtain⟨i0,hi,hz0,hz1,hz2⟩:=info_parts Cp6;have:=run_make (P:=Tryz.prog) w 43 3 i0 (.int .i64 0) Tryz.underlying43 hi hz0 .i64 .i64 n n (by omega) (by omega) (by rw[hz2];omega) (by omega);rw[this,hz1];simp only[Int.toNat_natCast,Nat.mul_one];rw[Ao4 _ rfl];unfold icl;rw[List.map_replicate];rfl
theorem Al0{w:World}{b:Nat}{P:List Nat}(h:w.heap[b]?=some (.cells (icl P).toArray 3 (0,0))){i x:Nat}(hi:P[i]?=some x):w.cell? ⟨b,i,none⟩=some (.int .i64 (x:Int)):=by
 rw[A2 h,List.getElem?_toArray];unfold icl;rw[List.getElem?_map,hi];rfl
theorem Bo8{w:World}{b:Nat}{P:List Nat}(h:w.heap[b]?=some (.cells (icl P).toArray 3 (0,0)))(i x:Nat):(w.setCell ⟨b,i,none⟩ (.int .i64 (x:Int))).heap[b]?=some (.cells (icl (P.set i x)).toArray 3 (0,0)):=by
 rw[A8 h,αs];unfold icl;rw[List.map_set]
theorem Ci9{P:List Nat}{a k x y:Nat}(ha:P[a]?=some x)(hk:P[k]?=some y):((P.set a y).set k x).Perm P:=by
 obtain⟨hal,ha2⟩:=List.getElem?_eq_some_iff.1 ha;obtain⟨hkl,hk2⟩:=List.getElem?_eq_some_iff.1 hk;rw[List.perm_iff_count];intro b;have h1:(P.set a y)[k]'(by rw[List.length_set];exact hkl)=y:=by
  rw[List.getElem_set];split
  ·rfl
  ·exact hk2
 rw[List.count_set (by rw[List.length_set];exact hkl),List.count_set hal,h1,ha2];have hx:(x == b)=true->1<=List.count b P:=λ e=>by
  rw[beq_iff_eq] at e;subst e;exact List.count_pos_iff.2 (List.mem_of_getElem? ha)
 split<;>split<;>simp_all<;>omega
def Ak3(c:Nat->Nat)(n:Nat):Bs:=(List.replicate (1+c n) (0:UInt8)).set 0 (UInt8.ofNat n)
theorem Bt6(c:Nat->Nat)(n:Nat):(Ak3 c n).length=1+c n:=by unfold Ak3;rw[List.length_set,List.length_replicate]
def De7(c:Nat->Nat)(n:Nat):Bs × Bs:=(T9 (n:Int),Ak3 c n)
structure Ao2(c:Nat->Nat)(R:List Rc)(L:List Nat):Prop where
 perm:(R.map Af8).Perm (L.map (De7 c))
 low:∀n,n∈L->n<200
theorem Ao2.zero(c:Nat->Nat):Ao2 c [] []:=⟨.refl _,λ n h=>by simp at h⟩
theorem Ao2.len{c:Nat->Nat}{R:List Rc}{L:List Nat}(h:Ao2 c R L):R.length=L.length:=by
 have:=h.perm.length_eq;rwa [List.length_map,List.length_map] at this
theorem Ao2.none{c:Nat->Nat}{R:List Rc}{L:List Nat}(h:Ao2 c R L){n:Nat}(hn:n∉L)(hn2:n<200):P9 R (T9 (n:Int))=none:=by
 rcases e:P9 R (T9 (n:Int)) with _ | x
 ·rfl
 ·exfalso
  obtain⟨hx,hk⟩:=Ag9 e;have:=h.perm.mem_iff.1 (List.mem_map_of_mem (f:=Af8) hx);obtain⟨k,hkL,he⟩:=List.mem_map.1 this;have h1:T9 (k:Int)=x.key:=congrArg Prod.fst he;rw[hk] at h1;by_cases e2:k=n
  ·subst e2;exact hn hkL
  ·exact Cx0 (by have:=h.low k hkL;omega) (by omega) e2 h1
theorem Ao2.ins{c:Nat->Nat}{R:List Rc}{L:List Nat}(h:Ao2 c R L){n:Nat}(hn:n∉L)(hn2:n<200)(a b:Nat):Ao2 c (V5 R ⟨a,b,T9 (n:Int),Ak3 c n⟩) (L ++ [n]):=by
 have hp:=Av4 (x:=⟨a,b,T9 (n:Int),Ak3 c n⟩) (h.none hn hn2);refine⟨?_,λ k hk=>?_⟩
 ·refine(hp.map Af8).trans ?_;rw[List.map_cons,List.map_append];exact((h.perm.cons (Af8 ⟨a,b,T9 (n:Int),Ak3 c n⟩)).trans (List.perm_append_comm (l₁:=[De7 c n])))
 ·rcases List.mem_append.1 hk with q | q
  ·exact h.low k q
  ·obtain rfl:=List.mem_singleton.1 q;exact hn2
theorem Bk6:∀{L1 L2:List (Bs × Bs)},L1.Perm L2->(L1.map (·.1)).Pairwise (λ x y=>ltB x y=true)->(L2.map (·.1)).Pairwise (λ x y=>ltB x y=true)->L1=L2
 | [],L2,hp,_,_=>by rw[List.nil_perm.1 hp]
 | x :: L1,[],hp,_,_=>absurd (List.perm_nil.1 hp) (by simp)
 | x :: L1,y :: L2,hp,h1,h2=>by
  have e:x=y:=by
   have hx:x∈y :: L2:=hp.mem_iff.1 (by simp);have hy:y∈x :: L1:=hp.mem_iff.2 (by simp);rw[List.map_cons,List.pairwise_cons] at h1 h2;rcases List.mem_cons.1 hx with q | q
   ·exact q
   ·rcases List.mem_cons.1 hy with q2 | q2
    ·exact q2.symm
    ·have a:=h2.1 x.1 (List.mem_map_of_mem q);have b:=h1.1 y.1 (List.mem_map_of_mem q2);rw[Q8 a] at b;cases b
  subst e;rw[List.map_cons,List.pairwise_cons] at h1 h2;rw[Bk6 (List.Perm.cons_inv hp) h1.2 h2.2]
theorem Ao2.same{c:Nat->Nat}{R1 R2:List Rc}{L1 L2:List Nat}(h1:Ao2 c R1 L1)(h2:Ao2 c R2 L2)(s1:Ao6 R1)(s2:Ao6 R2)(hp:L1.Perm L2):R1.map Af8=R2.map Af8:=by
 refine Bk6 ((h1.perm.trans (hp.map _)).trans h2.perm.symm) ?_ ?_
 ·rw[List.map_map];exact s1
 ·rw[List.map_map];exact s2
end Go.Proofs.YtgfbepakonjbnaaGreat
end
