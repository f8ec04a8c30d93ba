/-
  keep.Scan.
-/
import Derived.Test.YtgfbepakonjbnaaGreatV29
set_option maxRecDepth 100000
set_option maxHeartbeats 16000000
section
set_option linter.unusedSimpArgs false
set_option linter.unusedVariables false
namespace Go.Proofs.YtgfbepakonjbnaaGreat
open Go.RowKit Go.MapKept Go.ChangeMaps
section
theorem Cb5(d:Nat){T:TypeId}{n:Nat}(hu:Tryz.prog.underlying T=some (.array n 5)){a:List UInt8}(ha:a.length=n)(w:World):(Op.equalIn (d+2) T (.agg (bts a).toArray) (.agg (bts a).toArray)).run Tryz.prog w=.ok true w:=by
 obtain⟨r,hr,hiff⟩:=Al7 d a a w (List.range n) (λ i hi=>by have:=List.mem_range.1 hi;omega);obtain⟨i0,hi0⟩:∃i0,Tryz.prog.info? 5=some i0:=Option.isSome_iff_exists.1 (by kernel_rfl);have h1:=run_equalIn_array (P:=Tryz.prog) w (d+1) (t:=T) (bts a).toArray (bts a).toArray hu hi0;rw[Bg6] at h1;rw[h1,hr,hiff.2 (λ _ _=>rfl)]
theorem Bt7{w:World}{b o:Nat}{p:C0}(h:w.rangeAt b o (pc p))(h1:p.1.length=32)(h2:p.2.length=16):(loadCells ⟨b,o,none⟩ 48).run Tryz.prog w=.ok (pc p).toArray w:=by
 have:=run_loadCells_list (P:=Tryz.prog) w ⟨b,o,none⟩ (pc p) (λ j v hv=>by rw[Addr.add_mid];exact h j v hv);rw[Ad0 h1 h2] at this;exact this
theorem B8.turnedRc{w w':World}{g:Sg}{M:Nat->Option Sec}(h:B8 w g M){S:List Nat}(hb:∀b,b∈S->∃c fr,w.heap[b]?=some (.cells c TRc fr))(hu:Upd S w w'):B8 w' g M:=by
 refine⟨h.jr.own hu (λ k hk=>?_),h.tx.upd hu (λ hk=>?_) (λ hk=>?_) (λ k c hk e=>?_),h.ne,h.ok,h.len⟩
 ·obtain⟨c,fr,hb⟩:=hb k hk;exact⟨_,_,_,hb,by decide,by decide,by decide,by decide⟩
 ·obtain⟨c,fr,hb⟩:=hb _ hk;have:=h.tx.st;rw[hb] at this;simp[TRc] at this
 ·obtain⟨c,fr,hb⟩:=hb _ hk;exact h.tx.map hb
 ·obtain⟨c2,fr,hb⟩:=hb _ hk;rw[hb] at e;simp[TRc] at e
theorem Bk5{w:World}{b:Nat}{cs:List Value}{T:TypeId}{fr:Nat × Nat}(h:w.heap[b]?=some (.cells cs.toArray T fr)):w.rangeAt b 0 cs:=λ j v hv=>by
 rw[Nat.zero_add,A2 h];simpa using hv
theorem Db9{w:World}{b:Nat}{p:C0}{T:TypeId}{fr:Nat × Nat}(h:w.heap[b]?=some (.cells (pc p).toArray T fr))(h1:p.1.length=32):w.rangeAt b 32 (bts p.2):=λ j v hv=>by
 have:=Bk5 h (32+j) v (by unfold pc;rw[List.getElem?_append_right (by rw[A5];omega),A5,h1,Nat.add_sub_cancel_left];exact hv);rwa [Nat.zero_add] at this
theorem Cz9{w:World}{b:Nat}{p:C0}{T:TypeId}{fr:Nat × Nat}(h:w.heap[b]?=some (.cells (pc p).toArray T fr)):w.rangeAt b 0 (bts p.1):=λ j v hv=>
 Bk5 h j v (by unfold pc;rw[List.getElem?_append_left (List.getElem?_eq_some_iff.1 hv).1];exact hv)
theorem J5.under{w w':World}{B:Nat}{v:Value}{l:List UInt8}(h:J5 w B v l){S:List Nat}(hu:Upd S w w')(hS:∀k,k∈S->k<B):J5 w' B v l:=by
 refine⟨h.1,?_⟩;rcases h.2 with h | ⟨g,cap,cur,e,hb,hg,r⟩
 ·exact .inl h
 ·exact .inr ⟨g,cap,cur,e,hb,(hu.block _ (A3 hg) λ q=>by have:=hS _ q;omega).trans hg,r⟩
theorem T6.under{w w':World}{B:Nat}{v:Value}{l:List (Bs × Bs)}(h:T6 w B v l){S:List Nat}(hu:Upd S w w')(hS:∀k,k∈S->k<B):T6 w' B v l:=by
 obtain⟨ps,h1,h2,h3⟩:=h;refine⟨ps,C4 h1 hu (λ k c hk hB=>by have:=hS _ hk;omega),h2,λ k p q hp hq=>?_⟩;obtain⟨a,b,c⟩:=h3 k p q hp hq;exact⟨a,b,c.under hu hS⟩
theorem Ci8:(#[.int .u8 0,.int .u8 0,.int .u8 0,.int .u8 0,.int .u8 0,.int .u8 0,.int .u8 0,.int .u8 0,.int .u8 0,.int .u8 0,.int .u8 0,.int .u8 0,.int .u8 0,.int .u8 0,.int .u8 0,.int .u8 0,.int .u8 0,.int .u8 0,.int .u8 0,.int .u8 0,.int .u8 0,.int .u8 0,.int .u8 0,.int .u8 0,.int .u8 0,.int .u8 0,.int .u8 0,.int .u8 0,.int .u8 0,.int .u8 0,.int .u8 0,.int .u8 0,.int .u8 0,.int .u8 0,.int .u8 0,.int .u8 0,.int .u8 0,.int .u8 0,.int .u8 0,.int .u8 0,.int .u8 0,.int .u8 0,.int .u8 0,.int .u8 0,.int .u8 0,.int .u8 0,.int .u8 0,.int .u8 0]:Array Value)=(bts (List.replicate 48 0)).toArray:=rfl
def Be3:List (Nat × Nat):=[(0,42),(1,43),(2,44),(3,45),(4,46),(5,47)]
def Dc0(tb xb:Nat)(key v:List UInt8)(x:Nat × Nat × Nat):Nat->Kd
 | 0=> .c (.pointer (some ⟨tb,0,none⟩))
 | 1=> .c (.pointer (some ⟨xb,32,none⟩))
 | 2=> .c (.agg (bts v).toArray)
 | 3=> .c (.agg #[.int .i64 (x.1:Int),.int .i64 (x.2.1:Int),.int .i64 (x.2.2:Int)])
 | 4=> .c (.pointer (some ⟨xb,0,none⟩))
 | 5=> .c (.agg (bts key).toArray)
 | _=> .c undef
theorem Ci9(tb xb:Nat)(key v:List UInt8)(x:Nat × Nat × Nat):∀k,(Dc0 tb xb key v x k).lasts:=by
 intro k;unfold Dc0;split<;>first | trivial
def Be4:List (Nat × Nat):=[(7,41),(8,49),(9,50),(10,14),(11,15)]
def Dc1(vv:Value):Nat->Kd
 | 7=> .c (.tuple #[vv,.int .i64 0])
 | 8=> .c (vv)
 | 9=> .c (.int .i64 0)
 | 10=> .c (vv)
 | 11=> .c (.int .i64 0)
 | _=> .c undef
theorem Cp5(vv:Value):∀k,(Dc1 vv k).lasts:=by
 intro k;unfold Dc1;split<;>first | trivial
attribute [-go_sem] loadCells storeCells Instr.build Instr.buildSlice
theorem Be5{w:World}{g:Sg}{M:Nat->Option Sec}(h:B8 w g M)(hh:20<=g.h)(hh2:g.h<=4096){S:List Nat}{K:Nat->Option Pk}{R:List Rc}(k:Av4 g M S K R)(hl:R.length<490)(fr:Bs)(hfr:fr.length=32)(m:Nat)(hm:1<=m) :
  Calls Tryz.prog 26 #[.pointer (some ⟨g.x.tb,0,none⟩),arr fr,.int .i64 (m:Int)] w λ e w'=>∃v,e=.returned (.tuple #[v,.int .i64 0])/\T6 w' w.heap.size v ((An9 fr m R).map Av1)/\B8 w' g M/\Upd g.S w w':=by
 have hlt:=h.lt;obtain⟨kb,hkb⟩:∃x,x=w.heap.size:=⟨_,rfl⟩;obtain⟨w1,hw1⟩:∃w1,w1=w.alloc (.cells (bts fr).toArray 35):=⟨_,rfl⟩;have hu1:Upd [] w w1:=by rw[hw1];exact(Upd.refl _ _).alloc _
 have k1:w1.heap[kb]?=some (.cells (bts fr).toArray 35 (0,0)):=by rw[hw1,hkb];exact A4 _
 have hik:(Tryz.prog.info? 35).map (·.size)=some (bts fr).toArray.size:=by rw[List.size_toArray,A5,hfr];exact Af4
 have hrt:=Bq3 (h.below hu1) (by omega) 0 (by omega);rw[show((0:Nat):Int)=0 from rfl] at hrt;obtain⟨X,hX⟩:∃X,X=An9 fr m R:=⟨_,rfl⟩;have hXR:∀x,x∈X->x∈R:=λ x hx=>Ci7 (by rw[← hX];exact hx);have hXl:X.length<490:=by
  have:X.length<=R.length:=by rw[hX];unfold An9;rw[List.length_take];exact Nat.le_trans (Nat.min_le_right _ _) (List.length_filter_le _ _)
  omega
 have hsc:∀W,B8 W g M->Calls Tryz.prog 63 #[.pointer (some ⟨g.x.tb,0,none⟩),.int .u32 (g.R M 0:Int),.agg (bts fr).toArray,.int .i64 (m:Int)] W λ e w'=>∃v,e=.returned (.tuple #[v,.int .i64 0])/\Aa2 w' W.heap.size v (X.map Rc.ent)/\B8 w' g M/\Upd [g.j.jb] W w':=λ W hW=>by
  have:=Ce5 hW (by omega) hh2 k.tree (by rw[List.length_map];exact hl) hfr m hm;rw[Ci6,← hX] at this;exact this
 have hel:∀x,x∈X->x.key.length=32/\(L4 x.n x.at_ x.len).length=16/\x.b.length<=4200/\(∀W,Calls Tryz.prog 90 #[.agg (bts (L4 x.n x.at_ x.len)).toArray] W λ e w'=>e=.returned (.agg #[.int .i64 (x.n:Int),.int .i64 (x.at_:Int),.int .i64 (x.len:Int)])/\Upd [] W w')/\
   ∀W,B8 W g M->Calls Tryz.prog 88 #[.pointer (some ⟨g.x.tb,0,none⟩),.agg #[.int .i64 (x.n:Int),.int .i64 (x.at_:Int),.int .i64 (x.len:Int)],.agg (bts x.key).toArray] W λ e w'=>∃v,e=.returned (.tuple #[v,.int .i64 0])/\J5 w' W.heap.size v x.b/\B8 w' g M/\Upd [g.j.jb] W w':=λ x hx=>by
  have hxm:=hXR x hx;obtain⟨hkl,hb42,p,hp,hal,hfrm⟩:=k.m.rc.rec_ x hxm;obtain⟨s1,s2,s3⟩:=k.small x hxm;obtain⟨e1,e2,e3⟩:=Bu0 (n:=x.n) (a:=x.at_) (l:=x.len) (by omega) (by omega) (by omega);refine⟨hkl,T9 _ _ _,hb42,λ W=>?_,λ W hW=>Cr5 hW k.m.pk hh hh2 hp x.at_ x.len x.key x.b hkl hb42 rfl hal hfrm⟩;have:=Ay3 (L4 x.n x.at_ x.len) (T9 _ _ _) W;rw[e1,e2,e3] at this;exact this
 obtain⟨r,hr⟩:∃r,r=g.R M 0:=⟨_,rfl⟩;rw[← hr] at hrt hsc;rw[← hX];have HRT:=η hrt;have HSC:Hid (∀W,B8 W g M->Calls Tryz.prog 63 #[.pointer (some ⟨g.x.tb,0,none⟩),.int .u32 (r:Int),.agg (bts fr).toArray,.int .i64 (m:Int)] W λ e w'=>∃v,e=.returned (.tuple #[v,.int .i64 0])/\Aa2 w' W.heap.size v (X.map Rc.ent)/\B8 w' g M/\Upd [g.j.jb] W w'):=η hsc;have HEL:=η hel;have HW1:=η hw1;have HKB:=η hkb;have HU1:=η hu1;have HK1:=η k1;have HLT:=η hlt;clear hrt hsc hel hw1 hkb hu1 k1 hlt hX hXR hr k h hl;unfold arr;go_enter Tryz.func26,Tryz.ntmps26
 go_upto_region 1 with(fail)
 have hw1:=HW1.out;have hkb:=HKB.out;rw[← hw1,← hkb];clear hw1 hkb;go_wp2_with fail
 refine HRT.out.mono ?_;rintro e wA ⟨rfl,hA,huA⟩;have hnS:∀b,w.heap.size<=b->b∉g.S:=λ b hb q=>by have:=HLT.out.1 b q;omega
 have kA:=(huA.block _ (A3 HK1.out) (hnS _ (by have:=HKB.out;omega))).trans HK1.out;have HA:=η hA;have HKA:=η kA;have HUA:=η ((HU1.out.mono (by simp)).trans huA);clear hnS kA hA huA;go_wp2_with (refine wpList_load_row (by rfl) 35 (.tmp 4) (by rfl) kb (by rfl) _ _ _ _ HKA.out Tryz.underlying35 rfl hik ?_)
 refine(HSC.out wA HA.out).mono ?_;rintro e wB ⟨vp,rfl,hpr,hB,huB⟩;obtain⟨ap,cp,rfl⟩:=hpr.shape;rw[List.length_map];have HPR:=η hpr;have HB:=η hB;have HUB:=η (HUA.out.trans (huB.mono g.mem));rw[List.length_map] at HPR;have hjb:g.j.jb<wA.heap.size:=HA.out.jr.at_.lt.1;have HJB:=η hjb;clear hpr hB huB hjb;go_wp2_with fail
 go_loopw [37,11] (λ i lo wr=>∃q:Nat,i=.int .i64 (q:Int)/\q<=X.length/\Hid (T6 wr w.heap.size lo ((X.take q).map Av1))/\Hid (Aa2 wr wA.heap.size (.slice ap X.length cp) (X.map Rc.ent))/\Hid (B8 wr g M)/\Hid (Upd g.S w wr)) (λ i _ _=>491-(intOf i).toNat)
 case atStart=>exact⟨0,rfl,by omega,η (T6.nil _ _),HPR,HB,HUB⟩
 case round=>
  obtain⟨q,rfl,hq,HRB,HPW,HSW,HUW⟩:=hrel;obtain⟨al,cl,rfl⟩:=HRB.out.shape;have hll:((X.take q).map Av1).length=q:=by rw[List.length_map,List.length_take];omega
  rw[hll] at HRB ⊢;rcases Nat.lt_or_ge q X.length with h4 | h4
  ·have cj:decide ((q:Int)<(X.length:Int))=true:=decide_eq_true (by omega);obtain⟨x,hx⟩:∃x,X[q]?=some x:=⟨_,List.getElem?_eq_getElem h4⟩;have hxX:x∈X:=List.mem_of_getElem? hx;obtain⟨xk1,xv1,xb1,hpl,hgt⟩:=HEL.out x hxX;have hrr:=Bb5 HPW.out (by simp) (λ e he=>by
    rw[List.mem_map] at he;obtain⟨p',hp',rfl⟩:=he;rw[List.mem_map] at hp';obtain⟨x',hx',rfl⟩:=hp';obtain⟨y1,y2,_⟩:=HEL.out x' hx';exact Ad0 y1 y2)
   obtain⟨bx,ox,rfl,hrg⟩:=hrr.at (i:=q) (e:=pc x.ent) (by rw[List.getElem?_map,List.getElem?_map,hx];rfl);have l48:=Bt7 hrg xk1 xv1;obtain⟨xb,hxb⟩:∃b,b=wr.heap.size:=⟨_,rfl⟩;obtain⟨wa,hwa⟩:∃wa,wa=wr.alloc (.cells (bts (List.replicate 48 0)).toArray TP):=⟨_,rfl⟩;have ka:wa.heap[xb]?=some (.cells (bts (List.replicate 48 0)).toArray TP (0,0)):=by rw[hwa,hxb];exact A4 _
   have s48:=I7 ka (l:=pc x.ent) (by rw[List.size_toArray,A5,Ad0 xk1 xv1];rfl) (Cv1 _);have k48:=setRow_heap wa xb (bts (List.replicate 48 0)).toArray (pc x.ent).toArray TP (0,0) ka;have hus:Upd [] wr (wa.setRow xb (pc x.ent).toArray):=by
    have a2:Upd [xb] wa (wa.setRow xb (pc x.ent).toArray):=I8 (Upd.refl _ _) _ (.inl (by simp));have a1:Upd [] wr wa:=by rw[hwa];exact(Upd.refl _ _).alloc _
    exact a1.late a2 (λ k hk=>by simp at hk;subst hk;exact .inr (by omega))
   obtain⟨ws,hws⟩:∃ws,ws=wa.setRow xb (pc x.ent).toArray:=⟨_,rfl⟩;rw[← hws] at s48 k48 hus;rw[hwa,hxb,← Ci8] at s48;have hsp:=HSW.out.below hus;obtain⟨xn,hxn⟩:∃q,q=x.n:=⟨_,rfl⟩;obtain⟨xa,hxa⟩:∃q,q=x.at_:=⟨_,rfl⟩;obtain⟨xl,hxl⟩:∃q,q=x.len:=⟨_,rfl⟩;obtain⟨xv,hxv⟩:∃q,q=L4 x.n x.at_ x.len:=⟨_,rfl⟩;obtain⟨xk,hxk⟩:∃q,q=x.key:=⟨_,rfl⟩;obtain⟨xd,hxd⟩:∃q,q=x.b:=⟨_,rfl⟩;have hent:x.ent=(xk,xv):=by rw[hxk,hxv];rfl
   have hrp:Av1 x=(xk,xd):=by rw[hxk,hxd];rfl
   rw[hent] at l48 s48 k48 hws;rw[← hxv] at xv1 hpl;rw[← hxn,← hxa,← hxl] at hpl hgt;rw[← hxk] at hgt xk1;rw[← hxd] at hgt xb1;have hgt2:∀W,Upd [] ws W->Calls Tryz.prog 88 #[.pointer (some ⟨g.x.tb,0,none⟩),.agg #[.int .i64 (xn:Int),.int .i64 (xa:Int),.int .i64 (xl:Int)],.agg (bts xk).toArray] W λ e w'=>∃v,e=.returned (.tuple #[v,.int .i64 0])/\J5 w' W.heap.size v xd/\B8 w' g M/\Upd [g.j.jb] W w':=λ W hW=>hgt W (hsp.below hW);have HGT:Hid (∀W,Upd [] ws W->Calls Tryz.prog 88 #[.pointer (some ⟨g.x.tb,0,none⟩),.agg #[.int .i64 (xn:Int),.int .i64 (xa:Int),.int .i64 (xl:Int)],.agg (bts xk).toArray] W λ e w'=>∃v,e=.returned (.tuple #[v,.int .i64 0])/\J5 w' W.heap.size v xd/\B8 w' g M/\Upd [g.j.jb] W w'):=η hgt2;have HPL:Hid (∀W,Calls Tryz.prog 90 #[.agg (bts xv).toArray] W λ e w'=>e=.returned (.agg #[.int .i64 (xn:Int),.int .i64 (xa:Int),.int .i64 (xl:Int)])/\Upd [] W w'):=η hpl;have HX:=η k48;have HXB:=η hxb;have HUS:=η hus;have HRP:=η hrp;have HXX:=η hx;have hp48:(pc (xk,xv)).length=48:=Ad0 xk1 xv1;have HQ0:(0:Int)<=(q:Int):=by omega
   have HQ1:(q:Int)<(X.length:Int):=by omega
   clear hxX hpl hgt hgt2 hrr hrg hxb hwa ka k48 hus hws hsp hxn hxa hxl hxv hxk hxd hent hrp hx;go_upto_region 11 with(fail)
   have hxb:=HXB.out;rw[← hxb];clear hxb s48 l48 hp48;refine Ae0 6 Be3 (Dc0 g.x.tb xb xk xv (xn,xa,xl)) (by kernel_rfl) (by kernel_rfl) (by kernel_rfl) (by decide) 63 rfl rfl ?_ ?_
   ·intro i o L tmps w' hi ho hI hL hd;have t0:tmps[0]?.getD undef=.pointer (some ⟨g.x.tb,0,none⟩):=(hI.old 0 (by rfl)).trans rfl;have t13:tmps[13]?.getD undef=.pointer (some ⟨xb,0,none⟩):=(hI.old 13 (by rfl)).trans rfl;have hgw:=hI.gw;have q13:=(hgw.block _ (A3 HX.out) (by simp)).trans HX.out;have l32:=Af7 (Db9 q13 xk1) xv1;have l0:=F1 (Cz9 q13) xk1;obtain rfl | rfl | rfl | rfl | rfl | rfl:i=0∨i=1∨i=2∨i=3∨i=4∨i=5:=by omega
    ·cases ho
     refine wpOp_step rfl (λ K hK=>?_);go_simp;exact hK _ _ (hI.ustep (Ci9 g.x.tb xb xk xv (xn,xa,xl)) 0 42 (.pointer (some ⟨g.x.tb,0,none⟩)) (by decide) (by kernel_rfl) (Upd.refl _ _) (rfl))
    ·cases ho
     refine wpOp_step rfl (λ K hK=>?_);go_simp;exact hK _ _ (hI.ustep (Ci9 g.x.tb xb xk xv (xn,xa,xl)) 1 43 (.pointer (some ⟨xb,32,none⟩)) (by decide) (by kernel_rfl) (Upd.refl _ _) (rfl))
    ·cases ho
     have t43:tmps[43]?.getD undef=.pointer (some ⟨xb,32,none⟩):=hI.val (1,43) (by simp[Be3]) (hd ⟨1,.data⟩ (by simp) rfl);refine wpOp_step rfl (λ K hK=>?_);go_simp;exact hK _ _ (hI.ustep (Ci9 g.x.tb xb xk xv (xn,xa,xl)) 2 44 (.agg (bts xv).toArray) (by decide) (by kernel_rfl) (Upd.refl _ _) (rfl))
    ·cases ho
     have t44:tmps[44]?.getD undef=.agg (bts xv).toArray:=hI.val (2,44) (by simp[Be3]) (hd ⟨2,.data⟩ (by simp) rfl);refine wpOp_step rfl (λ K hK=>?_);go_simp;go_at_call 90
     refine(HPL.out w').mono ?_;rintro e w2 ⟨rfl,hu⟩;exact hK _ _ (hI.ustep (Ci9 g.x.tb xb xk xv (xn,xa,xl)) 3 45 (.agg #[.int .i64 (xn:Int),.int .i64 (xa:Int),.int .i64 (xl:Int)]) (by decide) (by kernel_rfl) hu (rfl))
    ·cases ho
     refine wpOp_step rfl (λ K hK=>?_);go_simp;exact hK _ _ (hI.ustep (Ci9 g.x.tb xb xk xv (xn,xa,xl)) 4 46 (.pointer (some ⟨xb,0,none⟩)) (by decide) (by kernel_rfl) (Upd.refl _ _) (rfl))
    ·cases ho
     have t46:tmps[46]?.getD undef=.pointer (some ⟨xb,0,none⟩):=hI.val (4,46) (by simp[Be3]) (hd ⟨4,.data⟩ (by simp) rfl);refine wpOp_step rfl (λ K hK=>?_);go_simp;exact hK _ _ (hI.ustep (Ci9 g.x.tb xb xk xv (xn,xa,xl)) 5 47 (.agg (bts xk).toArray) (by decide) (by kernel_rfl) (Upd.refl _ _) (rfl))
   ·intro L tmps w' hI hall;have hat:=hI.tmps_eq rfl [(42,.pointer (some ⟨g.x.tb,0,none⟩)),(43,.pointer (some ⟨xb,32,none⟩)),(44,.agg (bts xv).toArray),(45,.agg #[.int .i64 (xn:Int),.int .i64 (xa:Int),.int .i64 (xl:Int)]),(46,.pointer (some ⟨xb,0,none⟩)),(47,.agg (bts xk).toArray)] (λ j hj=>by simp[Be3] at hj ⊢;simp[hj]) (by
     intro p hp;simp only[List.mem_cons,List.not_mem_nil,or_false] at hp;rcases hp with rfl | rfl | rfl | rfl | rfl | rfl
     ·exact hI.val (0,42) (by simp[Be3]) (hall 0 (by decide))
     ·exact hI.val (1,43) (by simp[Be3]) (hall 1 (by decide))
     ·exact hI.val (2,44) (by simp[Be3]) (hall 2 (by decide))
     ·exact hI.val (3,45) (by simp[Be3]) (hall 3 (by decide))
     ·exact hI.val (4,46) (by simp[Be3]) (hall 4 (by decide))
     ·exact hI.val (5,47) (by simp[Be3]) (hall 5 (by decide)))
    have hgw:=hI.gw;clear hI hall;try dsimp only at hat
    simp only[Ad8,αs,αz,αc] at hat;subst hat;refine wpOp_step rfl (λ K hK=>?_);go_simp;go_at_call 88
    refine(HGT.out w' hgw).mono ?_;rintro e w2 ⟨vv,rfl,hbr,h2,hu2⟩;refine hK _ _ ?_;clear hK K;try simp only[Act.put,αs,αz,αc]
    refine Cq6 Be4 (Dc1 vv) (by kernel_rfl) (by kernel_rfl) 63 rfl rfl ?_ ?_
    ·intro i o L tmps w' hi ho hI hL hd;have hi2:i<12:=(Array.getElem?_eq_some_iff.1 ho).1;have t48:tmps[48]?.getD undef=.tuple #[vv,.int .i64 0]:=(hI.old 48 (by rfl)).trans rfl;have hgw2:=hI.gw;obtain rfl | rfl | rfl | rfl | rfl:i=7∨i=8∨i=9∨i=10∨i=11:=by omega
     ·cases ho
      refine wpOp_step rfl (λ K hK=>?_);go_simp;exact hK _ _ (hI.ustep (Cp5 vv) 7 41 (.tuple #[vv,.int .i64 0]) (by decide) (by kernel_rfl) (Upd.refl _ _) (rfl))
     ·cases ho
      have t41:tmps[41]?.getD undef=.tuple #[vv,.int .i64 0]:=hI.val (7,41) (by simp[Be4]) (hd ⟨7,.data⟩ (by simp) rfl);refine wpOp_step rfl (λ K hK=>?_);go_simp;exact hK _ _ (hI.ustep (Cp5 vv) 8 49 (vv) (by decide) (by kernel_rfl) (Upd.refl _ _) (rfl))
     ·cases ho
      have t41:tmps[41]?.getD undef=.tuple #[vv,.int .i64 0]:=hI.val (7,41) (by simp[Be4]) (hd ⟨7,.data⟩ (by simp) rfl);refine wpOp_step rfl (λ K hK=>?_);go_simp;exact hK _ _ (hI.ustep (Cp5 vv) 9 50 (.int .i64 0) (by decide) (by kernel_rfl) (Upd.refl _ _) (rfl))
     ·cases ho
      have t49:tmps[49]?.getD undef=vv:=hI.val (8,49) (by simp[Be4]) (hd ⟨8,.data⟩ (by simp) rfl);refine wpOp_step rfl (λ K hK=>?_);go_simp;exact hK _ _ (hI.ustep (Cp5 vv) 10 14 (vv) (by decide) (by kernel_rfl) (Upd.refl _ _) (rfl))
     ·cases ho
      have t50:tmps[50]?.getD undef=.int .i64 0:=hI.val (9,50) (by simp[Be4]) (hd ⟨9,.data⟩ (by simp) rfl);refine wpOp_step rfl (λ K hK=>?_);go_simp;exact hK _ _ (hI.ustep (Cp5 vv) 11 15 (.int .i64 0) (by decide) (by kernel_rfl) (Upd.refl _ _) (rfl))
    ·intro L tmps w5 hI hall;have hat:=hI.tmps_eq rfl [(41,.tuple #[vv,.int .i64 0]),(49,vv),(50,.int .i64 0),(14,vv),(15,.int .i64 0)] (λ j hj=>by simp[Be4] at hj ⊢;simp[hj]) (by
      intro p hp;simp only[List.mem_cons,List.not_mem_nil,or_false] at hp;rcases hp with rfl | rfl | rfl | rfl | rfl
      ·exact hI.val (7,41) (by simp[Be4]) (hall 7 (by decide))
      ·exact hI.val (8,49) (by simp[Be4]) (hall 8 (by decide))
      ·exact hI.val (9,50) (by simp[Be4]) (hall 9 (by decide))
      ·exact hI.val (10,14) (by simp[Be4]) (hall 10 (by decide))
      ·exact hI.val (11,15) (by simp[Be4]) (hall 11 (by decide)))
     have hu5:=hI.gw;clear hI hall;try dsimp only at hat
     simp only[Ad8,αs,αz,αc] at hat;rw[hat];clear hat tmps;obtain⟨av,cv,rfl,_⟩:=hbr.shape;have hwx:w'.heap[xb]?=some (.cells (pc (xk,xv)).toArray TP (0,0)):=(hgw.block _ (A3 HX.out) (by simp)).trans HX.out;have hjx:xb∉[g.j.jb]:=λ q=>by
      have h1:=HSW.out.jr.at_.lt.1;have h2:=HXB.out;simp at q;omega
     have h2x:=(hu2.block _ (A3 hwx) hjx).trans hwx;have h5x:=(hu5.block _ (A3 h2x) (by simp)).trans h2x;have hur5:Upd [g.j.jb] wr w5:=((HUS.out.mono (by simp)).trans (hgw.mono (by simp))).trans (hu2.trans (hu5.mono (by simp)));have hpw5:Aa2 w5 wA.heap.size (.slice (some ⟨bx,ox,none⟩) X.length cp) (X.map Rc.ent):=C4 (S:=[g.j.jb]) HPW.out hur5 (λ k c hk hB=>by have:=HJB.out;simp at hk;omega);have hsz5:=HUW.out.size;have hszr:wr.heap.size<=w'.heap.size:=Nat.le_trans HUS.out.size hgw.size;have hrb5:=HRB.out.under hur5 (λ k hk=>by simp at hk;subst hk;exact HLT.out.1 _ (g.mem _ (by simp)));have hbr5:J5 w5 w.heap.size (.slice av xd.length cv) xd:=(hbr.keep hu5).low (by omega);have h5:=h2.below hu5;have l0:=F1 (Cz9 h5x) xk1;have bld:=Ci5 xk1 av xd.length cv w5;have bR:=Cx6 (p:=(xk,.slice av xd.length cv)) xk1 w5;have hu05:Upd g.S w w5:=HUW.out.trans (hur5.mono g.mem);obtain⟨a',b',c',w6,S9,hrun,hrb6,hu6,hS9⟩:=Cp4 hrb5 (by rw[hll];omega) hu05.size xk1 hbr5;have hpw6:Aa2 w6 wA.heap.size (.slice (some ⟨bx,ox,none⟩) X.length cp) (X.map Rc.ent):=C4 (S:=S9) hpw5 hu6 (λ k c hk hB e=>by
      obtain⟨_,c2,h⟩:=hS9 k hk;rw[h] at e;injection e with e;injection e with _ e _;exact absurd e (by decide))
     have h6:=h5.turnedRc (λ b hb=>by obtain⟨_,c,e⟩:=hS9 b hb;exact⟨c,_,e⟩) hu6;have hu06:Upd g.S w w6:=hu05.late hu6 (λ i hi=> .inr (hS9 i hi).1);have htk:(X.take q).map Av1 ++ [(xk,xd)]=(X.take (q+1)).map Av1:=by
      rw[List.take_add_one,HXX.out,List.map_append,← HRP.out];rfl
     rw[htk] at hrb6;have HRB6:=η hrb6;have HPW6:=η hpw6;have H6:=η h6;have HU6:=η hu06;clear hbr hwx hjx h2x h5x hur5 hpw5 hsz5 hszr hrb5 hbr5 h5 hu05 hu6 hS9 hrb6 hpw6 h6 hu06 htk h2 hu2 hgw hu5 HUS HUW HRB HPW HSW;go_wp2_with (at_builtin;refine C3 rfl _ _ _ rfl rfl rfl hrun ?_)
     exact⟨⟨q+1,by go_num,by omega,HRB6,HPW6,H6,HU6⟩,by simp[intOf];omega⟩
  ·have cj:decide ((q:Int)<(X.length:Int))=false:=decide_eq_false (by omega);have htk:X.take q=X:=List.take_of_length_le h4;go_wp2_with fail
   go_ret2;have:=HRB.out;rw[htk] at this;exact⟨_,rfl,this,HSW.out,HUW.out⟩
end
section
def Ar7(w:World)(B:Nat)(v:Value)(l:List (Bs × Bs)):Prop:=∃ps:List (Bs × Value),RRd w v 33 (ps.map rcC)/\ps.length=l.length/\∀(k:Nat) p q,ps[k]?=some p->l[k]?=some q->p.1=q.1/\p.1.length=32/\J5 w B p.2 q.2
theorem T6.read{w:World}{B:Nat}{v:Value}{l:List (Bs × Bs)}(h:T6 w B v l):Ar7 w B v l:=h.rrd
theorem Ar7.turn{w w':World}{B:Nat}{v:Value}{l:List (Bs × Bs)}(h:Ar7 w B v l){S:List Nat}(hu:Upd S w w')(h1:∀a n c,v=.slice (some a) n c->a.block∉S)(h2:∀k,k∈S->k<B∨∀c,w.heap[k]?≠some (.cells c 5 (0,0))):Ar7 w' B v l:=by
 obtain⟨ps,p1,p2,p3⟩:=h;refine⟨ps,p1.keep hu h1,p2,λ k p q hp hq=>?_⟩;obtain⟨a,b,c⟩:=p3 k p q hp hq;refine⟨a,b,c.1,?_⟩;rcases c.2 with h | ⟨g,cap,cur,e,hb,hg,r⟩
 ·exact .inl h
 ·refine .inr ⟨g,cap,cur,e,hb,(hu.block _ (A3 hg) λ q=>?_).trans hg,r⟩;rcases h2 _ q with h | h
  ·omega
  ·exact h _ hg
theorem Ar7.shape{w:World}{B:Nat}{v:Value}{l:List (Bs × Bs)}(h:Ar7 w B v l):∃a c,v=.slice a l.length c:=by
 obtain⟨ps,p1,p2,_⟩:=h;obtain⟨a,c,e⟩:=p1.shape;exact⟨a,c,by rw[e,List.length_map,p2]⟩
theorem T6.lt{w:World}{B n c:Nat}{a:Option Addr}{l:List (Bs × Bs)}(h:T6 w B (.slice a n c) l):∀b,a=some b->B<=b.block/\b.block<w.heap.size:=λ b e=>by
 obtain⟨ps,p1,_⟩:=h;subst e;rcases p1.2 with⟨e,_⟩ | ⟨g,cap,cur,e,hb,hg,_⟩
 ·cases e
 ·cases e;exact⟨hb,A3 hg⟩
theorem Cp6{w:World}{v:Value}{l:List UInt8}(h:Rd w v l):(convert 32 9 v).run Tryz.prog w=.ok (.string (str l)) w:=by
 rcases Nat.lt_or_ge 0 l.length with h0 | h0
 ·exact Ba9 h h0
 ·obtain rfl:l=[]:=List.length_eq_zero_iff.1 (by omega);obtain⟨ao,cap,rfl,_⟩:=h;cases ao<;>simp[convert,go_sem,str,Conv.bytesToString]<;>rfl
theorem Bt8{w:World}{v:Value}{l:List UInt8}{T:ByteArray}(h:Rd w v l)(hT:T=str l):(convert 32 9 v).run Tryz.prog w=.ok (.string T) w:=by rw[hT];exact Cp6 h
theorem Cb6{w:World}{b o:Nat}{p:Bs × Value}(h:w.rangeAt b o (rcC p)):w.rangeAt b o (bts p.1):=λ j v hv=>h j v (by unfold rcC;rw[List.getElem?_append_left (List.getElem?_eq_some_iff.1 hv).1];exact hv)
theorem Cp7{p:Bs × Value}(h:p.1.length=32):(rcC p)[32]?=some p.2:=by
 unfold rcC;rw[List.getElem?_append_right (by rw[A5,h];exact Nat.le_refl _),A5,h];rfl
theorem Ar8{R:List Rc}(h:∀x,x∈R->x.key.length=32):(R.filter λ x=> !ltB x.key z32)=R:=by
 rw[List.filter_eq_self];intro x hx;have h3:=Bi3 32 x.key (h x hx);unfold z32;rw[h3];rfl
theorem Cj0{R:List Rc}(h:∀x,x∈R->x.key.length=32){m:Nat}(hm:R.length<=m):An9 z32 m R=R:=by
 unfold An9;rw[Ar8 h,List.take_of_length_le hm]
theorem Cb7{w:World}{g:Sg}{M:Nat->Option Sec}(h:B8 w g M)(hh:20<=g.h)(hh2:g.h<=4096){S:List Nat}{K:Nat->Option Pk}{R:List Rc}(k:Av4 g M S K R)(hl:R.length<490) :
  Calls Tryz.prog 25 #[.pointer (some ⟨g.x.tb,0,none⟩)] w λ e w'=>∃v,e=.returned (.tuple #[v,.bool true])/\T6 w' w.heap.size v (R.map Av1)/\B8 w' g M/\Upd g.S w w':=by
 have hsc:=Be5 h hh hh2 k hl z32 V0 1048576 (by omega);rw[Cj0 (λ x hx=>(k.m.rc.rec_ x hx).1) (by omega)] at hsc;unfold arr at hsc;rw[show((1048576:Nat):Int)=1048576 from rfl] at hsc;have HSC:=η hsc;have hbi:=Ax0;clear hsc k h;go_enter Tryz.func25,Tryz.ntmps25
 go_wp2_with fail
 refine HSC.out.mono ?_;rintro e w2 ⟨v,rfl,hr,h2,hu2⟩;have HR:=η hr;have H2:=η h2;have HU2:=η hu2;clear hr h2 hu2;go_wp2_with fail
 go_ret2;exact⟨v,rfl,HR.out,H2.out,HU2.out⟩
def akV(ba oa bb ob N ca cb q:Nat)(key:List UInt8)(d1 d2:Value)(T:ByteArray):List (Nat × Nat × Value):=[(0,17,.slice (some ⟨ba,oa,none⟩) N ca),(1,18,.int .i64 (q:Int)),(2,19,.pointer (some ⟨ba,oa+q*33,none⟩)),(3,20,.pointer (some ⟨ba,oa+q*33,none⟩)),(4,21,.agg (bts key).toArray),(5,22,.slice (some ⟨bb,ob,none⟩) N cb),(6,23,.int .i64 (q:Int)),(7,24,.pointer (some ⟨bb,ob+q*33,none⟩)),(8,25,.pointer (some ⟨bb,ob+q*33,none⟩)),(9,26,.agg (bts key).toArray),(10,27,.bool false),(11,28,.bool false),(12,29,.slice (some ⟨ba,oa,none⟩) N ca),(13,30,.int .i64 (q:Int)),(14,31,.pointer (some ⟨ba,oa+q*33,none⟩)),(15,32,.pointer (some ⟨ba,oa+q*33+32,none⟩)),(16,33,d1),(17,34,.string T),(18,35,.slice (some ⟨bb,ob,none⟩) N cb),(19,36,.int .i64 (q:Int)),(20,37,.pointer (some ⟨bb,ob+q*33,none⟩)),(21,38,.pointer (some ⟨bb,ob+q*33+32,none⟩)),(22,39,d2),(23,40,.string T),(24,41,.bool false),(25,42,.bool false)]
attribute [-go_sem] loadCells storeCells Instr.build Instr.buildSlice Op.eqFields run_equalIn_agg Program.fieldsOf
theorem Bo8{w:World}{l:List (Bs × Bs)}(hle:l.length<=1000){v1 v2:Value}{B1 B2:Nat}(h1:Ar7 w B1 v1 l)(h2:Ar7 w B2 v2 l) :
  Calls Tryz.prog 27 #[v1,v2] w λ e w'=>e=.returned (.bool true)/\Upd [] w w':=by
 obtain⟨aa,ca,rfl⟩:=h1.shape;obtain⟨ab,cb,rfl⟩:=h2.shape;obtain⟨ps,p1,p2,p3⟩:=h1;obtain⟨qs,q1,q2,q3⟩:=h2;have HA:=η p1;have HB:=η q1;have HP:=η (And.intro p2 p3);have HQ:=η (And.intro q2 q3);have hnb:(((l.length:Nat):Int) == (l.length:Int))=true:=beq_self_eq_true _;clear p1 p2 p3 q1 q2 q3;go_enter Tryz.func27,Tryz.ntmps27
 go_wp2_with fail
 go_loopw [5] (λ i wr=>∃q:Nat,q<=l.length/\i=.int .i64 (q:Int)/\Upd [] w wr) (λ i _=>l.length-(intOf i).toNat)
 case atStart=>exact⟨0,by omega,rfl,Upd.refl _ _⟩
 case round=>
  obtain⟨q,hq,rfl,hu⟩:=hrel;have HU:=η hu;rcases Nat.lt_or_ge q l.length with hlt | hge
  ·have hqb:decide ((q:Int)<(l.length:Int))=true:=decide_eq_true (by omega);have hqi:(q:Int)<(l.length:Int):=by omega
   have hq0:(0:Int)<=(q:Int):=by omega
   obtain⟨hp2,hp3⟩:=HP.out;obtain⟨hq2,hq3⟩:=HQ.out;obtain⟨⟨xk,xd⟩,hx⟩:∃p,l[q]?=some p:=⟨_,List.getElem?_eq_getElem hlt⟩;obtain⟨⟨ka,da⟩,ha⟩:∃p,ps[q]?=some p:=⟨_,List.getElem?_eq_getElem (by omega)⟩;obtain⟨⟨kb,db⟩,hb⟩:∃p,qs[q]?=some p:=⟨_,List.getElem?_eq_getElem (by omega)⟩;obtain⟨e1,hk32,hd1⟩:=hp3 q _ _ ha hx;obtain⟨e2,_,hd2⟩:=hq3 q _ _ hb hx;dsimp only at e1 e2 hk32 hd1 hd2;subst e1;subst e2;obtain⟨a1,c1,rfl,_⟩:=hd1.shape;obtain⟨a2,c2,rfl,_⟩:=hd2.shape;obtain⟨ba,oa,rfl,hra⟩:=RRd.at HA.out (i:=q) (e:=rcC (kb,.slice a1 xd.length c1)) (by rw[List.getElem?_map,ha];rfl);obtain⟨bb,ob,rfl,hrb⟩:=RRd.at HB.out (i:=q) (e:=rcC (kb,.slice a2 xd.length c2)) (by rw[List.getElem?_map,hb];rfl);obtain⟨xk,hxk⟩:∃x,x=kb:=⟨_,rfl⟩;rw[← hxk] at hra hrb hk32;have HRA:=η (E7 hra hu (by simp));have HRB:=η (E7 hrb hu (by simp));have HD1:=η (hd1.rd.below hu);have HD2:=η (hd2.rd.below hu);obtain⟨T,hT⟩:∃T,T=str xd:=⟨_,rfl⟩;have HT:=η hT;have heq:∀w,(Op.equalIn 10000 35 (.agg (bts xk).toArray) (.agg (bts xk).toArray)).run Tryz.prog w=.ok true w:=λ w=>Cb5 9998 Tryz.underlying35 hk32 w;clear hp2 hp3 hq2 hq3 hx ha hb hd1 hd2 hra hrb hxk hT hu;go_upto_region 6 with(fail)
   refine V7 (akV ba oa bb ob l.length ca cb q xk (.slice a1 xd.length c1) (.slice a2 xd.length c2) T) [] (by kernel_rfl) (by kernel_rfl) 43 rfl rfl ?_ ?_
   ·intro i o L tmps w' ho hI hL hd;have hi:i<26:=(Array.getElem?_eq_some_iff.1 ho).1;have hgw:=(Upd.refl [] _).drew.trans hI.upd;have ra:=E7 HRA.out hgw (by simp);have rb:=E7 HRB.out hgw (by simp);have l1:=F1 (Cb6 ra) hk32;have l2:=F1 (Cb6 rb) hk32;have m1:=ra 32 _ (Cp7 (p:=(xk,.slice a1 xd.length c1)) hk32);have m2:=rb 32 _ (Cp7 (p:=(xk,.slice a2 xd.length c2)) hk32);have s1:=Bt8 (HD1.out.below hgw) HT.out;have s2:=Bt8 (HD2.out.below hgw) HT.out;clear ra rb;have t0:tmps[0]?.getD undef=.slice (some ⟨ba,oa,none⟩) l.length ca:=(hI.old 0 (by rfl)).trans rfl;have t1:tmps[1]?.getD undef=.slice (some ⟨bb,ob,none⟩) l.length cb:=(hI.old 1 (by rfl)).trans rfl;have t5:tmps[5]?.getD undef=.int .i64 (q:Int):=(hI.old 5 (by rfl)).trans rfl;obtain rfl | rfl | rfl | rfl | rfl | rfl | rfl | rfl | rfl | rfl | rfl | rfl | rfl | rfl | rfl | rfl | rfl | rfl | rfl | rfl | rfl | rfl | rfl | rfl | rfl | rfl:i=0∨i=1∨i=2∨i=3∨i=4∨i=5∨i=6∨i=7∨i=8∨i=9∨i=10∨i=11∨i=12∨i=13∨i=14∨i=15∨i=16∨i=17∨i=18∨i=19∨i=20∨i=21∨i=22∨i=23∨i=24∨i=25:=by omega
    ·cases ho
     refine wpOp_step rfl (λ K hK=>?_);go_simp;exact hK _ _ (hI.val_step 0 17 (.slice (some ⟨ba,oa,none⟩) l.length ca) (by decide) (Upd.refl _ _) (by simp[akV]) (by kernel_rfl))
    ·cases ho
     refine wpOp_step rfl (λ K hK=>?_);go_simp;exact hK _ _ (hI.val_step 1 18 (.int .i64 (q:Int)) (by decide) (Upd.refl _ _) (by simp[akV]) (by kernel_rfl))
    ·cases ho
     have t17:tmps[17]?.getD undef=.slice (some ⟨ba,oa,none⟩) l.length ca:=hI.val (0,17,_) (by simp[akV]) (hd ⟨0,.data⟩ (by simp) rfl);have t18:tmps[18]?.getD undef=.int .i64 (q:Int):=hI.val (1,18,_) (by simp[akV]) (hd ⟨1,.data⟩ (by simp) rfl);refine wpOp_step rfl (λ K hK=>?_);go_simp;exact hK _ _ (hI.val_step 2 19 (.pointer (some ⟨ba,oa+q*33,none⟩)) (by decide) (Upd.refl _ _) (by simp[akV]) (by kernel_rfl))
    ·cases ho
     have t19:tmps[19]?.getD undef=.pointer (some ⟨ba,oa+q*33,none⟩):=hI.val (2,19,_) (by simp[akV]) (hd ⟨2,.data⟩ (by simp) rfl);refine wpOp_step rfl (λ K hK=>?_);go_simp;exact hK _ _ (hI.val_step 3 20 (.pointer (some ⟨ba,oa+q*33,none⟩)) (by decide) (Upd.refl _ _) (by simp[akV]) (by kernel_rfl))
    ·cases ho
     have t20:tmps[20]?.getD undef=.pointer (some ⟨ba,oa+q*33,none⟩):=hI.val (3,20,_) (by simp[akV]) (hd ⟨3,.data⟩ (by simp) rfl);refine wpOp_step rfl (λ K hK=>?_);go_simp;exact hK _ _ (hI.val_step 4 21 (.agg (bts xk).toArray) (by decide) (Upd.refl _ _) (by simp[akV]) (by kernel_rfl))
    ·cases ho
     refine wpOp_step rfl (λ K hK=>?_);go_simp;exact hK _ _ (hI.val_step 5 22 (.slice (some ⟨bb,ob,none⟩) l.length cb) (by decide) (Upd.refl _ _) (by simp[akV]) (by kernel_rfl))
    ·cases ho
     refine wpOp_step rfl (λ K hK=>?_);go_simp;exact hK _ _ (hI.val_step 6 23 (.int .i64 (q:Int)) (by decide) (Upd.refl _ _) (by simp[akV]) (by kernel_rfl))
    ·cases ho
     have t22:tmps[22]?.getD undef=.slice (some ⟨bb,ob,none⟩) l.length cb:=hI.val (5,22,_) (by simp[akV]) (hd ⟨5,.data⟩ (by simp) rfl);have t23:tmps[23]?.getD undef=.int .i64 (q:Int):=hI.val (6,23,_) (by simp[akV]) (hd ⟨6,.data⟩ (by simp) rfl);refine wpOp_step rfl (λ K hK=>?_);go_simp;exact hK _ _ (hI.val_step 7 24 (.pointer (some ⟨bb,ob+q*33,none⟩)) (by decide) (Upd.refl _ _) (by simp[akV]) (by kernel_rfl))
    ·cases ho
     have t24:tmps[24]?.getD undef=.pointer (some ⟨bb,ob+q*33,none⟩):=hI.val (7,24,_) (by simp[akV]) (hd ⟨7,.data⟩ (by simp) rfl);refine wpOp_step rfl (λ K hK=>?_);go_simp;exact hK _ _ (hI.val_step 8 25 (.pointer (some ⟨bb,ob+q*33,none⟩)) (by decide) (Upd.refl _ _) (by simp[akV]) (by kernel_rfl))
    ·cases ho
     have t25:tmps[25]?.getD undef=.pointer (some ⟨bb,ob+q*33,none⟩):=hI.val (8,25,_) (by simp[akV]) (hd ⟨8,.data⟩ (by simp) rfl);refine wpOp_step rfl (λ K hK=>?_);go_simp;exact hK _ _ (hI.val_step 9 26 (.agg (bts xk).toArray) (by decide) (Upd.refl _ _) (by simp[akV]) (by kernel_rfl))
    ·cases ho
     have t21:tmps[21]?.getD undef=.agg (bts xk).toArray:=hI.val (4,21,_) (by simp[akV]) (hd ⟨4,.data⟩ (by simp) rfl);have t26:tmps[26]?.getD undef=.agg (bts xk).toArray:=hI.val (9,26,_) (by simp[akV]) (hd ⟨9,.data⟩ (by simp) rfl);refine wpOp_step rfl (λ K hK=>?_);go_simp;exact hK _ _ (hI.val_step 10 27 (.bool false) (by decide) (Upd.refl _ _) (by simp[akV]) (by kernel_rfl))
    ·cases ho
     have t27:tmps[27]?.getD undef=.bool false:=hI.val (10,27,_) (by simp[akV]) (hd ⟨10,.data⟩ (by simp) rfl);refine wpOp_step rfl (λ K hK=>?_);go_simp;exact hK _ _ (hI.val_step 11 28 (.bool false) (by decide) (Upd.refl _ _) (by simp[akV]) (by kernel_rfl))
    ·cases ho
     have t28:tmps[28]?.getD undef=.bool false:=hI.val (11,28,_) (by simp[akV]) (hd ⟨11,.guard⟩ (by simp) rfl);have tg:=E4 t28;clear t28;refine wpOp_step rfl (λ K hK=>?_);go_simp;exact hK _ _ (hI.val_step 12 29 (.slice (some ⟨ba,oa,none⟩) l.length ca) (by decide) (Upd.refl _ _) (by simp[akV]) (by kernel_rfl))
    ·cases ho
     have t28:tmps[28]?.getD undef=.bool false:=hI.val (11,28,_) (by simp[akV]) (hd ⟨11,.guard⟩ (by simp) rfl);have tg:=E4 t28;clear t28;refine wpOp_step rfl (λ K hK=>?_);go_simp;exact hK _ _ (hI.val_step 13 30 (.int .i64 (q:Int)) (by decide) (Upd.refl _ _) (by simp[akV]) (by kernel_rfl))
    ·cases ho
     have t29:tmps[29]?.getD undef=.slice (some ⟨ba,oa,none⟩) l.length ca:=hI.val (12,29,_) (by simp[akV]) (hd ⟨12,.data⟩ (by simp) rfl);have t30:tmps[30]?.getD undef=.int .i64 (q:Int):=hI.val (13,30,_) (by simp[akV]) (hd ⟨13,.data⟩ (by simp) rfl);have t28:tmps[28]?.getD undef=.bool false:=hI.val (11,28,_) (by simp[akV]) (hd ⟨11,.guard⟩ (by simp) rfl);have tg:=E4 t28;clear t28;refine wpOp_step rfl (λ K hK=>?_);go_simp;exact hK _ _ (hI.val_step 14 31 (.pointer (some ⟨ba,oa+q*33,none⟩)) (by decide) (Upd.refl _ _) (by simp[akV]) (by kernel_rfl))
    ·cases ho
     have t31:tmps[31]?.getD undef=.pointer (some ⟨ba,oa+q*33,none⟩):=hI.val (14,31,_) (by simp[akV]) (hd ⟨14,.data⟩ (by simp) rfl);have t28:tmps[28]?.getD undef=.bool false:=hI.val (11,28,_) (by simp[akV]) (hd ⟨11,.guard⟩ (by simp) rfl);have tg:=E4 t28;clear t28;refine wpOp_step rfl (λ K hK=>?_);go_simp;exact hK _ _ (hI.val_step 15 32 (.pointer (some ⟨ba,oa+q*33+32,none⟩)) (by decide) (Upd.refl _ _) (by simp[akV]) (by kernel_rfl))
    ·cases ho
     have t32:tmps[32]?.getD undef=.pointer (some ⟨ba,oa+q*33+32,none⟩):=hI.val (15,32,_) (by simp[akV]) (hd ⟨15,.data⟩ (by simp) rfl);have t28:tmps[28]?.getD undef=.bool false:=hI.val (11,28,_) (by simp[akV]) (hd ⟨11,.guard⟩ (by simp) rfl);have tg:=E4 t28;clear t28;refine wpOp_step rfl (λ K hK=>?_);go_simp;exact hK _ _ (hI.val_step 16 33 (.slice a1 xd.length c1) (by decide) (Upd.refl _ _) (by simp[akV]) (by kernel_rfl))
    ·cases ho
     have t33:tmps[33]?.getD undef=.slice a1 xd.length c1:=hI.val (16,33,_) (by simp[akV]) (hd ⟨16,.data⟩ (by simp) rfl);have t28:tmps[28]?.getD undef=.bool false:=hI.val (11,28,_) (by simp[akV]) (hd ⟨11,.guard⟩ (by simp) rfl);have tg:=E4 t28;clear t28;refine wpOp_step rfl (λ K hK=>?_);go_simp;exact hK _ _ (hI.val_step 17 34 (.string T) (by decide) (Upd.refl _ _) (by simp[akV]) (by kernel_rfl))
    ·cases ho
     have t28:tmps[28]?.getD undef=.bool false:=hI.val (11,28,_) (by simp[akV]) (hd ⟨11,.guard⟩ (by simp) rfl);have tg:=E4 t28;clear t28;refine wpOp_step rfl (λ K hK=>?_);go_simp;exact hK _ _ (hI.val_step 18 35 (.slice (some ⟨bb,ob,none⟩) l.length cb) (by decide) (Upd.refl _ _) (by simp[akV]) (by kernel_rfl))
    ·cases ho
     have t28:tmps[28]?.getD undef=.bool false:=hI.val (11,28,_) (by simp[akV]) (hd ⟨11,.guard⟩ (by simp) rfl);have tg:=E4 t28;clear t28;refine wpOp_step rfl (λ K hK=>?_);go_simp;exact hK _ _ (hI.val_step 19 36 (.int .i64 (q:Int)) (by decide) (Upd.refl _ _) (by simp[akV]) (by kernel_rfl))
    ·cases ho
     have t35:tmps[35]?.getD undef=.slice (some ⟨bb,ob,none⟩) l.length cb:=hI.val (18,35,_) (by simp[akV]) (hd ⟨18,.data⟩ (by simp) rfl);have t36:tmps[36]?.getD undef=.int .i64 (q:Int):=hI.val (19,36,_) (by simp[akV]) (hd ⟨19,.data⟩ (by simp) rfl);have t28:tmps[28]?.getD undef=.bool false:=hI.val (11,28,_) (by simp[akV]) (hd ⟨11,.guard⟩ (by simp) rfl);have tg:=E4 t28;clear t28;refine wpOp_step rfl (λ K hK=>?_);go_simp;exact hK _ _ (hI.val_step 20 37 (.pointer (some ⟨bb,ob+q*33,none⟩)) (by decide) (Upd.refl _ _) (by simp[akV]) (by kernel_rfl))
    ·cases ho
     have t37:tmps[37]?.getD undef=.pointer (some ⟨bb,ob+q*33,none⟩):=hI.val (20,37,_) (by simp[akV]) (hd ⟨20,.data⟩ (by simp) rfl);have t28:tmps[28]?.getD undef=.bool false:=hI.val (11,28,_) (by simp[akV]) (hd ⟨11,.guard⟩ (by simp) rfl);have tg:=E4 t28;clear t28;refine wpOp_step rfl (λ K hK=>?_);go_simp;exact hK _ _ (hI.val_step 21 38 (.pointer (some ⟨bb,ob+q*33+32,none⟩)) (by decide) (Upd.refl _ _) (by simp[akV]) (by kernel_rfl))
    ·cases ho
     have t38:tmps[38]?.getD undef=.pointer (some ⟨bb,ob+q*33+32,none⟩):=hI.val (21,38,_) (by simp[akV]) (hd ⟨21,.data⟩ (by simp) rfl);have t28:tmps[28]?.getD undef=.bool false:=hI.val (11,28,_) (by simp[akV]) (hd ⟨11,.guard⟩ (by simp) rfl);have tg:=E4 t28;clear t28;refine wpOp_step rfl (λ K hK=>?_);go_simp;exact hK _ _ (hI.val_step 22 39 (.slice a2 xd.length c2) (by decide) (Upd.refl _ _) (by simp[akV]) (by kernel_rfl))
    ·cases ho
     have t39:tmps[39]?.getD undef=.slice a2 xd.length c2:=hI.val (22,39,_) (by simp[akV]) (hd ⟨22,.data⟩ (by simp) rfl);have t28:tmps[28]?.getD undef=.bool false:=hI.val (11,28,_) (by simp[akV]) (hd ⟨11,.guard⟩ (by simp) rfl);have tg:=E4 t28;clear t28;refine wpOp_step rfl (λ K hK=>?_);go_simp;exact hK _ _ (hI.val_step 23 40 (.string T) (by decide) (Upd.refl _ _) (by simp[akV]) (by kernel_rfl))
    ·cases ho
     have t34:tmps[34]?.getD undef=.string T:=hI.val (17,34,_) (by simp[akV]) (hd ⟨17,.data⟩ (by simp) rfl);have t40:tmps[40]?.getD undef=.string T:=hI.val (23,40,_) (by simp[akV]) (hd ⟨23,.data⟩ (by simp) rfl);have t28:tmps[28]?.getD undef=.bool false:=hI.val (11,28,_) (by simp[akV]) (hd ⟨11,.guard⟩ (by simp) rfl);have tg:=E4 t28;clear t28;refine wpOp_step rfl (λ K hK=>?_);go_simp;exact hK _ _ (hI.val_step 24 41 (.bool false) (by decide) (Upd.refl _ _) (by simp[akV]) (by kernel_rfl))
    ·cases ho
     have t28:tmps[28]?.getD undef=.bool false:=hI.val (11,28,_) (by simp[akV]) (hd ⟨11,.data⟩ (by simp) rfl);have t41:tmps[41]?.getD undef=.bool false:=hI.val (24,41,_) (by simp[akV]) (hd ⟨24,.data⟩ (by simp) rfl);refine wpOp_step rfl (λ K hK=>?_);go_simp;exact hK _ _ (hI.val_step 25 42 (.bool false) (by decide) (Upd.refl _ _) (by simp[akV]) (by kernel_rfl))
   ·intro L tmps w4 hI hall;have hat:=hI.fin rfl (λ t ht=>hall _ (by have h9:=List.all_eq_true.1 (show((akV ba oa bb ob l.length ca cb q xk (.slice a1 xd.length c1) (.slice a2 xd.length c2) T).all λ t=>decide (t.1<26))=true from rfl) t ht;simpa using h9));have hu4:=hI.upd;clear hI hall;simp only[akV,List.map_cons,List.map_nil,Ad8,αs,αz,αc] at hat;rw[hat];clear hat tmps;have HU4:=η ((HU.out.trans ((Upd.refl [] _).drew)).trans hu4);clear hu4 heq;go_wp2_with fail
    exact⟨⟨q+1,by omega,by go_num,HU4.out⟩,by simp[intOf];omega⟩
  ·obtain rfl:q=l.length:=by omega
   have hqb:decide ((l.length:Int)<(l.length:Int))=false:=decide_eq_false (by omega);clear hu;go_wp2_with fail
   go_ret;exact⟨rfl,HU.out⟩
end
theorem Cx7{T e:TypeId}{sz bytes:Nat}{z:Value}(hu:Tryz.prog.underlying T=some (.slice e))(hi:(Tryz.prog.info? e).map (λ i=>(i.zero,i.size,i.bytes))=some (some z,sz,bytes))(hzs:z.cells.size=sz)(h0:0<sz)(hby:bytes<=1000)
  {w:World} {B B2 n m:Nat} {v x:Value} {xs ys:List Value} (hp:w.ownsRow B e sz v n xs) (hx:w.ownsRow B2 e sz x m ys) (hln:n+m<=1000) (hB:B<=w.heap.size) (h1:∀u∈ys,u.oneCell'=true) :
  ∃a c w' S,(∀ty,(Builtin.append_ #[T,T] ty #[v,x]).run Tryz.prog w=.ok (.slice a (n+m) c) w')/\w'.ownsRow B e sz (.slice a (n+m) c) (n+m) (xs++ys)/\
   Upd S w w'/\(∀k,k∈S->B<=k/\(∃c,w.heap[k]?=some (.cells c e (0,0)))/\∃cap,v=.slice (some ⟨k,0,none⟩) n cap):=by
 obtain⟨i0,hi0,hz0,hz1,hz2⟩:=info_parts hi;have key:∀g cap,x=.slice (some ⟨g,0,none⟩) m cap->(∀(k:Nat) u,ys[k]?=some u->w.cell? ⟨g,k,none⟩=some u)->∃a c w' S,(∀ty,(Builtin.append_ #[T,T] ty #[v,x]).run Tryz.prog w=.ok (.slice a (n+m) c) w')/\w'.ownsRow B e sz (.slice a (n+m) c) (n+m) (xs++ys)/\
   Upd S w w'/\(∀k,k∈S->B<=k/\(∃c,w.heap[k]?=some (.cells c e (0,0)))/\∃cap,v=.slice (some ⟨k,0,none⟩) n cap):=λ g cap hxe hcell=>by
  subst hxe;have hmul:(n+m)*bytes<=140737488355328:=Nat.le_trans (Nat.mul_le_mul hln hby) (by decide);obtain⟨v',w',hrun,hown,hg,_⟩:=run_append_own (P:=Tryz.prog) w B T 0 e i0 z sz bytes hu hi0 hz0 hz1 hz2 hzs h0 v n xs hp ⟨g,0,none⟩ m cap ys hx.1
   (λ k u hj=>by rw[O6,Nat.zero_add];exact hcell k u hj) h1 (by unfold maxLen;omega) hmul hB
  obtain⟨a,c',rfl⟩:=E8 hown;have hsz:=hg.size;have hos:w'.os=w.os/\w'.tape=w.tape/\w'.output=w.output:=⟨hg.os,hg.tape,hg.output⟩;rcases hp.2 with⟨rfl,_⟩ | ⟨gv,capv,cur,rfl,hb,hgb,_⟩
  ·refine⟨a,c',w',[],λ _=>hrun,hown,⟨hos.1,hos.2.1,hos.2.2,hsz,λ k hk _=>?_⟩,by simp⟩;rw[hg.block k hk (by simp[Value.ownBlock])]
  ·refine⟨a,c',w',[gv],λ _=>hrun,hown,⟨hos.1,hos.2.1,hos.2.2,hsz,λ k hk hS=>?_⟩,λ k hk=>by simp at hk;subst hk;exact⟨hb,⟨_,hgb⟩,_,rfl⟩⟩;rw[hg.block k hk (by simp[Value.ownBlock];rintro rfl;exact hS (by simp))]
 rcases hx.2 with⟨rfl,rfl⟩ | ⟨g,cap,cur,rfl,hb,hg,hc,hm,hs,ht⟩
 ·obtain rfl:ys=[]:=List.length_eq_zero_iff.1 (by rw[hx.1];simp);obtain⟨a,c,rfl⟩:=E8 hp;have hc:n<=c:=by
   rcases Nat.eq_zero_or_pos n with q | q
   ·omega
   ·obtain⟨g,cap,e,_,q2,_⟩:=K9 hp q;cases e;exact q2
  refine⟨a,c,w,[],λ ty=>?_,by rw[List.append_nil];exact hp,Upd.refl _ _,by simp⟩;cases a<;>simp[Builtin.append_,run_underlying hu,sizeOf,typeInfo,zeroValue,hi0,hz0,Builtin.lenOf,hc,Question.forced,run_firstCells_none,storeCells]
 ·refine key g cap rfl λ k u hj=>?_;rcases Nat.eq_zero_or_pos m with q | q
  ·subst q;have:ys.length=0:=by rw[hx.1];simp
   rw[List.length_eq_zero_iff.1 this] at hj;simp at hj
  ·obtain⟨g',cap',e,_,_,hcell,_⟩:=K9 hx q;cases e
   exact hcell k u hj
theorem Cp8{w:World}{B B2:Nat}{v x:Value}{l lx:List (Bs × Bs)}(hp:T6 w B v l)(hx:T6 w B2 x lx)(hln:l.length+lx.length<=1000)(hB:B<=w.heap.size)(hBB:B<=B2) :
  ∃a c w' S,(∀ty,(Builtin.append_ #[44,44] ty #[v,x]).run Tryz.prog w=.ok (.slice a (l.length+lx.length) c) w')/\T6 w' B (.slice a (l.length+lx.length) c) (l++lx)/\
   Upd S w w'/\(∀k,k∈S->B<=k/\(∃c,w.heap[k]?=some (.cells c TRc (0,0)))/\∃cap,v=.slice (some ⟨k,0,none⟩) l.length cap):=by
 obtain⟨ps,p1,p2,p3⟩:=hp;obtain⟨qs,q1,q2,q3⟩:=hx;obtain⟨a,c,w',S,hr,ho,hu,hS⟩:=Cx7 (T:=44) (e:=TRc) (sz:=33) Tryz.underlying44 Cp3 rfl (by decide) (by decide) p1 q1 (by omega) hB (λ u hu=>by
  rw[List.mem_flatten] at hu;obtain⟨e,he,hue⟩:=hu;rw[List.mem_map] at he;obtain⟨p,hp,rfl⟩:=he;obtain⟨k,hk,hkp⟩:=List.mem_iff_getElem.1 hp;obtain⟨_,_,hb⟩:=q3 k p (lx[k]'(by omega)) (by rw[List.getElem?_eq_getElem hk,hkp]) (List.getElem?_eq_getElem (by omega));rcases List.mem_append.1 hue with q | q
  ·exact F7 _ u q
  ·obtain rfl:=List.mem_singleton.1 q;exact Bt6 hb)
 have hno:∀(k:Nat) (c:Array Value),k∈S->w.heap[k]?≠some (.cells c 5 (0,0)):=λ k c hk e=>by
  obtain⟨_,⟨c2,h⟩,_⟩:=hS k hk;rw[h] at e;injection e with e;injection e with _ e _;revert e;decide
 rw[p2,q2] at hr ho;refine⟨a,c,w',S,hr,⟨ps++qs,?_,by rw[List.length_append,List.length_append,p2,q2],λ k p q hp hq=>?_⟩,hu,λ k hk=>by rw[← p2];exact hS k hk⟩
 ·rw[List.map_append,List.flatten_append,List.length_append,p2,q2];exact ho
 ·rcases Nat.lt_or_ge k ps.length with hlt | hge
  ·rw[List.getElem?_append_left hlt] at hp;rw[List.getElem?_append_left (by omega)] at hq;obtain⟨a,b,c⟩:=p3 k p q hp hq;exact⟨a,b,c.upd hu hno⟩
  ·rw[List.getElem?_append_right hge] at hp;rw[List.getElem?_append_right (by omega),← p2] at hq;obtain⟨a,b,c⟩:=q3 _ p q hp hq;exact⟨a,b,(c.upd hu hno).low hBB⟩
theorem Bo9{α:Type}(f:α->Bs){L:List α}(hs:(L.map f).Pairwise (λ x y=>ltB x y=true))(hlen:∀p,p∈L->(f p).length=32){q:Nat}{p:α}(hp:L[q]?=some p){k':Bs}(hk:Aj6 (f p)=some k'):(L.filter λ x=> !ltB (f x) k')=L.drop (q+1):=by
 obtain⟨hq,he⟩:=List.getElem?_eq_some_iff.1 hp;have hL:L=L.take q++p :: L.drop (q+1):=by
  rw[← he,List.getElem_cons_drop,List.take_append_drop]
 have hl1:(f p).length=32:=hlen p (List.mem_of_getElem? hp);have hin:∀x,x∈L->(!ltB (f x) k')=ltB (f p) (f x):=λ x hx=>by
  rw[Cg6 hk (by rw[hl1,hlen x hx])];simp
 have hs':=hs;rw[List.pairwise_map] at hs';rw[hL,List.pairwise_append] at hs';obtain⟨_,hs2,hs3⟩:=hs';rw[List.pairwise_cons] at hs2;have h1:((L.take q).filter λ x=> !ltB (f x) k')=[]:=by
  rw[List.filter_eq_nil_iff];intro x hx;rw[hin x (List.mem_of_mem_take hx),Q5 (hs3 x hx p (by simp))];simp
 have h2:((L.drop (q+1)).filter λ x=> !ltB (f x) k')=L.drop (q+1):=by
  rw[List.filter_eq_self];intro x hx;rw[hin x (List.mem_of_mem_drop hx)];exact hs2.1 x hx
 have h3:(!ltB (f p) k')=false:=by
  rw[hin p (List.mem_of_getElem? hp),I4]
 conv=>lhs;rw[hL]
 rw[List.filter_append,h1,List.nil_append,List.filter_cons_of_neg (by rw[h3];simp),h2]
theorem Bo7.piece{R:List Rc}{I:Nat}(h:Bo7 R I)(hs:Ao0 R)(hI:I<=200){m q:Nat}(hm:1<=m)(hq:q+m<=R.length):∃(x:Rc) (c:Nat),((R.drop q).take m)[m-1]?=some x/\x.key.length=32/\c<200/\x.key[31]?=some (UInt8.ofNat c)/\
  (R.filter λ y=> !ltB y.key (x.key.set 31 (UInt8.ofNat (c+1))))=R.drop (q+m):=by
 have hlt:q+(m-1)<R.length:=by omega
 obtain⟨x,hx⟩:∃p,R[q+(m-1)]?=some p:=⟨_,List.getElem?_eq_getElem hlt⟩;have hlen:∀y,y∈R->y.key.length=32:=λ y hy=>by obtain⟨k,_,e⟩:=h.low y hy;rw[e,P6]
 obtain⟨c,hc,he⟩:=h.low x (List.mem_of_getElem? hx);obtain⟨pre,c2,hpre,hk⟩:=Cv2 (c:Int);have hat:=Bo5 (c:Int);have hu:u8I (c:Int)=UInt8.ofNat c:=by
  unfold u8I;rw[Int.emod_eq_of_lt (by omega) (by omega)];rfl
 have hc2:c2=UInt8.ofNat c:=by
  rw[hk,List.getElem?_append_right (by omega),hpre] at hat;have:c2=u8I (c:Int):=by simpa using hat
  rw[this,hu]
 have hn:Cg7 (X1 (c:Int)) c2=x.key.set 31 (UInt8.ofNat (c+1)):=by
  unfold Cg7;have e:c2.toNat=c:=by rw[hc2,UInt8.toNat_ofNat'];omega
  rw[e,if_neg (by omega),he]
 have hi:Aj6 x.key=some (x.key.set 31 (UInt8.ofNat (c+1))):=by
  rw[← hn,he,hk];exact Cm4 hpre
 refine⟨x,c,?_,hlen x (List.mem_of_getElem? hx),by omega,by rw[he,hat,hu],?_⟩
 ·rw[List.getElem?_take_of_lt (by omega),List.getElem?_drop];exact hx
 ·rw[Bo9 (λ y:Rc=>y.key) hs hlen hx hi,show q+(m-1)+1=q+m by omega]
end Go.Proofs.YtgfbepakonjbnaaGreat
end
