/-
  keep.Scan.
-/
import Derived.Test.YtgfbepakonjbnaaGreatX29
set_option maxRecDepth 100000
set_option maxHeartbeats 16000000
section
set_option linter.unusedSimpArgs false
set_option linter.unusedVariables false
namespace Go.Proofs.YtgfbepakonjbnaaGreat
open Go.RowKit Go.MapKept Go.ChangeMaps
section
theorem Bs2{w:World}{b o:Nat}{p:C0}(h:w.rangeAt b o (pc p))(h1:p.1.length=32)(h2:p.2.length=16):(loadCells ⟨b,o,none⟩ 48).run Tryz.prog w=.ok (pc p).toArray w:=by
 have:=run_loadCells_list (P:=Tryz.prog) w ⟨b,o,none⟩ (pc p) (λ j v hv=>by rw[Addr.add_mid];exact h j v hv);rw[Ac7 h1 h2] at this;exact this
theorem B7.turnedRc{w w':World}{g:Sg}{M:Nat->Option Sec}(h:B7 w g M){S:List Nat}(hb:∀b,b∈S->∃c fr,w.heap[b]?=some (.cells c TRc fr))(hu:Upd S w w'):B7 w' g M:=by
 refine⟨h.jr.own hu (λ k hk=>?_),h.tx.upd hu (λ hk=>?_) (λ hk=>?_) (λ k c hk e=>?_),h.ne,h.ok,h.len,h.fx⟩
 ·obtain⟨c,fr,hb⟩:=hb k hk;exact⟨_,_,_,hb,by decide,by decide,by decide,by decide⟩
 ·obtain⟨c,fr,hb⟩:=hb _ hk;have:=h.tx.st;rw[hb] at this;simp[TRc] at this
 ·obtain⟨c,fr,hb⟩:=hb _ hk;exact h.tx.map hb
 ·obtain⟨c2,fr,hb⟩:=hb _ hk;rw[hb] at e;simp[TRc] at e
theorem Bj0{w:World}{b:Nat}{cs:List Value}{T:TypeId}{fr:Nat × Nat}(h:w.heap[b]?=some (.cells cs.toArray T fr)):w.rangeAt b 0 cs:=λ j v hv=>by
 rw[Nat.zero_add,A2 h];simpa using hv
theorem Da8{w:World}{b:Nat}{p:C0}{T:TypeId}{fr:Nat × Nat}(h:w.heap[b]?=some (.cells (pc p).toArray T fr))(h1:p.1.length=32):w.rangeAt b 32 (bts p.2):=λ j v hv=>by
 have:=Bj0 h (32+j) v (by unfold pc;rw[List.getElem?_append_right (by rw[A5];omega),A5,h1,Nat.add_sub_cancel_left];exact hv);rwa [Nat.zero_add] at this
theorem Cy7{w:World}{b:Nat}{p:C0}{T:TypeId}{fr:Nat × Nat}(h:w.heap[b]?=some (.cells (pc p).toArray T fr)):w.rangeAt b 0 (bts p.1):=λ j v hv=>
 Bj0 h j v (by unfold pc;rw[List.getElem?_append_left (List.getElem?_eq_some_iff.1 hv).1];exact hv)
theorem I7.under{w w':World}{B:Nat}{v:Value}{l:List UInt8}(h:I7 w B v l){S:List Nat}(hu:Upd S w w')(hS:∀k,k∈S->k<B):I7 w' B v l:=by
 refine⟨h.1,?_⟩;rcases h.2 with h | ⟨g,cap,cur,e,hb,hg,r⟩
 ·exact .inl h
 ·exact .inr ⟨g,cap,cur,e,hb,(hu.block _ (A3 hg) λ q=>by have:=hS _ q;omega).trans hg,r⟩
theorem Y4.under{w w':World}{B:Nat}{v:Value}{l:List (Bs × Bs)}(h:Y4 w B v l){S:List Nat}(hu:Upd S w w')(hS:∀k,k∈S->k<B):Y4 w' B v l:=by
 obtain⟨ps,h1,h2,h3⟩:=h;refine⟨ps,C4 h1 hu (λ k c hk hB=>by have:=hS _ hk;omega),h2,λ k p q hp hq=>?_⟩;obtain⟨a,b,c⟩:=h3 k p q hp hq;exact⟨a,b,c.under hu hS⟩
theorem Ch9:(#[.int .u8 0,.int .u8 0,.int .u8 0,.int .u8 0,.int .u8 0,.int .u8 0,.int .u8 0,.int .u8 0,.int .u8 0,.int .u8 0,.int .u8 0,.int .u8 0,.int .u8 0,.int .u8 0,.int .u8 0,.int .u8 0,.int .u8 0,.int .u8 0,.int .u8 0,.int .u8 0,.int .u8 0,.int .u8 0,.int .u8 0,.int .u8 0,.int .u8 0,.int .u8 0,.int .u8 0,.int .u8 0,.int .u8 0,.int .u8 0,.int .u8 0,.int .u8 0,.int .u8 0,.int .u8 0,.int .u8 0,.int .u8 0,.int .u8 0,.int .u8 0,.int .u8 0,.int .u8 0,.int .u8 0,.int .u8 0,.int .u8 0,.int .u8 0,.int .u8 0,.int .u8 0,.int .u8 0,.int .u8 0]:Array Value)=(bts (List.replicate 48 0)).toArray:=rfl
def Bd4:List (Nat × Nat):=[(0,42),(1,43),(2,44),(3,45),(4,46),(5,47)]
def Da9(tb xb:Nat)(key v:List UInt8)(x:Nat × Nat × Nat):Nat->Kd
 | 0=> .c (.pointer (some ⟨tb,0,none⟩))
 | 1=> .c (.pointer (some ⟨xb,32,none⟩))
 | 2=> .c (.agg (bts v).toArray)
 | 3=> .c (.agg #[.int .i64 (x.1:Int),.int .i64 (x.2.1:Int),.int .i64 (x.2.2:Int)])
 | 4=> .c (.pointer (some ⟨xb,0,none⟩))
 | 5=> .c (.agg (bts key).toArray)
 | _=> .c undef
theorem Ci0(tb xb:Nat)(key v:List UInt8)(x:Nat × Nat × Nat):∀k,(Da9 tb xb key v x k).lasts:=by
 intro k;unfold Da9;split<;>first | trivial
def Bd5:List (Nat × Nat):=[(7,41),(8,49),(9,50),(10,14),(11,15)]
def Db0(vv:Value):Nat->Kd
 | 7=> .c (.tuple #[vv,.int .i64 0])
 | 8=> .c (vv)
 | 9=> .c (.int .i64 0)
 | 10=> .c (vv)
 | 11=> .c (.int .i64 0)
 | _=> .c undef
theorem Co1(vv:Value):∀k,(Db0 vv k).lasts:=by
 intro k;unfold Db0;split<;>first | trivial
attribute [-go_sem] loadCells storeCells Instr.build Instr.buildSlice
theorem Co2{w:World}{g:Sg}{M:Nat->Option Sec}(h:B7 w g M)(hh:20<=g.h)(hh2:g.h<=4096){S:List Nat}{K:Nat->Option Pk}{R:List Rc}(k:Ap5 g M S K R)(hl:R.length<490)(fr:Bs)(hfr:fr.length=32)(m:Nat)(hm:1<=m) :
  Calls Tryz.prog 26 #[.pointer (some ⟨g.x.tb,0,none⟩),arr fr,.int .i64 (m:Int)] w λ e w'=>∃v,e=.returned (.tuple #[v,.int .i64 0])/\Y4 w' w.heap.size v ((Ax4 fr m R).map Bh4)/\B7 w' g M/\Upd [g.j.jb] w w':=by
 have hlt:=h.lt;obtain⟨kb,hkb⟩:∃x,x=w.heap.size:=⟨_,rfl⟩;obtain⟨w1,hw1⟩:∃w1,w1=w.alloc (.cells (bts fr).toArray 35):=⟨_,rfl⟩;have hu1:Upd [] w w1:=by rw[hw1];exact(Upd.refl _ _).alloc _
 have k1:w1.heap[kb]?=some (.cells (bts fr).toArray 35 (0,0)):=by rw[hw1,hkb];exact A4 _
 have hik:(Tryz.prog.info? 35).map (·.size)=some (bts fr).toArray.size:=by rw[List.size_toArray,A5,hfr];exact Af0
 have hrt:=Bo8 (h.below hu1) (by omega) 0 (by omega);rw[show((0:Nat):Int)=0 from rfl] at hrt;obtain⟨X,hX⟩:∃X,X=Ax4 fr m R:=⟨_,rfl⟩;have hXR:∀x,x∈X->x∈R:=λ x hx=>Ch8 (by rw[← hX];exact hx);have hXl:X.length<490:=by
  have:X.length<=R.length:=by rw[hX];unfold Ax4;rw[List.length_take];exact Nat.le_trans (Nat.min_le_right _ _) (List.length_filter_le _ _)
  omega
 have hsc:∀W,B7 W g M->Calls Tryz.prog 63 #[.pointer (some ⟨g.x.tb,0,none⟩),.int .u32 (g.R M 0:Int),.agg (bts fr).toArray,.int .i64 (m:Int)] W λ e w'=>∃v,e=.returned (.tuple #[v,.int .i64 0])/\Aa1 w' W.heap.size v (X.map Rc.ent)/\B7 w' g M/\Upd [g.j.jb] W w':=λ W hW=>by
  have:=Cd1 hW (by omega) hh2 k.tree (by rw[List.length_map];exact hl) hfr m hm;rw[Ch7,← hX] at this;exact this
 have hel:∀x,x∈X->x.key.length=32/\(L4 x.n x.at_ x.len).length=16/\x.b.length<=4200/\(∀W,Calls Tryz.prog 90 #[.agg (bts (L4 x.n x.at_ x.len)).toArray] W λ e w'=>e=.returned (.agg #[.int .i64 (x.n:Int),.int .i64 (x.at_:Int),.int .i64 (x.len:Int)])/\Upd [] W w')/\
   ∀W,B7 W g M->Calls Tryz.prog 88 #[.pointer (some ⟨g.x.tb,0,none⟩),.agg #[.int .i64 (x.n:Int),.int .i64 (x.at_:Int),.int .i64 (x.len:Int)],.agg (bts x.key).toArray] W λ e w'=>∃v,e=.returned (.tuple #[v,.int .i64 0])/\I7 w' W.heap.size v x.b/\B7 w' g M/\Upd [g.j.jb] W w':=λ x hx=>by
  have hxm:=hXR x hx;obtain⟨hkl,hb42,p,hp,hal,hfrm⟩:=k.m.rc.rec_ x hxm;obtain⟨s1,s2,s3⟩:=k.small x hxm;obtain⟨e1,e2,e3⟩:=Bs6 (n:=x.n) (a:=x.at_) (l:=x.len) (by omega) (by omega) (by omega);refine⟨hkl,T9 _ _ _,hb42,λ W=>?_,λ W hW=>Cq3 hW k.m.pk hh hh2 hp x.at_ x.len x.key x.b hkl hb42 rfl hal hfrm⟩;have:=Ax5 (L4 x.n x.at_ x.len) (T9 _ _ _) W;rw[e1,e2,e3] at this;exact this
 obtain⟨r,hr⟩:∃r,r=g.R M 0:=⟨_,rfl⟩;rw[← hr] at hrt hsc;rw[← hX];have HRT:=η hrt;have HSC:Hid (∀W,B7 W g M->Calls Tryz.prog 63 #[.pointer (some ⟨g.x.tb,0,none⟩),.int .u32 (r:Int),.agg (bts fr).toArray,.int .i64 (m:Int)] W λ e w'=>∃v,e=.returned (.tuple #[v,.int .i64 0])/\Aa1 w' W.heap.size v (X.map Rc.ent)/\B7 w' g M/\Upd [g.j.jb] W w'):=η hsc;have HEL:=η hel;have HW1:=η hw1;have HKB:=η hkb;have HU1:=η hu1;have HK1:=η k1;have HLT:=η hlt;clear hrt hsc hel hw1 hkb hu1 k1 hlt hX hXR hr k h hl;unfold arr;go_enter Tryz.func26,Tryz.ntmps26
 go_upto_region 1 with(fail)
 have hw1:=HW1.out;have hkb:=HKB.out;rw[← hw1,← hkb];clear hw1 hkb;go_wp2_with fail
 refine HRT.out.mono ?_;rintro e wA ⟨rfl,hA,huA⟩;have hnS:∀b,w.heap.size<=b->b∉g.S:=λ b hb q=>by have:=HLT.out.1 b q;omega
 have kA:=(huA.block _ (A3 HK1.out) (λ q=>hnS _ (by have:=HKB.out;omega) (g.mem _ q))).trans HK1.out;have HA:=η hA;have HKA:=η kA;have HUA:=η ((HU1.out.mono (by simp)).trans huA);clear hnS kA hA huA;go_wp2_with (refine wpList_load_row (by rfl) 35 (.tmp 4) (by rfl) kb (by rfl) _ _ _ _ HKA.out Tryz.underlying35 rfl hik ?_)
 refine(HSC.out wA HA.out).mono ?_;rintro e wB ⟨vp,rfl,hpr,hB,huB⟩;obtain⟨ap,cp,rfl⟩:=hpr.shape;rw[List.length_map];have HPR:=η hpr;have HB:=η hB;have HUB:=η (HUA.out.trans huB);rw[List.length_map] at HPR;have hjb:g.j.jb<wA.heap.size:=HA.out.jr.at_.lt.1;have HJB:=η hjb;clear hpr hB huB hjb;go_wp2_with fail
 go_loopw [37,11] (λ i lo wr=>∃q:Nat,i=.int .i64 (q:Int)/\q<=X.length/\Hid (Y4 wr w.heap.size lo ((X.take q).map Bh4))/\Hid (Aa1 wr wA.heap.size (.slice ap X.length cp) (X.map Rc.ent))/\Hid (B7 wr g M)/\Hid (Upd [g.j.jb] w wr)) (λ i _ _=>491-(intOf i).toNat)
 case atStart=>exact⟨0,rfl,by omega,η (Y4.nil _ _),HPR,HB,HUB⟩
 case round=>
  obtain⟨q,rfl,hq,HRB,HPW,HSW,HUW⟩:=hrel;obtain⟨al,cl,rfl⟩:=HRB.out.shape;have hll:((X.take q).map Bh4).length=q:=by rw[List.length_map,List.length_take];omega
  rw[hll] at HRB ⊢;rcases Nat.lt_or_ge q X.length with h4 | h4
  ·have cj:decide ((q:Int)<(X.length:Int))=true:=decide_eq_true (by omega);obtain⟨x,hx⟩:∃x,X[q]?=some x:=⟨_,List.getElem?_eq_getElem h4⟩;have hxX:x∈X:=List.mem_of_getElem? hx;obtain⟨xk1,xv1,xb1,hpl,hgt⟩:=HEL.out x hxX;have hrr:=Ba7 HPW.out (by simp) (λ e he=>by
    rw[List.mem_map] at he;obtain⟨p',hp',rfl⟩:=he;rw[List.mem_map] at hp';obtain⟨x',hx',rfl⟩:=hp';obtain⟨y1,y2,_⟩:=HEL.out x' hx';exact Ac7 y1 y2)
   obtain⟨bx,ox,rfl,hrg⟩:=hrr.at (i:=q) (e:=pc x.ent) (by rw[List.getElem?_map,List.getElem?_map,hx];rfl);have l48:=Bs2 hrg xk1 xv1;obtain⟨xb,hxb⟩:∃b,b=wr.heap.size:=⟨_,rfl⟩;obtain⟨wa,hwa⟩:∃wa,wa=wr.alloc (.cells (bts (List.replicate 48 0)).toArray TP):=⟨_,rfl⟩;have ka:wa.heap[xb]?=some (.cells (bts (List.replicate 48 0)).toArray TP (0,0)):=by rw[hwa,hxb];exact A4 _
   have s48:=J7 ka (l:=pc x.ent) (by rw[List.size_toArray,A5,Ac7 xk1 xv1];rfl) (Ct9 _);have k48:=setRow_heap wa xb (bts (List.replicate 48 0)).toArray (pc x.ent).toArray TP (0,0) ka;have hus:Upd [] wr (wa.setRow xb (pc x.ent).toArray):=by
    have a2:Upd [xb] wa (wa.setRow xb (pc x.ent).toArray):=J5 (Upd.refl _ _) _ (.inl (by simp));have a1:Upd [] wr wa:=by rw[hwa];exact(Upd.refl _ _).alloc _
    exact a1.late a2 (λ k hk=>by simp at hk;subst hk;exact .inr (by omega))
   obtain⟨ws,hws⟩:∃ws,ws=wa.setRow xb (pc x.ent).toArray:=⟨_,rfl⟩;rw[← hws] at s48 k48 hus;rw[hwa,hxb,← Ch9] at s48;have hsp:=HSW.out.below hus;obtain⟨xn,hxn⟩:∃q,q=x.n:=⟨_,rfl⟩;obtain⟨xa,hxa⟩:∃q,q=x.at_:=⟨_,rfl⟩;obtain⟨xl,hxl⟩:∃q,q=x.len:=⟨_,rfl⟩;obtain⟨xv,hxv⟩:∃q,q=L4 x.n x.at_ x.len:=⟨_,rfl⟩;obtain⟨xk,hxk⟩:∃q,q=x.key:=⟨_,rfl⟩;obtain⟨xd,hxd⟩:∃q,q=x.b:=⟨_,rfl⟩;have hent:x.ent=(xk,xv):=by rw[hxk,hxv];rfl
   have hrp:Bh4 x=(xk,xd):=by rw[hxk,hxd];rfl
   rw[hent] at l48 s48 k48 hws;rw[← hxv] at xv1 hpl;rw[← hxn,← hxa,← hxl] at hpl hgt;rw[← hxk] at hgt xk1;rw[← hxd] at hgt xb1;have hgt2:∀W,Upd [] ws W->Calls Tryz.prog 88 #[.pointer (some ⟨g.x.tb,0,none⟩),.agg #[.int .i64 (xn:Int),.int .i64 (xa:Int),.int .i64 (xl:Int)],.agg (bts xk).toArray] W λ e w'=>∃v,e=.returned (.tuple #[v,.int .i64 0])/\I7 w' W.heap.size v xd/\B7 w' g M/\Upd [g.j.jb] W w':=λ W hW=>hgt W (hsp.below hW);have HGT:Hid (∀W,Upd [] ws W->Calls Tryz.prog 88 #[.pointer (some ⟨g.x.tb,0,none⟩),.agg #[.int .i64 (xn:Int),.int .i64 (xa:Int),.int .i64 (xl:Int)],.agg (bts xk).toArray] W λ e w'=>∃v,e=.returned (.tuple #[v,.int .i64 0])/\I7 w' W.heap.size v xd/\B7 w' g M/\Upd [g.j.jb] W w'):=η hgt2;have HPL:Hid (∀W,Calls Tryz.prog 90 #[.agg (bts xv).toArray] W λ e w'=>e=.returned (.agg #[.int .i64 (xn:Int),.int .i64 (xa:Int),.int .i64 (xl:Int)])/\Upd [] W w'):=η hpl;have HX:=η k48;have HXB:=η hxb;have HUS:=η hus;have HRP:=η hrp;have HXX:=η hx;have hp48:(pc (xk,xv)).length=48:=Ac7 xk1 xv1;have HQ0:(0:Int)<=(q:Int):=by omega
   have HQ1:(q:Int)<(X.length:Int):=by omega
   clear hxX hpl hgt hgt2 hrr hrg hxb hwa ka k48 hus hws hsp hxn hxa hxl hxv hxk hxd hent hrp hx;go_upto_region 11 with(fail)
   have hxb:=HXB.out;rw[← hxb];clear hxb s48 l48 hp48;refine Ak6 6 Bd4 (Da9 g.x.tb xb xk xv (xn,xa,xl)) (by kernel_rfl) (by kernel_rfl) (by kernel_rfl) (by decide) 63 rfl rfl ?_ ?_
   ·intro i o L tmps w' hi ho hI hL hd;have t0:tmps[0]?.getD undef=.pointer (some ⟨g.x.tb,0,none⟩):=(hI.old 0 (by rfl)).trans rfl;have t13:tmps[13]?.getD undef=.pointer (some ⟨xb,0,none⟩):=(hI.old 13 (by rfl)).trans rfl;have hgw:=hI.gw;have q13:=(hgw.block _ (A3 HX.out) (by simp)).trans HX.out;have l32:=Af3 (Da8 q13 xk1) xv1;have l0:=F8 (Cy7 q13) xk1;obtain rfl | rfl | rfl | rfl | rfl | rfl:i=0∨i=1∨i=2∨i=3∨i=4∨i=5:=by omega
    ·cases ho
     refine wpOp_step rfl (λ K hK=>?_);go_simp;exact hK _ _ (hI.ustep (Ci0 g.x.tb xb xk xv (xn,xa,xl)) 0 42 (.pointer (some ⟨g.x.tb,0,none⟩)) (by decide) (by kernel_rfl) (Upd.refl _ _) (rfl))
    ·cases ho
     refine wpOp_step rfl (λ K hK=>?_);go_simp;exact hK _ _ (hI.ustep (Ci0 g.x.tb xb xk xv (xn,xa,xl)) 1 43 (.pointer (some ⟨xb,32,none⟩)) (by decide) (by kernel_rfl) (Upd.refl _ _) (rfl))
    ·cases ho
     have t43:tmps[43]?.getD undef=.pointer (some ⟨xb,32,none⟩):=hI.val (1,43) (by simp[Bd4]) (hd ⟨1,.data⟩ (by simp) rfl);refine wpOp_step rfl (λ K hK=>?_);go_simp;exact hK _ _ (hI.ustep (Ci0 g.x.tb xb xk xv (xn,xa,xl)) 2 44 (.agg (bts xv).toArray) (by decide) (by kernel_rfl) (Upd.refl _ _) (rfl))
    ·cases ho
     have t44:tmps[44]?.getD undef=.agg (bts xv).toArray:=hI.val (2,44) (by simp[Bd4]) (hd ⟨2,.data⟩ (by simp) rfl);refine wpOp_step rfl (λ K hK=>?_);go_simp;go_at_call 90
     refine(HPL.out w').mono ?_;rintro e w2 ⟨rfl,hu⟩;exact hK _ _ (hI.ustep (Ci0 g.x.tb xb xk xv (xn,xa,xl)) 3 45 (.agg #[.int .i64 (xn:Int),.int .i64 (xa:Int),.int .i64 (xl:Int)]) (by decide) (by kernel_rfl) hu (rfl))
    ·cases ho
     refine wpOp_step rfl (λ K hK=>?_);go_simp;exact hK _ _ (hI.ustep (Ci0 g.x.tb xb xk xv (xn,xa,xl)) 4 46 (.pointer (some ⟨xb,0,none⟩)) (by decide) (by kernel_rfl) (Upd.refl _ _) (rfl))
    ·cases ho
     have t46:tmps[46]?.getD undef=.pointer (some ⟨xb,0,none⟩):=hI.val (4,46) (by simp[Bd4]) (hd ⟨4,.data⟩ (by simp) rfl);refine wpOp_step rfl (λ K hK=>?_);go_simp;exact hK _ _ (hI.ustep (Ci0 g.x.tb xb xk xv (xn,xa,xl)) 5 47 (.agg (bts xk).toArray) (by decide) (by kernel_rfl) (Upd.refl _ _) (rfl))
   ·intro L tmps w' hI hall;have hat:=hI.tmps_eq rfl [(42,.pointer (some ⟨g.x.tb,0,none⟩)),(43,.pointer (some ⟨xb,32,none⟩)),(44,.agg (bts xv).toArray),(45,.agg #[.int .i64 (xn:Int),.int .i64 (xa:Int),.int .i64 (xl:Int)]),(46,.pointer (some ⟨xb,0,none⟩)),(47,.agg (bts xk).toArray)] (λ j hj=>by simp[Bd4] at hj ⊢;simp[hj]) (by
     intro p hp;simp only[List.mem_cons,List.not_mem_nil,or_false] at hp;rcases hp with rfl | rfl | rfl | rfl | rfl | rfl
     ·exact hI.val (0,42) (by simp[Bd4]) (hall 0 (by decide))
     ·exact hI.val (1,43) (by simp[Bd4]) (hall 1 (by decide))
     ·exact hI.val (2,44) (by simp[Bd4]) (hall 2 (by decide))
     ·exact hI.val (3,45) (by simp[Bd4]) (hall 3 (by decide))
     ·exact hI.val (4,46) (by simp[Bd4]) (hall 4 (by decide))
     ·exact hI.val (5,47) (by simp[Bd4]) (hall 5 (by decide)))
    have hgw:=hI.gw;clear hI hall;try dsimp only at hat
    simp only[Af6,αs,αz,αc] at hat;subst hat;refine wpOp_step rfl (λ K hK=>?_);go_simp;go_at_call 88
    refine(HGT.out w' hgw).mono ?_;rintro e w2 ⟨vv,rfl,hbr,h2,hu2⟩;refine hK _ _ ?_;clear hK K;try simp only[Act.put,αs,αz,αc]
    refine Cp5 Bd5 (Db0 vv) (by kernel_rfl) (by kernel_rfl) 63 rfl rfl ?_ ?_
    ·intro i o L tmps w' hi ho hI hL hd;have hi2:i<12:=(Array.getElem?_eq_some_iff.1 ho).1;have t48:tmps[48]?.getD undef=.tuple #[vv,.int .i64 0]:=(hI.old 48 (by rfl)).trans rfl;have hgw2:=hI.gw;obtain rfl | rfl | rfl | rfl | rfl:i=7∨i=8∨i=9∨i=10∨i=11:=by omega
     ·cases ho
      refine wpOp_step rfl (λ K hK=>?_);go_simp;exact hK _ _ (hI.ustep (Co1 vv) 7 41 (.tuple #[vv,.int .i64 0]) (by decide) (by kernel_rfl) (Upd.refl _ _) (rfl))
     ·cases ho
      have t41:tmps[41]?.getD undef=.tuple #[vv,.int .i64 0]:=hI.val (7,41) (by simp[Bd5]) (hd ⟨7,.data⟩ (by simp) rfl);refine wpOp_step rfl (λ K hK=>?_);go_simp;exact hK _ _ (hI.ustep (Co1 vv) 8 49 (vv) (by decide) (by kernel_rfl) (Upd.refl _ _) (rfl))
     ·cases ho
      have t41:tmps[41]?.getD undef=.tuple #[vv,.int .i64 0]:=hI.val (7,41) (by simp[Bd5]) (hd ⟨7,.data⟩ (by simp) rfl);refine wpOp_step rfl (λ K hK=>?_);go_simp;exact hK _ _ (hI.ustep (Co1 vv) 9 50 (.int .i64 0) (by decide) (by kernel_rfl) (Upd.refl _ _) (rfl))
     ·cases ho
      have t49:tmps[49]?.getD undef=vv:=hI.val (8,49) (by simp[Bd5]) (hd ⟨8,.data⟩ (by simp) rfl);refine wpOp_step rfl (λ K hK=>?_);go_simp;exact hK _ _ (hI.ustep (Co1 vv) 10 14 (vv) (by decide) (by kernel_rfl) (Upd.refl _ _) (rfl))
     ·cases ho
      have t50:tmps[50]?.getD undef=.int .i64 0:=hI.val (9,50) (by simp[Bd5]) (hd ⟨9,.data⟩ (by simp) rfl);refine wpOp_step rfl (λ K hK=>?_);go_simp;exact hK _ _ (hI.ustep (Co1 vv) 11 15 (.int .i64 0) (by decide) (by kernel_rfl) (Upd.refl _ _) (rfl))
    ·intro L tmps w5 hI hall;have hat:=hI.tmps_eq rfl [(41,.tuple #[vv,.int .i64 0]),(49,vv),(50,.int .i64 0),(14,vv),(15,.int .i64 0)] (λ j hj=>by simp[Bd5] at hj ⊢;simp[hj]) (by
      intro p hp;simp only[List.mem_cons,List.not_mem_nil,or_false] at hp;rcases hp with rfl | rfl | rfl | rfl | rfl
      ·exact hI.val (7,41) (by simp[Bd5]) (hall 7 (by decide))
      ·exact hI.val (8,49) (by simp[Bd5]) (hall 8 (by decide))
      ·exact hI.val (9,50) (by simp[Bd5]) (hall 9 (by decide))
      ·exact hI.val (10,14) (by simp[Bd5]) (hall 10 (by decide))
      ·exact hI.val (11,15) (by simp[Bd5]) (hall 11 (by decide)))
     have hu5:=hI.gw;clear hI hall;try dsimp only at hat
     simp only[Af6,αs,αz,αc] at hat;rw[hat];clear hat tmps;obtain⟨av,cv,rfl,_⟩:=hbr.shape;have hwx:w'.heap[xb]?=some (.cells (pc (xk,xv)).toArray TP (0,0)):=(hgw.block _ (A3 HX.out) (by simp)).trans HX.out;have hjx:xb∉[g.j.jb]:=λ q=>by
      have h1:=HSW.out.jr.at_.lt.1;have h2:=HXB.out;simp at q;omega
     have h2x:=(hu2.block _ (A3 hwx) hjx).trans hwx;have h5x:=(hu5.block _ (A3 h2x) (by simp)).trans h2x;have hur5:Upd [g.j.jb] wr w5:=((HUS.out.mono (by simp)).trans (hgw.mono (by simp))).trans (hu2.trans (hu5.mono (by simp)));have hpw5:Aa1 w5 wA.heap.size (.slice (some ⟨bx,ox,none⟩) X.length cp) (X.map Rc.ent):=C4 (S:=[g.j.jb]) HPW.out hur5 (λ k c hk hB=>by have:=HJB.out;simp at hk;omega);have hsz5:=HUW.out.size;have hszr:wr.heap.size<=w'.heap.size:=Nat.le_trans HUS.out.size hgw.size;have hrb5:=HRB.out.under hur5 (λ k hk=>by simp at hk;subst hk;exact HLT.out.1 _ (g.mem _ (by simp)));have hbr5:I7 w5 w.heap.size (.slice av xd.length cv) xd:=(hbr.keep hu5).low (by omega);have h5:=h2.below hu5;have l0:=F8 (Cy7 h5x) xk1;have bld:=Ch6 xk1 av xd.length cv w5;have bR:=Cw2 (p:=(xk,.slice av xd.length cv)) xk1 w5;have hu05:Upd [g.j.jb] w w5:=HUW.out.trans hur5;obtain⟨a',b',c',w6,S9,hrun,hrb6,hu6,hS9⟩:=Co0 hrb5 (by rw[hll];omega) hu05.size xk1 hbr5;have hpw6:Aa1 w6 wA.heap.size (.slice (some ⟨bx,ox,none⟩) X.length cp) (X.map Rc.ent):=C4 (S:=S9) hpw5 hu6 (λ k c hk hB e=>by
      obtain⟨_,c2,h⟩:=hS9 k hk;rw[h] at e;injection e with e;injection e with _ e _;exact absurd e (by decide))
     have h6:=h5.turnedRc (λ b hb=>by obtain⟨_,c,e⟩:=hS9 b hb;exact⟨c,_,e⟩) hu6;have hu06:Upd [g.j.jb] w w6:=hu05.late hu6 (λ i hi=> .inr (hS9 i hi).1);have htk:(X.take q).map Bh4 ++ [(xk,xd)]=(X.take (q+1)).map Bh4:=by
      rw[List.take_add_one,HXX.out,List.map_append,← HRP.out];rfl
     rw[htk] at hrb6;have HRB6:=η hrb6;have HPW6:=η hpw6;have H6:=η h6;have HU6:=η hu06;clear hbr hwx hjx h2x h5x hur5 hpw5 hsz5 hszr hrb5 hbr5 h5 hu05 hu6 hS9 hrb6 hpw6 h6 hu06 htk h2 hu2 hgw hu5 HUS HUW HRB HPW HSW;go_wp2_with (at_builtin;refine C3 rfl _ _ _ rfl rfl rfl hrun ?_)
     exact⟨⟨q+1,by go_num,by omega,HRB6,HPW6,H6,HU6⟩,by simp[intOf];omega⟩
  ·have cj:decide ((q:Int)<(X.length:Int))=false:=decide_eq_false (by omega);have htk:X.take q=X:=List.take_of_length_le h4;go_wp2_with fail
   go_ret2;have:=HRB.out;rw[htk] at this;exact⟨_,rfl,this,HSW.out,HUW.out⟩
end
section
def Ce0(w:World)(B:Nat)(v:Value)(l:List (Bs × Bs)):Prop:=∃ps:List (Bs × Value),RRd w v 33 (ps.map rcC)/\ps.length=l.length/\∀(k:Nat) p q,ps[k]?=some p->l[k]?=some q->p.1=q.1/\p.1.length=32/\I7 w B p.2 q.2
theorem Y4.read{w:World}{B:Nat}{v:Value}{l:List (Bs × Bs)}(h:Y4 w B v l):Ce0 w B v l:=h.rrd
theorem Y4.lt{w:World}{B n c:Nat}{a:Option Addr}{l:List (Bs × Bs)}(h:Y4 w B (.slice a n c) l):∀b,a=some b->B<=b.block/\b.block<w.heap.size:=λ b e=>by
 obtain⟨ps,p1,_⟩:=h;subst e;rcases p1.2 with⟨e,_⟩ | ⟨g,cap,cur,e,hb,hg,_⟩
 ·cases e
 ·cases e;exact⟨hb,A3 hg⟩
theorem Co3{w:World}{v:Value}{l:List UInt8}(h:Rd w v l):(convert 32 9 v).run Tryz.prog w=.ok (.string (str l)) w:=by
 rcases Nat.lt_or_ge 0 l.length with h0 | h0
 ·exact Ba1 h h0
 ·obtain rfl:l=[]:=List.length_eq_zero_iff.1 (by omega);obtain⟨ao,cap,rfl,_⟩:=h;cases ao<;>simp[convert,go_sem,str,Conv.bytesToString]<;>rfl
theorem Ar8{w:World}{v:Value}{l:List UInt8}{T:ByteArray}(h:Rd w v l)(hT:T=str l):(convert 32 9 v).run Tryz.prog w=.ok (.string T) w:=by rw[hT];exact Co3 h
theorem Co4{p:Bs × Value}(h:p.1.length=32):(rcC p)[32]?=some p.2:=by
 unfold rcC;rw[List.getElem?_append_right (by rw[A5,h];exact Nat.le_refl _),A5,h];rfl
theorem Bn0{R:List Rc}(h:∀x,x∈R->x.key.length=32):(R.filter λ x=> !ltB x.key z32)=R:=by
 rw[List.filter_eq_self];intro x hx;have h3:=Bg8 32 x.key (h x hx);unfold z32;rw[h3];rfl
theorem Ci1{R:List Rc}(h:∀x,x∈R->x.key.length=32){m:Nat}(hm:R.length<=m):Ax4 z32 m R=R:=by
 unfold Ax4;rw[Bn0 h,List.take_of_length_le hm]
theorem Co5{w:World}{g:Sg}{M:Nat->Option Sec}(h:B7 w g M)(hh:20<=g.h)(hh2:g.h<=4096){S:List Nat}{K:Nat->Option Pk}{R:List Rc}(k:Ap5 g M S K R)(hl:R.length<490) :
  Calls Tryz.prog 25 #[.pointer (some ⟨g.x.tb,0,none⟩)] w λ e w'=>∃v,e=.returned (.tuple #[v,.bool true])/\Y4 w' w.heap.size v (R.map Bh4)/\B7 w' g M/\Upd [g.j.jb] w w':=by
 have hsc:=Co2 h hh hh2 k hl z32 X4 1048576 (by omega);rw[Ci1 (λ x hx=>(k.m.rc.rec_ x hx).1) (by omega)] at hsc;unfold arr at hsc;rw[show((1048576:Nat):Int)=1048576 from rfl] at hsc;have HSC:=η hsc;have hbi:=Bl9;clear hsc k h;go_enter Tryz.func25,Tryz.ntmps25
 go_wp2_with fail
 refine HSC.out.mono ?_;rintro e w2 ⟨v,rfl,hr,h2,hu2⟩;have HR:=η hr;have H2:=η h2;have HU2:=η hu2;clear hr h2 hu2;go_wp2_with fail
 go_ret2;exact⟨v,rfl,HR.out,H2.out,HU2.out⟩
attribute [-go_sem] loadCells storeCells Instr.build Instr.buildSlice Op.eqFields run_equalIn_agg Program.fieldsOf
end
def SpR(w:World)(v:Value):Prop:=v=.slice none 0 0∨∃k n cap cs,v=.slice (some ⟨k,0,none⟩) n cap/\w.heap[k]?=some (.cells cs 5 (0,0))/\cs.size=cap/\n<=cap/\cap<=maxLen
theorem I7.spR{w:World}{B:Nat}{v:Value}{l:List UInt8}(h:I7 w B v l):SpR w v:=by
 rcases h.2 with⟨e,_⟩ | ⟨g,cap,cur,e,_,hg,hc,hm,hs,_⟩
 ·exact .inl e
 ·exact .inr ⟨g,_,cap,cur,e,hg,by omega,hc,hm⟩
def Bs4(w w':World):Prop:=∀(k:Nat) (c:Array Value),w.heap[k]?=some (.cells c 5 (0,0))->∃c',w'.heap[k]?=some (.cells c' 5 (0,0))/\c'.size=c.size
theorem SpR.same{w w':World}{v:Value}(h:SpR w v)(hs:Bs4 w w'):SpR w' v:=by
 rcases h with h | ⟨k,n,cap,cs,e,hk,h1,h2⟩
 ·exact .inl h
 ·obtain⟨c',e2,e3⟩:=hs k cs hk;exact .inr ⟨k,n,cap,c',e,e2,by omega,h2⟩
theorem Bs4.of{w w':World}(hu:Upd [] w w'):Bs4 w w':=λ k c h=>⟨c,(hu.block _ (A3 h) (by simp)).trans h,rfl⟩
theorem Ad5{w:World}{v:Value}(h:SpR w v) :
  Calls Tryz.prog 29 #[v] w λ e w'=>e=.returned (.tuple #[])/\Bs4 w w'/\∃S,Upd S w w'/\∀k,k∈S->v.ownBlock=some k/\∃c,w.heap[k]?=some (.cells c 5 (0,0)):=by
 rcases h with rfl | ⟨b,n,cap,cs,rfl,hb,hcs,hn,hm⟩
 ·go_enter Tryz.func29,Tryz.ntmps29
  go_wp2_with fail
  go_loopw [3] (λ i wr=>i=.int .i64 0/\wr=w) (λ _ _=>1)
  case atStart=>exact⟨rfl,rfl⟩
  case round=>
   obtain⟨rfl,rfl⟩:=hrel;go_wp2_with fail
   go_end0
   exact⟨rfl,Bs4.of (Upd.refl _ _),[],Upd.refl _ _,by simp⟩
 ·have HB:=η hb;have hm2:cap<=9223372036854775807:=Nat.le_trans hm (by decide);have hc0:(0:Int)<=(cap:Int):=by omega
  clear hm hb;go_enter Tryz.func29,Tryz.ntmps29
  go_wp2_with fail
  go_loopw [3] (λ i wr=>∃(q:Nat) (c':Array Value),i=.int .i64 (q:Int)/\q<=cap/\Hid (wr.heap[b]?=some (.cells c' 5 (0,0))/\c'.size=cap)/\Hid (Upd [b] w wr)) (λ i _=>cap+1-(intOf i).toNat)
  case atStart=>exact⟨0,cs,rfl,by omega,η ⟨HB.out,hcs⟩,η (Upd.refl _ _)⟩
  case round=>
   obtain⟨q,c',rfl,hq,HC,HU⟩:=hrel;rcases Nat.lt_or_ge q cap with h4 | h4
   ·have cj:decide ((q:Int)<(cap:Int))=true:=decide_eq_true (by omega);have cj2:decide (q<cap)=true:=decide_eq_true h4;have hq0:(0:Int)<=(q:Int):=by omega
    have hq1:(q:Int)<(cap:Int):=by omega
    obtain⟨x,hx⟩:∃x,c'[q]?=some x:=⟨_,Array.getElem?_eq_getElem (by have:=HC.out.2;omega)⟩;have c0:wr.cell? ⟨b,q,none⟩=some x:=by rw[A2 HC.out.1,hx]
    have f0:=B6 HC.out.1 q;have HN:Hid ((wr.setCell ⟨b,q,none⟩ (.int .u8 90)).heap[b]?=some (.cells (c'.setIfInBounds q (.int .u8 90)) 5 (0,0))/\(c'.setIfInBounds q (.int .u8 90)).size=cap):=η ⟨A8 HC.out.1 q _,by rw[Array.size_setIfInBounds];exact HC.out.2⟩;have HU2:Hid (Upd [b] w (wr.setCell ⟨b,q,none⟩ (.int .u8 90))):=η (HU.out.set _ (.inl (by simp)));have hq9:q+1<=9223372036854775807:=by omega
    clear hx;go_wp2_with fail
    exact⟨⟨q+1,_,by go_num,by omega,HN,HU2⟩,by simp[intOf];omega⟩
   ·have cj:decide ((q:Int)<(cap:Int))=false:=decide_eq_false (by omega);have cj2:decide (q<cap)=false:=decide_eq_false (by omega);go_wp2_with fail
    go_end0
    refine⟨rfl,λ k c hk=>?_,[b],HU.out,λ k hk=>?_⟩
    ·by_cases e:k=b
     ·subst e;rw[HB.out] at hk;injection hk with hk;injection hk with hk;subst hk;exact⟨c',HC.out.1,by have:=HC.out.2;omega⟩
     ·exact⟨c,(HU.out.block _ (A3 hk) (by simpa using e)).trans hk,rfl⟩
    ·simp at hk;subst hk;exact⟨rfl,_,HB.out⟩
theorem B7.still{w w':World}{g:Sg}{M:Nat->Option Sec}(h:B7 w g M)(h2:B7 w' g M)(hu:Upd [g.j.jb] w w'):Upd [] w w':=
 ⟨hu.os,hu.tape,hu.output,hu.size,λ k hk _=>by
  by_cases e:k=g.j.jb
  ·subst e;rw[h.jr.at_.st,h2.jr.at_.st]
  ·exact hu.block _ hk (by simpa using e)⟩
def Sg.wF(g:Sg)(F:Nat->Prop):Sg:={ g with x:={ g.x with F:=F },j:={ g.j with F:=F } }
theorem B7.wF{w w':World}{g:Sg}{M:Nat->Option Sec}(h:B7 w g M)(hu:Upd [] w w'){F:Nat->Prop}(h1:∀k,k<w.heap.size->F k)(h2:∀k,w'.heap.size<=k->F k):B7 w' (g.wF F) M:=by
 have hj:C7 w F g.j g.J g.D:=h.jr.at_.tight.mono λ k hk=>h1 k hk.2;have ht:N9 w F g.x.wb M:=h.tx.wrote.tight.mono λ k hk=>h1 k hk.2;have hj2:C7 w' F g.j g.J g.D:=hj.below hu;have hl:=h.tx.lt;exact⟨⟨⟨hj2.disk,hj2.st,hj2.away,hj2.ne,hj2.ok⟩,h.jr.live,h.jr.arm,h.jr.n,h.jr.ring,h.jr.turn,h.jr.num,h.jr.home,h2⟩,
  ⟨(hu.block _ hl.1 (by simp)).trans h.tx.st,ht.world (hu.block _ hl.2 (by simp)) λ k c _ e=>hu.block _ (A3 e) (by simp)⟩,h.ne,h.ok,h.len,rfl⟩
theorem B7.noRow{w:World}{g:Sg}{M:Nat->Option Sec}(h:B7 w g M){k:Nat}{c:Array Value}(hk:w.heap[k]?=some (.cells c 5 (0,0))):k∉g.S:=λ q=>by
 rcases List.mem_cons.1 q with e | e
 ·subst e;exact h.tx.map hk
 ·exact h.jr.at_.kind hk (by decide) (by decide) (by decide) e
theorem B7.spoil{w w':World}{g:Sg}{M:Nat->Option Sec}(h:B7 w g M){S:List Nat}(hu:Upd S w w')(hS:∀k,k∈S->¬g.j.F k/\∃c,w.heap[k]?=some (.cells c 5 (0,0))):B7 w' g M:=by
 have hj:∀k,k∈g.S->k∉S:=λ k hk hs=>by
  obtain⟨_,c,e⟩:=hS k hs;exact h.noRow e hk
 have hja:∀k,k∈g.j.all->k∉S:=λ k hk=>hj k (by simp[Sg.S,hk]);have hl:=h.jr.at_.lt;have hd:=h.jr.at_.disk.lt;have ht:=h.tx.lt;refine⟨h.jr.of (h.jr.at_.world (hu.block _ hl.1 (hja _ (by simp[JG.all]))) (hu.block _ hl.2 (hja _ (by simp[JG.all]))) (hu.block _ hd.1 (hja _ (by simp[JG.all]))) (hu.block _ hd.2.1 (hja _ (by simp[JG.all]))) (hu.block _ hd.2.2 (hja _ (by simp[JG.all])))
   (λ k c hF e=>hu.block _ (A3 e) (λ q=>(hS k q).1 hF))) hu.size,⟨(hu.block _ ht.1 λ q=>?_).trans h.tx.st,h.tx.wrote.world (hu.block _ ht.2 (hj _ (by simp[Sg.S]))) λ k c hF e=>hu.block _ (A3 e) (λ q=>(hS k q).1 (by rw[← h.fx];exact hF))⟩,h.ne,h.ok,h.len,h.fx⟩
 obtain⟨_,c,e⟩:=hS _ q;rw[h.tx.st] at e;injection e with e;injection e with _ e _;revert e;decide
def Bs5(K:Nat->Option Pk)(y:Nat × Nat):List Nat:=match K y.1 with | some p=>List.range' p.start 16 | none=>[]
theorem Bn1(K:Nat->Option Pk)(y:Nat × Nat):(Bs5 K y).length<=16:=by unfold Bs5;split<;>simp
theorem InY.seg{K:Nat->Option Pk}{y:Nat × Nat}{i:Nat}(h:InY K y i):i∈Bs5 K y:=by
 obtain⟨p,hp,h1,h2⟩:=h;unfold Bs5;rw[hp];show i∈List.range' p.start 16
 rw[List.mem_range'_1];omega
theorem Ab4.next{g:Sg}{M:Nat->Option Sec}{S:List Nat}{K:Nat->Option Pk}{R:List Rc}{key b:List UInt8}{y1:Nat × Nat}{m:Nat}(ho:MOk M g.h)(hd:∀i,(M i).isSome=true->i<4∨InY K y1 i∨i∈S)(hS:S.length<=1)(r:Ai5 S K (g.T M) m)(hm:m<64)
  (hh:4+S.length+16*m+20<=g.h) (hn:J0 R key=none) (hR:R.length<=1) (hr:g.R M 0≠0):Ab4 g M S K R key b:=by
 have cnt:∀(M2:Nat->Option Sec) (L:List Nat),MOk M2 g.h->(∀i,(M2 i).isSome=true->i<4∨InY K y1 i∨i∈S∨i∈L)->E1 M2 g.h<=21+L.length:=λ M2 L ho2 hd2=>by
  have:=An6 (L:=(List.range 4++Bs5 K y1)++(S++L)) ho2 λ i hi=>by
   rcases hd2 i hi with q | q | q | q
   ·exact List.mem_append_left _ (List.mem_append_left _ (List.mem_range.2 q))
   ·exact List.mem_append_left _ (List.mem_append_right _ q.seg)
   ·exact List.mem_append_right _ (List.mem_append_left _ q)
   ·exact List.mem_append_right _ (List.mem_append_right _ q)
  have h1:=Bn1 K y1;simp at this;omega
 have hdom:∀K1 T1 K2 (M2:Nat->Option Sec) y,Aj7 K (g.T M) (J0 R key) K1 T1->Z2 K1 T1 g.h (D8 key b) K2 (g.T M2) (some y)->(∀i,(M2 i).isSome=true->(M i).isSome=true∨i<4∨InY K2 y i)->∀i,(M2 i).isSome=true->i<4∨InY K y1 i∨i∈S∨i∈Bs5 K2 y:=by
  intro K1 T1 K2 M2 y _ _ hd2 i hi;rcases hd2 i hi with q | q | q
  ·rcases hd i q with q | q | q
   ·exact .inl q
   ·exact .inr (.inl q)
   ·exact .inr (.inr (.inl q))
  ·exact .inl q
  ·exact .inr (.inr (.inr q.seg))
 refine⟨?_,λ M1 ho1 hd1=>?_,λ K1 T1 K2 T2 o hdr ha=>?_,λ K1 T1 K2 M2 y hdr ha ho2 hd2=> .inr ⟨hr,by omega,?_⟩,λ K1 T1 K2 M2 M3 S' y hdr ha ho2 ho3 hd2 hG hS'=>?_⟩
 ·have:=cnt M [] ho λ i hi=>by
   rcases hd i hi with q | q | q
   ·exact .inl q
   ·exact .inr (.inl q)
   ·exact .inr (.inr (.inl q))
  simp at this;omega
 ·have:=cnt M1 [] ho1 λ i hi=>by
   rcases hd1 i hi with q | q
   ·rcases hd i q with q | q | q
    ·exact .inl q
    ·exact .inr (.inl q)
    ·exact .inr (.inr (.inl q))
   ·exact .inl q
  simp at this;omega
 ·rw[hn] at hdr;obtain⟨rfl,rfl⟩:=hdr;obtain⟨y,e,_⟩:=r.add hm (by omega) ha;rw[e];exact λ h=>by cases h
 ·have h1:=cnt M2 (Bs5 K2 y) ho2 (hdom K1 T1 K2 M2 y hdr ha hd2);have h2:=Bn1 K2 y;omega
 ·have hd3:∀i,(M3 i).isSome=true->i<4∨InY K y1 i∨i∈S∨i∈Bs5 K2 y++S':=λ i hi=>by
   by_cases e:i∈S'
   ·exact .inr (.inr (.inr (List.mem_append_right _ e)))
   ·by_cases e1:i=1
    ·exact .inl (by omega)
    ·rw[hG.keep i e e1] at hi;rcases hdom K1 T1 K2 M2 y hdr ha hd2 i hi with q | q | q | q
     ·exact .inl q
     ·exact .inr (.inl q)
     ·exact .inr (.inr (.inl q))
     ·exact .inr (.inr (.inr (List.mem_append_left _ q)))
  have h1:=cnt M3 _ ho3 hd3;have h2:=Bn1 K2 y;rw[List.length_append] at h1;omega

section
theorem Bs3{i n:Nat}(h:i<n):Ab3 (i:Int) n=i:=by
 unfold Ab3;rw[Int.emod_eq_of_lt (by omega) (by omega)];rfl
theorem Bj1(i:Nat)(hi:i<40)(w:World):Calls Tryz.prog 24 #[.int .i64 (i:Int)] w λ e w'=>e=.returned (arr (Z0 (i:Int)))/\Upd [] w w':=by
 have:=Bd3 (i:Int) w;rw[Bs3 hi] at this;exact this
attribute [-go_sem] loadCells storeCells Instr.build Instr.buildSlice
end
theorem Ce0.late{w w':World}{B:Nat}{v:Value}{l:List (Bs × Bs)}(h:Ce0 w B v l)(hb:∀a n c,v=.slice (some a) n c->a.block<w.heap.size){S:List Nat}(hu:Upd S w w')(hS:∀k,k∈S->w.heap.size<=k):Ce0 w' B v l:=by
 obtain⟨ps,p1,p2,p3⟩:=h;refine⟨ps,p1.keep hu λ a n c e q=>?_,p2,λ k p q hp hq=>?_⟩
 ·have:=hb a n c e;have:=hS _ q;omega
 ·obtain⟨a,b,c⟩:=p3 k p q hp hq;refine⟨a,b,c.1,?_⟩;rcases c.2 with h | ⟨g,cap,cur,e,hb,hg,r⟩
  ·exact .inl h
  ·exact .inr ⟨g,cap,cur,e,hb,(hu.block _ (A3 hg) λ q=>by have:=A3 hg;have:=hS _ q;omega).trans hg,r⟩
theorem Ca1(a b:Bs)(v u:Value)(w:World)(ha:Rd w v a)(hb:Rd w u b):Calls Tryz.prog 6 #[v,u] w λ e w'=>e=.returned (.bool true)/\Upd [] w w':=by
 obtain⟨av,ac,rfl,_⟩:=id ha;obtain⟨bv,bc,rfl,_⟩:=id hb;have HA:=η ha;have HB:=η hb;obtain⟨na,hna⟩:∃n,n=a.length:=⟨_,rfl⟩;obtain⟨nb,hnb⟩:∃n,n=b.length:=⟨_,rfl⟩;rw[← hna] at HA ⊢;rw[← hnb] at HB ⊢;have HNA:=η hna;have HNB:=η hnb;have HM:=η (λ w=>Ax7 300 60 300 60 rfl rfl (by omega) (by omega) (by omega) (by omega) (by omega) w);clear ha hb hna hnb;go_enter Tryz.func6,Tryz.ntmps6
 go_wp2_with fail
 refine(Bm9 w).mono ?_;rintro e w1 ⟨rfl,hu1⟩;have HU1:=η hu1;clear hu1;rcases Nat.lt_or_ge 4200 na with hgt | hle
 ·have hb1:decide ((4200:Int)<(na:Int))=true:=decide_eq_true (by omega);have hb2:decide (4200<na)=true:=decide_eq_true hgt;go_wp2_with fail
  go_ret;exact⟨rfl,HU1.out⟩
 have hb1:decide ((4200:Int)<(na:Int))=false:=decide_eq_false (by omega);have hb2:decide (4200<na)=false:=decide_eq_false (by omega);rcases Nat.lt_or_ge 4200 nb with hgo | hlo
 ·have ho1:decide ((4200:Int)<(nb:Int))=true:=decide_eq_true (by omega);have ho2:decide (4200<nb)=true:=decide_eq_true hgo;go_wp2_with fail
  go_ret;exact⟨rfl,HU1.out⟩
 have ho1:decide ((4200:Int)<(nb:Int))=false:=decide_eq_false (by omega);have ho2:decide (4200<nb)=false:=decide_eq_false (by omega);go_wp2_with fail
 refine(HM.out _).mono ?_;rintro e w2 ⟨j,H0,rfl,hj,hkj,hrow,hu2⟩;have HJ:Hid (∀k,k∈j.all->w.heap.size<=k):=by show ∀k,_;exact λ k hk=>Nat.le_trans HU1.out.size (hj k hk)
 have HBG:=η (hkj.begin HJ.out (HU1.out.trans hu2));have HRW:=η hrow;clear hj hkj hrow hu2;go_wp2_with fail
 refine HBG.out.mono ?_;rintro e w3 ⟨g,rfl,hkt,hgT,_⟩;have hgh:g.h=238:=hkt.h;have hSS:=hkt.S HJ.out;have hrm:Ai5 [] (λ _=>none) (g.T λ _=>none) 0:=by
  have e:(g.T λ _=>none)=λ i=>Y9 (T6 (H0 1)) i:=funext hgT;rw[e];exact HRW.out
 obtain⟨tb,htb⟩:∃tb,tb=g.x.tb:=⟨_,rfl⟩;rw[← htb];have HTW1:=η (Br8 _ a w3 (HA.out.below hkt.upd) (by have:=HNA.out;omega));rw[← HNA.out] at HTW1;have HKT:=η hkt;have HGH:=η hgh;have HSS:=η hSS;have HRM:=η hrm;have HTB:=η htb;clear hkt hgT hgh hSS hrm htb;go_wp2_with fail
 refine HTW1.out.mono ?_;rintro e w4 ⟨kx,rfl,⟨rx,hrx,hbx⟩,hkx,hu4⟩;have HTW2:=η (Br8 _ b w4 (HB.out.below (HKT.out.upd.trans hu4)) (by have:=HNB.out;omega));rw[← HNB.out] at HTW2;have HX:=η (And.intro hrx (And.intro hbx hkx));have HU4:=η hu4;clear hrx hbx hkx hu4;go_wp2_with fail
 refine HTW2.out.mono ?_;rintro e w5 ⟨ky,rfl,⟨ry,hry,hby⟩,hky,hu5⟩;obtain⟨hrx,hbx,hkx⟩:=HX.out;have hu35:Upd [] w3 w5:=HU4.out.trans hu5;have hbx5:=(hu5.block _ (A3 hbx) (by simp)).trans hbx;have hx5:kx<w5.heap.size:=A3 hbx5;have hy5:ky<w5.heap.size:=A3 hby
 have h34:=HU4.out.size;obtain⟨g',hg'⟩:∃g',g'=g.wF (λ k=>k≠kx/\k≠ky):=⟨_,rfl⟩;have hsp5:B7 w5 g' λ _=>none:=by rw[hg'];exact HKT.out.sp.wF hu35 (λ k hk=>⟨by omega,by omega⟩) (λ k hk=>⟨by omega,by omega⟩)
 have hkp5:Ap5 g' (λ _=>none) [] (λ _=>none) []:=by rw[hg'];exact⟨HKT.out.kp.m,HKT.out.kp.sort⟩
 have hrm5:Ai5 [] (λ _=>none) (g'.T λ _=>none) 0:=by rw[hg'];exact HRM.out
 have hh5:g'.h=238:=by rw[hg'];exact HGH.out
 have htb5:g'.x.tb=tb:=by rw[hg',HTB.out];rfl
 have hF5:∀k,¬g'.j.F k↔k=kx∨k=ky:=λ k=>by
  rw[hg'];show ¬(k≠kx/\k≠ky)↔_
  omega
 have hS5:∀k,k∈g'.S->w.heap.size<=k:=λ k hk=>HSS.out.1 k (by rw[hg'] at hk;exact hk);have hrdx:Rd w5 (.slice (some ⟨kx,0,none⟩) na (na+3)) a:=by
  have:Own w5 5 (λ _=>True) (.slice (some ⟨kx,0,none⟩) na (na+3)) a:=⟨kx,rx,trivial,by rw[HNA.out,hrx],hbx5⟩;exact this.rd
 have hk1:=λ W=>Bj1 1 (by omega) W;have hk2:=λ W=>Bj1 2 (by omega) W;unfold arr at hk1 hk2;rw[show((1:Nat):Int)=1 from rfl] at hk1;rw[show((2:Nat):Int)=2 from rfl] at hk2;have hl1:(Z0 1).length=32:=R5 _;have hl2:(Z0 2).length=32:=R5 _;have hne12:Z0 2≠Z0 1:=by
  have:=Cw1 (a:=2) (b:=1) (by omega) (by omega) (by omega);exact this
 obtain⟨x1,hx1⟩:∃x,x=Z0 1:=⟨_,rfl⟩;obtain⟨x2,hx2⟩:∃x,x=Z0 2:=⟨_,rfl⟩;rw[← hx1] at hk1 hl1 hne12;rw[← hx2] at hk2 hl2 hne12;have HK1:=η hk1;have HK2:=η hk2;have HL:=η (And.intro hl1 (And.intro hl2 hne12));have HSP5:=η hsp5;have HKP5:=η hkp5;have HRM5:=η hrm5;have HH5:=η hh5;have HTB5:=η htb5;have HF5:=η hF5;have HS5:=η hS5;have HRX:=η hrdx;have HKX:=η (And.intro hkx (Nat.le_trans h34 hky));have HBX:=η (And.intro hrx hbx5);have HBY:=η (And.intro hry hby);have HU05:=η (HKT.out.upd.trans hu35);clear hrx hbx hkx hry hby hky hu5 hu35 hbx5 hx5 hy5 h34 hg' hsp5 hkp5 hrm5 hh5 htb5 hF5 hS5 hrdx hk1 hk2 hl1 hl2 hne12 hx1 hx2;go_wp2_with fail
 refine(HK1.out _).mono ?_;rintro e w6 ⟨rfl,hu6⟩;have hs1:=Am6 (HSP5.out.below hu6) (by have:=HH5.out;omega) (by have:=HH5.out;omega) HKP5.out (by simp) x1 a _ (HRX.out.below hu6) HL.out.1 (by have:=HNA.out;omega) (Ab4.fresh HRM5.out (by omega) (by have:=HH5.out;simp;omega) rfl);rw[HTB5.out] at hs1;unfold arr at hs1;have HS1:=η hs1;have HU6:=η hu6;clear hs1 hu6;go_wp2_with fail
 refine HS1.out.mono ?_;rintro e w7 ⟨M1,S1,K1,y1,rfl,h7,hso,hu7⟩;obtain⟨m1,hm1,hrm7⟩:=hso.row HRM5.out rfl (by omega) (by have:=HH5.out;simp;omega);have hR1:S8 [] ⟨y1.1,y1.2,x1,a⟩=[⟨y1.1,y1.2,x1,a⟩]:=rfl;have hkp7:=hso.kp;rw[hR1] at hkp7;have hS1l:S1.length<=1:=by
  have:=hkp7.m.tr.size;simp at this;omega
 have hn2:J0 [⟨y1.1,y1.2,x1,a⟩] x2=none:=by
  rcases e:J0 [⟨y1.1,y1.2,x1,a⟩] x2 with _ | x
  ·rfl
  ·obtain⟨e1,e2⟩:=X7 e;obtain rfl:=List.mem_singleton.1 e1;exact absurd e2.symm HL.out.2.2
 have hd7:∀i,(M1 i).isSome=true->i<4∨InY K1 y1 i∨i∈S1:=λ i hi=>by
  rcases hso.dom i hi with q | q | q | q
  ·cases q
  ·exact .inl q
  ·exact .inr (.inl q)
  ·exact .inr (.inr q)
 have hbud:=Ab4.next (key:=x2) (b:=b) h7.ok hd7 hS1l hrm7 (by omega) (by have:=HH5.out;omega) hn2 (by simp) hso.root;have hsame7:Upd [] w w7:=(HU05.out.trans HU6.out).late hu7 (λ i hi=> .inr (HS5.out i hi));have hxS:∀(k:Nat) (c:Array Value),w5.heap[k]?=some (.cells c 5 (0,0))->w7.heap[k]?=some (.cells c 5 (0,0)):=λ k c hk=>by
  have e6:=(HU6.out.block _ (A3 hk) (by simp)).trans hk;exact(hu7.block _ (A3 e6) ((HSP5.out.below HU6.out).noRow e6)).trans e6
 have H7:=η h7;have HKP7:=η hkp7;have HBUD:=η hbud;have HU7:=η hsame7;have HXS:=η hxS;clear h7 hso hu7 hrm7 hR1 hkp7 hn2 hd7 hbud hsame7 hxS;go_wp2_with fail
 refine(HK2.out _).mono ?_;rintro e w8 ⟨rfl,hu8⟩;have hby7:=HXS.out ky _ HBY.out.2;have hry7:Rd w7 (.slice (some ⟨ky,0,none⟩) nb (nb+3)) b:=by
  have:Own w7 5 (λ _=>True) (.slice (some ⟨ky,0,none⟩) nb (nb+3)) b:=⟨ky,ry,trivial,by rw[HNB.out,HBY.out.1],hby7⟩;exact this.rd
 have hs2:=Am6 (H7.out.below hu8) (by have:=HH5.out;omega) (by have:=HH5.out;omega) HKP7.out (by simp) x2 b _ (hry7.below hu8) HL.out.2.1 (by have:=HNB.out;omega) HBUD.out;rw[HTB5.out] at hs2;unfold arr at hs2;have HS2:=η hs2;have HU8:=η hu8;have HBX7:=η (HXS.out kx _ HBX.out.2);have HBY7:=η hby7;clear hs2 hu8 hry7 hby7;go_wp2_with fail
 refine HS2.out.mono ?_;rintro e w9 ⟨M2,S2,K2,y2,rfl,h9,hso2,hu9⟩;obtain⟨R2,hR2⟩:∃R2,R2=S8 [⟨y1.1,y1.2,x1,a⟩] ⟨y2.1,y2.2,x2,b⟩:=⟨_,rfl⟩;have hkp9:=hso2.kp;rw[← hR2] at hkp9;have hsrt:An9 ([⟨y1.1,y1.2,x1,a⟩]:List Rc):=HKP7.out.sort;have hn2:J0 [⟨y1.1,y1.2,x1,a⟩] x2=none:=by
  rcases e:J0 [⟨y1.1,y1.2,x1,a⟩] x2 with _ | x
  ·rfl
  ·obtain⟨e1,e2⟩:=X7 e;obtain rfl:=List.mem_singleton.1 e1;exact absurd e2.symm HL.out.2.2
 have hR2l:R2.length=2:=by rw[hR2,(Au8 (x:=⟨y2.1,y2.2,x2,b⟩) hn2).length_eq];rfl
 have hg1:J0 R2 x1=some ⟨y1.1,y1.2,x1,a⟩:=by
  rw[hR2,Bs8 hsrt _ (Ne.symm HL.out.2.2)];exact Ab1 (x:=⟨y1.1,y1.2,x1,a⟩) hsrt (by simp)
 have hg2:J0 R2 x2=some ⟨y2.1,y2.2,x2,b⟩:=by rw[hR2];exact Co6 hsrt _
 have keep9:∀(k:Nat) (c:Array Value),w7.heap[k]?=some (.cells c 5 (0,0))->w9.heap[k]?=some (.cells c 5 (0,0)):=λ k c hk=>by
  have e6:=(HU8.out.block _ (A3 hk) (by simp)).trans hk;exact(hu9.block _ (A3 e6) ((H7.out.below HU8.out).noRow e6)).trans e6
 have hbx9:=keep9 _ _ HBX7.out;have hby9:=keep9 _ _ HBY7.out;have hu09:Upd [] w w9:=(HU7.out.trans HU8.out).late hu9 (λ i hi=> .inr (HS5.out i hi));have hpx:SpR w9 (.slice (some ⟨kx,0,none⟩) na (na+3)):=.inr ⟨kx,na,na+3,_,rfl,hbx9,by simp[HNA.out,HBX.out.1],by omega,Nat.le_trans (show na+3<=5000 by omega) (by decide)⟩;have hpy:SpR w9 (.slice (some ⟨ky,0,none⟩) nb (nb+3)):=.inr ⟨ky,nb,nb+3,_,rfl,hby9,by simp[HNB.out,HBY.out.1],by omega,Nat.le_trans (show nb+3<=5000 by omega) (by decide)⟩;have HPX:=η (Ad5 hpx);have HPY:=η hpy;have H9:=η h9;have HKP9:=η hkp9;have HR2:=η (And.intro hR2l (And.intro hg1 hg2));have HU9:=η hu09;clear hR2 hR2l hg1 hg2 keep9 hbx9 hby9 hu09 hpx hpy h9 hso2 hu9 hkp9 hsrt hn2;go_wp2_with fail
 refine HPX.out.mono ?_;rintro e w10 ⟨rfl,hs10,S10,hu10,hS10⟩;have h10:B7 w10 g' M2:=H9.out.spoil hu10 λ k hk=>by
  obtain⟨e,c⟩:=hS10 k hk;exact⟨(HF5.out k).2 (.inl (by injection e with e;exact e.symm)),c⟩
 have hu010:Upd [] w w10:=HU9.out.late hu10 λ k hk=>by
  obtain⟨e,_⟩:=hS10 k hk;have e2:kx=k:=by injection e
  have:=HKX.out.1;have:=HKT.out.upd.size;exact .inr (by omega)
 have HPY2:=η (Ad5 (HPY.out.same hs10));have H10:=η h10;have HU10:=η hu010;clear hs10 hu10 hS10 h10 hu010;go_wp2_with fail
 refine HPY2.out.mono ?_;rintro e wB ⟨rfl,hs11,S11,hu11,hS11⟩;have h11:B7 wB g' M2:=H10.out.spoil hu11 λ k hk=>by
  obtain⟨e,c⟩:=hS11 k hk;exact⟨(HF5.out k).2 (.inr (by injection e with e;exact e.symm)),c⟩
 have hu011:Upd [] w wB:=HU10.out.late hu11 λ k hk=>by
  obtain⟨e,_⟩:=hS11 k hk;have e2:ky=k:=by injection e
  have:=HKX.out.2;have:=HKT.out.upd.size;exact .inr (by omega)
 have H11:=η h11;have HU11:=η hu011;clear hs11 hu11 hS11 h11 hu011;obtain⟨TA,hTA⟩:∃T,T=str a:=⟨_,rfl⟩;obtain⟨TB,hTB⟩:∃T,T=str b:=⟨_,rfl⟩;have HTA:=η hTA;have HTB2:=η hTB;clear hTA hTB;go_wp2_with fail
 go_loopw [13] (λ i wr=>∃q:Nat,i=.int .i64 (q:Int)/\q<=2/\Hid (Upd [] wB wr)) (λ i _=>3-(intOf i).toNat)
 case atStart=>exact⟨0,rfl,by omega,η (Upd.refl _ _)⟩
 case round=>
  obtain⟨q,rfl,hq,HQ⟩:=hrel;have hspr:=H11.out.below HQ.out;rcases Nat.lt_or_ge q 2 with h4 | h4
  ·have cj:decide ((q:Int)<2)=true:=decide_eq_true (by omega);have cj2:decide (q<2)=true:=decide_eq_true h4;have hal:=Co5 hspr (by have:=HH5.out;omega) (by have:=HH5.out;omega) HKP9.out (by have:=HR2.out.1;omega);rw[HTB5.out] at hal;have HAL:=η hal;have HSPR:=η hspr;clear hal hspr;go_wp2_with fail
   refine HAL.out.mono ?_;rintro e w12 ⟨va,rfl,hva,h12,hu12'⟩;have hu12:=HSPR.out.still h12 hu12';obtain⟨aa,ca,rfl⟩:=hva.shape;have hlr:(R2.map Bh4).length=2:=by rw[List.length_map];exact HR2.out.1
   rw[hlr] at hva ⊢;have HVA:=η hva;have H12:=η h12;have HU12:=η hu12;clear hva h12 hu12' hu12 hlr;go_wp2_with fail
   refine(HK1.out _).mono ?_;rintro e w13 ⟨rfl,hu13⟩;have hgt:=Bn4 (H12.out.below hu13) (by have:=HH5.out;omega) (by have:=HH5.out;omega) HKP9.out (by have:=HR2.out.1;omega) x1 HL.out.1 HR2.out.2.1;rw[HTB5.out] at hgt;unfold arr at hgt;have HGT:=η hgt;have HU13:=η hu13;clear hgt hu13;go_wp2_with fail
   refine HGT.out.mono ?_;rintro e w14 ⟨vc,rfl,hbr,h14,hu14'⟩;have hu14:=(H12.out.below HU13.out).still h14 hu14';obtain⟨a3,c3,rfl,_,ha3⟩:=hbr.shape;have hu1214:Upd [] w12 w14:=HU13.out.trans hu14;have hub14:Upd [] wB w14:=(HQ.out.trans HU12.out).trans hu1214;have s1:=Ar8 hbr.rd HTA.out;have s2:=Ar8 (HA.out.below (HU11.out.trans hub14)) HTA.out;have HSC:=η (Ad5 hbr.spR);have hown:∀k,Value.ownBlock (.slice a3 a.length c3)=some k->w12.heap.size<=k:=λ k e=>by
    rcases hbr.2 with⟨e2,_⟩ | ⟨g,cap,cur,e2,hb,_⟩
    ·injection e2 with e2 _ _;subst e2;cases e
    ·injection e2 with e2 _ _;subst e2;injection e with e;have:=HU13.out.size;subst e;exact Nat.le_trans this hb
   have HOWN:=η hown;have HU14:=η hu1214;clear hbr h14 hu14' hu14 hu1214 hub14 ha3 hown;go_wp2_with fail
   clear s1 s2;refine HSC.out.mono ?_;rintro e w15 ⟨rfl,hs15,S15,hu15,hS15⟩;have hlate:∀k,k∈S15->w12.heap.size<=k:=λ k hk=>HOWN.out k (hS15 k hk).1;have hu1215:Upd S15 w12 w15:=(HU14.out.mono (by simp)).trans hu15;have hr15:=HVA.out.read.late (λ a n c e=>by injection e with e _ _;exact(HVA.out.lt a e).2) hu1215 hlate;have hwb12:Upd [] wB w12:=HQ.out.trans HU12.out;have hub15:Upd [] wB w15:=hwb12.late hu1215 λ k hk=> .inr (Nat.le_trans hwb12.size (hlate k hk));obtain⟨ps,p1,p2,p3⟩:=hr15;rw[List.length_map,HR2.out.1] at p2;obtain⟨⟨k0,d0⟩,hp0⟩:∃p,ps[0]?=some p:=⟨_,List.getElem?_eq_getElem (by omega)⟩;obtain⟨⟨k1,d1⟩,hp1⟩:∃p,ps[1]?=some p:=⟨_,List.getElem?_eq_getElem (by omega)⟩;obtain⟨r0,hr0⟩:∃r,(R2.map Bh4)[0]?=some r:=⟨_,List.getElem?_eq_getElem (by rw[List.length_map,HR2.out.1];omega)⟩;obtain⟨r1,hr1⟩:∃r,(R2.map Bh4)[1]?=some r:=⟨_,List.getElem?_eq_getElem (by rw[List.length_map,HR2.out.1];omega)⟩;obtain⟨_,q0,hd0⟩:=p3 0 _ _ hp0 hr0;obtain⟨_,q1,hd1⟩:=p3 1 _ _ hp1 hr1;dsimp only at q0 q1 hd0 hd1;obtain⟨a0,c0,rfl,_⟩:=hd0.shape;obtain⟨a1,c1,rfl,_⟩:=hd1.shape;obtain⟨bl,ol,rfl,hg0⟩:=RRd.at p1 (i:=0) (e:=rcC (k0,.slice a0 r0.2.length c0)) (by rw[List.getElem?_map,hp0];rfl);obtain⟨bl',ol',e',hg1⟩:=RRd.at p1 (i:=1) (e:=rcC (k1,.slice a1 r1.2.length c1)) (by rw[List.getElem?_map,hp1];rfl);cases e'
   have m0:=hg0 32 _ (Co4 (p:=(k0,.slice a0 r0.2.length c0)) q0);have m1:=hg1 32 _ (Co4 (p:=(k1,.slice a1 r1.2.length c1)) q1);rw[Nat.zero_mul,Nat.add_zero] at m0;rw[Nat.one_mul] at m1;have hbl:∃cs,w15.heap[bl]?=some (.cells cs TRc (0,0)):=by
    obtain⟨ps',pp,_⟩:=HVA.out;rcases pp.2 with⟨e,_⟩ | ⟨gx,cap,cur,e,hb,hg,_⟩
    ·cases e
    ·obtain rfl:bl=gx:=by
      injection e with e1 _ _;injection e1 with e1;injection e1
     exact⟨cur,(hu1215.block _ (A3 hg) (λ q=>by have:=hlate _ q;have:=A3 hg;omega)).trans hg⟩
   have hown0:∀k,Value.ownBlock (.slice a0 r0.2.length c0)=some k->wB.heap.size<=k:=λ k e=>by
    rcases hd0.2 with⟨e2,_⟩ | ⟨g,cap,cur,e2,hb,_⟩
    ·injection e2 with e2 _ _;subst e2;cases e
    ·injection e2 with e2 _ _;subst e2;injection e with e;subst e;exact Nat.le_trans HQ.out.size hb
   have hown1:∀k,Value.ownBlock (.slice a1 r1.2.length c1)=some k->wB.heap.size<=k:=λ k e=>by
    rcases hd1.2 with⟨e2,_⟩ | ⟨g,cap,cur,e2,hb,_⟩
    ·injection e2 with e2 _ _;subst e2;cases e
    ·injection e2 with e2 _ _;subst e2;injection e with e;subst e;exact Nat.le_trans HQ.out.size hb
   have HS0:=η (Ad5 hd0.spR);have HS1:=η hd1.spR;have HM1:=η m1;have HBL:=η hbl;have HO0:=η hown0;have HO1:=η hown1;have HU15:=η hub15;clear hs15 hu15 hS15 hlate hu1215 hwb12 hub15 p1 p2 p3 hp0 hp1 hr0 hr1 q0 q1 hd0 hd1 hg0 hg1 m1 hbl hown0 hown1;go_wp2_with fail
   refine HS0.out.mono ?_;rintro e w16 ⟨rfl,hs16,S16,hu16,hS16⟩;have m1:=D6 HM1.out hu16 (λ q=>by
    obtain⟨_,c,e⟩:=hS16 _ q;obtain⟨cs,e2⟩:=HBL.out;rw[e2] at e;injection e with e;injection e with _ e _;revert e;decide)
   have hub16:Upd [] wB w16:=HU15.out.late hu16 λ k hk=> .inr (HO0.out k (hS16 k hk).1);have HS2:=η (Ad5 (HS1.out.same hs16));have HU16:=η hub16;clear hs16 hu16 hS16 hub16 m0;go_wp2_with fail
   refine HS2.out.mono ?_;rintro e w17 ⟨rfl,hs17,S17,hu17,hS17⟩;have HU17:=η (HU16.out.late hu17 λ k hk=> .inr (HO1.out k (hS17 k hk).1));clear hs17 hu17 hS17 m1;go_wp2_with fail
   exact⟨⟨q+1,by go_num,by omega,HU17⟩,by simp[intOf];omega⟩
  ·have cj:decide ((q:Int)<2)=false:=decide_eq_false (by omega);have cj2:decide (q<2)=false:=decide_eq_false (by omega);have HSPR:=η hspr;clear hspr;go_wp2_with fail
   refine(HK2.out _).mono ?_;rintro e w13 ⟨rfl,hu13⟩;have hgt:=Bn4 (HSPR.out.below hu13) (by have:=HH5.out;omega) (by have:=HH5.out;omega) HKP9.out (by have:=HR2.out.1;omega) x2 HL.out.2.1 HR2.out.2.2;rw[HTB5.out] at hgt;unfold arr at hgt;have HGT:=η hgt;have HU13:=η hu13;clear hgt hu13;go_wp2_with fail
   refine HGT.out.mono ?_;rintro e w14 ⟨vc,rfl,hbr,h14,hu14'⟩;have hu14:=(HSPR.out.below HU13.out).still h14 hu14';obtain⟨a3,c3,rfl,_⟩:=hbr.shape;have hub14:Upd [] w w14:=((HU11.out.trans HQ.out).trans HU13.out).trans hu14;have s1:=Ar8 hbr.rd HTB2.out;have s2:=Ar8 (HB.out.below hub14) HTB2.out;have HE:=η hub14;clear hbr h14 hu14' hu14 hub14;go_wp2_with fail
   go_ret;exact⟨rfl,HE.out⟩
end Go.Proofs.YtgfbepakonjbnaaGreat
end
