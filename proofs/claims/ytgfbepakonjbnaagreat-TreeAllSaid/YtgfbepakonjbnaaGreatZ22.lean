/-
  A node in memory, of any floor: read, joined.
-/
import Derived.Test.YtgfbepakonjbnaaGreatZ20
import Derived.Test.YtgfbepakonjbnaaGreatZ21
import Derived.Test.YtgfbepakonjbnaaGreatZ01
import Derived.ProofKit
import Derived.OpenShut
import Derived.Carry
import Derived.Test.YtgfbepakonjbnaaGreatZ09
import Derived.Lib.SlBytesRow
import Derived.Deep.Slices
import Derived.Deep.Strs
set_option maxRecDepth 100000
set_option maxHeartbeats 16000000
section
set_option linter.unusedSimpArgs false
set_option linter.unusedVariables false
namespace Go.Proofs.YtgfbepakonjbnaaGreat
open Go.RowKit Go.MapKept Go.ChangeMaps
def X4(w:World)(B:Nat)(d:Nat)(kd:Int)(v1 v2 v3:Value)(ks vs:List Bs)(ds:List Nat):Prop:=
 (d=0/\kd=1/\v3=.slice none 0 0/\ds=[]/\C3 w B v1 ks/\F7 w B v2 vs)∨(0<d/\kd=2/\v2=.slice none 0 0/\vs=[]/\C3 w B v1 ks/\D8 w B v3 ds)
theorem X4.kd{w:World}{B d:Nat}{kd:Int}{v1 v2 v3:Value}{ks vs:List Bs}{ds:List Nat}(h:X4 w B d kd v1 v2 v3 ks vs ds):(kd=1∨kd=2)/\O9 kd=N9 d:=by
 rcases h with⟨rfl,rfl,_⟩ | ⟨h,rfl,_⟩
 ·exact⟨.inl rfl,rfl⟩
 ·refine⟨.inr rfl,?_⟩;cases d with
  | zero=>omega
  | succ d=>rfl
theorem X4.keep{w w':World}{g:Sg}{M:Nat->Option Sec}(hA:B7 w g M){B d:Nat}{kd:Int}{v1 v2 v3:Value}{ks vs:List Bs}{ds:List Nat}(h:X4 w B d kd v1 v2 v3 ks vs ds)(hu:Upd g.S w w'):X4 w' B d kd v1 v2 v3 ks vs ds:=by
 rcases h with⟨h1,h2,h3,h4,h5,h6⟩ | ⟨h1,h2,h3,h4,h5,h6⟩
 ·exact .inl ⟨h1,h2,h3,h4,F5 h5 hu (I7 hA h5 (.inr (.inr (.inl rfl)))),F5 h6 hu (I7 hA h6 (.inr (.inr (.inr (.inl rfl)))))⟩
 ·exact .inr ⟨h1,h2,h3,h4,F5 h5 hu (I7 hA h5 (.inr (.inr (.inl rfl)))),F5 h6 hu (I7 hA h6 (.inr (.inr (.inr (.inr rfl)))))⟩
theorem X4.below{w w':World}{B d:Nat}{kd:Int}{v1 v2 v3:Value}{ks vs:List Bs}{ds:List Nat}(h:X4 w B d kd v1 v2 v3 ks vs ds)(hu:Upd [] w w'):X4 w' B d kd v1 v2 v3 ks vs ds:=by
 rcases h with⟨h1,h2,h3,h4,h5,h6⟩ | ⟨h1,h2,h3,h4,h5,h6⟩
 ·exact .inl ⟨h1,h2,h3,h4,h5.below hu,h6.below hu⟩
 ·exact .inr ⟨h1,h2,h3,h4,h5.below hu,h6.below hu⟩
theorem X4.node{w w':World}{B d:Nat}{kd:Int}{v1 v2 v3:Value}{ks vs:List Bs}{ds:List Nat}(h:X4 w B d kd v1 v2 v3 ks vs ds){b:Nat}{c:Array Value}(hb:w.heap[b]?=some (.cells c 220 (0,0)))(hu:Upd [b] w w'):X4 w' B d kd v1 v2 v3 ks vs ds:=by
 rcases h with⟨h1,h2,h3,h4,h5,h6⟩ | ⟨h1,h2,h3,h4,h5,h6⟩
 ·exact .inl ⟨h1,h2,h3,h4,C3.node _ _ _ _ h5 hb hu,F7.node _ _ _ _ h6 hb hu⟩
 ·exact .inr ⟨h1,h2,h3,h4,C3.node _ _ _ _ h5 hb hu,D8.node _ _ _ _ h6 hb hu⟩
theorem X4.base{w:World}{B B' d:Nat}{kd:Int}{v1 v2 v3:Value}{ks vs:List Bs}{ds:List Nat}(h:X4 w B d kd v1 v2 v3 ks vs ds)(hb:B'<=B):X4 w B' d kd v1 v2 v3 ks vs ds:=by
 rcases h with⟨h1,h2,h3,h4,h5,h6⟩ | ⟨h1,h2,h3,h4,h5,h6⟩
 ·exact .inl ⟨h1,h2,h3,h4,L3 h5 hb,L3 h6 hb⟩
 ·exact .inr ⟨h1,h2,h3,h4,L3 h5 hb,L3 h6 hb⟩
theorem Cn7{w:World}{g:Sg}{M:Nat->Option Sec}(h:B7 w g M){d c:Nat}{ks vs:List Bs}{ds:List Nat}(hs:Cp5 g M d c ks vs ds) :
  Calls Tryz.prog 133 #[.pointer (some ⟨g.x.tb,0,none⟩),.int .u32 (c:Int)] w λ e w'=>∃kd a1 c1 a2 n2 c2 a3 n3 c3,e=.returned (.tuple #[.agg #[.int .i64 kd,.slice a1 ks.length c1,.slice a2 n2 c2,.slice a3 n3 c3],.int .i64 0])/\X4 w' w.heap.size d kd (.slice a1 ks.length c1) (.slice a2 n2 c2) (.slice a3 n3 c3) ks vs ds/\B7 w' g M/\Upd [g.j.jb] w w':=by
 obtain⟨h1,h2,h3,h4,l,S,ho⟩:=hs;obtain⟨l1,l2,l3,l4⟩:=ho.len;cases d with
 | zero=>
  simp at l4;refine(Y9 h c h2 h1 ⟨l1,l2,l4.1,h4⟩ h3).mono λ e w' hp=>?_;obtain⟨vk,vv,rfl,hk,hv,hA,hu⟩:=hp;obtain⟨a,q,rfl⟩:=C4 hk;obtain⟨a',q',rfl⟩:=C4 hv;exact⟨1,a,q,a',_,q',none,0,0,rfl,.inl ⟨rfl,rfl,rfl,l4.2,hk,hv⟩,hA,hu⟩
 | succ d=>
  simp at l4;refine(Z0 h c h2 h1 ⟨l1,l3,l4.1,h4⟩ h3).mono λ e w' hp=>?_;obtain⟨vk,vd,rfl,hk,hd,hA,hu⟩:=hp;obtain⟨a,q,rfl⟩:=C4 hk;obtain⟨a',q',rfl⟩:=C4 hd;exact⟨2,a,q,none,0,0,a',_,q',rfl,.inr ⟨by omega,rfl,rfl,l4.2,hk,hd⟩,hA,hu⟩
theorem T5{w:World}{B n sz c:Nat}{e:TypeId}{a:Option Addr}{xs:List Value}(h:w.ownsRow B e sz (.slice a n c) n xs)(hn:0<n):∃g,a=some ⟨g,0,none⟩:=by
 obtain⟨g,cap,e1,_⟩:=F3 h hn;cases e1
 exact⟨g,rfl⟩
theorem Bf3{w:World}{g:Sg}{M:Nat->Option Sec}(h:B7 w g M)(hh1:1<g.h)(hh2:g.h<=4096){d B i:Nat}{ks k1 v1 k2 v2:List Bs}{ds d1 d2:List Nat}{ax ad:Option Addr}{cx cd:Nat}
  (hKx:C3 w B (.slice ax ks.length cx) ks) (hDx:D8 w B (.slice ad ds.length cd) ds) (hok:G0 ks ds) {kd kd':Int} {x1 x2 x3 y1 y2 y3:Value} (hy:X4 w B d kd x1 x2 x3 k1 v1 d1) (hz:X4 w B d kd' y1 y2 y3 k2 v2 d2)
  {l1 l2:List B0} {S1 S2:List Nat} (o1:Q7 (g.cur M) d k1 v1 d1 l1 S1) (o2:Q7 (g.cur M) d k2 v2 d2 l2 S2) (m1:k1.length<=V2 d) (m2:k2.length<=V2 d) (p1:0<k1.length) (p2:0<k2.length) {k0:Bs} (hk0:ks[i]?=some k0) {s1 s2:Nat} (hs1:ds[i]?=some s1) (hs2:ds[i+1]?=some s2) (hs1h:s1<g.h) (hs2h:s2<g.h) (hs14:4<=s1) (hs24:4<=s2) (hs2T:g.T M s2=true) (at_:Nat) (hat:at_<g.h) (hat2:at_<4294967296) (hres:F2 M g.h+c1M M+3<=40) :
  Calls Tryz.prog 197 #[.agg #[.int .i64 2,.slice ax ks.length cx,.slice none 0 0,.slice ad ds.length cd],.pointer (some ⟨g.x.tb,0,none⟩),.int .u32 (at_:Int),.int .i64 (i:Int),.agg #[.int .i64 kd,x1,x2,x3],.agg #[.int .i64 kd',y1,y2,y3]] w
   (T0 g M d B s1 s2 at_ i ks ds (Ah9 d k1 k0 k2) (v1++v2) (d1++d2) w):=by
 have hi:=(List.getElem?_eq_some_iff.1 hk0).1;have hdn:=hok.n;obtain⟨gk,rfl⟩:=T5 hKx (by omega);obtain⟨gd,rfl⟩:=T5 hDx (by omega);obtain⟨a1,a2,a3,a4⟩:=o1.len;obtain⟨b1,b2,b3,b4⟩:=o2.len;cases d with
 | zero=>
  simp at a4 b4;rcases hy with⟨_,rfl,rfl,rfl,hy1,hy2⟩ | ⟨h0,_⟩;rotate_left
  ·omega
  rcases hz with⟨_,rfl,rfl,rfl,hz1,hz2⟩ | ⟨h0,_⟩;rotate_left
  ·omega
  obtain⟨x,q,rfl⟩:=C4 hy1;obtain⟨x',q',rfl⟩:=C4 hy2;obtain⟨y,r,rfl⟩:=C4 hz1;obtain⟨y',r',rfl⟩:=C4 hz2;obtain⟨g1,rfl⟩:=T5 hy1 p1;obtain⟨g2,rfl⟩:=T5 hy2 (by omega);obtain⟨g3,rfl⟩:=T5 hz1 p2;obtain⟨g4,rfl⟩:=T5 hz2 (by omega);exact Cr6 h hh1 hh2 hKx hDx hok hy1 hy2 hz1 hz2 ⟨a1,a2,a4.1,m1⟩ ⟨b1,b2,b4.1,m2⟩ p1 p2 rfl rfl hi hs1 hs2 hs1h hs2h hs14 hs24 hs2T at_ hat hat2 hres
 | succ d=>
  simp at a4 b4;rcases hy with⟨h0,_⟩ | ⟨_,rfl,rfl,rfl,hy1,hy2⟩
  ·omega
  rcases hz with⟨h0,_⟩ | ⟨_,rfl,rfl,rfl,hz1,hz2⟩
  ·omega
  obtain⟨x,q,rfl⟩:=C4 hy1;obtain⟨x',q',rfl⟩:=C4 hy2;obtain⟨y,r,rfl⟩:=C4 hz1;obtain⟨y',r',rfl⟩:=C4 hz2;obtain⟨g1,rfl⟩:=T5 hy1 p1;obtain⟨g2,rfl⟩:=T5 hy2 (by omega);obtain⟨g3,rfl⟩:=T5 hz1 p2;obtain⟨g4,rfl⟩:=T5 hz2 (by omega);exact Cr5 h hh1 hh2 hKx hDx hok hy1 hy2 hz1 hz2 ⟨a1,a3,a4.1,m1⟩ ⟨b1,b3,b4.1,m2⟩ p1 p2 hk0 rfl rfl hi hs1 hs2 hs1h hs2h hs14 hs24 hs2T at_ hat hat2 hres
section
def V7(g:Sg)(M:Nat->Option Sec)(root:Bool)(d a:Nat)(l:List B0)(S:List Nat)(key:Bs)(w:World)(e:Ending)(w':World):Prop:=
 (G9 l key=none/\∃kd a1 n1 c1 a2 n2 c2 a3 n3 c3,e=.returned (.tuple #[.agg #[.int .i64 kd,.slice a1 n1 c1,.slice a2 n2 c2,.slice a3 n3 c3],.int .i64 5])/\B7 w' g M/\Upd g.S w w')∨
 (G9 l key≠none/\∃M' ks vs ds kd a1 c1 a2 n2 c2 a3 n3 c3,e=.returned (.tuple #[.agg #[.int .i64 kd,.slice a1 ks.length c1,.slice a2 n2 c2,.slice a3 n3 c3],.int .i64 0])/\X4 w' w.heap.size d kd (.slice a1 ks.length c1) (.slice a2 n2 c2) (.slice a3 n3 c3) ks vs ds/\W4 g M M' root d a l S key ks vs ds/\B7 w' g M'/\Upd g.S w w')
attribute [-go_sem] loadCells storeCells Instr.build Instr.buildSlice
attribute [local go_sem] L6
theorem Bp9(w:World):(Instr.build 220 #[]).run Tryz.prog w=.ok (.agg #[.int .i64 0,.slice none 0 0,.slice none 0 0,.slice none 0 0]) w:=run_build w _ _ _ (by kernel_rfl)
theorem Aa0(w:World)(X Y:Array Value)(T T':TypeId):((w.alloc (.cells X T)).alloc (.cells Y T')).heap[w.heap.size]?=some (.cells X T (0,0))/\((w.alloc (.cells X T)).alloc (.cells Y T')).heap[w.heap.size+1]?=some (.cells Y T' (0,0)):=⟨Aq8 w X Y T T',Aq9 w X Y T T'⟩
theorem Cb5{w:World}{g:Sg}{M:Nat->Option Sec}(h:B7 w g M)(hh1:1<g.h)(at_:Nat)(hat:at_<g.h)(hat2:at_<4294967296){root:Bool}{l:List B0}{S:List Nat}(hs:E3 (g.cur M) root 0 at_ l S)(hh:K7 g M S)(key:Bs)(hkey:key.length=32)(deep:Int)(hd:(deep == 0)=false)(hc:F2 M g.h<40) :
  Calls Tryz.prog 125 #[.pointer (some ⟨g.x.tb,0,none⟩),.int .u32 (at_:Int),arr key,.int .i64 deep] w (V7 g M root 0 at_ l S key w):=by
 obtain⟨ks,hks⟩:∃ks,ks=l.map (·.1):=⟨_,rfl⟩;obtain⟨vs,hvs⟩:∃vs,vs=l.map (·.2):=⟨_,rfl⟩;have hok:K5 ks vs:=by rw[hks,hvs];exact hs.2.2.1
 have hcur:g.cur M at_=C8 ks vs:=by rw[hks,hvs];exact hs.2.2.2.1
 have HKS:=η (And.intro hks hvs);have HSH:=η (And.intro hs hh);clear hks hvs hs hh;obtain⟨wA,hwA⟩:∃wA,wA=(w.alloc (.cells (bts key).toArray 35)).alloc (.cells #[.int .i64 0,.slice none 0 0,.slice none 0 0,.slice none 0 0] 220):=⟨_,rfl⟩;have huA:Upd [] w wA:=by rw[hwA];exact((Upd.refl _ _).alloc _).alloc _
 obtain⟨b6,hb6⟩:∃b,b=w.heap.size:=⟨_,rfl⟩;obtain⟨b8,hb8⟩:∃b,b=w.heap.size+1:=⟨_,rfl⟩;obtain⟨h6,h8⟩:=Aa0 w (bts key).toArray #[.int .i64 0,.slice none 0 0,.slice none 0 0,.slice none 0 0] 35 220;rw[← hwA,← hb6] at h6;rw[← hwA,← hb8] at h8;have hA:=h.below huA;have H6:=η h6;have H8:=η h8;have HO6:=η (hA.other9 h6 (.inr (.inr (.inl rfl))));have HO8:=η (hA.other9 h8 (.inr (.inl rfl)));have HR:=η (Y9 hA at_ hat hat2 hok hcur);have HW:=η hwA;have HUA:=η huA;have HB:=η (And.intro hb6 hb8);have HOK:=η hok;have HLT:Hid (b6<wA.heap.size/\b8<wA.heap.size):=η ⟨A2 h6,A2 h8⟩;clear h hA hok hcur hwA huA hb6 hb8 h6 h8;unfold arr;go_enter Tryz.func125,Tryz.ntmps125
 go_wp2_with fail
 have hwA:=HW.out;obtain⟨hb6,hb8⟩:=HB.out;rw[← hwA,← hb8,← hb6];clear hwA hb6 hb8;refine HR.out.mono ?_;rintro e w1 ⟨vk,vv,rfl,hK,hV,h1,hu1⟩;obtain⟨ak,ck,rfl⟩:=C4 hK;obtain⟨av,cv,rfl⟩:=C4 hV;have nj:∀b,b∉g.S->b∉[g.j.jb]:=λ b hb q=>hb (g.mem b q);obtain⟨w2,hw2⟩:∃w2,w2=w1.alloc (.cells #[.int .i64 1,.slice ak ks.length ck,.slice av vs.length cv,.slice none 0 0] 220):=⟨_,rfl⟩;have hu2:Upd [] w1 w2:=by rw[hw2];exact(Upd.refl _ _).alloc _
 obtain⟨b10,hb10⟩:∃b,b=w1.heap.size:=⟨_,rfl⟩;have h6:=(hu2.block _ (Nat.lt_of_lt_of_le HLT.out.1 hu1.size) (by simp)).trans ((hu1.block _ HLT.out.1 (nj _ HO6.out)).trans H6.out);have h8:=(hu2.block _ (Nat.lt_of_lt_of_le HLT.out.2 hu1.size) (by simp)).trans ((hu1.block _ HLT.out.2 (nj _ HO8.out)).trans H8.out);have h10:w2.heap[b10]?=some (.cells #[.int .i64 1,.slice ak ks.length ck,.slice av vs.length cv,.slice none 0 0] 220 (0,0)):=by rw[hw2,hb10];exact A6 _
 have H62:=η h6;have H82:=η h8;have H10:=η h10;have H2:=η (h1.below hu2);have HK2:=η (C3.below hK hu2);have HV2:=η (F7.below hV hu2);have HU2:=η ((hu1.mono (by simp)).trans (hu2.mono (by simp)):Upd [g.j.jb] wA w2);have HW2:=η hw2;have HB10:=η hb10;have HBG:Hid (wA.heap.size<=b10):=η (by rw[hb10];exact hu1.size);have l10:=A7 (n:=4) (cs:=[.int .i64 1,.slice ak ks.length ck,.slice av vs.length cv,.slice none 0 0]) h10 rfl;have l6:=A7 (n:=32) h6 (by rw[A8,hkey]);have m0:=A4 h10 0;rw[hw2] at l10 l6;rw[hw2,hb10] at m0;rw[hb10] at l10;have hF:=Af2 (w:=w2) (vv:=.slice av vs.length cv) (vd:=.slice none 0 0) 1 (C3.rd HK2.out HOK.out.k) HOK.out.k (by have:=HOK.out.most;omega) key hkey;obtain⟨P,hPk⟩:∃P,F4 ks key=P:=⟨_,rfl⟩;obtain⟨hs,hhs⟩:∃b,I4 ks key=b:=⟨_,rfl⟩;rw[hPk,hhs] at hF;have HF:=η hF;have HPH:=η (And.intro hPk hhs);clear hK hV h1 hu1 hu2 h6 h8 h10 nj hw2 hb10 hF hPk hhs;unfold arr at *;go_wp2_with fail
 have hw2:=HW2.out;have hb10:=HB10.out;rw[← hw2,← hb10];clear hw2 hb10;refine HF.out.mono ?_;rintro e w3 ⟨rfl,hu3⟩;have H63:=η ((hu3.block _ (A2 H62.out) (by simp)).trans H62.out);have H83:=η ((hu3.block _ (A2 H82.out) (by simp)).trans H82.out);have H103:=η ((hu3.block _ (A2 H10.out) (by simp)).trans H10.out);have H3:=η (H2.out.below hu3);have HK3:=η (C3.below HK2.out hu3);have HV3:=η (F7.below HV2.out hu3);have HU3:Hid (Upd g.S w w3):=η ((HUA.out.mono (by simp)).trans ((HU2.out.mono g.mem).trans (hu3.mono (by simp))));clear hu3;cases hs
 ·have st:=C7 H83.out (l:=[.int .i64 0,.slice none 0 0,.slice none 0 0,.slice none 0 0]) rfl (by simp;exact⟨rfl,rfl⟩);have bn0:=Bp9;go_wp2_with fail
  obtain⟨w5,hw5⟩:∃x,x=w3.setRow b8 [.int .i64 0,.slice none 0 0,.slice none 0 0,.slice none 0 0].toArray:=⟨_,rfl⟩;have hst:Upd [b8] w3 w5:=by rw[hw5];exact D5 (Upd.refl _ _) _ (.inl (by simp))
  have h85:w5.heap[b8]?=some (.cells #[.int .i64 0,.slice none 0 0,.slice none 0 0,.slice none 0 0] 220 (0,0)):=by rw[hw5];exact setRow_heap _ _ _ _ _ _ H83.out
  rw[← hw5];refine bodyPost_ret (C5 (p:=8) (u:=9) (ty:=220) (by rfl) _ _ b8 _ (by rfl) (run_loadVar_row _ b8 _ _ _ _ _ h85 Tryz.underlying220 rfl (by kernel_rfl))) (by rfl) ?_;refine .inl ⟨?_,0,none,0,0,none,0,0,none,0,0,rfl,H3.out.turned9 (S:=[b8]) (λ b hb=>by simp at hb;subst hb;exact⟨_,_,_,H83.out,.inr (.inl rfl)⟩) hst,HU3.out.late hst (λ k hk=> .inr (by simp at hk;subst hk;have:=HB.out;omega))⟩;have:=HPH.out.2;rw[HKS.out.1] at this;cases q:G9 l key with
  | none=>rfl
  | some x=>rw[Bp2.2 (by rw[q];simp)] at this;cases this
 ·have hP:P<ks.length:=by
   obtain⟨h1,h2⟩:=HPH.out;unfold I4 at h2;rw[h1] at h2;exact(List.getElem?_eq_some_iff.1 (of_decide_eq_true h2)).1
  obtain⟨iA,hiA⟩:∃n,n=P+1:=⟨_,rfl⟩;obtain⟨nk',hnk'⟩:∃n,(ks.eraseIdx P).length=n:=⟨_,rfl⟩;obtain⟨nv',hnv'⟩:∃n,(vs.eraseIdx P).length=n:=⟨_,rfl⟩;obtain⟨gk,rfl⟩:=T5 HK3.out (by omega);obtain⟨gv,rfl⟩:=T5 HV3.out (by have:=HOK.out.n;omega);have hvl:vs.length=ks.length:=HOK.out.n;have hkm:ks.length<=10:=HOK.out.most;have HWI:=η (Bi9 hiA (by omega));have HDK:=η (λ w' (hu:Upd [] w3 w')=>Ar8 (HK3.out.below hu) HOK.out.k (by omega) rfl hP hiA hnk');have HDV:=η (λ w' (hu:F7 w' wA.heap.size (.slice (some ⟨gv,0,none⟩) vs.length cv) vs)=>Cb4 hu HOK.out.v (by omega) rfl (by omega:P<vs.length) hiA hnv');have HNk:=η (And.intro hiA (And.intro hnk' hnv'));have HN:Hid (P<ks.length):=η hP;clear hiA hnk' hnv' hvl hkm m0;go_wp2_with fail
  refine B6 (λ w'=>w'.heap[b10]?=some (.cells #[.int .i64 1,.slice (some ⟨gk,0,none⟩) ks.length ck,.slice (some ⟨gv,0,none⟩) vs.length cv,.slice none 0 0] 220 (0,0))) [13,15] (by kernel_rfl) H103.out (λ hHeld=>?_);refine κt 0 ?_ hHeld ?_ ?_;rotate_left
  ·(intro w hSw;go_simp<;>with_reducible rfl)
  try simp only[Act.put,αs,αz,αc]
  refine κt 2 ?_ hHeld ?_ ?_;rotate_left
  ·(intro w hSw;go_simp<;>with_reducible rfl)
  try simp only[Act.put,αs,αz,αc]
  refine κt 3 ?_ hHeld ?_ ?_;rotate_left
  ·(intro w hSw;go_simp<;>with_reducible rfl)
  try simp only[Act.put,αs,αz,αc]
  refine κt 6 ?_ hHeld ?_ ?_;rotate_left
  ·(intro w hSw;go_simp<;>with_reducible rfl)
  try simp only[Act.put,αs,αz,αc]
  refine κt 8 ?_ hHeld ?_ ?_;rotate_left
  ·(intro w hSw;go_simp<;>with_reducible rfl)
  try simp only[Act.put,αs,αz,αc]
  refine κt 9 ?_ hHeld ?_ ?_;rotate_left
  ·(intro w hSw;go_simp<;>with_reducible rfl)
  try simp only[Act.put,αs,αz,αc]
  refine κt 4 ?_ hHeld ?_ ?_;rotate_left
  ·(intro w hSw;obtain⟨wi1,wi2⟩:=HWI.out;go_simp<;>with_reducible rfl)
  try simp only[Act.put,αs,αz,αc]
  refine κt 10 ?_ hHeld ?_ ?_;rotate_left
  ·(intro w hSw;obtain⟨wi1,wi2⟩:=HWI.out;go_simp<;>with_reducible rfl)
  try simp only[Act.put,αs,αz,αc]
  refine κt 1 ?_ hHeld ?_ ?_;rotate_left
  ·(intro w hSw;have mm:=A4 hSw 1;go_simp<;>with_reducible rfl)
  try simp only[Act.put,αs,αz,αc]
  refine κt 7 ?_ hHeld ?_ ?_;rotate_left
  ·(intro w hSw;have mm:=A4 hSw 2;go_simp<;>with_reducible rfl)
  try simp only[Act.put,αs,αz,αc]
  refine κr 5 (λ K hK=>?_);go_simp;go_at_call 194
  (with_reducible refine(HDK.out _ (Upd.refl [] _).drew).mono ?_)
  rintro e w8 ⟨cur8,rfl,hk8,hc8,hu8⟩;have n8:b10≠gk:=by rintro rfl;rw[hc8] at hHeld;simp at hHeld
  have hc108:=(hu8.block _ (A2 hHeld) (by simpa using n8)).trans hHeld;have hv8:F7 w8 wA.heap.size (.slice (some ⟨gv,0,none⟩) vs.length cv) vs:=B8 (HV3.out.below (Upd.refl [] _).drew) hu8 (λ k c hk _ e=>by simp at hk;subst hk;rw[hc8] at e;simp at e);go_wp2_with fail
  refine hK.out _ _ (λ _=>hc108) ?_;clear hK K;try simp only[Act.put,αs,αz,αc]
  refine κt 12 ?_ hc108 ?_ ?_;rotate_left
  ·(intro w hSw;go_simp<;>with_reducible rfl)
  try simp only[Act.put,αs,αz,αc]
  refine κr 11 (λ K hK=>?_);go_simp;go_at_call 195
  (with_reducible refine(HDV.out _ hv8).mono ?_)
  rintro e w9 ⟨cur9,rfl,hv9,hc9,hu9⟩;have n9:b10≠gv:=by rintro rfl;rw[hc108] at hc9;simp at hc9
  have hc109:=(hu9.block _ (A2 hc108) (by simpa using n9)).trans hc108;have hk9:C3 w9 wA.heap.size (.slice (some ⟨gk,0,none⟩) nk' ck) (ks.eraseIdx P):=B8 hk8 hu9 (λ k c hk _ e=>by simp at hk;subst hk;rw[hc9] at e;simp at e);have st1:=D9 hc109 1 (v:=.slice (some ⟨gk,0,none⟩) nk' ck) (by simp) rfl;have st2:=D9 (B3 hc109 1 (.slice (some ⟨gk,0,none⟩) nk' ck)) 2 (v:=.slice (some ⟨gv,0,none⟩) nv' cv) (by simp) rfl;go_wp2_with fail
  refine hK.out _ _ (λ _=>hc109) ?_;clear hK K;try simp only[Act.put,αs,αz,αc]
  refine κr 13 (λ K hK=>?_);go_simp;refine hK.out _ _ (B9 (by kernel_rfl)) ?_;clear hK K;try simp only[Act.put,αs,αz,αc]
  refine E0 (by kernel_rfl) ?_;refine κt 14 ?_ trivial ?_ ?_;rotate_left
  ·(intro w hSw;go_simp<;>with_reducible rfl)
  try simp only[Act.put,αs,αz,αc]
  refine κr 15 (λ K hK=>?_);go_simp;refine hK.out _ _ (λ _=>trivial) ?_;clear hK K;try simp only[Act.put,αs,αz,αc]
  refine B1 (by kernel_rfl) ?_ _;obtain⟨w10,hw10⟩:∃x,x=(w9.setCell ⟨b10,1,none⟩ (.slice (some ⟨gk,0,none⟩) nk' ck)).setCell ⟨b10,2,none⟩ (.slice (some ⟨gv,0,none⟩) nv' cv):=⟨_,rfl⟩;rw[← hw10];have hst:Upd [b10] w9 w10:=by rw[hw10];exact((Upd.refl [b10] w9).set (.slice (some ⟨gk,0,none⟩) nk' ck) (b:=b10) (o:=1) (.inl (by simp))).set (.slice (some ⟨gv,0,none⟩) nv' cv) (b:=b10) (o:=2) (.inl (by simp))
  have h1010:w10.heap[b10]?=some (.cells #[.int .i64 1,.slice (some ⟨gk,0,none⟩) nk' ck,.slice (some ⟨gv,0,none⟩) nv' cv,.slice none 0 0] 220 (0,0)):=by rw[hw10];exact B3 (B3 hc109 1 _) 2 _
  have HK10:=η (C3.node _ _ _ _ hk9 hc109 hst);have HV10:=η (F7.node _ _ _ _ hv9 hc109 hst);have HA10:=η ((((H3.out.below (Upd.refl [] _).drew).turned9 (S:=[gk]) (λ b hb=>by simp at hb;subst hb;exact⟨_,_,_,hc8,.inr (.inr (.inl rfl))⟩) hu8).turned9 (S:=[gv]) (λ b hb=>by simp at hb;subst hb;exact⟨_,_,_,hc9,.inr (.inr (.inr (.inl rfl)))⟩) hu9).turned9 (S:=[b10]) (λ b hb=>by simp at hb;subst hb;exact⟨_,_,_,hc109,.inr (.inl rfl)⟩) hst);have hgw:wA.heap.size<=gk/\wA.heap.size<=gv:=⟨(Ae5 HK3.out _ _ _ rfl).2,(Ae5 HV3.out _ _ _ rfl).2⟩;have hws:=HUA.out.size;have n8:b8≠gk/\b8≠gv/\b8≠b10:=by
   have:=HLT.out;have:=HBG.out;omega
  have H810:Hid (w10.heap[b8]?=some (.cells #[.int .i64 0,.slice none 0 0,.slice none 0 0,.slice none 0 0] 220 (0,0))):=η ((hst.block _ (Nat.lt_of_lt_of_le (Nat.lt_of_lt_of_le (A2 H83.out) hu8.size) hu9.size) (by simpa using n8.2.2)).trans ((hu9.block _ (Nat.lt_of_lt_of_le (A2 H83.out) hu8.size) (by simpa using n8.2.1)).trans ((hu8.block _ (A2 H83.out) (by simpa using n8.1)).trans H83.out)));have HUE:Hid (Upd g.S w w10):=by
   show Upd _ _ _
   have a2:=(HU3.out.drew.late hu8 (λ k hk=> .inr (by simp at hk;subst hk;omega))).late hu9 (λ k hk=> .inr (by simp at hk;subst hk;omega));exact a2.late hst (λ k hk=> .inr (by simp at hk;subst hk;have:=HBG.out;omega))
  have HIE:Hid (K5 (ks.eraseIdx P) (vs.eraseIdx P)):=by
   show K5 _ _
   have a1:=HOK.out;refine⟨λ x q=>a1.k x ((List.eraseIdx_sublist _ _).subset q),λ x q=>a1.v x ((List.eraseIdx_sublist _ _).subset q),by rw[List.length_eraseIdx,List.length_eraseIdx,a1.n],?_⟩;have:=a1.most;rw[List.length_eraseIdx];split<;>omega
  have HKP:Hid (∀w',Upd [] w10 w'->Calls Tryz.prog 196 #[.pointer (some ⟨g.x.tb,0,none⟩),.int .u32 (at_:Int),.agg #[.int .i64 1,.slice (some ⟨gk,0,none⟩) nk' ck,.slice (some ⟨gv,0,none⟩) nv' cv,.slice none 0 0]] w' λ e w''=>e=.returned (.int .i64 0)/\B7 w'' g (if O9 1<=nk' then F1 M at_ (C8 (ks.eraseIdx P) (vs.eraseIdx P)) else M)/\Upd [g.x.wb] w' w''):=by
   show ∀w',_
   intro w' hu;exact Ar6 (HA10.out.below hu) (.inl rfl) at_ hat hat2 (λ _=>Ci3 (HA10.out.below hu) (HK10.out.below hu) (HV10.out.below hu) HIE.out) (λ _=> .inr hc)
  have H1010:=η h1010;clear hw10 hst h1010 hgw hws n8 hk8 hc8 hu8 hv8 hc108 hc109 hk9 hv9 hc9 hu9 st1 st2 n9 hHeld;go_wp2_with fail
  refine B6 (λ w'=>w'.heap[b10]?=some (.cells #[.int .i64 1,.slice (some ⟨gk,0,none⟩) nk' ck,.slice (some ⟨gv,0,none⟩) nv' cv,.slice none 0 0] 220 (0,0))) [5] (by kernel_rfl) H1010.out (λ hHeld=>?_);have HDR:Hid (Upd [] w10 w10.drew):=η (Upd.refl [] _).drew;refine κt 1 ?_ hHeld ?_ ?_;rotate_left
  ·(intro w hSw;go_simp<;>with_reducible rfl)
  try simp only[Act.put,αs,αz,αc]
  refine κt 2 ?_ hHeld ?_ ?_;rotate_left
  ·(intro w hSw;go_simp<;>with_reducible rfl)
  try simp only[Act.put,αs,αz,αc]
  refine κt 0 ?_ hHeld ?_ ?_;rotate_left
  ·(intro w hSw;have l0:=A7 (n:=4) (cs:=[.int .i64 1,.slice (some ⟨gk,0,none⟩) nk' ck,.slice (some ⟨gv,0,none⟩) nv' cv,.slice none 0 0]) hSw rfl;go_simp<;>with_reducible rfl)
  try simp only[Act.put,αs,αz,αc]
  refine κt 3 ?_ hHeld ?_ ?_;rotate_left
  ·(intro w hSw;have l0:=A7 (n:=4) (cs:=[.int .i64 1,.slice (some ⟨gk,0,none⟩) nk' ck,.slice (some ⟨gv,0,none⟩) nv' cv,.slice none 0 0]) hSw rfl;go_simp<;>with_reducible rfl)
  try simp only[Act.put,αs,αz,αc]
  refine κr 4 (λ K hK=>?_);go_simp;go_at_call 196
  (with_reducible refine(HKP.out _ HDR.out).mono ?_)
  rintro e w11 ⟨rfl,h11,hu11⟩;have h811:=(hu11.block _ (Nat.lt_of_lt_of_le (A2 H810.out) HDR.out.size) (Sg.notw HO8.out)).trans ((HDR.out.block _ (A2 H810.out) (by simp)).trans H810.out);have st:=C7 h811 (l:=[.int .i64 1,.slice (some ⟨gk,0,none⟩) nk' ck,.slice (some ⟨gv,0,none⟩) nv' cv,.slice none 0 0]) rfl (by simp;exact⟨rfl,rfl,rfl,rfl⟩);have hA10n:b10∉[g.x.wb]:=Sg.notw (HA10.out.other9 H1010.out (.inr (.inl rfl)));have h1011:=(hu11.block _ (A2 hHeld) hA10n).trans hHeld;go_wp2_with fail
  refine hK.out _ _ (λ _=>h1011) ?_;clear hK K;try simp only[Act.put,αs,αz,αc]
  refine κr 5 (λ K hK=>?_);go_simp;refine hK.out _ _ (B9 (by kernel_rfl)) ?_;clear hK K;try simp only[Act.put,αs,αz,αc]
  refine E0 (by kernel_rfl) ?_;refine κr 6 (λ K hK=>?_);go_simp;refine hK.out _ _ (λ _=>trivial) ?_;clear hK K;try simp only[Act.put,αs,αz,αc]
  refine B1 (by kernel_rfl) ?_ _;obtain⟨w13,hw13⟩:∃x,x=w11.setRow b8 [.int .i64 1,.slice (some ⟨gk,0,none⟩) nk' ck,.slice (some ⟨gv,0,none⟩) nv' cv,.slice none 0 0].toArray:=⟨_,rfl⟩;rw[← hw13];have hst:Upd [b8] w11 w13:=by rw[hw13];exact D5 (Upd.refl _ _) _ (.inl (by simp))
  have h813:w13.heap[b8]?=some (.cells #[.int .i64 1,.slice (some ⟨gk,0,none⟩) nk' ck,.slice (some ⟨gv,0,none⟩) nv' cv,.slice none 0 0] 220 (0,0)):=by rw[hw13];exact setRow_heap _ _ _ _ _ _ h811
  have HFIN:Hid (V7 g M root 0 at_ l S key w (.returned (.tuple #[.agg #[.int .i64 1,.slice (some ⟨gk,0,none⟩) nk' ck,.slice (some ⟨gv,0,none⟩) nv' cv,.slice none 0 0],.int .i64 0])) w13):=by
   show V7 _ _ _ _ _ _ _ _ _ _ _
   obtain⟨_,e1,e2⟩:=HNk.out;have u1:Upd g.S w10 w11:=(HDR.out.mono (by simp)).trans (hu11.mono g.memw);have hk11:=F5 HK10.out u1 (I7 HA10.out HK10.out (.inr (.inr (.inl rfl))));have hv11:=F5 HV10.out u1 (I7 HA10.out HV10.out (.inr (.inr (.inr (.inl rfl)))));have hk13:=C3.node _ _ _ _ hk11 h811 hst;have hv13:=F7.node _ _ _ _ hv11 h811 hst;subst e1 e2;obtain⟨p1,p2⟩:=HPH.out;have hh:=HKS.out.1 ▸ p2;refine .inr ⟨Bp2.1 hh,_,ks.eraseIdx P,vs.eraseIdx P,[],1,_,ck,_,_,cv,none,0,0,rfl,.inl ⟨rfl,rfl,rfl,rfl,L3 hk13 HUA.out.size,L3 hv13 HUA.out.size⟩,?_,h11.turned9 (S:=[b8]) (λ b hb=>by simp at hb;subst hb;exact⟨_,_,_,h811,.inr (.inl rfl)⟩) hst,(HUE.out.trans u1).late hst (λ k hk=> .inr (by simp at hk;subst hk;have:=HB.out;omega))⟩;have:=Bp3 HSH.out.1 HSH.out.2 HA10.out.ok hh;rw[← HKS.out.1,← HKS.out.2,p1] at this;exact this
  clear hw13 hst st h11 hu11 hHeld h811;go_wp2_with fail
  refine bodyPost_ret (C5 (p:=8) (u:=9) (ty:=220) (by rfl) _ _ b8 _ (by rfl) (run_loadVar_row _ b8 _ _ _ _ _ h813 Tryz.underlying220 rfl (by kernel_rfl))) (by rfl) ?_;exact HFIN.out
end
section
theorem V7.both{g:Sg}{M:Nat->Option Sec}{root:Bool}{d a:Nat}{l:List B0}{S:List Nat}{key:Bs}{w w':World}{e:Ending}(h:V7 g M root d a l S key w e w'):∃er kd a1 n1 c1 a2 n2 c2 a3 n3 c3,e=.returned (.tuple #[.agg #[.int .i64 kd,.slice a1 n1 c1,.slice a2 n2 c2,.slice a3 n3 c3],.int .i64 er])/\Upd g.S w w'/\
  ((er=5/\G9 l key=none/\B7 w' g M)∨(er=0/\G9 l key≠none/\∃M1 k1 v1 d1,k1.length=n1/\X4 w' w.heap.size d kd (.slice a1 n1 c1) (.slice a2 n2 c2) (.slice a3 n3 c3) k1 v1 d1/\W4 g M M1 root d a l S key k1 v1 d1/\B7 w' g M1)):=by
 rcases h with⟨h1,kd,a1,n1,c1,a2,n2,c2,a3,n3,c3,rfl,h2,h3⟩ | ⟨h1,M1,ks,vs,ds,kd,a1,c1,a2,n2,c2,a3,n3,c3,rfl,h2,h3,h4,h5⟩
 ·exact⟨5,kd,a1,n1,c1,a2,n2,c2,a3,n3,c3,rfl,h3,.inl ⟨rfl,h1,h2⟩⟩
 ·exact⟨0,kd,a1,_,c1,a2,n2,c2,a3,n3,c3,rfl,h5,.inr ⟨rfl,h1,M1,ks,vs,ds,rfl,h2,h3,h4⟩⟩
theorem Au4.T{g:Sg}{M M1:Nat->Option Sec}{root:Bool}{d a:Nat}{l:List B0}{S:List Nat}{key:Bs}{ks:List Bs}{ds:List Nat}{i:Nat}{k0:Bs}{c1 c2:Nat}{k1 v1:List Bs}{d1:List Nat}{k2 v2:List Bs}{d2:List Nat}(h:Au4 g M M1 root d a l S key ks ds i k0 c1 c2 k1 v1 d1 k2 v2 d2) :
  g.T M1 c2=true/\F2 M1 g.h+c1M M1<=F2 M g.h+c1M M+(3*d+1)/\k1.length<=V2 d/\k2.length<=V2 d/\0<k1.length/\0<k2.length/\(∃l1 S1,Q7 (g.cur M1) d k1 v1 d1 l1 S1)/\(∃l1 S1,Q7 (g.cur M1) d k2 v2 d2 l1 S1):=by
 obtain⟨la,l1,l2,lb,Sa,S1,S2,Sb,l1',T1,l2',T2,ha,hh,hp,hok,H,o1,o2,sub1,sub2,el,hk,hS,m1,m2,hbig,p1,p2,hroot⟩:=h;exact⟨(hS.held hh).T c2 (by simp),hS.cnt,m1,m2,p1,p2,⟨_,_,o1⟩,⟨_,_,o2⟩⟩
theorem Au4.post{g:Sg}{M M1:Nat->Option Sec}{root:Bool}{d a:Nat}{l:List B0}{S:List Nat}{key:Bs}{ks:List Bs}{ds:List Nat}{i:Nat}{k0:Bs}{c1 c2:Nat}{k1 v1:List Bs}{d1:List Nat}{k2 v2:List Bs}{d2:List Nat}(h:Au4 g M M1 root d a l S key ks ds i k0 c1 c2 k1 v1 d1 k2 v2 d2)
  {w w':World} (hA:B7 w g M1) (hh1:1<g.h) (hh2:g.h<=4096) {B:Nat} {e:Ending} (hj:T0 g M1 d B c1 c2 a i ks ds (Ah9 d k1 k0 k2) (v1++v2) (d1++d2) w e w') :
  ∃x c x' c' ks' ds' M',e=.returned (.tuple #[.agg #[.int .i64 2,.slice x ks'.length c,.slice none 0 0,.slice x' ds'.length c'],.int .i64 0])/\C3 w' B (.slice x ks'.length c) ks'/\D8 w' B (.slice x' ds'.length c') ds'/\B7 w' g M'/\(∃S,Upd S w w'/\∀k,k∈S->k∈g.S∨B<=k)/\W4 g M M' root (d+1) a l S key ks' [] ds':=by
 obtain⟨x,c,x',c',ks',ds',M',e1,e2,e3,e4,e5,⟨hm,rfl,rfl,rfl⟩ | ⟨hm,k',hk',rfl,rfl,rfl⟩⟩:=hj
 ·exact⟨x,c,x',c',_,_,_,e1,e2,e3,e4,e5,h.join hm hA.ok (hA.cur_len 1) hh1 hh2⟩
 ·exact⟨x,c,x',c',_,_,_,e1,e2,e3,e4,e5,(h.share rfl hm rfl hk' hA.ok (hA.cur_len 1) hh1 hh2).2.2.2⟩
theorem B7.lateS{w w':World}{g:Sg}{M:Nat->Option Sec}(h:B7 w g M){b:Nat}{c:Array Value}{T:TypeId}{fr:Nat × Nat}(hb:w.heap[b]?=some (.cells c T fr))(hT:Ty9 T)(hu:Upd g.S w w'):w'.heap[b]?=some (.cells c T fr):=(hu.block _ (A2 hb) (h.other9 hb hT)).trans hb
attribute [-go_sem] loadCells storeCells Instr.build Instr.buildSlice
attribute [local go_sem] L6
theorem Bt7{w:World}{g:Sg}{M:Nat->Option Sec}(h:B7 w g M)(hh1:1<g.h)(hh2:g.h<=4096)(at_:Nat)(hat:at_<g.h)(hat2:at_<4294967296){root:Bool}{d:Nat}{l:List B0}{S:List Nat}{ks:List Bs}{ds:List Nat}{kid:Nat}{lc:List B0}{Sc:List Nat}(key:Bs)(hkey:key.length=32)(hK:Bw9 g M root d at_ l S key ks ds kid lc Sc)(deep:Int)(hd0:1<=deep)(hd1:deep<=16)(hres:F2 M g.h+c1M M+(3*d+4)<=40)
  (ih:∀w',B7 w' g M->Calls Tryz.prog 125 #[.pointer (some ⟨g.x.tb,0,none⟩),.int .u32 (kid:Int),arr key,.int .i64 (deep-1)] w' (V7 g M false d kid lc Sc key w')) :
  Calls Tryz.prog 125 #[.pointer (some ⟨g.x.tb,0,none⟩),.int .u32 (at_:Int),arr key,.int .i64 deep] w (V7 g M root (d+1) at_ l S key w):=by
 have hd:(deep == 0)=false:=by rw[beq_eq_false_iff_ne];omega
 obtain⟨I,hI⟩:∃I,chK ks key=I:=⟨_,rfl⟩;have HI:=η hI;have HDKI:=η hK;have HRES:=η hres;have IH:=η ih;have hIl:I<=ks.length:=by rw[← hI];exact Az9 _ _
 have hok:=hK.ok;have hcur:=hK.enc;clear hK hres ih hI;obtain⟨wA,hwA⟩:∃wA,wA=(w.alloc (.cells (bts key).toArray 35)).alloc (.cells #[.int .i64 0,.slice none 0 0,.slice none 0 0,.slice none 0 0] 220):=⟨_,rfl⟩;have huA:Upd [] w wA:=by rw[hwA];exact((Upd.refl _ _).alloc _).alloc _
 obtain⟨b6,hb6⟩:∃b,b=w.heap.size:=⟨_,rfl⟩;obtain⟨b8,hb8⟩:∃b,b=w.heap.size+1:=⟨_,rfl⟩;obtain⟨h6,h8⟩:=Aa0 w (bts key).toArray #[.int .i64 0,.slice none 0 0,.slice none 0 0,.slice none 0 0] 35 220;rw[← hwA,← hb6] at h6;rw[← hwA,← hb8] at h8;have hA:=h.below huA;have H6:=η h6;have H8:=η h8;have HO6:=η (hA.other9 h6 (.inr (.inr (.inl rfl))));have HO8:=η (hA.other9 h8 (.inr (.inl rfl)));have HR:=η (Z0 hA at_ hat hat2 hok hcur);have HW:=η hwA;have HUA:=η huA;have HB:=η (And.intro hb6 hb8);have HOK:=η hok;have HLT:Hid (b6<wA.heap.size/\b8<wA.heap.size):=η ⟨A2 h6,A2 h8⟩;clear h hA hok hcur hwA huA hb6 hb8 h6 h8;unfold arr;go_enter Tryz.func125,Tryz.ntmps125
 go_wp2_with fail
 have hwA:=HW.out;obtain⟨hb6,hb8⟩:=HB.out;rw[← hwA,← hb8,← hb6];clear hwA hb6 hb8;refine HR.out.mono ?_;rintro e w1 ⟨vk,vd,rfl,hK,hV,h1,hu1⟩;obtain⟨ak,ck,rfl⟩:=C4 hK;obtain⟨ad,cd,rfl⟩:=C4 hV;have nj:∀b,b∉g.S->b∉[g.j.jb]:=λ b hb q=>hb (g.mem b q);obtain⟨w2,hw2⟩:∃w2,w2=w1.alloc (.cells #[.int .i64 2,.slice ak ks.length ck,.slice none 0 0,.slice ad ds.length cd] 220):=⟨_,rfl⟩;have hu2:Upd [] w1 w2:=by rw[hw2];exact(Upd.refl _ _).alloc _
 obtain⟨b10,hb10⟩:∃b,b=w1.heap.size:=⟨_,rfl⟩;have h6:=(hu2.block _ (Nat.lt_of_lt_of_le HLT.out.1 hu1.size) (by simp)).trans ((hu1.block _ HLT.out.1 (nj _ HO6.out)).trans H6.out);have h8:=(hu2.block _ (Nat.lt_of_lt_of_le HLT.out.2 hu1.size) (by simp)).trans ((hu1.block _ HLT.out.2 (nj _ HO8.out)).trans H8.out);have h10:w2.heap[b10]?=some (.cells #[.int .i64 2,.slice ak ks.length ck,.slice none 0 0,.slice ad ds.length cd] 220 (0,0)):=by rw[hw2,hb10];exact A6 _
 have H62:=η h6;have H82:=η h8;have H10:=η h10;have H2:=η (h1.below hu2);have HK2:=η (C3.below hK hu2);have HV2:=η (D8.below hV hu2);have HU2:=η ((hu1.mono (by simp)).trans (hu2.mono (by simp)):Upd [g.j.jb] wA w2);have HW2:=η hw2;have HB10:=η hb10;have HBG:Hid (wA.heap.size<=b10):=η (by rw[hb10];exact hu1.size);have l10:=A7 (n:=4) (cs:=[.int .i64 2,.slice ak ks.length ck,.slice none 0 0,.slice ad ds.length cd]) h10 rfl;have l6:=A7 (n:=32) h6 (by rw[A8,hkey]);have m0:=A4 h10 0;rw[hw2] at l10 l6;rw[hw2,hb10] at m0;rw[hb10] at l10;have hF:=Ag8 (w:=w2) (vv:=.slice none 0 0) (vd:=.slice ad ds.length cd) 2 (C3.rd HK2.out HOK.out.k) HOK.out.k (by have:=HOK.out.most;omega) key hkey;rw[HI.out] at hF;have HF:=η hF;clear hK hV h1 hu1 hu2 h6 h8 h10 nj hw2 hb10 hF;unfold arr at *;go_wp2_with fail
 have hw2:=HW2.out;have hb10:=HB10.out;rw[← hw2,← hb10];clear hw2 hb10;refine HF.out.mono ?_;rintro e w3 ⟨rfl,hu3⟩;have H63:=η ((hu3.block _ (A2 H62.out) (by simp)).trans H62.out);have H83:=η ((hu3.block _ (A2 H82.out) (by simp)).trans H82.out);have H103:=η ((hu3.block _ (A2 H10.out) (by simp)).trans H10.out);have H3:=η (H2.out.below hu3);have HK3:=η (C3.below HK2.out hu3);have HV3:=η (D8.below HV2.out hu3);have HU3:Hid (Upd g.S w w3):=η ((HUA.out.mono (by simp)).trans ((HU2.out.mono g.mem).trans (hu3.mono (by simp))));have HSZ:Hid (wA.heap.size<=w3.heap.size):=η (Nat.le_trans HU2.out.size hu3.size);clear hu3 m0;obtain⟨gd,rfl⟩:=T5 HV3.out (by have:=HOK.out.n;omega);have i1:(0:Int)<=(I:Int):=by omega
 have i2:(I:Int)<(ds.length:Int):=by have:=HOK.out.n;omega
 have i3:I<ds.length:=by have:=HOK.out.n;omega
 have i4:IntKind.i64.wrap (deep-1)=deep-1:=by rw[IntKind.wrap_i64];omega
 have HKID:Hid (ds[I]?=some kid):=by show ds[I]?=_;rw[← HI.out];exact HDKI.out.at_
 go_upto_region 13 with(fail)
 go_cut [11,15] (λ s11 s15 wz=>∃b15 er kd a1 n1 c1 a2 n2 c2 a3 n3 c3,s11=.int .i64 er/\s15=.pointer (some ⟨b15,0,none⟩)/\w3.heap.size<=b15/\wz.heap[b15]?=some (.cells #[.int .i64 kd,.slice a1 n1 c1,.slice a2 n2 c2,.slice a3 n3 c3] 220 (0,0))/\Upd g.S w3 wz/\
  ((er=5/\G9 lc key=none/\B7 wz g M)∨(er=0/\G9 lc key≠none/\∃M1 k1 v1 d1,k1.length=n1/\X4 wz w3.heap.size d kd (.slice a1 n1 c1) (.slice a2 n2 c2) (.slice a3 n3 c3) k1 v1 d1/\W4 g M M1 false d kid lc Sc key k1 v1 d1/\B7 wz g M1)))
 case first=>
  refine B6 (λ w'=>Upd [] w3 w') [9] (by kernel_rfl) (Upd.refl _ _).drew (λ hHeld=>?_);generalize w3.drew=w0 at hHeld ⊢;refine κt 0 ?_ hHeld ?_ ?_;rotate_left
  ·(intro w hSw;go_simp<;>with_reducible rfl)
  try simp only[Act.put,αs,αz,αc]
  refine κt 1 ?_ hHeld ?_ ?_;rotate_left
  ·(intro w hSw;go_simp<;>with_reducible rfl)
  try simp only[Act.put,αs,αz,αc]
  refine κt 3 ?_ hHeld ?_ ?_;rotate_left
  ·(intro w hSw;go_simp<;>with_reducible rfl)
  try simp only[Act.put,αs,αz,αc]
  refine κt 7 ?_ hHeld ?_ ?_;rotate_left
  ·(intro w hSw;go_simp<;>with_reducible rfl)
  try simp only[Act.put,αs,αz,αc]
  refine κt 2 ?_ hHeld ?_ ?_;rotate_left
  ·(intro w hSw;have hc:=(hSw.block _ (A2 H103.out) (by simp)).trans H103.out;have mm:=A4 hc 3;go_simp<;>with_reducible rfl)
  try simp only[Act.put,αs,αz,αc]
  refine κt 4 ?_ hHeld ?_ ?_;rotate_left
  ·(intro w hSw;go_simp<;>with_reducible rfl)
  try simp only[Act.put,αs,αz,αc]
  refine κt 5 ?_ hHeld ?_ ?_;rotate_left
  ·(intro w hSw;have mm:=S7 (HV3.out.below hSw) HKID.out;go_simp<;>with_reducible rfl)
  try simp only[Act.put,αs,αz,αc]
  refine κt 6 ?_ hHeld ?_ ?_;rotate_left
  ·(intro w hSw;have l6:=A7 (n:=32) ((hSw.block _ (A2 H63.out) (by simp)).trans H63.out) (by rw[A8,hkey]);go_simp<;>with_reducible rfl)
  try simp only[Act.put,αs,αz,αc]
  refine κt 8 ?_ hHeld ?_ ?_;rotate_left
  ·(intro w hSw;go_simp<;>with_reducible rfl)
  try simp only[Act.put,αs,αz,αc]
  refine A3 (rs:=[9,13]) (by kernel_rfl) (by simp) (A5.cons (A5.one rfl (λ K hK=>?_)) (A5.one rfl (λ K hK=>?_)))
  ·go_simp;go_at_call 125
   (with_reducible refine(IH.out _ (H3.out.below hHeld)).mono ?_)
   rintro e w4 hp;obtain⟨er,kd,a1,n1,c1,a2,n2,c2,a3,n3,c3,rfl,hu4,hp4⟩:=hp.both;have HP4:=η hp4;clear hp hp4;go_wp2_with fail
   refine hK.out _ _ (B9 (by kernel_rfl)) ?_;clear hK K;try simp only[Act.put,αs,αz,αc]
   refine E0 (by kernel_rfl) ?_;refine κt 10 ?_ trivial ?_ ?_;rotate_left
   ·(intro w hSw;go_simp<;>with_reducible rfl)
   try simp only[Act.put,αs,αz,αc]
   refine κt 11 ?_ trivial ?_ ?_;rotate_left
   ·(intro w hSw;go_simp<;>with_reducible rfl)
   try simp only[Act.put,αs,αz,αc]
   refine κt 12 ?_ trivial ?_ ?_;rotate_left
   ·(intro w hSw;go_simp<;>with_reducible rfl)
   try simp only[Act.put,αs,αz,αc]
   refine κr 13 (λ K hK=>?_);go_simp;refine hK.out _ _ (λ _=>trivial) ?_;clear hK K;try simp only[Act.put,αs,αz,αc]
   refine κr 14 (λ K hK=>?_);go_simp;refine hK.out _ _ (λ _=>trivial) ?_;clear hK K;try simp only[Act.put,αs,αz,αc]
   refine κr 15 (λ K hK=>?_);go_simp;refine hK.out _ _ (λ _=>trivial) ?_;clear hK K;try simp only[Act.put,αs,αz,αc]
   refine B1 (by kernel_rfl) ?_ _;go_wp2_with fail
   go_meet
   have hu34:=(hHeld.mono (by simp)).trans hu4;refine⟨_,er,kd,a1,n1,c1,a2,n2,c2,a3,n3,c3,rfl,rfl,hu34.size,A6 _,hu34.alloc _,?_⟩;rcases HP4.out with⟨e1,e2,e3⟩ | ⟨e1,e2,M1,k1,v1,d1,e3,e4,e5,e6⟩
   ·exact .inl ⟨e1,e2,e3.below ((Upd.refl _ _).alloc _)⟩
   ·exact .inr ⟨e1,e2,M1,k1,v1,d1,e3,(e4.base hHeld.size).below ((Upd.refl _ _).alloc _),e5,e6.below ((Upd.refl _ _).alloc _)⟩
  ·go_simp;refine hK.out _ _ (λ _=>hHeld.alloc _) ?_;clear hK K;obtain⟨w1',hw1⟩:∃x,x=w0.alloc (.cells #[.int .i64 0,.slice none 0 0,.slice none 0 0,.slice none 0 0] 220):=⟨_,rfl⟩;obtain⟨b15,hb15⟩:∃x,x=w0.heap.size:=⟨_,rfl⟩;have hc15:=A6 (w:=w0) (.cells #[.int .i64 0,.slice none 0 0,.slice none 0 0,.slice none 0 0] 220);rw[← hw1,← hb15] at hc15 ⊢;have hS1:Upd [] w3 w1':=by rw[hw1];exact hHeld.alloc _
   have HB15:Hid (w3.heap.size<=b15):=η (by rw[hb15];exact hHeld.size);clear hw1 hb15;try simp only[Act.put,αs,αz,αc]
   refine κr 9 (λ K hK=>?_);go_simp;go_at_call 125
   (with_reducible refine(IH.out _ (H3.out.below hS1)).mono ?_)
   rintro e w4 hp;obtain⟨er,kd,a1,n1,c1,a2,n2,c2,a3,n3,c3,rfl,hu4,hp4⟩:=hp.both;have HP4:=η hp4;clear hp hp4;go_wp2_with fail
   have hc154:=(H3.out.below hS1).lateS hc15 (.inr (.inl rfl)) hu4;have st:=C7 hc154 (l:=[.int .i64 kd,.slice a1 n1 c1,.slice a2 n2 c2,.slice a3 n3 c3]) rfl (by simp;exact⟨rfl,rfl,rfl,rfl⟩);refine hK.out _ _ (B9 (by kernel_rfl)) ?_;clear hK K;try simp only[Act.put,αs,αz,αc]
   refine E0 (by kernel_rfl) ?_;refine κt 10 ?_ trivial ?_ ?_;rotate_left
   ·(intro w hSw;go_simp<;>with_reducible rfl)
   try simp only[Act.put,αs,αz,αc]
   refine κt 11 ?_ trivial ?_ ?_;rotate_left
   ·(intro w hSw;go_simp<;>with_reducible rfl)
   try simp only[Act.put,αs,αz,αc]
   refine κt 12 ?_ trivial ?_ ?_;rotate_left
   ·(intro w hSw;go_simp<;>with_reducible rfl)
   try simp only[Act.put,αs,αz,αc]
   refine κr 14 (λ K hK=>?_);go_simp;refine hK.out _ _ (λ _=>trivial) ?_;clear hK K;try simp only[Act.put,αs,αz,αc]
   refine κr 15 (λ K hK=>?_);go_simp;refine hK.out _ _ (λ _=>trivial) ?_;clear hK K;try simp only[Act.put,αs,αz,αc]
   refine B1 (by kernel_rfl) ?_ _;go_wp2_with fail
   go_meet
   have hu34:=(hS1.mono (by simp)).trans hu4;have hst:Upd [b15] w4 (w4.setRow b15 [.int .i64 kd,.slice a1 n1 c1,.slice a2 n2 c2,.slice a3 n3 c3].toArray):=D5 (Upd.refl _ _) _ (.inl (by simp));refine⟨b15,er,kd,a1,n1,c1,a2,n2,c2,a3,n3,c3,rfl,rfl,HB15.out,setRow_heap _ _ _ _ _ _ hc154,hu34.late hst (λ k hk=> .inr (by simp at hk;subst hk;exact HB15.out)),?_⟩;rcases HP4.out with⟨e1,e2,e3⟩ | ⟨e1,e2,M1,k1,v1,d1,e3,e4,e5,e6⟩
   ·exact .inl ⟨e1,e2,e3.turned9 (S:=[b15]) (λ b hb=>by simp at hb;subst hb;exact⟨_,_,_,hc154,.inr (.inl rfl)⟩) hst⟩
   ·exact .inr ⟨e1,e2,M1,k1,v1,d1,e3,(e4.base hS1.size).node hc154 hst,e5,e6.turned9 (S:=[b15]) (λ b hb=>by simp at hb;subst hb;exact⟨_,_,_,hc154,.inr (.inl rfl)⟩) hst⟩
 case rest=>
  obtain⟨b15,er,kd,a1,n1,c1,a2,n2,c2,a3,n3,c3,rfl,rfl,hb15,hc15,hu35,hp⟩:=hcut;obtain⟨w5,rfl⟩:∃x,x=wc:=⟨_,rfl⟩;have HB15:=η hb15;have H15:=η hc15;have HU35:=η hu35;have H105:=η (H3.out.lateS H103.out (.inr (.inl rfl)) hu35);have H85:=η (H3.out.lateS H83.out (.inr (.inl rfl)) hu35);have HK5:Hid (C3 w5 wA.heap.size (.slice ak ks.length ck) ks):=η (F5 HK3.out hu35 (I7 H3.out HK3.out (.inr (.inr (.inl rfl)))));have HV5:Hid (D8 w5 wA.heap.size (.slice (some ⟨gd,0,none⟩) ds.length cd) ds):=η (F5 HV3.out hu35 (I7 H3.out HV3.out (.inr (.inr (.inr (.inr rfl))))));have HU5:=η (HU3.out.trans hu35);have l10:=A7 (n:=4) (cs:=[.int .i64 2,.slice ak ks.length ck,.slice none 0 0,.slice (some ⟨gd,0,none⟩) ds.length cd]) H105.out rfl;have st8:=C7 H85.out (l:=[.int .i64 2,.slice ak ks.length ck,.slice none 0 0,.slice (some ⟨gd,0,none⟩) ds.length cd]) rfl (by simp;exact⟨rfl,rfl,rfl,rfl⟩);have m101:=A4 H105.out 1;have m103:=A4 H105.out 3;clear hb15 hc15 hu35 l6;rcases hp with⟨rfl,hlk,hA5⟩ | ⟨rfl,hlk,M1,k1,v1,d1,hn1,hN5,hD5,hA5⟩
  ·have HA5:=η hA5;have HLK:=η hlk;clear hA5 hlk;go_wp2_with fail
   obtain⟨w9,hw9⟩:∃x,x=w5.setRow b8 [.int .i64 2,.slice ak ks.length ck,.slice none 0 0,.slice (some ⟨gd,0,none⟩) ds.length cd].toArray:=⟨_,rfl⟩;have hst:Upd [b8] w5 w9:=by rw[hw9];exact D5 (Upd.refl _ _) _ (.inl (by simp))
   have h89:w9.heap[b8]?=some (.cells #[.int .i64 2,.slice ak ks.length ck,.slice none 0 0,.slice (some ⟨gd,0,none⟩) ds.length cd] 220 (0,0)):=by rw[hw9];exact setRow_heap _ _ _ _ _ _ H85.out
   rw[← hw9];refine bodyPost_ret (C5 (p:=8) (u:=9) (ty:=220) (by rfl) _ _ b8 _ (by rfl) (run_loadVar_row _ b8 _ _ _ _ _ h89 Tryz.underlying220 rfl (by kernel_rfl))) (by rfl) ?_;refine .inl ⟨by rw[HDKI.out.look];exact HLK.out,2,_,_,_,_,_,_,_,_,_,rfl,HA5.out.turned9 (S:=[b8]) (λ b hb=>by simp at hb;subst hb;exact⟨_,_,_,H85.out,.inr (.inl rfl)⟩) hst,HU5.out.late hst (λ k hk=> .inr (by simp at hk;subst hk;have:=HB.out;omega))⟩
  ·obtain⟨hkd,hle⟩:=hN5.kd;have l15:=A7 (n:=4) (cs:=[.int .i64 kd,.slice a1 n1 c1,.slice a2 n2 c2,.slice a3 n3 c3]) H15.out rfl;have HSM:=η (An3 hkd a1 a2 a3 n1 c1 n2 c2 n3 c3 w5);have HLE:=η hle;have HA5:=η hA5;have HLK:=η hlk;have HN5:=η hN5;have HD5:=η hD5;have HN1:=η hn1;have HKD:=η hkd;clear hkd hle hA5 hlk hN5 hD5 hn1;go_wp2_with fail
   refine HSM.out.mono ?_;rintro e w6 ⟨rfl,hu6⟩;have HU6:=η (HU5.out.trans (hu6.mono (by simp)));have HA6:=η (HA5.out.below hu6);have H86:=η ((hu6.block _ (A2 H85.out) (by simp)).trans H85.out);have H106:=η ((hu6.block _ (A2 H105.out) (by simp)).trans H105.out);have H156:=η ((hu6.block _ (A2 H15.out) (by simp)).trans H15.out);have HK6:=η (HK5.out.below hu6);have HV6:=η (HV5.out.below hu6);have HN6:=η (HN5.out.below hu6);have HSZ6:Hid (w3.heap.size<=w6.heap.size):=η (Nat.le_trans HU35.out.size hu6.size);clear l10 st8 m101 m103 l15 hu6;have l10:=A7 (n:=4) (cs:=[.int .i64 2,.slice ak ks.length ck,.slice none 0 0,.slice (some ⟨gd,0,none⟩) ds.length cd]) H106.out rfl;have st8:=C7 H86.out (l:=[.int .i64 2,.slice ak ks.length ck,.slice none 0 0,.slice (some ⟨gd,0,none⟩) ds.length cd]) rfl (by simp;exact⟨rfl,rfl,rfl,rfl⟩);have m101:=A4 H106.out 1;have m103:=A4 H106.out 3;cases hsm:decide (n1<O9 kd)
   ·have HBIG:Hid (N9 d<=k1.length):=η (by have:=of_decide_eq_false hsm;have:=HLE.out;have:=HN1.out;omega);clear hsm;go_wp2_with fail
    obtain⟨w9,hw9⟩:∃x,x=w6.setRow b8 [.int .i64 2,.slice ak ks.length ck,.slice none 0 0,.slice (some ⟨gd,0,none⟩) ds.length cd].toArray:=⟨_,rfl⟩;have hst:Upd [b8] w6 w9:=by rw[hw9];exact D5 (Upd.refl _ _) _ (.inl (by simp))
    have h89:w9.heap[b8]?=some (.cells #[.int .i64 2,.slice ak ks.length ck,.slice none 0 0,.slice (some ⟨gd,0,none⟩) ds.length cd] 220 (0,0)):=by rw[hw9];exact setRow_heap _ _ _ _ _ _ H86.out
    rw[← hw9];refine bodyPost_ret (C5 (p:=8) (u:=9) (ty:=220) (by rfl) _ _ b8 _ (by rfl) (run_loadVar_row _ b8 _ _ _ _ _ h89 Tryz.underlying220 rfl (by kernel_rfl))) (by rfl) ?_;have hlk:G9 l key≠none:=by rw[HDKI.out.look];exact HLK.out
    refine .inr ⟨hlk,M1,ks,[],ds,2,ak,ck,none,0,0,_,_,cd,rfl,.inr ⟨by omega,rfl,rfl,rfl,C3.node _ _ _ _ (L3 HK6.out HUA.out.size) H86.out hst,D8.node _ _ _ _ (L3 HV6.out HUA.out.size) H86.out hst⟩,HDKI.out.whole _ _ _ _ HD5.out HBIG.out,HA6.out.turned9 (S:=[b8]) (λ b hb=>by simp at hb;subst hb;exact⟨_,_,_,H86.out,.inr (.inl rfl)⟩) hst,HU6.out.late hst (λ k hk=> .inr (by simp at hk;subst hk;have:=HB.out;omega))⟩
   ·clear hsm;have hkp:=HDKI.out.pos;have hk0':((ks.length:Int) == 0)=false:=by rw[beq_eq_false_iff_ne];omega
    cases I with
    | zero=>
     obtain⟨k0,c0,k2,v2,d2,hside,htwo⟩:=HDKI.out.left HI.out M1 k1 v1 d1 HD5.out;obtain⟨⟨q1,q2,q3⟩,⟨q4,q5,q6⟩,_,q7,q8,q9,q10⟩:=htwo.in_;obtain⟨t1,t2,t3,t4,t5,t6,⟨lo1,so1,o1⟩,⟨lo2,so2,o2⟩⟩:=htwo.T;have mk:=S7 HV6.out q10;have j1:(1:Int)<(ds.length:Int):=by have:=(List.getElem?_eq_some_iff.1 q10).1;omega
     have j2:1<ds.length:=(List.getElem?_eq_some_iff.1 q10).1;simp only[Nat.zero_add] at mk;have HR9:=η (Cn7 HA6.out hside);have HTW:=η htwo;have HQ:=η (And.intro q3 (And.intro q6 (And.intro q2 (And.intro q5 (And.intro q8 (And.intro q9 (And.intro q10 t1)))))));have HT2:=η (And.intro t2 (And.intro t3 (And.intro t4 (And.intro t5 t6))));have HO1:=η (And.intro o1 o2);clear hside htwo q1 q2 q3 q4 q5 q6 q7 q8 q9 q10 t1 t2 t3 t4 t5 t6 o1 o2;go_wp2_with fail
     refine HR9.out.mono ?_;rintro e w7 ⟨kd',y1,z1,y2,m2,z2,y3,m3,z3,rfl,hN7,hA7,hu7⟩;have hu7S:Upd g.S w6 w7:=hu7.mono g.mem;obtain⟨w8,hw8⟩:∃x,x=w7.alloc (.cells #[.int .i64 kd',.slice y1 k2.length z1,.slice y2 m2 z2,.slice y3 m3 z3] 220):=⟨_,rfl⟩;obtain⟨bz,hbz⟩:∃x,x=w7.heap.size:=⟨_,rfl⟩;have hcz:=A6 (w:=w7) (.cells #[.int .i64 kd',.slice y1 k2.length z1,.slice y2 m2 z2,.slice y3 m3 z3] 220);rw[← hw8,← hbz] at hcz;have hu78:Upd [] w7 w8:=by rw[hw8];exact(Upd.refl _ _).alloc _
     have hu68:Upd g.S w6 w8:=hu7S.trans (hu78.mono (by simp));have HA8:=η (hA7.below hu78);have HK8:Hid (C3 w8 wA.heap.size (.slice ak ks.length ck) ks):=η (F5 HK6.out hu68 (I7 HA6.out HK6.out (.inr (.inr (.inl rfl)))));have HV8:Hid (D8 w8 wA.heap.size (.slice (some ⟨gd,0,none⟩) ds.length cd) ds):=η (F5 HV6.out hu68 (I7 HA6.out HV6.out (.inr (.inr (.inr (.inr rfl))))));have HY8:=η ((HN6.out.keep HA6.out hu68).base HSZ.out);have HZ8:=η ((hN7.below hu78).base (Nat.le_trans HSZ.out HSZ6.out));have H88:=η (HA6.out.lateS H86.out (.inr (.inl rfl)) hu68);have l108:=A7 (n:=4) (cs:=[.int .i64 2,.slice ak ks.length ck,.slice none 0 0,.slice (some ⟨gd,0,none⟩) ds.length cd]) (HA6.out.lateS H106.out (.inr (.inl rfl)) hu68) rfl;have l158:=A7 (n:=4) (cs:=[.int .i64 kd,.slice a1 n1 c1,.slice a2 n2 c2,.slice a3 n3 c3]) (HA6.out.lateS H156.out (.inr (.inl rfl)) hu68) rfl;have lz8:=A7 (n:=4) (cs:=[.int .i64 kd',.slice y1 k2.length z1,.slice y2 m2 z2,.slice y3 m3 z3]) hcz rfl;have HU8:=η (HU6.out.trans hu68);have hy8:=HY8.out;rw[← HN1.out] at hy8;have hJ:=Bf3 (i:=0) HA8.out hh1 hh2 HK8.out HV8.out HOK.out hy8 HZ8.out HO1.out.1 HO1.out.2 HT2.out.2.1 HT2.out.2.2.1 HT2.out.2.2.2.1 HT2.out.2.2.2.2 HQ.out.2.2.2.2.1 HQ.out.2.2.2.2.2.1 HQ.out.2.2.2.2.2.2.1 HQ.out.1 HQ.out.2.1 HQ.out.2.2.1 HQ.out.2.2.2.1 HQ.out.2.2.2.2.2.2.2 at_ hat hat2 (by have:=HT2.out.1;have:=HRES.out;omega);rw[HN1.out] at hJ;rw[show((0:Nat):Int)=0 from rfl] at hJ;have HJ:=η hJ;have HW8:=η (And.intro hw8 hbz);rw[hw8] at l108 l158 lz8;rw[hbz] at lz8;clear hw8 hbz hcz hu78 hu68 hu7 hu7S hA7 hN7 hy8 hJ l10 st8 m101 m103 mk;go_wp2_with fail
     rw[← HW8.out.1,← HW8.out.2];refine HJ.out.mono ?_;rintro e w9 hj;obtain⟨x,c,x',c',ks',ds',M',rfl,hk9,hd9,hA9,⟨SJ,huJ,hSJ⟩,hDA⟩:=HTW.out.post HA8.out hh1 hh2 hj;have n8:b8∉SJ:=λ q=>by
      rcases hSJ b8 q with r | r
      ·exact HO8.out r
      ·have:=HLT.out.2;omega
     have h89:=(huJ.block _ (A2 H88.out) n8).trans H88.out;have st9:=C7 h89 (l:=[.int .i64 2,.slice x ks'.length c,.slice none 0 0,.slice x' ds'.length c']) rfl (by simp;exact⟨rfl,rfl,rfl,rfl⟩);have HFIN:Hid (∀w10,w10=w9.setRow b8 [.int .i64 2,.slice x ks'.length c,.slice none 0 0,.slice x' ds'.length c'].toArray->V7 g M root (d+1) at_ l S key w (.returned (.tuple #[.agg #[.int .i64 2,.slice x ks'.length c,.slice none 0 0,.slice x' ds'.length c'],.int .i64 0])) w10):=by
      show ∀w10,_
      rintro w10 hw10;have hst:Upd [b8] w9 w10:=by rw[hw10];exact D5 (Upd.refl _ _) _ (.inl (by simp))
      have hlk:G9 l key≠none:=by rw[HDKI.out.look];exact HLK.out
      have hsz:=HUA.out.size;refine .inr ⟨hlk,M',ks',[],ds',2,x,c,none,0,0,x',_,c',rfl,.inr ⟨by omega,rfl,rfl,rfl,C3.node _ _ _ _ (L3 hk9 hsz) h89 hst,D8.node _ _ _ _ (L3 hd9 hsz) h89 hst⟩,hDA,hA9.turned9 (S:=[b8]) (λ b hb=>by simp at hb;subst hb;exact⟨_,_,_,h89,.inr (.inl rfl)⟩) hst,(HU8.out.late huJ (λ k hk=>?_)).late hst (λ k hk=> .inr (by simp at hk;subst hk;have:=HB.out;omega))⟩;rcases hSJ k hk with r | r
      ·exact .inl r
      ·exact .inr (by omega)
     have h810:=setRow_heap w9 b8 #[.int .i64 0,.slice none 0 0,.slice none 0 0,.slice none 0 0] [.int .i64 2,.slice x ks'.length c,.slice none 0 0,.slice x' ds'.length c'].toArray _ _ h89;have H810:=η h810;clear hj hk9 hd9 hA9 huJ hSJ hDA n8 h89 h810 l108 l158 lz8;go_wp2_with fail
     refine bodyPost_ret (C5 (p:=8) (u:=9) (ty:=220) (by rfl) _ _ b8 _ (by rfl) (run_loadVar_row _ b8 _ _ _ _ _ H810.out Tryz.underlying220 rfl (by kernel_rfl))) (by rfl) ?_;exact HFIN.out _ rfl
    | succ i=>
     obtain⟨k0,c0,k2,v2,d2,hside,htwo⟩:=HDKI.out.right i HI.out M1 k1 v1 d1 HD5.out;obtain⟨⟨q1,q2,q3⟩,⟨q4,q5,q6⟩,_,q7,q8,q9,q10⟩:=htwo.in_;obtain⟨t1,t2,t3,t4,t5,t6,⟨lo1,so1,o1⟩,⟨lo2,so2,o2⟩⟩:=htwo.T;have mk:=S7 HV6.out q9;have j1:(i:Int)<(ds.length:Int):=by have:=(List.getElem?_eq_some_iff.1 q9).1;omega
     have j2:i<ds.length:=(List.getElem?_eq_some_iff.1 q9).1;have j3:(0:Int)<=(i:Int):=by omega
     have j4:((i:Int)+1 == 0)=false:=by rw[beq_eq_false_iff_ne];omega
     have HWS:Hid (wrap64 (i:Int)=(i:Int)):=η (Aj9 (s:=i) (by have:=HOK.out.n;have:=HOK.out.most;omega)).2;have HR9:=η (Cn7 HA6.out hside);have HTW:=η htwo;have HQ:=η (And.intro q3 (And.intro q6 (And.intro q2 (And.intro q5 (And.intro q8 (And.intro q9 (And.intro q10 t1)))))));have HT2:=η (And.intro t2 (And.intro t3 (And.intro t4 (And.intro t5 t6))));have HO1:=η (And.intro o1 o2);clear hside htwo q1 q2 q3 q4 q5 q6 q7 q8 q9 q10 t1 t2 t3 t4 t5 t6 o1 o2;have ws:=HWS.out;go_wp2_with fail
     clear ws;refine HR9.out.mono ?_;rintro e w7 ⟨kd',y1,z1,y2,m2,z2,y3,m3,z3,rfl,hN7,hA7,hu7⟩;have hu7S:Upd g.S w6 w7:=hu7.mono g.mem;obtain⟨w8,hw8⟩:∃x,x=w7.alloc (.cells #[.int .i64 kd',.slice y1 k2.length z1,.slice y2 m2 z2,.slice y3 m3 z3] 220):=⟨_,rfl⟩;obtain⟨bz,hbz⟩:∃x,x=w7.heap.size:=⟨_,rfl⟩;have hcz:=A6 (w:=w7) (.cells #[.int .i64 kd',.slice y1 k2.length z1,.slice y2 m2 z2,.slice y3 m3 z3] 220);rw[← hw8,← hbz] at hcz;have hu78:Upd [] w7 w8:=by rw[hw8];exact(Upd.refl _ _).alloc _
     have hu68:Upd g.S w6 w8:=hu7S.trans (hu78.mono (by simp));have HA8:=η (hA7.below hu78);have HK8:Hid (C3 w8 wA.heap.size (.slice ak ks.length ck) ks):=η (F5 HK6.out hu68 (I7 HA6.out HK6.out (.inr (.inr (.inl rfl)))));have HV8:Hid (D8 w8 wA.heap.size (.slice (some ⟨gd,0,none⟩) ds.length cd) ds):=η (F5 HV6.out hu68 (I7 HA6.out HV6.out (.inr (.inr (.inr (.inr rfl))))));have HY8:=η ((HN6.out.keep HA6.out hu68).base HSZ.out);have HZ8:=η ((hN7.below hu78).base (Nat.le_trans HSZ.out HSZ6.out));have H88:=η (HA6.out.lateS H86.out (.inr (.inl rfl)) hu68);have l108:=A7 (n:=4) (cs:=[.int .i64 2,.slice ak ks.length ck,.slice none 0 0,.slice (some ⟨gd,0,none⟩) ds.length cd]) (HA6.out.lateS H106.out (.inr (.inl rfl)) hu68) rfl;have l158:=A7 (n:=4) (cs:=[.int .i64 kd,.slice a1 n1 c1,.slice a2 n2 c2,.slice a3 n3 c3]) (HA6.out.lateS H156.out (.inr (.inl rfl)) hu68) rfl;have lz8:=A7 (n:=4) (cs:=[.int .i64 kd',.slice y1 k2.length z1,.slice y2 m2 z2,.slice y3 m3 z3]) hcz rfl;have HU8:=η (HU6.out.trans hu68);have hy8:=HY8.out;rw[← HN1.out] at hy8;have hJ:=Bf3 (i:=i) HA8.out hh1 hh2 HK8.out HV8.out HOK.out HZ8.out hy8 HO1.out.1 HO1.out.2 HT2.out.2.1 HT2.out.2.2.1 HT2.out.2.2.2.1 HT2.out.2.2.2.2 HQ.out.2.2.2.2.1 HQ.out.2.2.2.2.2.1 HQ.out.2.2.2.2.2.2.1 HQ.out.1 HQ.out.2.1 HQ.out.2.2.1 HQ.out.2.2.2.1 HQ.out.2.2.2.2.2.2.2 at_ hat hat2 (by have:=HT2.out.1;have:=HRES.out;omega);rw[HN1.out] at hJ;have HJ:=η hJ;have HW8:=η (And.intro hw8 hbz);rw[hw8] at l108 l158 lz8;rw[hbz] at lz8;clear hw8 hbz hcz hu78 hu68 hu7 hu7S hA7 hN7 hy8 hJ l10 st8 m101 m103 mk;have ws:=HWS.out;go_wp2_with fail
     clear ws;rw[← HW8.out.1,← HW8.out.2];refine HJ.out.mono ?_;rintro e w9 hj;obtain⟨x,c,x',c',ks',ds',M',rfl,hk9,hd9,hA9,⟨SJ,huJ,hSJ⟩,hDA⟩:=HTW.out.post HA8.out hh1 hh2 hj;have n8:b8∉SJ:=λ q=>by
      rcases hSJ b8 q with r | r
      ·exact HO8.out r
      ·have:=HLT.out.2;omega
     have h89:=(huJ.block _ (A2 H88.out) n8).trans H88.out;have st9:=C7 h89 (l:=[.int .i64 2,.slice x ks'.length c,.slice none 0 0,.slice x' ds'.length c']) rfl (by simp;exact⟨rfl,rfl,rfl,rfl⟩);have HFIN:Hid (∀w10,w10=w9.setRow b8 [.int .i64 2,.slice x ks'.length c,.slice none 0 0,.slice x' ds'.length c'].toArray->V7 g M root (d+1) at_ l S key w (.returned (.tuple #[.agg #[.int .i64 2,.slice x ks'.length c,.slice none 0 0,.slice x' ds'.length c'],.int .i64 0])) w10):=by
      show ∀w10,_
      rintro w10 hw10;have hst:Upd [b8] w9 w10:=by rw[hw10];exact D5 (Upd.refl _ _) _ (.inl (by simp))
      have hlk:G9 l key≠none:=by rw[HDKI.out.look];exact HLK.out
      have hsz:=HUA.out.size;refine .inr ⟨hlk,M',ks',[],ds',2,x,c,none,0,0,x',_,c',rfl,.inr ⟨by omega,rfl,rfl,rfl,C3.node _ _ _ _ (L3 hk9 hsz) h89 hst,D8.node _ _ _ _ (L3 hd9 hsz) h89 hst⟩,hDA,hA9.turned9 (S:=[b8]) (λ b hb=>by simp at hb;subst hb;exact⟨_,_,_,h89,.inr (.inl rfl)⟩) hst,(HU8.out.late huJ (λ k hk=>?_)).late hst (λ k hk=> .inr (by simp at hk;subst hk;have:=HB.out;omega))⟩;rcases hSJ k hk with r | r
      ·exact .inl r
      ·exact .inr (by omega)
     have h810:=setRow_heap w9 b8 #[.int .i64 0,.slice none 0 0,.slice none 0 0,.slice none 0 0] [.int .i64 2,.slice x ks'.length c,.slice none 0 0,.slice x' ds'.length c'].toArray _ _ h89;have H810:=η h810;clear hj hk9 hd9 hA9 huJ hSJ hDA n8 h89 h810 l108 l158 lz8;go_wp2_with fail
     refine bodyPost_ret (C5 (p:=8) (u:=9) (ty:=220) (by rfl) _ _ b8 _ (by rfl) (run_loadVar_row _ b8 _ _ _ _ _ H810.out Tryz.underlying220 rfl (by kernel_rfl))) (by rfl) ?_;exact HFIN.out _ rfl
end
end Go.Proofs.YtgfbepakonjbnaaGreat
end
section
namespace Go.Proofs.YtgfbepakonjbnaaGreat
open Go.ChangeShapes Go.WideShapes Go.ChangeAt Go.RowKit
section
theorem own:ownKnob Tryz.prog.godebug=none:=by kernel_rfl
theorem Cl3:laidOutB Tryz.prog=true:=by kernel_rfl
section
variable {H:Type} {enc:TypeId × Value->H}
theorem Al5{W W':World}(hb:Below W.heap.size W W')(sp:Nat->Bool):∀(ts:List TypeId) (vs:List Value) (ds:List (DataW H)) (ps:List MemPlace),DataW.TrodAll enc Tryz.prog W 0 (λ _=>true) true ts vs ds ps->
  (∀t∈ts,Tryz.prog.readableRec t=true/\t<Tryz.prog.types.size)->(∀x∈ps,x.block<W.heap.size)->(∀x∈ps,sp x.block=true)->DataW.TrodAll enc Tryz.prog W' 0 sp true ts vs ds ps
 | [],[],[],ps,h,_,_,_=>h
 | [],[],_ :: _,_,h,_,_,_=>h.elim
 | [],_ :: _,_,_,h,_,_,_=>h.elim
 | _ :: _,[],_,_,h,_,_,_=>h.elim
 | _ :: _,_ :: _,[],_,h,_,_,_=>h.elim
 | t :: ts,v :: vs,d :: ds,ps,h,ht,hlt,hsp=>by
  obtain⟨p,q,h1,h2,rfl⟩:=h;refine⟨p,q,?_,Al5 hb sp ts vs ds q h2 (λ t q=>ht t (by simp[q])) (λ x q=>hlt x (by simp[q])) (λ x q=>hsp x (by simp[q])),rfl⟩;obtain⟨r1,r2⟩:=ht t (by simp);exact WideElems.Trod_stays Cl3 r1 r2 h1 (λ x hx=>hb.same (hlt x (by simp[hx]))) (λ x hx=>hsp x (by simp[hx]))
theorem Ce8{f:Func}{s:ChangeSpec}{W W':World}{args:Array Value}{ds gs:List (DataW H)}{before:List MemPlace}(hW:DataW.Whole enc Tryz.prog f.params.toList s.vars false W args.toList ds gs before)
  (hvars:s.vars=[]) (hrt:f.resultTypes=#[4]) (hfn:s.fn H (ds++gs) = { results:=[.lit (.bool true)],args:=ds }) (hpar:∀t∈f.params.toList,Tryz.prog.readableRec t=true/\t<Tryz.prog.types.size) (hb:Below W.heap.size W W') :
  s.post enc Tryz.prog f false true false false W args (.bool true) W':=by
 have hlt:∀x∈before,x.block<W.heap.size:=λ x hx=>by simpa using hW.lt x hx
 have hW2:=hW;obtain⟨p,q,hA,hV,rfl,_,_⟩:=hW2;rw[hvars] at hV;obtain⟨rfl,rfl⟩:=trodVars_none hV;refine⟨ds,[],p ++ [],[],p,[],hW,?_,?_,?_,hb.frame _,λ h=>by simp at h⟩
 ·rw[hfn,hrt];exact trodAll_cons_mk (shut_bool Tryz.underlying4 _) trodAll_mk0
 ·rw[hfn];exact Al5 hb _ _ _ _ _ hA hpar (λ x hx=>hlt x (by simp[hx])) (λ x hx=>by simpa using hlt x (by simp[hx]))
 ·rw[hfn,hvars];rfl
end
end
end Go.Proofs.YtgfbepakonjbnaaGreat
end
section
namespace Go.Proofs.YtgfbepakonjbnaaGreat
open Go.RowKit
def str(l:List UInt8):ByteArray:=⟨l.toArray⟩
theorem Cl0(bs:ByteArray):∀(m i:Nat) (r:List UInt8),bs.size-i=m->ByteArray.toList.loop bs i r=r.reverse++bs.data.toList.drop i:=by
 intro m;induction m with
 | zero=>
  intro i r h;rw[ByteArray.toList.loop];have hi:¬i<bs.size:=by omega
  rw[if_neg hi,List.drop_eq_nil_of_le (by simp;omega)];simp
 | succ m ih=>
  intro i r h;rw[ByteArray.toList.loop];have hi:i<bs.size:=by omega
  rw[if_pos hi,ih (i+1) _ (by omega)];have hl:i<bs.data.toList.length:=by simpa using hi
  rw[List.drop_eq_getElem_cons hl];have e:bs.get! i=bs.data.toList[i]:=by simp[ByteArray.get!,hi]
  rw[e];simp
theorem Ax4(l:List UInt8):(str l).toList=l:=by
 unfold ByteArray.toList;rw[Cl0 _ (str l).size 0 [] (by omega)];simp[str]
def sv(l:List UInt8):Value:=.string (str l)
theorem Cl1{w:World}{v:Value}{l:List UInt8}(h:Rd w v l)(hl:0<l.length):(convert 32 9 v).run Tryz.prog w=.ok (.string (str l)) w:=by
 obtain⟨ao,cap,rfl,hc,hh⟩:=h;obtain⟨b,off,rfl,hcell⟩:=hh hl;have hsz:(str l).size=l.length:=by simp[str,ByteArray.size]
 have:=Lib.run_convert_whole (P:=Tryz.prog) w 32 5 9 Tryz.underlying32 Tryz.underlying5 Tryz.underlying9 b off (str l) (λ i hi=>by
  rw[hsz] at hi;rw[hcell i hi];rfl) cap
 rw[hsz] at this;exact this
def hl(H:Nat->Sec)(k:Nat):List (List UInt8):=(List.range k).map H
end Go.Proofs.YtgfbepakonjbnaaGreat
namespace Go.Proofs.YtgfbepakonjbnaaGreat
open Go.RowKit
end Go.Proofs.YtgfbepakonjbnaaGreat
namespace Go.Proofs.YtgfbepakonjbnaaGreat
open Go.ChangeShapes Go.WideShapes Go.ChangeAt Go.RowKit Go.Deep
section
variable {H:Type} {enc:TypeId × Value->H} {W:World}
theorem Bg9{α:Type}{p:Nat->α->Prop}:∀n,(∀i,i<n->∃a,p i a)->∃l:List α,l.length=n/\∀i (h:i<l.length),p i l[i]
 | 0,_=>⟨[],rfl,λ i h=>by simp at h⟩
 | n+1,h=>by
  obtain⟨l,hl,hp⟩:=Bg9 n (λ i hi=>h i (by omega));obtain⟨a,ha⟩:=h n (by omega);refine⟨l ++ [a],by simp[hl],λ i hi=>?_⟩;by_cases q:i<l.length
  ·rw[List.getElem_append_left q];exact hp i q
  ·have:i=l.length:=by simp at hi;omega
   subst this;rw[List.getElem_append_right (Nat.le_refl _)];simp only[Nat.sub_self,List.getElem_cons_zero];rw[hl];exact ha
theorem Cl2{n:Int}(h:(Lit.int .u8 n).wf=true):∃c:UInt8,bv c=.int .u8 n:=by
 simp[Lit.wf] at h;have h0:(0:Int)<=n:=h.1;have h1:n<=255:=h.2;refine⟨UInt8.ofNat n.toNat,?_⟩;unfold bv;congr 1
 have:(UInt8.ofNat n.toNat).toNat=n.toNat % 256:=by simp
 rw[this];omega
theorem Bl3{r:Reach}{b0:Nat}{t e:TypeId}{v:Value}{d:DataW H}{ps:List MemPlace}(ht:Tryz.prog.underlying t=some (.slice e))(hval:Value.okWide Tryz.prog W r b0 t v)(hd:DataW.Trod enc Tryz.prog W 0 (λ _=>true) true t v d ps):∃fuel,DataW.trod enc Tryz.prog W 0 (λ _=>true) true fuel t [v]=some (d,ps):=by
 obtain⟨a,len,cap,rfl⟩:=okWide_slice ht hval;obtain⟨fuel,hf⟩:=hd;exact⟨fuel,hf⟩
end
end Go.Proofs.YtgfbepakonjbnaaGreat
end
