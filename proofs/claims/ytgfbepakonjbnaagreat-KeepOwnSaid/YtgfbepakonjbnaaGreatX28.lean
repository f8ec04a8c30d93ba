/-
  Where a walk G8 leaves goes. No program in sight. tree.walk.
-/
import Derived.Test.YtgfbepakonjbnaaGreatX20
import Derived.Test.YtgfbepakonjbnaaGreatX24
import Derived.Test.YtgfbepakonjbnaaGreatX27
set_option maxRecDepth 100000
set_option maxHeartbeats 16000000
section
section
namespace Go.Proofs.YtgfbepakonjbnaaGreat
open Go.RowKit
theorem N7.from{P:Nat->List C0->List Nat->Prop}{key:Bs}:∀{ks:List Bs} {ds:List Nat} {l:List C0} {S:List Nat},N7 P ks ds l S->ks.Pairwise (λ x y=>ltB x y=true)->
  ∃la l2 S1 S2,l=la++l2/\S=S1++S2/\(∀p,p∈la->ltB p.1 key=true)/\N7 P (ks.drop (chK ks key)) (ds.drop (chK ks key)) l2 S2/\(∀x,x∈ks.drop (chK ks key)->ltB key x=true)
 | _,_,l,S,.one h,_=>⟨[],l,[],S,rfl,rfl,by simp,by rw[Aj3];exact .one h,by simp⟩
 | _,_,_,_,.more (l:=l) (S:=S) (key:=x) (ks:=ks) (ds:=ds) (l2:=l2) (S2:=S2) h h1 h2 hk,hp=>by
  have hp2:=(List.pairwise_cons.1 hp).2;have hp1:=(List.pairwise_cons.1 hp).1;rw[Ae1];cases hx:ltB x key
  ·by_cases e:x=key
   ·rw[if_pos e];subst e;exact⟨l,l2,S,S2,rfl,rfl,h1,hk,λ y hy=>hp1 y hy⟩
   ·rw[if_neg e];have hlt:ltB key x=true:=by
     cases q:ltB key x
     ·exact absurd (Y0 hx q) e
     ·rfl
    refine⟨[],l++l2,[],S++S2,rfl,rfl,by simp,.more h h1 h2 hk,λ y hy=>?_⟩;rcases List.mem_cons.1 hy with rfl | hy
    ·exact hlt
    ·exact L7 hlt (hp1 y hy)
  ·simp only[if_true];obtain⟨la,l3,S1,S3,rfl,rfl,q1,q2,q3⟩:=N7.from (key:=key) hk hp2;refine⟨l++la,l3,S++S1,S3,by simp,by simp,λ p hq=>?_,q2,q3⟩;rcases List.mem_append.1 hq with q | q
   ·exact L7 (h1 p q) hx
   ·exact q1 p q
theorem N7.step{P:Nat->List C0->List Nat->Prop}{key:Bs}{ks:List Bs}{ds:List Nat}{l:List C0}{S:List Nat}(h:N7 P ks ds l S)(hk:∀x,x∈ks->ltB key x=true) :
  ∃kid l1 l2 S1 S2,ds[0]?=some kid/\P kid l1 S1/\l=l1++l2/\S=S1++S2/\(∀p,p∈l2->ltB key p.1=true)/\(ds.length=1/\l2=[]/\S2=[]∨1<ds.length/\N7 P (ks.drop 1) (ds.drop 1) l2 S2):=by
 cases h with
 | one h=>exact⟨_,_,[],_,[],rfl,h,by simp,by simp,by simp,.inl ⟨rfl,rfl,rfl⟩⟩
 | more h h1 h2 hkk=>
  rename_i k l x ks ds l2 S2;refine⟨_,_,_,_,_,rfl,h,rfl,rfl,λ p hp=>?_,.inr ⟨?_,hkk⟩⟩
  ·have hx:=hk _ (List.mem_cons_self);cases q:ltB key p.1
   ·have:=Z7 (a:=p.1) q hx;rw[h2 p hp] at this;simp at this
   ·rfl
  ·cases hkk<;>simp
structure Bg7(α:Type) where
 F:α->List C0->α × Bool
 go:∀a l1 l2,(F a l1).2=true->F a (l1++l2)=F (F a l1).1 l2
 stop:∀a l1 l2,(F a l1).2=false->F a (l1++l2)=((F a l1).1,false)
 nil:∀a,F a []=(a,true)
 wt:α->Nat
 grow:∀a l,wt (F a l).1<=wt a+l.length
def WFr(U:List Nat)(B:Nat)(T:TypeId)(w w':World):Prop:=∃S,Upd S w w'/\∀k,k∈S->k∈U∨(B<=k/\∃c,w.heap[k]?=some (.cells c T (0,0)))
section
variable {U:List Nat} {B:Nat} {T:TypeId} {a b c:World}
theorem WFr.of{S:List Nat}(h:Upd S a b)(hS:∀k,k∈S->k∈U):WFr U B T a b:=⟨S,h,λ k hk=> .inl (hS k hk)⟩
theorem WFr.size(h:WFr U B T a b):a.heap.size<=b.heap.size:=by obtain⟨S,hu,_⟩:=h;exact hu.size
theorem WFr.mono{U':List Nat}(h:WFr U B T a b)(hU:∀k,k∈U->k∈U'):WFr U' B T a b:=by
 obtain⟨S,hu,hS⟩:=h;exact⟨S,hu,λ k hk=>(hS k hk).imp (hU k) id⟩
theorem WFr.blk(h:WFr U B T a b){k:Nat}{cs:Array Value}{T2:TypeId}{fr:Nat × Nat}(hk:a.heap[k]?=some (.cells cs T2 fr))(hU:k∉U)(hn:T2≠T∨k<B):b.heap[k]?=some (.cells cs T2 fr):=by
 obtain⟨S,hu,hS⟩:=h;refine(hu.block _ (A3 hk) (λ q=>?_)).trans hk;rcases hS k q with r | ⟨r1,c,r2⟩
 ·exact hU r
 ·rcases hn with hn | hn
  ·rw[hk] at r2;simp at r2;exact hn r2.2.1
  ·omega
theorem WFr.trans(h:WFr U B T a b)(k:WFr U B T b c):WFr U B T a c:=by
 obtain⟨S,hu,hS⟩:=h;obtain⟨S2,hu2,hS2⟩:=k;refine⟨S++S2.filter (λ i=>decide (i<a.heap.size)),⟨hu2.os.trans hu.os,hu2.tape.trans hu.tape,hu2.output.trans hu.output,Nat.le_trans hu.size hu2.size,λ i hi hs=>?_⟩,λ i hi=>?_⟩
 ·simp only[List.mem_append,List.mem_filter,decide_eq_true_eq,not_or,not_and] at hs;exact(hu2.block i (Nat.lt_of_lt_of_le hi hu.size) (λ q=>hs.2 q hi)).trans (hu.block i hi hs.1)
 ·rcases List.mem_append.1 hi with q | q
  ·exact hS i q
  ·simp only[List.mem_filter,decide_eq_true_eq] at q;by_cases hs:i∈S
   ·exact hS i hs
   ·rcases hS2 i q.1 with r | ⟨r1,c,r2⟩
    ·exact .inl r
    ·exact .inr ⟨r1,c,(hu.block i q.2 hs).symm.trans r2⟩
end
end Go.Proofs.YtgfbepakonjbnaaGreat
end
section
namespace Go.Proofs.YtgfbepakonjbnaaGreat
open Go.RowKit Go.MapKept Go.ChangeMaps
abbrev TP:TypeId:=169
def Cy3{α:Type}(t:Bg7 α)(g:Sg)(M:Nat->Option Sec)(fid:Nat)(caps:Array Value)(U:List Nat)(B:Nat)(Inv:α->World->Prop):Prop:=
 ∀(a:α) (w:World) (l:List C0) (vk vv:Value) (Bk:Nat),Inv a w->B7 w g M->l≠[]->t.wt a+l.length<=1000->Q5 (l.map (·.1)) (l.map (·.2))->F5 w Bk vk (l.map (·.1))->G7 w Bk vv (l.map (·.2))->(∀k,k∈U->k<Bk)->
  Calls Tryz.prog fid (#[.agg #[.int .i64 1,vk,vv,.slice none 0 0]]++caps) w λ e w'=>e=.returned (.bool (t.F a l).2)/\Inv (t.F a l).1 w'/\B7 w' g M/\WFr U B TP w w'
theorem B7.turnedI{w w':World}{g:Sg}{M:Nat->Option Sec}(h:B7 w g M){S:List Nat}(hb:∀b,b∈S->∃c fr,w.heap[b]?=some (.cells c 3 fr))(hu:Upd S w w'):B7 w' g M:=by
 refine⟨h.jr.own hu (λ k hk=>?_),h.tx.upd hu (λ hk=>?_) (λ hk=>?_) (λ k c hk e=>?_),h.ne,h.ok,h.len,h.fx⟩
 ·obtain⟨c,fr,hb⟩:=hb k hk;exact⟨_,_,_,hb,by decide,by decide,by decide,by decide⟩
 ·obtain⟨c,fr,hb⟩:=hb _ hk;have:=h.tx.st;rw[hb] at this;simp at this
 ·obtain⟨c,fr,hb⟩:=hb _ hk;exact h.tx.map hb
 ·obtain⟨c2,fr,hb⟩:=hb _ hk;rw[hb] at e;simp at e
attribute [-go_sem] loadCells storeCells
theorem Ae3{w w':World}{B n sz:Nat}{e:TypeId}{v:Value}{xs:List Value}(h:w.ownsRow B e sz v n xs){b:Nat}{c:Array Value}{T:TypeId}{fr:Nat × Nat}(hb:w.heap[b]?=some (.cells c T fr))(hu:Upd [b] w w')(hT:e≠T):w'.ownsRow B e sz v n xs:=
 C4 h hu (λ k c' hk _ e'=>by simp at hk;subst hk;rw[hb] at e';simp at e';exact hT e'.2.1.symm)
theorem WFr.own{U:List Nat}{Bf:Nat}{T:TypeId}{w w':World}(h:WFr U Bf T w w'){B n sz:Nat}{e:TypeId}{v:Value}{xs:List Value}(ho:w.ownsRow B e sz v n xs)(hne:e≠T)(hU:∀k,k∈U->k<B):w'.ownsRow B e sz v n xs:=by
 refine⟨ho.1,?_⟩;rcases ho.2 with h0 | ⟨g,cap,cur,e1,hb,hg,r⟩
 ·exact .inl h0
 ·exact .inr ⟨g,cap,cur,e1,hb,h.blk hg (λ q=>by have:=hU g q;omega) (.inl hne),r⟩
theorem Ck9{α:Type}{t:Bg7 α}{g:Sg}{M:Nat->Option Sec}{fid lb:Nat}{caps:Array Value}{U:List Nat}{B:Nat}{Inv:α->World->Prop}
  (hTold:Cy3 t g M fid caps U B Inv) (hInv:∀a w w',Inv a w->Upd [g.j.jb] w w'->Inv a w') (hInv2:∀a w w',Inv a w->Upd [lb] w w'->Inv a w')
  {w:World} (h:B7 w g M) {root:Bool} {at_:Nat} {l:List C0} {S:List Nat} (hs:F6 (g.cur M) root 0 at_ l S) (hS:∀s,s∈S->4<=s/\s<g.h) (from_:Bs) (deep:Int) (hd:1<=deep) {x:Int} (hx:(S.length:Int)<=x) (hx2:x<=100000)
  (hlb:w.heap[lb]?=some (.cells #[.int .i64 x] 3 (0,0))) (a:α) (hI:Inv a w) (hU:∀k,k∈U->k<w.heap.size) (hlU:lb∉U) (hent:∀args w,(callFunc fid args).run Tryz.prog w=.ok (.enter fid args) w) (hwt:t.wt a+l.length<=1000) :
  Calls Tryz.prog 136 #[.pointer (some ⟨g.x.tb,0,none⟩),.int .u32 (at_:Int),arr from_,.int .i64 deep,.pointer (some ⟨lb,0,none⟩),.func (.func fid) #[] caps] w λ e w'=>e=.returned (.tuple #[.bool (t.F a l).2,.int .i64 0])/\Inv (t.F a l).1 w'/\B7 w' g M/\w'.heap[lb]?=some (.cells #[.int .i64 (x-1)] 3 (0,0))/\WFr (lb :: g.j.jb :: U) B TP w w':=by
 have hlow:=hS at_ hs.mem.1;have hlt4:=hs.mem.2;have hdb:(deep == 0)=false:=by rw[beq_eq_false_iff_ne];omega
 have hl1:(1:Int)<=(S.length:Int):=by rw[hs.1];simp
 have hxw:IntKind.i64.wrap (x-1)=x-1:=by rw[IntKind.wrap_i64];omega
 have hx0:decide (x-1<0)=false:=decide_eq_false (by omega);clear hl1;obtain⟨wA,hwA⟩:∃wA,wA=w.alloc (.cells (bts from_).toArray 35):=⟨_,rfl⟩;have huA:Upd [] w wA:=by rw[hwA];exact(Upd.refl _ _).alloc _
 have hA:=h.below huA;have hR:=An2 hA at_ hlow.2 hlt4 hs.2.2.1 hs.2.2.2.1;have HR:=η hR;have HLB:=η ((huA.block _ (A3 hlb) (by simp)).trans hlb);have HA:=η hA;have HUA:=η huA;have HW:=η hwA;have HSH:=η hs;have HI:=η hI;have HU:=η hU;have HTD:=η hTold;have HIV:=η hInv;have HIV2:=η hInv2;clear h hs hS hlb hI hU hA hR huA hwA hTold hInv hInv2;unfold arr;go_enter Tryz.func136,Tryz.ntmps136
 go_wp2_with fail
 have hwA:=HW.out;rw[← hwA];clear hwA;refine HR.out.mono ?_;rintro e w2 ⟨vk,vv,rfl,hK,hV,h2,hu2⟩;obtain⟨ak,ck,rfl⟩:=E9 hK;obtain⟨av,cv,rfl⟩:=E9 hV;have hlk:(l.map (·.1)).length=l.length:=List.length_map _;have hlv:(l.map (·.2)).length=l.length:=List.length_map _;rw[hlk,hlv];rw[hlk] at hK;rw[hlv] at hV;clear hlk hlv;obtain⟨b14,hb14⟩:∃b,b=w2.heap.size:=⟨_,rfl⟩;obtain⟨w3,hw3⟩:∃w3,w3=w2.alloc (.cells #[.int .i64 1,.slice ak l.length ck,.slice av l.length cv,.slice none 0 0] 220):=⟨_,rfl⟩;have st14:=R8 w2 ak av none 1 l.length ck l.length cv 0 0;rw[← hw3] at st14;have hu3:Upd [] w2 w3:=by rw[hw3];exact(Upd.refl _ _).alloc _
 have c14:w3.heap[b14]?=some (.cells #[.int .i64 1,.slice ak l.length ck,.slice av l.length cv,.slice none 0 0] 220 (0,0)):=by rw[hw3,hb14];exact A4 _
 have lbj:lb∉[g.j.jb]:=by
  have:=HA.out.jr.at_.kind HLB.out (by decide) (by decide) (by decide);simp only[List.mem_singleton];rintro rfl;exact this (by simp[JG.all])
 have lb3:=(hu3.block _ (A3 ((hu2.block _ (A3 HLB.out) lbj).trans HLB.out)) (by simp)).trans ((hu2.block _ (A3 HLB.out) lbj).trans HLB.out);have mlb:w3.cell? ⟨lb,0,none⟩=some (.int .i64 x):=A2 lb3 0;obtain⟨w4,hw4⟩:∃w4,w4=w3.setCell ⟨lb,0,none⟩ (.int .i64 (x-1)):=⟨_,rfl⟩;have stl:=J6 lb3 0 (v:=.int .i64 (x-1)) (by simp) rfl;rw[← hw4] at stl;have hu4:Upd [lb] w3 w4:=by rw[hw4];exact(Upd.refl _ _).set _ (.inl (by simp))
 have lb4:w4.heap[lb]?=some (.cells #[.int .i64 (x-1)] 3 (0,0)):=by rw[hw4];exact A8 lb3 0 _
 have hne:b14≠lb:=by rintro rfl;rw[c14] at lb3;simp at lb3
 have c144:=(hu4.block _ (A3 c14) (by simpa using hne)).trans c14;have l14:=B8 (n:=4) (cs:=[.int .i64 1,.slice ak l.length ck,.slice av l.length cv,.slice none 0 0]) c144 rfl;have m14:=A2 c144 0;have mlb4:=A2 lb4 0;rw[hb14] at l14 m14;have hK4:=Ae3 (C4 (S:=[]) hK hu3 (by simp)) lb3 hu4 (by decide);have hV4:=Ae3 (C4 (S:=[]) hV hu3 (by simp)) lb3 hu4 (by decide);have HTC:Hid (Inv a w4->B7 w4 g M->Calls Tryz.prog fid (#[.agg #[.int .i64 1,.slice ak l.length ck,.slice av l.length cv,.slice none 0 0]]++caps) w4 λ e w'=>e=.returned (.bool (t.F a l).2)/\Inv (t.F a l).1 w'/\B7 w' g M/\WFr U B TP w4 w'):=by
  show _->_->_
  exact λ i h=>HTD.out a w4 l _ _ wA.heap.size i h HSH.out.ne hwt HSH.out.2.2.1 hK4 hV4 (λ k hk=>Nat.lt_of_lt_of_le (HU.out k hk) HUA.out.size)
 have HI4:Hid (Inv a w4):=η (HIV2.out _ _ _ (HIV.out _ _ _ (HIV.out _ _ _ (HIV.out _ _ _ HI.out (HUA.out.mono (by simp))) hu2) (hu3.mono (by simp))) hu4);have HS4:Hid (B7 w4 g M):=by
  show B7 _ _ _
  exact(h2.below hu3).turnedI (λ b hb=>by simp at hb;subst hb;exact⟨_,_,lb3⟩) hu4
 have HU4:Hid (WFr (lb :: g.j.jb :: U) B TP w w4):=by
  show WFr _ _ _ _ _
  exact(((WFr.of (HUA.out) (by simp)).trans (WFr.of hu2 (by simp))).trans (WFr.of hu3 (by simp))).trans (WFr.of hu4 (by simp))
 have HLB4:=η lb4;clear hK hV hw3 hu3 c14 lb3 hw4 hu4 lb4 hne c144 hK4 hV4 h2 hu2 lbj hb14;go_wp2_with fail
 refine(HTC.out HI4.out HS4.out).mono ?_;rintro e w5 ⟨rfl,hi5,h5,hf5⟩;have HI5:=η hi5;have H5:=η h5;have HF5:=η hf5;clear hi5 h5 hf5;go_wp2_with fail
 go_ret2;exact⟨rfl,HI5.out,H5.out,HF5.out.blk HLB4.out hlU (.inl (by decide)),HU4.out.trans (HF5.out.mono (by intro k hk;simp[hk]))⟩
theorem G0.at{w:World}{B gd n c:Nat}{ds:List Nat}(h:G0 w B (.slice (some ⟨gd,0,none⟩) n c) ds){i d:Nat}(hd:ds[i]?=some d):w.cell? ⟨gd,i,none⟩=some (.int .u32 (d:Int)):=by
 have hi:=(List.getElem?_eq_some_iff.1 hd).1;obtain⟨_,_,e,_,hc⟩:=h.cell (by omega);cases e
 exact hc i d hd
def At9{α:Type}(t:Bg7 α)(g:Sg)(M:Nat->Option Sec)(lb:Nat)(U:List Nat)(B:Nat)(Inv:α->World->Prop)(from_:Bs)(l:List C0)(n:Nat)(x:Int)(a:α)(w:World)(e:Ending)(w':World):Prop:=
 ∃(la lv:List C0) (y:Int),l=la++lv/\(∀p,p∈la->ltB p.1 from_=true)/\e=.returned (.tuple #[.bool (t.F a lv).2,.int .i64 0])/\Inv (t.F a lv).1 w'/\B7 w' g M/\w'.heap[lb]?=some (.cells #[.int .i64 y] 3 (0,0))/\x-n<=y/\y<=x/\WFr (lb :: g.j.jb :: U) B TP w w'
theorem Cc8{α:Type}{t:Bg7 α}{g:Sg}{M:Nat->Option Sec}{fid lb:Nat}{caps:Array Value}{U:List Nat}{B:Nat}{Inv:α->World->Prop}
  (hInv:∀a w w',Inv a w->Upd [g.j.jb] w w'->Inv a w') (hInv2:∀a w w',Inv a w->Upd [lb] w w'->Inv a w') (hlU:lb∉U) {d:Nat} {S:List Nat} {from_:Bs} (hfrom:from_.length=32) {deep:Int}
  (ih:∀(w':World) (kid:Nat) (lc:List C0) (Sc:List Nat) (x':Int) (a':α),B7 w' g M->F6 (g.cur M) false d kid lc Sc->(∀s,s∈Sc->s∈S)->(Sc.length:Int)<=x'->x'<=100000->w'.heap[lb]?=some (.cells #[.int .i64 x'] 3 (0,0))->Inv a' w'->(∀k,k∈U->k<w'.heap.size)->t.wt a'+lc.length<=1000->
   Calls Tryz.prog 136 #[.pointer (some ⟨g.x.tb,0,none⟩),.int .u32 (kid:Int),.agg (bts from_).toArray,.int .i64 (deep-1),.pointer (some ⟨lb,0,none⟩),.func (.func fid) #[] caps] w' (At9 t g M lb U B Inv from_ lc Sc.length x' a' w'))
  {w:World} (h:B7 w g M) {root:Bool} {at_:Nat} {l:List C0} (hs:F6 (g.cur M) root (d+1) at_ l S) (hS:∀s,s∈S->4<=s/\s<g.h) (hd:1<=deep) (hd2:deep<=16) {x:Int} (hx:(S.length:Int)<=x) (hx2:x<=100000)
  (hlb:w.heap[lb]?=some (.cells #[.int .i64 x] 3 (0,0))) (a:α) (hI:Inv a w) (hU:∀k,k∈U->k<w.heap.size) (hwt:t.wt a+l.length<=1000) :
  Calls Tryz.prog 136 #[.pointer (some ⟨g.x.tb,0,none⟩),.int .u32 (at_:Int),arr from_,.int .i64 deep,.pointer (some ⟨lb,0,none⟩),.func (.func fid) #[] caps] w (At9 t g M lb U B Inv from_ l S.length x a w):=by
 have hlow:=hS at_ hs.mem.1;have hlt4:=hs.mem.2;obtain⟨_,ks,ds,S',rfl,hok,hc,_,hp,hkids⟩:=hs;obtain⟨la0,l20,S10,S20,el,eS,hla0,hk0,hkk0⟩:=hkids.from (key:=from_) hp;obtain⟨I,hI0⟩:∃I,chK ks from_=I:=⟨_,rfl⟩;rw[hI0] at hk0 hkk0;have hIl:I<=ks.length:=by rw[← hI0];exact Cc7 _ _
 have hdl:ds.length=ks.length+1:=hok.n;have hdb:(deep == 0)=false:=by rw[beq_eq_false_iff_ne];omega
 have hdw:IntKind.i64.wrap (deep-1)=deep-1:=by rw[IntKind.wrap_i64];omega
 have hxw:IntKind.i64.wrap (x-1)=x-1:=by rw[IntKind.wrap_i64];simp only[List.length_cons] at hx;omega
 have hx0:decide (x-1<0)=false:=decide_eq_false (by simp only[List.length_cons] at hx;omega);obtain⟨wA,hwA⟩:∃wA,wA=w.alloc (.cells (bts from_).toArray 35):=⟨_,rfl⟩;have huA:Upd [] w wA:=by rw[hwA];exact(Upd.refl _ _).alloc _
 obtain⟨b8,hb8⟩:∃b,b=w.heap.size:=⟨_,rfl⟩;have c8A:wA.heap[b8]?=some (.cells (bts from_).toArray 35 (0,0)):=by rw[hwA,hb8];exact A4 _
 have hA:=h.below huA;have hR:=Aq6 hA at_ hlow.2 hlt4 hok hc;have HR:=η hR;have HLB:=η ((huA.block _ (A3 hlb) (by simp)).trans hlb);have HC8:=η c8A;have HA:=η hA;have HUA:=η huA;have HW:=η hwA;have HI:=η hI;have HU:=η hU;have HIV:=η hInv;have HIV2:=η hInv2;have HIH:=η ih;have HOK:=η hok;have HK0:Hid (l=la0++l20/\S'=S10++S20/\(∀p,p∈la0->ltB p.1 from_=true)/\N7 (λ k l S=>F6 (g.cur M) false d k l S) (ks.drop I) (ds.drop I) l20 S20/\(∀y,y∈ks.drop I->ltB from_ y=true)):=η ⟨el,eS,hla0,hk0,hkk0⟩;have HX:Hid ((S'.length:Int)+1<=x/\x<=100000):=by show _/\_;simp only[List.length_cons] at hx;exact⟨by omega,hx2⟩
 have HI0:=η hI0;have HB8:=η hb8;clear h hS hlb hI hU hA hR huA hwA hInv hInv2 ih hok hc hkids el eS hla0 hk0 hkk0 hp hx c8A hI0 hx2 hb8;unfold arr;go_enter Tryz.func136,Tryz.ntmps136
 go_wp2_with fail
 have hwA:=HW.out;have hb8:=HB8.out;rw[← hwA,← hb8];clear hwA hb8;refine HR.out.mono ?_;rintro e w2 ⟨vk,vd,rfl,hK,hD,h2,hu2⟩;obtain⟨ak,ck,rfl⟩:=E9 hK;obtain⟨gd,cd,ed,_⟩:=hD.cell (by omega);subst ed;have HDL:=η hdl;clear hdl;obtain⟨b14,hb14⟩:∃b,b=w2.heap.size:=⟨_,rfl⟩;obtain⟨w3,hw3⟩:∃w3,w3=w2.alloc (.cells #[.int .i64 2,.slice ak ks.length ck,.slice none 0 0,.slice (some ⟨gd,0,none⟩) ds.length cd] 220):=⟨_,rfl⟩;have st14:=R8 w2 ak none (some ⟨gd,0,none⟩) 2 ks.length ck 0 0 ds.length cd;rw[← hw3] at st14;have hu3:Upd [] w2 w3:=by rw[hw3];exact(Upd.refl _ _).alloc _
 have c14:w3.heap[b14]?=some (.cells #[.int .i64 2,.slice ak ks.length ck,.slice none 0 0,.slice (some ⟨gd,0,none⟩) ds.length cd] 220 (0,0)):=by rw[hw3,hb14];exact A4 _
 have lbj:lb∉[g.j.jb]:=by
  have:=HA.out.jr.at_.kind HLB.out (by decide) (by decide) (by decide);simp only[List.mem_singleton];rintro rfl;exact this (by simp[JG.all])
 have b8j:b8∉[g.j.jb]:=by
  have:=HA.out.jr.at_.kind HC8.out (by decide) (by decide) (by decide);simp only[List.mem_singleton];rintro rfl;exact this (by simp[JG.all])
 have lb2:=(hu2.block _ (A3 HLB.out) lbj).trans HLB.out;have lb3:=(hu3.block _ (A3 lb2) (by simp)).trans lb2;have c82:=(hu2.block _ (A3 HC8.out) b8j).trans HC8.out;have c83:=(hu3.block _ (A3 c82) (by simp)).trans c82;have mlb:w3.cell? ⟨lb,0,none⟩=some (.int .i64 x):=A2 lb3 0;obtain⟨w4,hw4⟩:∃w4,w4=w3.setCell ⟨lb,0,none⟩ (.int .i64 (x-1)):=⟨_,rfl⟩;have stl:=J6 lb3 0 (v:=.int .i64 (x-1)) (by simp) rfl;rw[← hw4] at stl;have hu4:Upd [lb] w3 w4:=by rw[hw4];exact(Upd.refl _ _).set _ (.inl (by simp))
 have lb4:w4.heap[lb]?=some (.cells #[.int .i64 (x-1)] 3 (0,0)):=by rw[hw4];exact A8 lb3 0 _
 have hne:b14≠lb:=by rintro rfl;rw[c14] at lb3;simp at lb3
 have hne8:b8≠lb:=by rintro rfl;rw[c83] at lb3;simp at lb3
 have hjj:=(h2.below hu3).jr.at_.kind c14 (by decide) (by decide) (by decide);have hjA:=HA.out.jr.at_.lt;have hN14:b14∉lb :: g.j.jb :: U:=by
  intro q;rcases List.mem_cons.1 q with q | q
  ·exact hne q
  rcases List.mem_cons.1 q with q | q
  ·exact hjj (by rw[q];simp[JG.all])
  ·have:=HU.out _ q;have:=hu2.size;have:=HUA.out.size;omega
 have hN8:b8∉lb :: g.j.jb :: U:=by
  intro q;rcases List.mem_cons.1 q with q | q
  ·exact hne8 q
  rcases List.mem_cons.1 q with q | q
  ·exact b8j (by simp[q])
  ·have:=HU.out _ q;have:=HB8.out;omega
 have hNU:∀k,k∈lb :: g.j.jb :: U->k<wA.heap.size:=by
  intro k q;rcases List.mem_cons.1 q with q | q
  ·rw[q];exact A3 HLB.out
  rcases List.mem_cons.1 q with q | q
  ·rw[q];exact hjA.1
  ·have:=HU.out _ q;have:=HUA.out.size;omega
 have HN14:=η hN14;have HN8:=η hN8;have HNU:=η hNU;clear hjj hjA hN14 hN8 hNU;have c144:=(hu4.block _ (A3 c14) (by simpa using hne)).trans c14;have c84:=(hu4.block _ (A3 c83) (by simpa using hne8)).trans c83;have l14:=B8 (n:=4) (cs:=[.int .i64 2,.slice ak ks.length ck,.slice none 0 0,.slice (some ⟨gd,0,none⟩) ds.length cd]) c144 rfl;have l8:=B8 (n:=32) c84 (by rw[A5,hfrom]);have m14:=A2 c144 0;have mlb4:=A2 lb4 0;rw[hb14] at l14 m14;have hK4:=Ae3 (C4 (S:=[]) hK hu3 (by simp)) lb3 hu4 (by decide);have hD4:=Ae3 (C4 (S:=[]) hD hu3 (by simp)) lb3 hu4 (by decide);have hC:=Aq4 (w:=w4) (vv:=.slice none 0 0) (vd:=.slice (some ⟨gd,0,none⟩) ds.length cd) 2 (F5.rd hK4 HOK.out.k) HOK.out.k (by have:=HOK.out.most;omega) from_ hfrom
 rw[HI0.out] at hC;have HC:=η hC;have HD4:=η hD4;have HI4:Hid (Inv a w4):=η (HIV2.out _ _ _ (HIV.out _ _ _ (HIV.out _ _ _ (HIV.out _ _ _ HI.out (HUA.out.mono (by simp))) hu2) (hu3.mono (by simp))) hu4);have HS4:Hid (B7 w4 g M):=by
  show B7 _ _ _
  exact(h2.below hu3).turnedI (λ b hb=>by simp at hb;subst hb;exact⟨_,_,lb3⟩) hu4
 have HU4:Hid (WFr (lb :: g.j.jb :: U) B TP w w4):=by
  show WFr _ _ _ _ _
  exact(((WFr.of (HUA.out) (by simp)).trans (WFr.of hu2 (by simp))).trans (WFr.of hu3 (by simp))).trans (WFr.of hu4 (by simp))
 have HLB4:=η lb4;have HC14:=η c144;have HC84:=η c84;have HB14:=η hb14;clear hK hD hw3 hu3 c14 lb3 hw4 hu4 lb4 hne c144 hK4 hD4 h2 hu2 lbj hb14 hC c83 c82 lb2 c84 b8j hne8;unfold arr at HC;go_wp2_with fail
 refine HC.out.mono ?_;rintro e w5 ⟨rfl,hu5⟩;have hb14:=HB14.out;rw[← hb14];clear hb14;have HU5:=η hu5;clear hu5;go_wp2_with fail
 have hwA8:w.heap.size<=wA.heap.size:=HUA.out.size;go_loopw [16] (λ i wr=>∃(q:Nat) (la ldone l2:List C0) (S2:List Nat) (y:Int),q<=ds.length/\i=.int .i64 (q:Int)/\l=la++(ldone++l2)/\(∀p,p∈la->ltB p.1 from_=true)/\(t.F a ldone).2=true/\Inv (t.F a ldone).1 wr/\B7 wr g M/\
   (q<ds.length/\N7 (λ k l S=>F6 (g.cur M) false d k l S) (ks.drop q) (ds.drop q) l2 S2/\(∀z,z∈ks.drop q->ltB from_ z=true)/\(∀s,s∈S2->s∈S')∨q=ds.length/\l2=[]/\S2=[])/\(ldone=[]∨∀p,p∈l2->ltB from_ p.1=true)/\
   wr.heap[lb]?=some (.cells #[.int .i64 y] 3 (0,0))/\(S2.length:Int)<=y/\x-(S'.length+1)<=y-S2.length/\y<=x/\
   wr.heap[b14]?=some (.cells #[.int .i64 2,.slice ak ks.length ck,.slice none 0 0,.slice (some ⟨gd,0,none⟩) ds.length cd] 220 (0,0))/\wr.heap[b8]?=some (.cells (bts from_).toArray 35 (0,0))/\G0 wr wA.heap.size (.slice (some ⟨gd,0,none⟩) ds.length cd) ds/\WFr (lb :: g.j.jb :: U) B TP w wr/\w5.heap.size<=wr.heap.size) (λ i _=>ds.length-(intOf i).toNat)
 case atStart=>
  obtain⟨e1,e2,e3,e4,e5⟩:=HK0.out;have hd:=HDL.out;refine⟨I,la0,[],l20,S20,x-1,by omega,rfl,by simpa using e1,e3,by rw[t.nil],?_,HS4.out.below HU5.out,.inl ⟨by omega,e4,e5,λ s hs=>by rw[e2];simp[hs]⟩,.inl rfl,(HU5.out.block _ (A3 HLB4.out) (by simp)).trans HLB4.out,?_,?_,by omega,(HU5.out.block _ (A3 HC14.out) (by simp)).trans HC14.out,(HU5.out.block _ (A3 HC84.out) (by simp)).trans HC84.out,C4 (S:=[]) HD4.out HU5.out (by simp),HU4.out.trans (WFr.of HU5.out (by simp)),Nat.le_refl _⟩
  ·rw[t.nil];exact HIV.out _ _ _ HI4.out (HU5.out.mono (by simp))
  ·have:=HX.out.1;rw[e2,List.length_append] at this;omega
  ·have:=HX.out.1;rw[e2,List.length_append] at this ⊢;omega
 case round=>
  obtain⟨q,la,ldone,l2,S2,y,hq,rfl,el,hla,hgo,hinv,hsp,hkd,hfl,hlb,hy1,hy2,hy3,c14,c8,hD,hfr,hsz⟩:=hrel;have m3:=A2 c14 3;rcases hkd with⟨hlt,hk,hkk,hsub⟩ | ⟨rfl,rfl,rfl⟩
  ·obtain⟨kid,l1,l2',S1,S2',hk0,hsh,rfl,rfl,hgt,hrest⟩:=hk.step hkk;rw[List.getElem?_drop,Nat.add_zero] at hk0;obtain⟨_,_,e,_,hcell⟩:=hD.cell (by omega);cases e
   have kc:=hcell q kid hk0;have r8:wr.rangeAt b8 0 (bts from_):=λ j u hj=>by rw[A2 c8,← hj];simp
   have hqb:decide ((q:Int)<(ds.length:Int))=true:=decide_eq_true (by omega);have hqi:(q:Int)<(ds.length:Int):=by omega
   have hq0:(0:Int)<=(q:Int):=by omega
   have hud:=Tryz.underlying35;have hi35:(Tryz.prog.info? 35).map (·.size)=some (bts from_).length:=by rw[A5,hfrom];exact Aj1
   have HWK:Hid (Calls Tryz.prog 136 #[.pointer (some ⟨g.x.tb,0,none⟩),.int .u32 (kid:Int),.agg (bts from_).toArray,.int .i64 (deep-1),.pointer (some ⟨lb,0,none⟩),.func (.func fid) #[] caps] wr.drew (At9 t g M lb U B Inv from_ l1 S1.length y (t.F a ldone).1 wr.drew)):=by
    refine HIH.out wr.drew kid l1 S1 y _ (hsp.below (Upd.refl [] _).drew) hsh (λ s hs=>List.mem_cons_of_mem _ (hsub s (by simp[hs]))) ?_ ?_ hlb ?_ ?_ ?_
    ·rw[List.length_append] at hy1;omega
    ·have:=HX.out.2;omega
    ·exact HIV.out _ _ _ hinv ((Upd.refl _ _).drew)
    ·exact λ k hk=>Nat.lt_of_lt_of_le (HU.out k hk) hfr.size
    ·have h1:=t.grow a ldone;have h2:l.length=la.length+(ldone.length+(l1.length+l2'.length)):=by rw[el];simp
     omega
   have HEL:=η el;have HKD0:=η hk0;have HLA:=η hla;have HGO:=η hgo;have HFL:=η hfl;have HGT:=η hgt;have HRS:=η hrest;have HKK:=η hkk;have HSB:=η hsub;have HY:Hid (((S1++S2').length:Int)<=y/\x-(S'.length+1)<=y-(S1++S2').length/\y<=x):=η ⟨hy1,hy2,hy3⟩;have HC14r:=η c14;have HC8r:=η c8;have HDr:=η hD;have HFr:=η hfr;have HSZ:=η hsz;clear el hla hgo hinv hsp hfl hlb hy1 hy2 hy3 c14 c8 hD hfr hk hkk hsub hsh hgt hrest hk0 hcell hsz;go_wp2_with fail
   go_region_held3 (λ w'=>w'.cell? ⟨b14,3,none⟩=some (.slice (some ⟨gd,0,none⟩) ds.length cd)/\w'.cell? ⟨gd,q,none⟩=some (.int .u32 (kid:Int))/\w'.rangeAt b8 0 (bts from_)) (refine⟨?_,?_,?_⟩<;>first | assumption | (exact D6 (by assumption) ((Upd.refl [] _).drew) (by simp)) | (exact F7 (by assumption) ((Upd.refl [] _).drew) (by simp)))
    (first | (go_at_call 136;(with_reducible refine HWK.out.mono ?_);rintro e w6 ⟨la1,lv1,y1,el1,hla1,rfl,hi6,h6,hlb6,hy61,hy62,hf6⟩;have c146:=hf6.blk (HC14r.out:wr.drew.heap[b14]?=_) HN14.out (.inl (by decide));have c86:=hf6.blk (HC8r.out:wr.drew.heap[b8]?=_) HN8.out (.inl (by decide));have hD6:=hf6.own (C4 (S:=[]) HDr.out (Upd.refl [] _).drew (by simp)) (by decide) HNU.out;have m36:=A2 c146 3;have kc6:=G0.at hD6 HKD0.out;have r86:w6.rangeAt b8 0 (bts from_):=(λ j u hj=>by rw[A2 c86,← hj];simp)))
   have hgoF:t.F a (ldone++lv1)=t.F (t.F a ldone).1 lv1:=t.go _ _ _ HGO.out;rw[← hgoF] at hi6 ⊢;have hcomm:ldone++la1=la1++ldone:=by
    rcases HFL.out with rfl | h0
    ·simp
    ·cases la1 with
     | nil=>simp
     | cons p la1=>
      have h1:=hla1 p (by simp);have h2:=h0 p (by rw[el1];simp);rw[T5 h1] at h2;simp at h2
   have hl:l=(la++la1)++((ldone++lv1)++l2'):=by
    rw[HEL.out,el1];have:ldone++((la1++lv1)++l2')=(ldone++la1)++(lv1++l2'):=by simp
    rw[this,hcomm];simp
   have hla:∀p,p∈la++la1->ltB p.1 from_=true:=λ p hp=>by
    rcases List.mem_append.1 hp with x | x
    ·exact HLA.out p x
    ·exact hla1 p x
   have hfr6:WFr (lb :: g.j.jb :: U) B TP w w6:=(HFr.out.trans (WFr.of ((Upd.refl [] _).drew) (by simp))).trans hf6;have HL:=η hl;have HLA6:=η hla;have HI6:=η hi6;have H6:=η h6;have HLB6:=η hlb6;have HF6:=η hfr6;have HC146:=η c146;have HC86:=η c86;have HD6:=η hD6;have HY6:Hid (y-S1.length<=y1/\y1<=y):=η ⟨hy61,hy62⟩;have HSZ6:=η hf6.size;clear hgoF hcomm hl hla hi6 h6 hlb6 hfr6 hf6 c146 c86 hD6 hy61 hy62 el1 hla1 m36 kc6 r86;have hd14:ds.length<=14:=by have:=HDL.out;have:=HOK.out.most;omega
   cases hb:(t.F a (ldone++lv1)).2
   ·as_aux_lemma=>
     go_wp2_with fail
     go_ret2;have hst:=t.stop a (ldone++lv1) l2' hb;have hyy:=HY.out;rw[List.length_append] at hyy;have hy6:=HY6.out;exact⟨la++la1,(ldone++lv1)++l2',y1,HL.out,HLA6.out,by rw[hst];rfl,by rw[hst];exact HI6.out,H6.out,HLB6.out,by omega,by omega,HF6.out⟩
   ·as_aux_lemma=>
     have hrs:=HRS.out;have HLT:=η hlt;go_wp2_with fail
     have hyy:=HY.out;rw[List.length_append] at hyy;have hy6:=HY6.out;have hlt:=HLT.out;refine⟨⟨q+1,la++la1,ldone++lv1,l2',S2',y1,by omega,by go_num,HL.out,HLA6.out,hb,HI6.out,H6.out,?_,.inr HGT.out,HLB6.out,by omega,by omega,by omega,HC146.out,HC86.out,HD6.out,HF6.out,Nat.le_trans HSZ.out (Nat.le_trans (Nat.le_refl _) HSZ6.out)⟩,by simp[intOf];omega⟩;have hkl:=HOK.out.n;rcases hrs with⟨h1,h2,hS2⟩ | ⟨h1,h2⟩
     ·rw[List.length_drop] at h1;exact .inr ⟨by omega,h2,hS2⟩
     ·rw[List.length_drop] at h1;rw[List.drop_drop,List.drop_drop] at h2;exact .inl ⟨by omega,h2,λ z hz=>HKK.out z (by
       have:z∈(ks.drop q).drop 1:=by rw[List.drop_drop];exact hz
       exact List.mem_of_mem_drop this),λ s hs=>HSB.out s (by simp[hs])⟩
  ·as_aux_lemma=>
    have hqb:decide ((ds.length:Int)<(ds.length:Int))=false:=decide_eq_false (by omega);have HEL:=η el;have HLA:=η hla;have HGO:=η hgo;have HIr:=η hinv;have HSr:=η hsp;have HLBr:=η hlb;have HFr:=η hfr;have HY:Hid (x-(S'.length+1)<=y-(([]:List Nat).length:Int)/\y<=x):=η ⟨hy2,hy3⟩;clear el hla hgo hinv hsp hfl hlb hy1 hy2 hy3 c14 c8 hD hfr hsz;go_wp2_with fail
    go_ret2;have hyy:=HY.out;simp only[List.length_nil] at hyy;exact⟨la,ldone,y,by rw[HEL.out];simp,HLA.out,by rw[HGO.out];rfl,HIr.out,HSr.out,HLBr.out,by omega,by omega,HFr.out⟩
theorem Aw0{α:Type}{t:Bg7 α}{g:Sg}{M:Nat->Option Sec}{fid lb:Nat}{caps:Array Value}{U:List Nat}{B:Nat}{Inv:α->World->Prop}
  (hTold:Cy3 t g M fid caps U B Inv) (hInv:∀a w w',Inv a w->Upd [g.j.jb] w w'->Inv a w') (hInv2:∀a w w',Inv a w->Upd [lb] w w'->Inv a w') (hent:∀args w,(callFunc fid args).run Tryz.prog w=.ok (.enter fid args) w) (hlU:lb∉U) {from_:Bs} (hfrom:from_.length=32) :
  ∀(d:Nat) {w:World} (_:B7 w g M) {root:Bool} {at_:Nat} {l:List C0} {S:List Nat} (_:F6 (g.cur M) root d at_ l S) (_:∀s,s∈S->4<=s/\s<g.h) {deep:Int} (_:(d:Int)+1<=deep) (_:deep<=16) {x:Int} (_:(S.length:Int)<=x) (_:x<=100000)
   (_:w.heap[lb]?=some (.cells #[.int .i64 x] 3 (0,0))) (a:α) (_:Inv a w) (_:∀k,k∈U->k<w.heap.size) (_:t.wt a+l.length<=1000),
   Calls Tryz.prog 136 #[.pointer (some ⟨g.x.tb,0,none⟩),.int .u32 (at_:Int),arr from_,.int .i64 deep,.pointer (some ⟨lb,0,none⟩),.func (.func fid) #[] caps] w (At9 t g M lb U B Inv from_ l S.length x a w)
 | 0,w,h,root,at_,l,S,hs,hS,deep,hd,hd2,x,hx,hx2,hlb,a,hI,hU,hwt=>by
  refine(Ck9 hTold hInv hInv2 h hs hS from_ deep (by omega) hx hx2 hlb a hI hU hlU hent hwt).mono ?_;rintro e w' ⟨e1,e2,e3,e4,e5⟩;have hS1:S.length=1:=by rw[hs.1];rfl
  exact⟨[],l,x-1,rfl,by simp,e1,e2,e3,e4,by omega,by omega,e5⟩
 | d+1,w,h,root,at_,l,S,hs,hS,deep,hd,hd2,x,hx,hx2,hlb,a,hI,hU,hwt=>by
  refine Cc8 hInv hInv2 hlU hfrom (λ w' kid lc Sc x' a' h' hs' hsub hx' hx2' hlb' hI' hU' hwt'=>?_) h hs hS (by omega) hd2 hx hx2 hlb a hI hU hwt;exact Aw0 hTold hInv hInv2 hent hlU hfrom d h' hs' (λ s q=>hS s (hsub s q)) (by omega) (by omega) hx' hx2' hlb' a' hI' hU' hwt'
end Go.Proofs.YtgfbepakonjbnaaGreat
end
end
section
set_option linter.unusedSimpArgs false
set_option linter.unusedVariables false
namespace Go.Proofs.YtgfbepakonjbnaaGreat
open Go.RowKit Go.MapKept Go.ChangeMaps
section
theorem Bg8:∀(n:Nat) (a:Bs),a.length=n->ltB a (List.replicate n 0)=false
 | 0,[],_=>rfl
 | n+1,x :: a,h=>by
  have ih:=Bg8 n a (by simpa using h);rw[List.replicate_succ];unfold ltB;rw[ih];simp
theorem N7.all{P:Nat->List C0->List Nat->Prop}{Q:C0->Prop}(hP:∀k l S,P k l S->∀p,p∈l->Q p){ks:List Bs}{ds:List Nat}{l:List C0}{S:List Nat}(h:N7 P ks ds l S):∀p,p∈l->Q p:=by
 induction h with
 | one h=>exact hP _ _ _ h
 | more h _ _ _ ih=>exact λ p hp=>(List.mem_append.1 hp).elim (hP _ _ _ h p) (ih p)
theorem F6.pairs{C:Nat->Sec}:∀{d:Nat} {root:Bool} {a:Nat} {l:List C0} {S:List Nat},F6 C root d a l S->∀p,p∈l->p.1.length=32/\p.2.length=16
 | 0,_,_,_,_,h=>h.2.2.1.pairs
 | d+1,_,_,_,_,h=>by
  obtain⟨_,ks,ds,S',_,_,_,_,_,hk⟩:=h;exact hk.all λ k l S h=>F6.pairs (d:=d) h
def Au0:Bg7 Int where
 F n c:=(if c=[] then n else wrap64 (n+c.length),true)
 go:=λ a l1 l2 _=>by
  by_cases h1:l1=[]
  ·subst h1;simp
  ·by_cases h2:l2=[]
   ·subst h2;simp
   ·have h3:¬(l1++l2=[]):=by simp[h1]
    simp only[h1,h2,h3,if_false];congr 1
    unfold wrap64;rw[List.length_append];omega
 stop:=λ a l1 l2 h=>by simp at h
 nil:=λ a=>by simp
 wt:=λ _=>0
 grow:=λ _ _=>by simp
def Bp8(nb:Nat)(n:Int)(w:World):Prop:=w.heap[nb]?=some (.cells #[.int .i64 n] 3 (0,0))/\wrap64 n=n
attribute [-go_sem] loadCells storeCells
theorem Ct7{g:Sg}{M:Nat->Option Sec}{nb B:Nat}:Cy3 Au0 g M 139 #[.pointer (some ⟨nb,0,none⟩)] [nb] B (Bp8 nb):=by
 intro n w l vk vv Bk hI h _ _ hok hK hV hU;obtain⟨hb,hwn⟩:=hI;obtain⟨ak,ck,rfl⟩:=E9 hK;obtain⟨av,cv,rfl⟩:=E9 hV;have hlk:(l.map (·.1)).length=l.length:=List.length_map _;have hlv:(l.map (·.2)).length=l.length:=List.length_map _;rw[hlk,hlv];clear hlk hlv hK hV;obtain⟨w1,hw1⟩:∃w1,w1=w.alloc (.cells #[.int .i64 1,.slice ak l.length ck,.slice av l.length cv,.slice none 0 0] 220):=⟨_,rfl⟩;have hu1:Upd [] w w1:=by rw[hw1];exact(Upd.refl _ _).alloc _
 have b1:=(hu1.block _ (A3 hb) (by simp)).trans hb;have c2:w1.heap[w.heap.size]?=some (.cells #[.int .i64 1,.slice ak l.length ck,.slice av l.length cv,.slice none 0 0] 220 (0,0)):=by rw[hw1];exact A4 _
 have m1:=A2 b1 0;have m2:=A2 c2 1;obtain⟨w2,hw2⟩:∃w2,w2=w1.setCell ⟨nb,0,none⟩ (.int .i64 (wrap64 (n+l.length))):=⟨_,rfl⟩;have st:=J6 b1 0 (v:=.int .i64 (wrap64 (n+l.length))) (by simp) rfl;rw[← hw2] at st;have hu2:Upd [nb] w1 w2:=by rw[hw2];exact(Upd.refl _ _).set _ (.inl (by simp))
 have b2:w2.heap[nb]?=some (.cells #[.int .i64 (wrap64 (n+l.length))] 3 (0,0)):=by rw[hw2];exact A8 b1 0 _
 have hres:Bp8 nb (Au0.F n l).1 w2:=by
  show Bp8 nb (if l=[] then n else wrap64 (n+l.length)) w2
  by_cases h0:l=[]
  ·subst h0;rw[if_pos rfl];simp only[List.length_nil] at b2;rw[show n+((0:Nat):Int)=n by omega,hwn] at b2;exact⟨b2,hwn⟩
  ·rw[if_neg h0];exact⟨b2,by unfold wrap64;omega⟩
 have HR:=η hres;have HS:=η ((h.below hu1).turnedI (λ b hb=>by simp at hb;subst hb;exact⟨_,_,b1⟩) hu2);have HF:Hid (WFr [nb] B TP w w2):=η ((WFr.of hu1 (by simp)).trans (WFr.of hu2 (by simp)));rw[hw1] at m1 m2 st;clear hres h hok hb b1 c2 hw2 hu1 hu2 b2 hw1 hU hwn;go_enter Tryz.func139,Tryz.ntmps139
 go_wp2_with fail
 go_ret;exact⟨rfl,HR.out,HS.out,HF.out⟩
theorem Bl9(w:World):(Instr.build 35 #[]).run Tryz.prog w=.ok (.agg (bts z32).toArray) w:=run_build w _ _ _ (by kernel_rfl)
theorem Df1(args:Array Value)(w:World):(callFunc 139 args).run Tryz.prog w=.ok (.enter 139 args) w:=by
 have:=Tryz.func139;simp[callFunc,this,Tryz.f139]
attribute [-go_sem] Instr.build
theorem Cl0{w:World}{g:Sg}{M:Nat->Option Sec}(h:B7 w g M)(hh1:1<g.h)(hh2:g.h<=4096){r:Nat}{l:List C0}{S:List Nat}(ht:Bg6 (g.cur M) g.h r l S)(hl:l.length<490) :
  Calls Tryz.prog 66 #[.pointer (some ⟨g.x.tb,0,none⟩),.int .u32 (r:Int)] w λ e w'=>e=.returned (.tuple #[.int .i64 (l.length:Int),.int .i64 0])/\B7 w' g M/\Upd [g.j.jb] w w':=by
 have hb:((g.h:Int) == 0)=false:=by rw[beq_eq_false_iff_ne];omega
 have HO:=η (U6 h);have HH:=η h;rcases ht.at_ with⟨rfl,rfl,rfl⟩ | ⟨hr,d,hs⟩
 ·clear h ht;go_enter Tryz.func66,Tryz.ntmps66
  go_wp2_with fail
  refine HO.out.mono ?_;rintro e w1 ⟨rfl,n1,hn1⟩;have HU1:Hid (Upd [] w w1):=by show Upd _ _ _;rw[hn1];exact(Upd.refl _ _).drewN _
  clear hn1;go_wp2_with fail
  go_ret2;exact⟨rfl,HH.out.below HU1.out,HU1.out.mono (by simp)⟩
 ·have hrb:((r:Int) == 0)=false:=by rw[beq_eq_false_iff_ne];omega
  have hd:=hs.flat hl;have hlf:=ht.left;have HS:=η hs;have HL:=η ht.low;have HSL:Hid ((S.length:Int)<=(g.h:Int)):=by show _<=_;omega
  clear h ht hs hlf;go_enter Tryz.func66,Tryz.ntmps66
  go_wp2_with fail
  refine HO.out.mono ?_;rintro e w1 ⟨rfl,n1,hn1⟩;have HU1:Hid (Upd [] w w1):=by show Upd _ _ _;rw[hn1];exact(Upd.refl _ _).drewN _
  have HO1:=η (U6 (HH.out.below HU1.out));clear hn1;go_wp2_with fail
  refine HO1.out.mono ?_;rintro e w2 ⟨rfl,n2,hn2⟩;have HU2:Hid (Upd [] w w2):=by show Upd _ _ _;rw[hn2];exact HU1.out.drewN _
  clear hn2;have h2:=HH.out.below HU2.out;have hjlt:=h2.jr.at_.lt;obtain⟨w3,hw3⟩:∃w3,w3=(w2.alloc (.cells #[.int .i64 0] 3)).alloc (.cells #[.int .i64 0] 3):=⟨_,rfl⟩;have hu3:Upd [] w2 w3:=by rw[hw3];exact((Upd.refl _ _).alloc _).alloc _
  have n3:w3.heap[w2.heap.size]?=some (.cells #[.int .i64 0] 3 (0,0)):=by rw[hw3,A6 (by simp)];exact A4 _
  have l3:w3.heap[w2.heap.size+1]?=some (.cells #[.int .i64 0] 3 (0,0)):=by rw[hw3];have:=A4 (w:=w2.alloc (.cells #[.int .i64 0] 3)) (.cells #[.int .i64 0] 3);simpa using this
  obtain⟨w4,hw4⟩:∃w4,w4=w3.setCell ⟨w2.heap.size,0,none⟩ (.int .i64 0):=⟨_,rfl⟩;have st4:=J6 n3 0 (v:=.int .i64 0) (by simp) rfl;rw[← hw4] at st4;have hu4:Upd [w2.heap.size] w3 w4:=by rw[hw4];exact(Upd.refl _ _).set _ (.inl (by simp))
  have n4:w4.heap[w2.heap.size]?=some (.cells #[.int .i64 0] 3 (0,0)):=by rw[hw4];exact A8 n3 0 _
  have l4:=(hu4.block _ (A3 l3) (by simp)).trans l3;obtain⟨w5,hw5⟩:∃w5,w5=w4.setCell ⟨w2.heap.size+1,0,none⟩ (.int .i64 (g.h:Int)):=⟨_,rfl⟩;have st5:=J6 l4 0 (v:=.int .i64 (g.h:Int)) (by simp) rfl;rw[← hw5] at st5;have hu5:Upd [w2.heap.size+1] w4 w5:=by rw[hw5];exact(Upd.refl _ _).set _ (.inl (by simp))
  have l5:w5.heap[w2.heap.size+1]?=some (.cells #[.int .i64 (g.h:Int)] 3 (0,0)):=by rw[hw5];exact A8 l4 0 _
  have n5:=(hu5.block _ (A3 n4) (by simp)).trans n4;have h5:B7 w5 g M:=((h2.below hu3).turnedI (λ b hb=>by simp at hb;subst hb;exact⟨_,_,n3⟩) hu4).turnedI (λ b hb=>by simp at hb;subst hb;exact⟨_,_,l4⟩) hu5;have hW:=Aw0 (t:=Au0) (U:=[w2.heap.size]) (B:=w.heap.size) (Inv:=Bp8 w2.heap.size) (lb:=w2.heap.size+1) (from_:=z32) (g:=g) (M:=M) Ct7
   (λ a v v' hi hu=>⟨(hu.block _ (A3 hi.1) (by simp;omega)).trans hi.1,hi.2⟩) (λ a v v' hi hu=>⟨(hu.block _ (A3 hi.1) (by simp)).trans hi.1,hi.2⟩) Df1 (by simp) X4 d h5 HS.out HL.out (deep:=16) (by omega) (by omega) HSL.out (by omega) l5 0 ⟨n5,by unfold wrap64;omega⟩ (λ k hk=>by simp at hk;subst hk;exact A3 n5) (by show 0+l.length<=1000;omega)
  unfold arr at hW;have HWK:=η hW;have HU5:Hid (Upd [] w w5):=by
   show Upd _ _ _
   have a3:=HU2.out.trans hu3;have hsz:=HU2.out.size;exact(a3.late hu4 (λ k hk=>by simp at hk;subst hk;exact .inr hsz)).late hu5 (λ k hk=>by simp at hk;subst hk;exact .inr (by omega))
  have HSZ:=η HU2.out.size;rw[hw3] at st4;have bi:=Bl9;clear h2 hjlt hw3 hu3 n3 l3 hw4 hu4 n4 l4 hw5 hu5 l5 n5 h5 hW;go_wp2_with fail
  refine HWK.out.mono ?_;rintro e w6 ⟨la,lv,y,el,hla,rfl,hi,h6,_,_,_,hf⟩;have hla0:la=[]:=by
   cases la with
   | nil=>rfl
   | cons p la=>
    have h1:=hla p (by simp);have h2:=HS.out.pairs p (by rw[el];simp);have h3:=Bg8 32 p.1 h2.1;unfold z32 at h1;rw[h3] at h1;simp at h1
  subst hla0;rw[List.nil_append] at el;subst el;have hF:(Au0.F 0 l).1=(l.length:Int):=by
   show(if l=[] then(0:Int) else wrap64 (0+l.length))=_
   by_cases h0:l=[]
   ·subst h0;simp
   ·rw[if_neg h0];unfold wrap64;omega
  rw[hF] at hi;have m6:=A2 hi.1 0;have H6:=η h6;have HU6:Hid (Upd [g.j.jb] w w6):=by
   show Upd _ _ _
   obtain⟨S',hu,hS'⟩:=hf;refine(HU5.out.mono (T:=[g.j.jb]) (by simp)).late hu (λ k hk=>?_);have hsz:=HSZ.out;rcases hS' k hk with q | ⟨q,_⟩
   ·simp only[List.mem_cons,List.not_mem_nil,or_false] at q;rcases q with rfl | rfl | rfl
    ·exact .inr (by omega)
    ·exact .inl (by simp)
    ·exact .inr hsz
   ·exact .inr q
  clear hi hF h6 hf hla;go_wp2_with fail
  go_ret2;exact⟨rfl,H6.out,HU6.out⟩
end
theorem Ap5.tree{g:Sg}{M:Nat->Option Sec}{S:List Nat}{K:Nat->Option Pk}{R:List Rc}(k:Ap5 g M S K R):Bg6 (g.cur M) g.h (g.R M 0) (R.map Rc.ent) S:=⟨k.m.tr,k.m.nd,k.m.low⟩
theorem Ci3{w:World}{g:Sg}{M:Nat->Option Sec}(h:B7 w g M)(hh:20<=g.h)(hh2:g.h<=4096){S:List Nat}{K:Nat->Option Pk}{R:List Rc}(k:Ap5 g M S K R)(hl:R.length<490) :
  Calls Tryz.prog 23 #[.pointer (some ⟨g.x.tb,0,none⟩)] w λ e w'=>e=.returned (.tuple #[.int .i64 (R.length:Int),.int .i64 0])/\B7 w' g M/\Upd g.S w w':=by
 have hrt:=Cx5 h (by omega) 0 (by omega);rw[show((0:Nat):Int)=0 from rfl] at hrt;have hln:∀W,B7 W g M->Calls Tryz.prog 66 #[.pointer (some ⟨g.x.tb,0,none⟩),.int .u32 (g.R M 0:Int)] W λ e w'=>e=.returned (.tuple #[.int .i64 (R.length:Int),.int .i64 0])/\B7 w' g M/\Upd [g.j.jb] W w':=λ W hW=>by
  have:=Cl0 hW (by omega) hh2 k.tree (by rw[List.length_map];exact hl);rw[List.length_map] at this;exact this
 obtain⟨r,hr⟩:∃r,r=g.R M 0:=⟨_,rfl⟩;rw[← hr] at hrt hln;have HR:=η hrt;have HL:Hid (∀W,B7 W g M->Calls Tryz.prog 66 #[.pointer (some ⟨g.x.tb,0,none⟩),.int .u32 (r:Int)] W λ e w'=>e=.returned (.tuple #[.int .i64 (R.length:Int),.int .i64 0])/\B7 w' g M/\Upd [g.j.jb] W w'):=η hln;clear hrt hln hr k h;go_enter Tryz.func23,Tryz.ntmps23
 go_wp2_with fail
 refine HR.out.mono ?_;rintro e w2 ⟨rfl,h2,hu2⟩;have HLN:=η (HL.out w2 h2);have HU2:=η hu2;clear h2 hu2;go_wp2_with fail
 refine HLN.out.mono ?_;rintro e w3 ⟨rfl,h3,hu3⟩;have H3:=η h3;have HU3:=η (HU2.out.trans (hu3.mono g.mem));clear h3 hu3;go_wp2_with fail
 go_ret2;exact⟨rfl,H3.out,HU3.out⟩
theorem Bn4{w:World}{g:Sg}{M:Nat->Option Sec}(h:B7 w g M)(hh:20<=g.h)(hh2:g.h<=4096){S:List Nat}{K:Nat->Option Pk}{R:List Rc}(k:Ap5 g M S K R)(hl:R.length<490)(key:List UInt8)(hkl:key.length=32){x:Rc}(hx:J0 R key=some x) :
  Calls Tryz.prog 22 #[.pointer (some ⟨g.x.tb,0,none⟩),arr key] w λ e w'=>∃v,e=.returned (.tuple #[v,.int .i64 0])/\I7 w' w.heap.size v x.b/\B7 w' g M/\Upd [g.j.jb] w w':=by
 have hlt:=h.lt;obtain⟨kb,hkb⟩:∃x,x=w.heap.size:=⟨_,rfl⟩;obtain⟨w1,hw1⟩:∃w1,w1=w.alloc (.cells (bts key).toArray 35):=⟨_,rfl⟩;have hu1:Upd [] w w1:=by rw[hw1];exact(Upd.refl _ _).alloc _
 have k1:w1.heap[kb]?=some (.cells (bts key).toArray 35 (0,0)):=by rw[hw1,hkb];exact A4 _
 have h1:=h.below hu1;have hik:(Tryz.prog.info? 35).map (·.size)=some (bts key).toArray.size:=by rw[List.size_toArray,A5,hkl];exact Af0
 have hwh:=Bt1 h1 (by omega) k.m.tr k.m.low hl key hkl k.small;rw[hx] at hwh;unfold arr Ag5 Ax6 plV at hwh;dsimp only at hwh;obtain⟨hxm,hxk⟩:=X7 hx;obtain⟨_,hb42,p,hp,hal,hfr⟩:=k.m.rc.rec_ x hxm;rw[hxk] at hfr;have hgt:∀W,B7 W g M->Calls Tryz.prog 88 #[.pointer (some ⟨g.x.tb,0,none⟩),.agg #[.int .i64 (x.n:Int),.int .i64 (x.at_:Int),.int .i64 (x.len:Int)],.agg (bts key).toArray] W λ e w'=>∃v,e=.returned (.tuple #[v,.int .i64 0])/\I7 w' W.heap.size v x.b/\B7 w' g M/\Upd [g.j.jb] W w':=λ W hW=>
  Cq3 hW k.m.pk hh hh2 hp x.at_ x.len key x.b hkl hb42 rfl hal hfr
 have HGT:Hid (∀W,B7 W g M->Calls Tryz.prog 88 #[.pointer (some ⟨g.x.tb,0,none⟩),.agg #[.int .i64 (x.n:Int),.int .i64 (x.at_:Int),.int .i64 (x.len:Int)],.agg (bts key).toArray] W λ e w'=>∃v,e=.returned (.tuple #[v,.int .i64 0])/\I7 w' W.heap.size v x.b/\B7 w' g M/\Upd [g.j.jb] W w'):=η hgt;have HWH:=η hwh;have HLT:=η hlt;have HW1:=η hw1;have HKB:=η hkb;have HK1:=η k1;have HU1:=η hu1;obtain⟨xn,hxn⟩:∃q,q=x.n:=⟨_,rfl⟩;obtain⟨xa,hxa⟩:∃q,q=x.at_:=⟨_,rfl⟩;obtain⟨xl,hxl⟩:∃q,q=x.len:=⟨_,rfl⟩;obtain⟨xb,hxb⟩:∃q,q=x.b:=⟨_,rfl⟩;obtain⟨r,hr⟩:∃r,r=g.R M 0:=⟨_,rfl⟩;rw[← hxn,← hxa,← hxl,← hr] at HWH;rw[← hxn,← hxa,← hxl,← hxb] at HGT;rw[← hxb];clear hlt hkb hw1 hu1 k1 h1 hwh hgt h hxn hxa hxl hxb hr hxm hxk hb42 hp hal hfr hx k;unfold arr;go_enter Tryz.func22,Tryz.ntmps22
 go_upto_region 1 with(fail)
 have hw1:=HW1.out;have hkb:=HKB.out;rw[← hw1,← hkb];clear hw1 hkb;go_wp2_with (refine wpList_load_row (by rfl) 35 (.tmp 3) (by rfl) kb (by rfl) _ _ _ _ HK1.out Tryz.underlying35 rfl hik ?_)
 refine HWH.out.mono ?_;rintro e w2 ⟨rfl,h2,hu2⟩;have hnS:∀b,w.heap.size<=b->b∉g.S:=λ b hb q=>by have:=HLT.out.1 b q;omega
 have k2:=(hu2.block _ (A3 HK1.out) (λ q=>hnS _ (by have:=HKB.out;omega) (g.mem _ q))).trans HK1.out;obtain⟨pb,hpb⟩:∃x,x=w2.heap.size:=⟨_,rfl⟩;obtain⟨w3,hw3⟩:∃w3,w3=w2.alloc (.cells #[.int .i64 (xn:Int),.int .i64 (xa:Int),.int .i64 (xl:Int)] 92):=⟨_,rfl⟩;have hu3:Upd [] w2 w3:=by rw[hw3];exact(Upd.refl _ _).alloc _
 have k3:=(hu3.block _ (A3 k2) (by simp)).trans k2;have p3:w3.heap[pb]?=some (.cells #[.int .i64 (xn:Int),.int .i64 (xa:Int),.int .i64 (xl:Int)] 92 (0,0)):=by rw[hw3,hpb];exact A4 _
 have m0:w3.cell? ⟨pb,0,none⟩=some (.int .i64 (xn:Int)):=by rw[A2 p3];rfl
 have m1:w3.cell? ⟨pb,1,none⟩=some (.int .i64 (xa:Int)):=by rw[A2 p3];rfl
 have m2:w3.cell? ⟨pb,2,none⟩=some (.int .i64 (xl:Int)):=by rw[A2 p3];rfl
 have HG3:=η (HGT.out w3 (h2.below hu3));have HU3:=η ((((HU1.out.mono (by simp)).trans hu2)).trans (hu3.mono (by simp)));have HK3:=η k3;have HSZ:Hid (w.heap.size<=w3.heap.size):=by show _<=_;exact HU3.out.size
 have HW3:=η hw3;have HPB:=η hpb;clear h2 hu2 hnS k2 hw3 hu3 k3 p3 hpb;go_upto_region 2 with(fail)
 have hw3:=HW3.out;have hpb:=HPB.out;rw[← hw3,← hpb];clear hw3 hpb;go_wp2_with (refine wpList_load_row (by rfl) 35 (.tmp 3) (by rfl) kb (by rfl) _ _ _ _ HK3.out Tryz.underlying35 rfl hik ?_)
 refine HG3.out.mono ?_;rintro e w4 ⟨v,rfl,hbr,h4,hu4⟩;have HBR:=η hbr;have H4:=η h4;have HU4:=η (HU3.out.trans hu4);clear hbr h4 hu4;go_wp2_with fail
 go_ret2;exact⟨v,rfl,⟨HBR.out.1,HBR.out.2.imp id fun⟨q,cap,cur,e,hb,r⟩=>⟨q,cap,cur,e,Nat.le_trans HSZ.out hb,r⟩⟩,H4.out,HU4.out⟩
theorem Ci4{w:World}{g:Sg}{M:Nat->Option Sec}(h:B7 w g M)(hh:20<=g.h)(hh2:g.h<=4096){S:List Nat}{K:Nat->Option Pk}{R:List Rc}(k:Ap5 g M S K R)(hl:R.length<490)(key:List UInt8)(hkl:key.length=32){x:Rc}(hx:J0 R key=some x) :
  Calls Tryz.prog 22 #[.pointer (some ⟨g.x.tb,0,none⟩),arr key] w λ e w'=>∃v,e=.returned (.tuple #[v,.int .i64 0])/\I7 w' w.heap.size v x.b/\B7 w' g M/\Upd g.S w w':=
 (Bn4 h hh hh2 k hl key hkl hx).mono λ e w' ⟨v,e1,e2,e3,e4⟩=>⟨v,e1,e2,e3,e4.mono g.mem⟩
theorem Cp2:num D9 0 4=0:=by
 have:=Bk1 (a:=0) (by omega);exact congrArg (·.1) this
theorem KpH.zero{H:Nat->Sec}{h:Nat}(hl:∀i,(H i).length=512)(h0:H 0=D9)(h2:H 2=D9)(h3:H 3=D9)(hT:∀i,Y9 (T6 (H 1)) i=decide (i<4)):KpH H h [] (λ _=>none) []:=by
 refine⟨⟨L9.zero hl h2 h3,M0.zero (λ _=>rfl),.inl ⟨by rw[h0];exact Cp2,rfl,rfl⟩,List.nodup_nil,λ s hs=>by simp at hs,λ i=>?_,λ s hs=>by simp at hs⟩,List.Pairwise.nil⟩;show Y9 (T6 (H 1)) i=true↔_
 rw[hT,decide_eq_true_iff];constructor
 ·exact .inl
 ·rintro(q | q | ⟨n,p,q,_⟩)
  ·exact q
  ·simp at q
  ·cases q
theorem Ax7(n ring:Nat)(ni ri:Int)(hni:ni=(n:Int))(hri:ri=(ring:Int))(h0:32<=n)(h1:n<=4096)(r0:8<=ring)(r1:ring<=1024)(r2:ring+10<=n)(w:World) :
  Calls Tryz.prog 17 #[.int .i64 ni,.int .i64 ri] w λ e w'=>∃(j:JG) (H:Nat->Sec),e=.returned (.tuple #[.pointer (some ⟨j.d.db,0,none⟩),.pointer (some ⟨j.jb,0,none⟩)])/\(∀k,k∈j.all->w.heap.size<=k)/\Cw3 w' j n ring 2 H [] (λ _=>none) []/\
   Ai5 [] (λ _=>none) (λ i=>Y9 (T6 (H 1)) i) 0/\Upd [] w w':=by
 subst hni hri;have HN:=η (Cv8 n ring h0 h1 r0 r1 r2 w);go_enter Tryz.func17,Tryz.ntmps17
 go_wp2_with fail
 refine HN.out.mono ?_;rintro e w1 ⟨j,rfl,hj,⟨J1,D1,hr1,_⟩,hu1⟩;have HJ:=η hj;have HB:=η (Br7 hr1);have HR1:=η hr1;have HU1:=η hu1;clear hj hr1 hu1;go_wp2_with fail
 refine HB.out.mono ?_;rintro e w2 ⟨x,rfl,hx1,hx2,hx,hr2,hu2,hfx⟩;have hsp:B7 w2 ⟨x,j,J1,D1,n,ring,1-1,1,2,λ _=>D9⟩ (λ _=>none):=⟨hr2,hx,HR1.out.at_.late hx2,MOk.none _,λ _=>B9,hfx⟩;have HXL:Hid (w.heap.size<=x.tb/\w.heap.size<=x.wb):=⟨Nat.le_trans HU1.out.size hx1,Nat.le_trans HU1.out.size hx2⟩;have HU2:=η (HU1.out.lateJ hu2 HJ.out);have hfm:=Bv6 hsp (by show 4<=n-2-ring;omega);have HFM:Hid (Calls Tryz.prog 78 #[.pointer (some ⟨x.tb,0,none⟩)] w2 λ e w'=>e=.returned (.int .i64 0)/\B7 w' ⟨x,j,J1,D1,n,ring,1-1,1,2,λ _=>D9⟩ (Ab9 4)/\Upd (Sg.S ⟨x,j,J1,D1,n,ring,1-1,1,2,λ _=>D9⟩) w2 w'):=by
  show Calls _ _ _ _ _
  have HF:=η hfm;go_enter Tryz.func78,Tryz.ntmps78
  go_wp2_with fail
  refine HF.out.mono ?_;rintro e w3 ⟨rfl,h3,hu3⟩;have H3:=η h3;have HU3:=η hu3;clear h3 hu3;go_wp2_with fail
  go_ret;exact⟨rfl,H3.out,HU3.out⟩
 clear hx1 hx2 hx hr2 hu2 hsp hfm hfx;go_wp2_with fail
 refine HFM.out.mono ?_;rintro e w3 ⟨rfl,h3,hu3⟩;have hJall:∀k,k∈j.all->w.heap.size<=k:=λ k hk=>by
  obtain⟨k1,k2,k3,k4,k5⟩:=HJ.out;simp[JG.all] at hk;rcases hk with rfl | rfl | rfl | rfl | rfl
  ·exact k1
  ·exact k2
  ·exact k3
  ·exact k4
  ·exact k5
 have HJA:=η hJall;have HU3:=η (Bf1 HU2.out hu3 (λ k hk=>by
  simp[Sg.S] at hk;rcases hk with rfl | hk
  ·exact HXL.out.2
  ·exact hJall k hk))
 have HCM:=η (Ch1 h3.jr h3.tx h3.ne h3.ok (by show n<=5000;omega) (by have:=As8 (q:=4) (h:=n-2-ring) (by omega);show E1 (Ab9 4) (n-2-ring)<=40;omega) (by have:=As8 (q:=4) (h:=n-2-ring) (by omega);show E1 (Ab9 4) (n-2-ring)<ring;omega) (by show(1:Int)<1000000;omega) (by show(2:Int)<1000000;omega));clear h3 hu3 hJall;go_wp2_with fail
 refine HCM.out.mono ?_;rintro e w4 ⟨rfl,_,⟨J4,D4,t4,hr4,ht4⟩,hu4⟩;replace hr4:X0 w4 j J4 D4 n ring t4 (2+1) (λ i=>(Ab9 4 i).getD D9):=hr4;have ht2:t4<=2:=by
  rw[ht4];split
  ·show(1:Int)<=2;omega
  ·show(1:Int)+1<=2;omega
 have hU4:=Bf1 HU3.out hu4 (λ k hk=>by
  simp only[List.mem_cons] at hk;rcases hk with rfl | hk
  ·exact HXL.out.1
  ·exact HJA.out k hk)
 have hHl:∀i,((Ab9 4 i).getD D9).length=512:=λ i=>by
  cases hq:Ab9 4 i with
  | none=>exact B9
  | some s=>exact(Ce7 (q:=4) (h:=4) (Nat.le_refl _) i s hq).2
 have hz:∀i,i≠1->(Ab9 4 i).getD D9=D9:=λ i hi=>by
  unfold Ab9;by_cases h4:i<4
  ·rw[if_pos h4,if_neg hi];rfl
  ·rw[if_neg h4];rfl
 have hT:∀i,Y9 (T6 ((Ab9 4 1).getD D9)) i=decide (i<4):=λ i=>Cr8 i;have HK:Hid (Cw3 w4 j n ring 2 (λ i=>(Ab9 4 i).getD D9) [] (λ _=>none) []):=η ⟨⟨J4,D4,t4,2+1,hr4,hHl,ht2,by omega⟩,KpH.zero hHl (hz 0 (by omega)) (hz 2 (by omega)) (hz 3 (by omega)) hT⟩;have HRW:Hid (Ai5 [] (λ _=>none) (λ i=>Y9 (T6 ((Ab9 4 1).getD D9)) i) 0):=η ⟨λ n hn=>by omega,λ _ _=>rfl,λ i=>by rw[hT];simp⟩;have HU4:=η hU4;clear hr4 hu4 ht4 ht2 hU4 hHl hz hT;go_wp2_with fail
 go_ret2;exact⟨j,_,rfl,HJA.out,HK.out,HRW.out,HU4.out⟩
theorem Ch5:(#[.int .u8 0,.int .u8 0,.int .u8 0,.int .u8 0,.int .u8 0,.int .u8 0,.int .u8 0,.int .u8 0,.int .u8 0,.int .u8 0,.int .u8 0,.int .u8 0,.int .u8 0,.int .u8 0,.int .u8 0,.int .u8 0,.int .u8 0,.int .u8 0,.int .u8 0,.int .u8 0,.int .u8 0,.int .u8 0,.int .u8 0,.int .u8 0,.int .u8 0,.int .u8 0,.int .u8 0,.int .u8 0,.int .u8 0,.int .u8 0,.int .u8 0,.int .u8 0]:Array Value)=(bts z32).toArray:=rfl
theorem Bd3(k:Int)(w:World):Calls Tryz.prog 24 #[.int .i64 k] w λ e w'=>e=.returned (arr (Z0 (Ab3 k 40:Nat)))/\Upd [] w w':=by
 have HP:=η (λ w=>Bz4 k 40 w (by omega) (by omega));rw[show((40:Nat):Int)=40 from rfl] at HP;obtain⟨n,hn⟩:∃n,n=Ab3 k 40:=⟨_,rfl⟩;rw[← hn] at HP ⊢;obtain⟨w1,hw1⟩:∃w1,w1=w.alloc (.cells (bts z32).toArray 35):=⟨_,rfl⟩;obtain⟨ib,hib⟩:∃b,b=w.heap.size:=⟨_,rfl⟩;have hu1:Upd [] w w1:=by rw[hw1];exact(Upd.refl _ _).alloc _
 have k1:w1.heap[ib]?=some (.cells (bts z32).toArray 35 (0,0)):=by rw[hw1,hib];exact A4 _
 have hky:=λ W=>Ct3 (n:Int) W;unfold arr at hky;have HKY:Hid (∀W,Calls Tryz.prog 20 #[.int .i64 (n:Int)] W λ e w'=>e=.returned (.agg (bts (Z0 (n:Int))).toArray)/\Upd [] W w'):=η hky;have hik:(Tryz.prog.info? 35).map (·.size)=some (bts (Z0 (n:Int))).toArray.size:=by rw[List.size_toArray,A5,R5];exact Af0
 have hone:=At1 (Z0 (n:Int));have hsz:(bts z32).toArray.size=(bts (Z0 (n:Int))).toArray.size:=by rw[List.size_toArray,List.size_toArray,A5,A5,R5];rfl
 have HW1:=η hw1;have HIB:=η hib;have HU1:=η hu1;have HK1:=η k1;clear hn hw1 hib hu1 k1 hky;unfold arr;go_enter Tryz.func24,Tryz.ntmps24
 go_upto_region 1 with(fail)
 have hw1:=HW1.out;have hib:=HIB.out;rw[Ch5,← hw1,← hib];clear hw1 hib;go_wp2_with fail
 refine(HP.out _).mono ?_;rintro e w' ⟨rfl,rfl⟩;go_wp2_with fail
 refine(HKY.out _).mono ?_;rintro e w2 ⟨rfl,hu2⟩;have k2:=(hu2.block _ (A3 HK1.out) (by simp)).trans HK1.out;have HK2:=η k2;have HU2:=η (HU1.out.trans hu2);clear hu2 k2;go_wp2_with (refine wpList_store_row (by rfl) 35 (.tmp 2) (.tmp 5) (by rfl) ib (bts (Z0 (n:Int))).toArray (by rfl) (by rfl) _ _ HK2.out hik hsz hone ?_)
 refine bodyPost_ret (results_cell_row (p:=2) (ty:=35) (by rfl) _ _ ib _ _ _ _ (by rfl) (setRow_heap _ _ _ _ _ _ HK2.out) Tryz.underlying35 rfl hik) (by rfl) ?_;exact⟨rfl,HU2.out.late (J5 (Upd.refl [ib] _) _ (.inl (by simp))) (λ i hi=> .inr (by simp at hi;have:=HIB.out;omega))⟩
theorem Ab4.again{g:Sg}{M:Nat->Option Sec}{S:List Nat}{K:Nat->Option Pk}{key b b0 f:List UInt8}(hS:S.length<=1)(hK:K=Ab6 (λ _=>none) 0 (some ⟨4,f,f.length⟩))(hf:f.length=46+b0.length)(hT:∀i,g.T M i=decide (i<4+S.length+16))(ho:MOk M g.h)
  (hd:∀i,(M i).isSome=true->i<20∨i∈S) (hh:60<=g.h):Ab4 g M S K [⟨0,0,key,b0⟩] key b:=by
 have hrec:J0 [⟨0,0,key,b0⟩] key=some (⟨0,0,key,b0⟩:Rc):=by
  unfold J0;rw[I6,if_neg (by simp),if_pos rfl]
 have cnt:∀M2:Nat->Option Sec,MOk M2 g.h->(∀i,(M2 i).isSome=true->i<20∨i∈S)->E1 M2 g.h<=21:=λ M2 ho2 hd2=>by
  have:=An6 (L:=List.range 20++S) ho2 λ i hi=>by
   rcases hd2 i hi with q | q
   ·exact List.mem_append_left _ (List.mem_range.2 q)
   ·exact List.mem_append_right _ q
  simp at this;omega
 have hdk:∀K1 T1,Aj7 K (g.T M) (J0 [⟨0,0,key,b0⟩] key) K1 T1->(∀n,K1 n=none)/\∀i,T1 i=if 4<=i/\i<20 then false else decide (i<4+S.length+16):=by
  intro K1 T1 h;rw[hrec] at h;obtain⟨p,hp,_,h⟩:=h;rw[hK,E0] at hp;cases hp
  rcases h with⟨_,rfl,h⟩ | ⟨h,_⟩
  ·refine⟨λ n=>?_,λ i=>by rw[h i,hT i]⟩;rw[hK];unfold Ab6;by_cases e:n=0
   ·rw[if_pos e]
   ·rw[if_neg e,if_neg e]
  ·exact absurd (show f.length=Rc.len ⟨0,0,key,b0⟩ by rw[hf];rfl) h
 have hfree:∀T1:Nat->Bool,(∀i,T1 i=if 4<=i/\i<20 then false else decide (i<4+S.length+16))->Be6 T1 4 16:=λ T1 h q hq=>by
  rw[h,if_pos (by omega)]
 have hadd:∀K1 T1 K2 T2 y,Aj7 K (g.T M) (J0 [⟨0,0,key,b0⟩] key) K1 T1->Z2 K1 T1 g.h (D8 key b) K2 T2 (some y)->(∀i,T2 i=decide (i<4+S.length+16))/\∀i,InY K2 y i->i<20:=by
  intro K1 T1 K2 T2 y hdr ha;obtain⟨hK1,hT1⟩:=hdk K1 T1 hdr;rcases ha with⟨free,p,_,_,h2,_⟩ | ⟨st,q,h1,h2,h3,rfl,h4⟩
  ·rw[hK1] at h2;cases h2
  ·have hst:st=4:=by
    obtain⟨_,a2,a3⟩:=h3;have b1:¬st<4:=λ hlt=>by
     have:=a2 0 (by omega);rw[Nat.add_zero,hT1,if_neg (by omega),decide_eq_false_iff_not] at this;omega
    have b2:¬4<st:=λ hlt=>a3 4 hlt (hfree T1 hT1);omega
   subst hst;refine⟨λ i=>?_,λ i hi=>?_⟩
   ·rw[h4 i,hT1 i];by_cases e:4<=i/\i<4+16
    ·rw[if_pos e,decide_eq_true (by omega)]
    ·rw[if_neg e,if_neg (by omega)]
   ·obtain⟨p,hp,i1,i2⟩:=hi;rw[E0] at hp;cases hp
    dsimp only at i2;omega
 have hdom:∀K1 T1 K2 (M2:Nat->Option Sec) y,Aj7 K (g.T M) (J0 [⟨0,0,key,b0⟩] key) K1 T1->Z2 K1 T1 g.h (D8 key b) K2 (g.T M2) (some y)->MOk M2 g.h->(∀i,(M2 i).isSome=true->(M i).isSome=true∨i<4∨InY K2 y i)->E1 M2 g.h<=21:=by
  intro K1 T1 K2 M2 y hdr ha ho2 hd2;refine cnt M2 ho2 λ i hi=>?_;rcases hd2 i hi with q | q | q
  ·exact hd i q
  ·exact .inl (by omega)
  ·exact .inl ((hadd K1 T1 K2 _ y hdr ha).2 i q)
 refine⟨by have:=cnt M ho hd;omega,λ M1 ho1 hd1=>?_,λ K1 T1 K2 T2 o hdr ha=>?_,λ K1 T1 K2 M2 y hdr ha ho2 hd2=> .inl ⟨?_,?_⟩,λ K1 T1 K2 M2 M3 S' y hdr ha ho2 ho3 hd2 hG _=>?_⟩
 ·have:=cnt M1 ho1 λ i hi=>by
   rcases hd1 i hi with q | q
   ·exact hd i q
   ·exact .inl (by omega)
  omega
 ·rintro rfl;obtain⟨hK1,hT1⟩:=hdk K1 T1 hdr;obtain⟨free,q,_,_,e | e⟩:=ha
  ·exact q.free_first 0 (by omega) (by omega) (hK1 0)
  ·exact e 4 (by omega) (hfree T1 hT1)
 ·have:=hdom K1 T1 K2 M2 y hdr ha ho2 hd2;have:=Bn5 M2;omega
 ·rw[Ac2 (hadd K1 T1 K2 _ y hdr ha).1];omega
 ·have h1:=hdom K1 T1 K2 M2 y hdr ha ho2 hd2;have h2:=Bn5 M2;have h3:=hG.cnt;omega
end Go.Proofs.YtgfbepakonjbnaaGreat
end
