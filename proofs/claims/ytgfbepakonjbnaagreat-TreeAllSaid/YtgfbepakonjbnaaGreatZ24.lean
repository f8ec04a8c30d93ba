/-
  tree.Len.
-/
import Derived.Test.YtgfbepakonjbnaaGreatZ23
import Derived.Test.YtgfbepakonjbnaaGreatZ18
set_option maxRecDepth 100000
set_option maxHeartbeats 16000000
section
set_option linter.unusedSimpArgs false
set_option linter.unusedVariables false
namespace Go.Proofs.YtgfbepakonjbnaaGreat
open Go.RowKit Go.MapKept Go.ChangeMaps
section
theorem Bo2:∀(n:Nat) (a:Bs),a.length=n->ltB a (List.replicate n 0)=false
 | 0,[],_=>rfl
 | n+1,x :: a,h=>by
  have ih:=Bo2 n a (by simpa using h);rw[List.replicate_succ];unfold ltB;rw[ih];simp
theorem I6.all{P:Nat->List B0->List Nat->Prop}{Q:B0->Prop}(hP:∀k l S,P k l S->∀p,p∈l->Q p){ks:List Bs}{ds:List Nat}{l:List B0}{S:List Nat}(h:I6 P ks ds l S):∀p,p∈l->Q p:=by
 induction h with
 | one h=>exact hP _ _ _ h
 | more h _ _ _ ih=>exact λ p hp=>(List.mem_append.1 hp).elim (hP _ _ _ h p) (ih p)
theorem E3.pairs{C:Nat->Sec}:∀{d:Nat} {root:Bool} {a:Nat} {l:List B0} {S:List Nat},E3 C root d a l S->∀p,p∈l->p.1.length=32/\p.2.length=16
 | 0,_,_,_,_,h=>h.2.2.1.pairs
 | d+1,_,_,_,_,h=>by
  obtain⟨_,ks,ds,S',_,_,_,_,_,hk⟩:=h;exact hk.all λ k l S h=>E3.pairs (d:=d) h
def Ap1:Ba3 Int where
 F n c:=(if c=[] then n else wrap64 (n+c.length),true)
 go:=λ a l1 l2 _=>by
  by_cases h1:l1=[]
  ·subst h1;simp
  ·by_cases h2:l2=[]
   ·subst h2;simp
   ·have h3:¬(l1++l2=[]):=by simp[h1]
    simp only[h1,h2,h3,if_false];congr 1
    unfold wrap64;rw[List.length_append];omega
 stop:=λ a l1 l2 h=>by simp at h
 nil:=λ a=>by simp
 wt:=λ _=>0
 grow:=λ _ _=>by simp
def Bi5(nb:Nat)(n:Int)(w:World):Prop:=w.heap[nb]?=some (.cells #[.int .i64 n] 3 (0,0))/\wrap64 n=n
attribute [-go_sem] loadCells storeCells
theorem Ch6{g:Sg}{M:Nat->Option Sec}{nb B:Nat}:Cm3 Ap1 g M 139 #[.pointer (some ⟨nb,0,none⟩)] [nb] B (Bi5 nb):=by
 intro n w l vk vv Bk hI h _ _ hok hK hV hU;obtain⟨hb,hwn⟩:=hI;obtain⟨ak,ck,rfl⟩:=C4 hK;obtain⟨av,cv,rfl⟩:=C4 hV;have hlk:(l.map (·.1)).length=l.length:=List.length_map _;have hlv:(l.map (·.2)).length=l.length:=List.length_map _;rw[hlk,hlv];clear hlk hlv hK hV;obtain⟨w1,hw1⟩:∃w1,w1=w.alloc (.cells #[.int .i64 1,.slice ak l.length ck,.slice av l.length cv,.slice none 0 0] 220):=⟨_,rfl⟩;have hu1:Upd [] w w1:=by rw[hw1];exact(Upd.refl _ _).alloc _
 have b1:=(hu1.block _ (A2 hb) (by simp)).trans hb;have c2:w1.heap[w.heap.size]?=some (.cells #[.int .i64 1,.slice ak l.length ck,.slice av l.length cv,.slice none 0 0] 220 (0,0)):=by rw[hw1];exact A6 _
 have m1:=A4 b1 0;have m2:=A4 c2 1;obtain⟨w2,hw2⟩:∃w2,w2=w1.setCell ⟨nb,0,none⟩ (.int .i64 (wrap64 (n+l.length))):=⟨_,rfl⟩;have st:=D9 b1 0 (v:=.int .i64 (wrap64 (n+l.length))) (by simp) rfl;rw[← hw2] at st;have hu2:Upd [nb] w1 w2:=by rw[hw2];exact(Upd.refl _ _).set _ (.inl (by simp))
 have b2:w2.heap[nb]?=some (.cells #[.int .i64 (wrap64 (n+l.length))] 3 (0,0)):=by rw[hw2];exact B3 b1 0 _
 have hres:Bi5 nb (Ap1.F n l).1 w2:=by
  show Bi5 nb (if l=[] then n else wrap64 (n+l.length)) w2
  by_cases h0:l=[]
  ·subst h0;rw[if_pos rfl];simp only[List.length_nil] at b2;rw[show n+((0:Nat):Int)=n by omega,hwn] at b2;exact⟨b2,hwn⟩
  ·rw[if_neg h0];exact⟨b2,by unfold wrap64;omega⟩
 have HR:=η hres;have HS:=η ((h.below hu1).turnedI (λ b hb=>by simp at hb;subst hb;exact⟨_,_,b1⟩) hu2);have HF:Hid (WFr [nb] B TP w w2):=η ((WFr.of hu1 (by simp)).trans (WFr.of hu2 (by simp)));rw[hw1] at m1 m2 st;clear hres h hok hb b1 c2 hw2 hu1 hu2 b2 hw1 hU hwn;go_enter Tryz.func139,Tryz.ntmps139
 go_wp2_with fail
 go_ret;exact⟨rfl,HR.out,HS.out,HF.out⟩
theorem Ca8(w:World):(Instr.build 35 #[]).run Tryz.prog w=.ok (.agg (bts z32).toArray) w:=run_build w _ _ _ (by kernel_rfl)
theorem Cr0(args:Array Value)(w:World):(callFunc 139 args).run Tryz.prog w=.ok (.enter 139 args) w:=by
 have:=Tryz.func139;simp[callFunc,this,Tryz.f139]
attribute [-go_sem] Instr.build
theorem Ca9{w:World}{g:Sg}{M:Nat->Option Sec}(h:B7 w g M)(hh1:1<g.h)(hh2:g.h<=4096){r:Nat}{l:List B0}{S:List Nat}(ht:Ba2 (g.cur M) g.h r l S)(hl:l.length<490) :
  Calls Tryz.prog 66 #[.pointer (some ⟨g.x.tb,0,none⟩),.int .u32 (r:Int)] w λ e w'=>e=.returned (.tuple #[.int .i64 (l.length:Int),.int .i64 0])/\B7 w' g M/\Upd [g.j.jb] w w':=by
 have hb:((g.h:Int) == 0)=false:=by rw[beq_eq_false_iff_ne];omega
 have HO:=η (T3 h);have HH:=η h;rcases ht.at_ with⟨rfl,rfl,rfl⟩ | ⟨hr,d,hs⟩
 ·clear h ht;go_enter Tryz.func66,Tryz.ntmps66
  go_wp2_with fail
  refine HO.out.mono ?_;rintro e w1 ⟨rfl,n1,hn1⟩;have HU1:Hid (Upd [] w w1):=by show Upd _ _ _;rw[hn1];exact(Upd.refl _ _).drewN _
  clear hn1;go_wp2_with fail
  go_ret2;exact⟨rfl,HH.out.below HU1.out,HU1.out.mono (by simp)⟩
 ·have hrb:((r:Int) == 0)=false:=by rw[beq_eq_false_iff_ne];omega
  have hd:=hs.flat hl;have hlf:=ht.left;have HS:=η hs;have HL:=η ht.low;have HSL:Hid ((S.length:Int)<=(g.h:Int)):=by show _<=_;omega
  clear h ht hs hlf;go_enter Tryz.func66,Tryz.ntmps66
  go_wp2_with fail
  refine HO.out.mono ?_;rintro e w1 ⟨rfl,n1,hn1⟩;have HU1:Hid (Upd [] w w1):=by show Upd _ _ _;rw[hn1];exact(Upd.refl _ _).drewN _
  have HO1:=η (T3 (HH.out.below HU1.out));clear hn1;go_wp2_with fail
  refine HO1.out.mono ?_;rintro e w2 ⟨rfl,n2,hn2⟩;have HU2:Hid (Upd [] w w2):=by show Upd _ _ _;rw[hn2];exact HU1.out.drewN _
  clear hn2;have h2:=HH.out.below HU2.out;have hjlt:=h2.jr.at_.lt;obtain⟨w3,hw3⟩:∃w3,w3=(w2.alloc (.cells #[.int .i64 0] 3)).alloc (.cells #[.int .i64 0] 3):=⟨_,rfl⟩;have hu3:Upd [] w2 w3:=by rw[hw3];exact((Upd.refl _ _).alloc _).alloc _
  have n3:w3.heap[w2.heap.size]?=some (.cells #[.int .i64 0] 3 (0,0)):=by rw[hw3,A9 (by simp)];exact A6 _
  have l3:w3.heap[w2.heap.size+1]?=some (.cells #[.int .i64 0] 3 (0,0)):=by rw[hw3];have:=A6 (w:=w2.alloc (.cells #[.int .i64 0] 3)) (.cells #[.int .i64 0] 3);simpa using this
  obtain⟨w4,hw4⟩:∃w4,w4=w3.setCell ⟨w2.heap.size,0,none⟩ (.int .i64 0):=⟨_,rfl⟩;have st4:=D9 n3 0 (v:=.int .i64 0) (by simp) rfl;rw[← hw4] at st4;have hu4:Upd [w2.heap.size] w3 w4:=by rw[hw4];exact(Upd.refl _ _).set _ (.inl (by simp))
  have n4:w4.heap[w2.heap.size]?=some (.cells #[.int .i64 0] 3 (0,0)):=by rw[hw4];exact B3 n3 0 _
  have l4:=(hu4.block _ (A2 l3) (by simp)).trans l3;obtain⟨w5,hw5⟩:∃w5,w5=w4.setCell ⟨w2.heap.size+1,0,none⟩ (.int .i64 (g.h:Int)):=⟨_,rfl⟩;have st5:=D9 l4 0 (v:=.int .i64 (g.h:Int)) (by simp) rfl;rw[← hw5] at st5;have hu5:Upd [w2.heap.size+1] w4 w5:=by rw[hw5];exact(Upd.refl _ _).set _ (.inl (by simp))
  have l5:w5.heap[w2.heap.size+1]?=some (.cells #[.int .i64 (g.h:Int)] 3 (0,0)):=by rw[hw5];exact B3 l4 0 _
  have n5:=(hu5.block _ (A2 n4) (by simp)).trans n4;have h5:B7 w5 g M:=((h2.below hu3).turnedI (λ b hb=>by simp at hb;subst hb;exact⟨_,_,n3⟩) hu4).turnedI (λ b hb=>by simp at hb;subst hb;exact⟨_,_,l4⟩) hu5;have hW:=Ar1 (t:=Ap1) (U:=[w2.heap.size]) (B:=w.heap.size) (Inv:=Bi5 w2.heap.size) (lb:=w2.heap.size+1) (from_:=z32) (g:=g) (M:=M) Ch6
   (λ a v v' hi hu=>⟨(hu.block _ (A2 hi.1) (by simp;omega)).trans hi.1,hi.2⟩) (λ a v v' hi hu=>⟨(hu.block _ (A2 hi.1) (by simp)).trans hi.1,hi.2⟩) Cr0 (by simp) Z3 d h5 HS.out HL.out (deep:=16) (by omega) (by omega) HSL.out (by omega) l5 0 ⟨n5,by unfold wrap64;omega⟩ (λ k hk=>by simp at hk;subst hk;exact A2 n5) (by show 0+l.length<=1000;omega)
  unfold arr at hW;have HWK:=η hW;have HU5:Hid (Upd [] w w5):=by
   show Upd _ _ _
   have a3:=HU2.out.trans hu3;have hsz:=HU2.out.size;exact(a3.late hu4 (λ k hk=>by simp at hk;subst hk;exact .inr hsz)).late hu5 (λ k hk=>by simp at hk;subst hk;exact .inr (by omega))
  have HSZ:=η HU2.out.size;rw[hw3] at st4;have bi:=Ca8;clear h2 hjlt hw3 hu3 n3 l3 hw4 hu4 n4 l4 hw5 hu5 l5 n5 h5 hW;go_wp2_with fail
  refine HWK.out.mono ?_;rintro e w6 ⟨la,lv,y,el,hla,rfl,hi,h6,_,_,_,hf⟩;have hla0:la=[]:=by
   cases la with
   | nil=>rfl
   | cons p la=>
    have h1:=hla p (by simp);have h2:=HS.out.pairs p (by rw[el];simp);have h3:=Bo2 32 p.1 h2.1;unfold z32 at h1;rw[h3] at h1;simp at h1
  subst hla0;rw[List.nil_append] at el;subst el;have hF:(Ap1.F 0 l).1=(l.length:Int):=by
   show(if l=[] then(0:Int) else wrap64 (0+l.length))=_
   by_cases h0:l=[]
   ·subst h0;simp
   ·rw[if_neg h0];unfold wrap64;omega
  rw[hF] at hi;have m6:=A4 hi.1 0;have H6:=η h6;have HU6:Hid (Upd [g.j.jb] w w6):=by
   show Upd _ _ _
   obtain⟨S',hu,hS'⟩:=hf;refine(HU5.out.mono (T:=[g.j.jb]) (by simp)).late hu (λ k hk=>?_);have hsz:=HSZ.out;rcases hS' k hk with q | ⟨q,_⟩
   ·simp only[List.mem_cons,List.not_mem_nil,or_false] at q;rcases q with rfl | rfl | rfl
    ·exact .inr (by omega)
    ·exact .inl (by simp)
    ·exact .inr hsz
   ·exact .inr q
  clear hi hF h6 hf hla;go_wp2_with fail
  go_ret2;exact⟨rfl,H6.out,HU6.out⟩
theorem Cb0{w:World}{g:Sg}{M:Nat->Option Sec}(h:B7 w g M)(hh1:1<g.h)(hh2:g.h<=4096){r:Nat}{l:List B0}{S:List Nat}(ht:N0 (g.cur M) g.h r l S)(hl:l.length<490) :
  Calls Tryz.prog 66 #[.pointer (some ⟨g.x.tb,0,none⟩),.int .u32 (r:Int)] w λ e w'=>e=.returned (.tuple #[.int .i64 (l.length:Int),.int .i64 0])/\B7 w' g M/\Upd [g.j.jb] w w':=Ca9 h hh1 hh2 ht.in_ hl
end
section
def U8(from_:Bs)(most:Int)(acc:List B0)(p:B0):List B0:=if ltB p.1 from_=false/\(acc.length:Int)<most then acc ++ [p] else acc
def Q2(from_:Bs)(most:Int)(acc:List B0)(l:List B0):List B0:=l.foldl (U8 from_ most) acc
theorem Ch7(from_:Bs)(most:Int)(acc:List B0)(p:B0):(U8 from_ most acc p).length<=acc.length+1:=by unfold U8;split<;>simp
theorem Ba4(from_:Bs)(most:Int):∀(l acc:List B0),(Q2 from_ most acc l).length<=acc.length+l.length
 | [],acc=>by simp[Q2]
 | p :: l,acc=>by
  have h1:=Ch7 from_ most acc p;have h2:=Ba4 from_ most l (U8 from_ most acc p);show(Q2 from_ most (U8 from_ most acc p) l).length<=_
  simp only[List.length_cons];omega
theorem Ba5(from_:Bs)(most:Int):∀(l acc:List B0),¬(acc.length:Int)<most->Q2 from_ most acc l=acc
 | [],_,_=>rfl
 | p :: l,acc,h=>by
  show Q2 from_ most (U8 from_ most acc p) l=acc
  have:U8 from_ most acc p=acc:=by unfold U8;rw[if_neg (by intro q;exact h q.2)]
  rw[this];exact Ba5 from_ most l acc h
theorem Ar2(from_:Bs)(most:Int)(acc l1 l2:List B0):Q2 from_ most acc (l1++l2)=Q2 from_ most (Q2 from_ most acc l1) l2:=by unfold Q2;rw[List.foldl_append]
def Ar3(from_:Bs)(most:Int):Ba3 (List B0) where
 F acc c:=(Q2 from_ most acc c,if c=[] then true else decide (((Q2 from_ most acc c).length:Int)<most))
 go:=λ a l1 l2 h=>by
  by_cases h1:l1=[]
  ·subst h1;rfl
  ·by_cases h2:l2=[]
   ·subst h2;rw[List.append_nil];show _=(Q2 from_ most (Q2 from_ most a l1) [],_)
    simp only[if_true];exact Prod.ext rfl h
   ·have h3:¬(l1++l2=[]):=by simp[h1]
    simp only[h2,h3,if_false,Ar2]
 stop:=λ a l1 l2 h=>by
  by_cases h1:l1=[]
  ·subst h1;simp at h
  ·have h3:¬(l1++l2=[]):=by simp[h1]
   simp only[h1,if_false] at h;have hf:=Ba5 from_ most l2 _ (of_decide_eq_false h);simp only[h3,if_false,Ar2,hf];rw[h]
 nil:=λ a=>by simp[Q2]
 wt:=λ acc=>acc.length
 grow:=λ a l=>Ba4 from_ most l a
theorem Ap2(from_:Bs)(most:Nat):∀(l acc:List B0),acc.length<=most->Q2 from_ (most:Int) acc l=acc++(l.filter λ p=> !ltB p.1 from_).take (most-acc.length)
 | [],acc,_=>by simp[Q2]
 | p :: l,acc,h=>by
  show Q2 from_ (most:Int) (U8 from_ (most:Int) acc p) l=_
  cases hp:ltB p.1 from_
  ·by_cases hl:acc.length<most
   ·have e:U8 from_ (most:Int) acc p=acc ++ [p]:=by unfold U8;rw[if_pos ⟨hp,by omega⟩]
    rw[e,Ap2 from_ most l _ (by simp;omega),List.filter_cons_of_pos (by rw[hp];rfl)];obtain⟨m,hm⟩:∃m,most-acc.length=m+1:=⟨most-acc.length-1,by omega⟩;rw[hm,List.take_succ_cons,List.length_append,List.length_singleton,show most-(acc.length+1)=m by omega];simp
   ·have e:U8 from_ (most:Int) acc p=acc:=by unfold U8;rw[if_neg (by intro q;omega)]
    rw[e,Ap2 from_ most l acc h,show most-acc.length=0 by omega];simp
  ·have e:U8 from_ (most:Int) acc p=acc:=by unfold U8;rw[if_neg (by intro q;rw[hp] at q;simp at q)]
   rw[e,Ap2 from_ most l acc h,List.filter_cons_of_neg (by rw[hp];simp)]
def pc(p:B0):List Value:=bts p.1++bts p.2
def E8(w:World)(B:Nat)(v:Value)(l:List B0):Prop:=w.ownsRow B TP 48 v l.length (l.map pc).flatten
theorem Ae3:(Tryz.prog.info? 169).map (λ i=>(i.zero,i.size,i.bytes))=some (some (.agg ((List.replicate 48 (Value.int .u8 0)).toArray)),48,48):=by kernel_rfl
def Y3(bf bl bm B:Nat)(from_:Bs)(most:Int)(acc:List B0)(w:World):Prop:=
 B<=w.heap.size/\w.heap[bf]?=some (.cells (bts from_).toArray 35 (0,0))/\w.heap[bm]?=some (.cells #[.int .i64 most] 3 (0,0))/\∃v,w.heap[bl]?=some (.cells #[v] 110 (0,0))/\E8 w B v acc
theorem L8{p:B0}(h1:p.1.length=32)(h2:p.2.length=16):(pc p).length=48:=by unfold pc;rw[List.length_append,A8,A8,h1,h2]
theorem Ae4(p:B0):∀u∈pc p,u.oneCell'=true:=λ u hu=>(List.mem_append.1 hu).elim (G7 _ u) (G7 _ u)
theorem An1{k v:Bs}(hk:k.length=32)(hv:v.length=16)(w:World):(Instr.build 169 #[(0,.agg (bts k).toArray),(1,.agg (bts v).toArray)]).run Tryz.prog w=.ok (.agg (pc (k,v)).toArray) w:=by
 match k,hk,v,hv with
 | [x0,x1,x2,x3,x4,x5,x6,x7,x8,x9,x10,x11,x12,x13,x14,x15,x16,x17,x18,x19,x20,x21,x22,x23,x24,x25,x26,x27,x28,x29,x30,x31],_,[y0,y1,y2,y3,y4,y5,y6,y7,y8,y9,y10,y11,y12,y13,y14,y15],_=>exact run_build w _ _ _ (by kernel_rfl)
theorem Av2{p:B0}(h1:p.1.length=32)(h2:p.2.length=16)(w:World):(Instr.buildSlice 110 1 #[(0,.agg (pc p).toArray)]).run Tryz.prog w=.ok (.slice (some ⟨w.heap.size,0,none⟩) 1 1) (w.alloc (.cells (pc p).toArray 169)):=
 Y8 (e:=169) (sz:=48) Tryz.underlying110 (by kernel_rfl) (by decide) (by decide) (pc p) (L8 h1 h2) w
theorem E8.shape{w:World}{B:Nat}{v:Value}{l:List B0}(h:E8 w B v l):∃a c,v=.slice a l.length c:=by
 rcases h.2 with⟨e,h0⟩ | ⟨g,cap,cur,e,_⟩
 ·exact⟨none,0,by rw[e,h0]⟩
 ·exact⟨_,_,e⟩
def TyS(T:TypeId):Prop:=T=TP∨T=110
theorem B7.turnedS{w w':World}{g:Sg}{M:Nat->Option Sec}(h:B7 w g M){S:List Nat}(hb:∀b,b∈S->∃c T fr,w.heap[b]?=some (.cells c T fr)/\TyS T)(hu:Upd S w w'):B7 w' g M:=by
 refine⟨h.jr.own hu (λ k hk=>?_),h.tx.upd hu (λ hk=>?_) (λ hk=>?_) (λ k c hk e=>?_),h.ne,h.ok,h.len,h.fx⟩
 ·obtain⟨c,T,fr,hb,t⟩:=hb k hk;rcases t with rfl | rfl;all_goals exact⟨_,_,_,hb,by decide,by decide,by decide,by decide⟩
 ·obtain⟨c,T,fr,hb,t⟩:=hb _ hk;have:=h.tx.st;rw[hb] at this;rcases t with rfl | rfl;all_goals simp[TP] at this
 ·obtain⟨c,T,fr,hb,t⟩:=hb _ hk;exact h.tx.map hb
 ·obtain⟨c2,T,fr,hb,t⟩:=hb _ hk;rcases t with rfl | rfl;all_goals rw[hb] at e;simp[TP] at e
attribute [-go_sem] loadCells storeCells Instr.build Instr.buildSlice
theorem Cb1{g:Sg}{M:Nat->Option Sec}{bf bl bm B:Nat}{from_:Bs}(hfrom:from_.length=32){most:Int}:Cm3 (Ar3 from_ most) g M 137 #[.pointer (some ⟨bf,0,none⟩),.pointer (some ⟨bl,0,none⟩),.pointer (some ⟨bm,0,none⟩)] [bl] B (Y3 bf bl bm B from_ most):=by
 intro acc w l vk vv Bk hI h hne hwt hok hK hV hU;have hpr:=hok.pairs;obtain⟨ak,ck,rfl⟩:=C4 hK;obtain⟨av,cv,rfl⟩:=C4 hV;have hlk:(l.map (·.1)).length=l.length:=List.length_map _;have hlv:(l.map (·.2)).length=l.length:=List.length_map _;rw[hlk,hlv];unfold C3 at hK;unfold F7 at hV;rw[hlk] at hK;rw[hlv] at hV;clear hlk hlv;have hBk:bl<Bk:=hU bl (by simp);obtain⟨w1,hw1⟩:∃w1,w1=w.alloc (.cells #[.int .i64 1,.slice ak l.length ck,.slice av l.length cv,.slice none 0 0] 220):=⟨_,rfl⟩;have hu1:Upd [] w w1:=by rw[hw1];exact(Upd.refl _ _).alloc _
 obtain⟨b4,hb4⟩:∃b,b=w.heap.size:=⟨_,rfl⟩;have c4:w1.heap[b4]?=some (.cells #[.int .i64 1,.slice ak l.length ck,.slice av l.length cv,.slice none 0 0] 220 (0,0)):=by rw[hw1,hb4];exact A6 _
 have m4:=A4 c4 1;have hI1:Y3 bf bl bm B from_ most acc w1:=by
  obtain⟨i0,i1,i2,v,i3,i4⟩:=hI;exact⟨Nat.le_trans i0 hu1.size,(hu1.block _ (A2 i1) (by simp)).trans i1,(hu1.block _ (A2 i2) (by simp)).trans i2,v,(hu1.block _ (A2 i3) (by simp)).trans i3,B8 (S:=[]) i4 hu1 (by simp)⟩
 have HI1:=η hI1;have HS1:=η (h.below hu1);have HC4:=η c4;have HK1:=η (B8 (S:=[]) hK hu1 (by simp));have HV1:=η (B8 (S:=[]) hV hu1 (by simp));have HF1:Hid (WFr [bl] B TP w w1):=η (WFr.of hu1 (by simp));have HOK:=η hok;have HPR:=η hpr;have HNE:=η hne;have HWT:Hid (acc.length+l.length<=1000):=η hwt;have HW1:=η hw1;have HB4:=η hb4;rw[hw1,hb4] at m4;clear hI h hne hwt hok hK hV hU hw1 hu1 hb4 c4 hI1 hpr;go_enter Tryz.func137,Tryz.ntmps137
 go_wp2_with fail
 have hw1:=HW1.out;have hb4:=HB4.out;rw[← hw1,← hb4];clear hw1 hb4 m4;go_loopw [11] (λ i wr=>∃(q:Nat),q<=l.length/\i=.int .i64 (q:Int)/\Y3 bf bl bm B from_ most (Q2 from_ most acc (l.take q)) wr/\B7 wr g M/\wr.heap[b4]?=some (.cells #[.int .i64 1,.slice ak l.length ck,.slice av l.length cv,.slice none 0 0] 220 (0,0))/\
   wr.ownsRow Bk 35 32 (.slice ak l.length ck) l.length ((l.map (·.1)).map bts).flatten/\wr.ownsRow Bk 115 16 (.slice av l.length cv) l.length ((l.map (·.2)).map bts).flatten/\WFr [bl] B TP w wr) (λ i _=>l.length-(intOf i).toNat)
 case atStart=>exact⟨0,by omega,rfl,HI1.out,HS1.out,HC4.out,HK1.out,HV1.out,HF1.out⟩
 case round=>
  obtain⟨q,hq,rfl,hI,hsp,c4,hK,hV,hf⟩:=hrel;have hlen10:l.length<=10:=by have:=HOK.out.most;rw[List.length_map] at this;exact this
  rcases Nat.lt_or_ge q l.length with hlt | hge
  ·have hqb:decide ((q:Int)<(l.length:Int))=true:=decide_eq_true (by omega);have hqi:(q:Int)<(l.length:Int):=by omega
   obtain⟨p,hp⟩:∃p,l[q]?=some p:=⟨_,List.getElem?_eq_getElem hlt⟩;obtain⟨hp1,hp2⟩:=HPR.out p (List.mem_of_getElem? hp);have hKr:C3 wr Bk (.slice ak l.length ck) (l.map (·.1)):=by unfold C3;rw[List.length_map];exact hK
   have hVr:F7 wr Bk (.slice av l.length cv) (l.map (·.2)):=by unfold F7;rw[List.length_map];exact hV
   obtain⟨bk,ok,rfl,hrk⟩:=(C3.rd hKr HOK.out.k).at (i:=q) (e:=bts p.1) (by rw[List.getElem?_map,List.getElem?_map,hp];rfl);obtain⟨bv,ov,rfl,hrv⟩:=(F7.rd hVr HOK.out.v).at (i:=q) (e:=bts p.2) (by rw[List.getElem?_map,List.getElem?_map,hp];rfl);have lk:=B2 hrk hp1;have s7:=K3 wr hp1;obtain⟨w2,hw2⟩:∃w2,w2=wr.alloc (.cells (bts p.1).toArray 35):=⟨_,rfl⟩;rw[← hw2] at s7;have hu2:Upd [] wr w2:=by rw[hw2];exact(Upd.refl _ _).alloc _
   have c7:w2.heap[wr.heap.size]?=some (.cells (bts p.1).toArray 35 (0,0)):=by rw[hw2];exact A6 _
   obtain⟨i0,i1,i2,v,i3,i4⟩:=hI;obtain⟨ap,cp,rfl⟩:=i4.shape;have l7:=A7 (n:=32) c7 (by rw[A8,hp1]);have lf:=A7 (n:=32) ((hu2.block _ (A2 i1) (by simp)).trans i1) (by rw[A8,hfrom]);have HLS:Hid (Calls Tryz.prog 138 #[.agg (bts p.1).toArray,.agg (bts from_).toArray] w2 λ e w'=>e=.returned (.bool (ltB p.1 from_))/\Upd [] w2 w'):=η (Be1 p.1 from_ hp1 hfrom w2);have HP:=η hp;have HI:Hid (B<=wr.heap.size/\wr.heap[bf]?=some (.cells (bts from_).toArray 35 (0,0))/\wr.heap[bm]?=some (.cells #[.int .i64 most] 3 (0,0))/\wr.heap[bl]?=some (.cells #[.slice ap (Q2 from_ most acc (l.take q)).length cp] 110 (0,0))/\E8 wr B (.slice ap (Q2 from_ most acc (l.take q)).length cp) (Q2 from_ most acc (l.take q))):=η ⟨i0,i1,i2,i3,i4⟩;have HSr:=η hsp;have HC4r:=η c4;have HKr:=η hK;have HVr:=η hV;have HFr:=η hf;have HU2:=η hu2;have HC7:=η c7;have HRV:=η hrv;clear i0 i1 i2 i3 i4 hsp c4 hK hV hf hu2 c7 hrv hrk hKr hVr hw2;go_wp2_with fail
   refine HLS.out.mono ?_;rintro e w3 ⟨rfl,hu3⟩;obtain⟨i0,i1,i2,i3,i4⟩:=HI.out;have hu23:Upd [] wr w3:=HU2.out.trans hu3;have j0:B<=w3.heap.size:=Nat.le_trans i0 hu23.size;have j1:=(hu23.block _ (A2 i1) (by simp)).trans i1;have j2:=(hu23.block _ (A2 i2) (by simp)).trans i2;have j3:=(hu23.block _ (A2 i3) (by simp)).trans i3;have j4:E8 w3 B _ _:=B8 (S:=[]) i4 hu23 (by simp);have j5:=HSr.out.below hu23;have j6:=(hu23.block _ (A2 HC4r.out) (by simp)).trans HC4r.out;have j7:=B8 (S:=[]) HKr.out hu23 (by simp);have j8:=B8 (S:=[]) HVr.out hu23 (by simp);have j9:WFr [bl] B TP w w3:=HFr.out.trans (WFr.of hu23 (by simp));have j10:=(hu3.block _ (A2 HC7.out) (by simp)).trans HC7.out;have hle:(Q2 from_ most acc (l.take q)).length<=1000:=by
    have h1:=Ba4 from_ most (l.take q) acc;have h2:=HWT.out;rw[List.length_take] at h1;omega
   have hst:Q2 from_ most acc (l.take (q+1))=U8 from_ most (Q2 from_ most acc (l.take q)) p:=by
    rw[List.take_add_one,HP.out,Ar2];rfl
   have HST:=η hst;clear hst hu3;generalize Q2 from_ most acc (l.take q)=A at *;have ml:=A4 j3 0;have mm:=A4 j2 0;have HNX:Hid (U8 from_ most A p=A->Y3 bf bl bm B from_ most (Q2 from_ most acc (l.take (q+1))) w3/\B7 w3 g M/\w3.heap[b4]?=some (.cells #[.int .i64 1,.slice (some ⟨bk,ok,none⟩) l.length ck,.slice (some ⟨bv,ov,none⟩) l.length cv,.slice none 0 0] 220 (0,0))/\
   w3.ownsRow Bk 35 32 (.slice (some ⟨bk,ok,none⟩) l.length ck) l.length ((l.map (·.1)).map bts).flatten/\w3.ownsRow Bk 115 16 (.slice (some ⟨bv,ov,none⟩) l.length cv) l.length ((l.map (·.2)).map bts).flatten/\WFr [bl] B TP w w3):=by
    show _->_
    intro e;exact⟨by rw[HST.out,e];exact⟨j0,j1,j2,_,j3,j4⟩,j5,j6,j7,j8,j9⟩
   cases hlt2:ltB p.1 from_
   ·by_cases hm:(A.length:Int)<most
    ·have hmb:decide ((A.length:Int)<most)=true:=decide_eq_true hm;have hsc:U8 from_ most A p=A ++ [p]:=by unfold U8;rw[if_pos ⟨hlt2,hm⟩]
     obtain⟨a',b',c',w5,S5,hrun0,hown5,hu5,hS5⟩:=Af4 (T:=110) (e:=169) Tryz.underlying110 Ae3 rfl (by decide) (by decide) (w:=w3.drew) (B8 (S:=[]) j4 (Upd.refl [] _).drew (by simp)) hle j0 (pc p) (L8 hp1 hp2) (Ae4 p);have hrun:∀ty,(Builtin.append_ #[110,110] ty #[.slice ap A.length cp,.slice (some ⟨w3.heap.size,0,none⟩) 1 1]).run Tryz.prog (w3.alloc (.cells (pc p).toArray 169)).drew=.ok (.slice a' b' c') w5:=hrun0;have hkeep:∀{k:Nat} {c:Array Value} {T2:TypeId} {fr:Nat × Nat},w3.heap[k]?=some (.cells c T2 fr)->T2≠TP->w5.heap[k]?=some (.cells c T2 fr):=by
      intro k c T2 fr hk hT;refine(hu5.block k (A2 hk) (λ x=>?_)).trans hk;obtain⟨_,c2,e⟩:=hS5 k x;have e':w3.heap[k]?=some (.cells c2 TP (0,0)):=e;rw[hk] at e';simp at e';exact hT e'.2.1
     have k1:=hkeep j1 (by decide);have k2:=hkeep j2 (by decide);have k3:=hkeep j3 (by decide);have k6:=hkeep j6 (by decide);have k10:=hkeep j10 (by decide);have k7:=B8 (S:=S5) (w:=w3.drew) (B8 (S:=[]) j7 (Upd.refl [] _).drew (by simp)) hu5 (λ k c hk _ e=>by obtain⟨_,c2,e2⟩:=hS5 k hk;rw[e] at e2;simp at e2);have k8:=B8 (S:=S5) (w:=w3.drew) (B8 (S:=[]) j8 (Upd.refl [] _).drew (by simp)) hu5 (λ k c hk _ e=>by obtain⟨_,c2,e2⟩:=hS5 k hk;rw[e] at e2;simp at e2);have rvs:∀{w':World},w'.ownsRow Bk 115 16 (.slice (some ⟨bv,ov,none⟩) l.length cv) l.length ((l.map (·.2)).map bts).flatten->w'.rangeAt bv (ov+q*16) (bts p.2):=by
      intro w' ho;obtain⟨b,off,e,hr⟩:=(F7.rd (show F7 w' Bk (.slice (some ⟨bv,ov,none⟩) l.length cv) (l.map (·.2)) by unfold F7;rw[List.length_map];exact ho) HOK.out.v).at (i:=q) (e:=bts p.2) (by rw[List.getElem?_map,List.getElem?_map,HP.out];rfl);cases e
      exact hr
     have hua:Upd [] w3 (w3.alloc (.cells (pc p).toArray 169)).drew:=((Upd.refl [] w3).alloc _).drew;have HSA:Hid ((w3.alloc (.cells (pc p).toArray 169)).drew.heap[bl]?=some (.cells #[.slice ap A.length cp] 110 (0,0))/\(w3.alloc (.cells (pc p).toArray 169)).drew.heap[wr.heap.size]?=some (.cells (bts p.1).toArray 35 (0,0))/\(w3.alloc (.cells (pc p).toArray 169)).drew.heap[b4]?=some (.cells #[.int .i64 1,.slice (some ⟨bk,ok,none⟩) l.length ck,.slice (some ⟨bv,ov,none⟩) l.length cv,.slice none 0 0] 220 (0,0))/\(w3.alloc (.cells (pc p).toArray 169)).drew.rangeAt bv (ov+q*16) (bts p.2)):=
      η ⟨(hua.block _ (A2 j3) (by simp)).trans j3,(hua.block _ (A2 j10) (by simp)).trans j10,(hua.block _ (A2 j6) (by simp)).trans j6,rvs (B8 (S:=[]) j8 hua (by simp))⟩
     have HSB:Hid (w5.heap[bl]?=some (.cells #[.slice ap A.length cp] 110 (0,0))/\w5.heap[wr.heap.size]?=some (.cells (bts p.1).toArray 35 (0,0))/\w5.heap[b4]?=some (.cells #[.int .i64 1,.slice (some ⟨bk,ok,none⟩) l.length ck,.slice (some ⟨bv,ov,none⟩) l.length cv,.slice none 0 0] 220 (0,0))/\w5.rangeAt bv (ov+q*16) (bts p.2)):=η ⟨k3,k10,k6,rvs k8⟩;have HS0:Hid (w3.drew.heap[bl]?=some (.cells #[.slice ap A.length cp] 110 (0,0))/\w3.drew.heap[wr.heap.size]?=some (.cells (bts p.1).toArray 35 (0,0))/\w3.drew.heap[b4]?=some (.cells #[.int .i64 1,.slice (some ⟨bk,ok,none⟩) l.length ck,.slice (some ⟨bv,ov,none⟩) l.length cv,.slice none 0 0] 220 (0,0))/\w3.drew.rangeAt bv (ov+q*16) (bts p.2)):=η ⟨j3,j10,j6,rvs (B8 (S:=[]) j8 (Upd.refl [] _).drew (by simp))⟩;obtain⟨w6,hw6⟩:∃w6,w6=w5.setCell ⟨bl,0,none⟩ (.slice a' b' c'):=⟨_,rfl⟩;have st6:=D9 k3 0 (v:=.slice a' b' c') (by simp) rfl;rw[← hw6] at st6;have hu6:Upd [bl] w5 w6:=by rw[hw6];exact(Upd.refl _ _).set _ (.inl (by simp))
     have c6:w6.heap[bl]?=some (.cells #[.slice a' b' c'] 110 (0,0)):=by rw[hw6];exact B3 k3 0 _
     have hnb:∀{k:Nat} {c:Array Value} {T2:TypeId} {fr:Nat × Nat},w5.heap[k]?=some (.cells c T2 fr)->T2≠110->w6.heap[k]?=some (.cells c T2 fr):=by
      intro k c T2 fr hk hT;refine(hu6.block k (A2 hk) (λ x=>?_)).trans hk;simp at x;subst x;rw[k3] at hk;simp at hk;exact hT hk.2.1.symm
     have HRES:Hid (Y3 bf bl bm B from_ most (Q2 from_ most acc (l.take (q+1))) w6/\B7 w6 g M/\w6.heap[b4]?=some (.cells #[.int .i64 1,.slice (some ⟨bk,ok,none⟩) l.length ck,.slice (some ⟨bv,ov,none⟩) l.length cv,.slice none 0 0] 220 (0,0))/\
   w6.ownsRow Bk 35 32 (.slice (some ⟨bk,ok,none⟩) l.length ck) l.length ((l.map (·.1)).map bts).flatten/\w6.ownsRow Bk 115 16 (.slice (some ⟨bv,ov,none⟩) l.length cv) l.length ((l.map (·.2)).map bts).flatten/\WFr [bl] B TP w w6):=by
      show _/\_
      refine⟨?_,?_,hnb k6 (by decide),Ac7 k7 k3 hu6 (by decide),Ac7 k8 k3 hu6 (by decide),?_⟩
      ·rw[HST.out,hsc];refine⟨Nat.le_trans j0 (Nat.le_trans hu5.size hu6.size),hnb k1 (by decide),hnb k2 (by decide),_,c6,?_⟩;unfold E8;rw[List.length_append,List.map_append,List.flatten_append];have:=Ac7 hown5 k3 hu6 (by decide);simpa using this
      ·refine B7.turnedS (S:=[bl]) (B7.turnedS (S:=S5) (w:=w3.drew) (j5.below (Upd.refl [] _).drew) (λ b hb=>?_) hu5) (λ b hb=>?_) hu6
       ·obtain⟨_,c2,e2⟩:=hS5 b hb;exact⟨c2,_,_,e2,.inl rfl⟩
       ·simp at hb;subst hb;exact⟨_,_,_,k3,.inr rfl⟩
      ·exact((j9.trans (WFr.of (Upd.refl [] w3).drew (by simp))).trans ⟨S5,hu5,λ k hk=> .inr (hS5 k hk)⟩).trans (WFr.of hu6 (by simp))
     have bP:=Av2 hp1 hp2;have bp:=An1 hp1 hp2;rw[show((p.1,p.2):B0)=p from rfl] at bp;clear j0 j1 j2 j3 j4 j5 j6 j7 j8 j9 j10 i0 i1 i2 i3 i4 HNX k1 k2 k3 k6 k7 k8 k10 hrun0 hown5 hu5 hS5 hkeep rvs hua hw6 hu6 c6 hnb hu23;go_wp2_with fail
     refine B6 (λ w'=>w'.heap[bl]?=some (.cells #[.slice ap A.length cp] 110 (0,0))/\w'.heap[wr.heap.size]?=some (.cells (bts p.1).toArray 35 (0,0))/\w'.heap[b4]?=some (.cells #[.int .i64 1,.slice (some ⟨bk,ok,none⟩) l.length ck,.slice (some ⟨bv,ov,none⟩) l.length cv,.slice none 0 0] 220 (0,0))/\w'.rangeAt bv (ov+q*16) (bts p.2)) [10] (by kernel_rfl) HS0.out (λ hHeld=>?_);refine κt 0 ?_ hHeld ?_ ?_;rotate_left
     ·(intro w hSw;have q1:=A4 hSw.1 0;go_simp<;>with_reducible rfl)
     try simp only[Act.put,κg,κo,κp,αs,αz,αc]
     refine κt 1 ?_ hHeld ?_ ?_;rotate_left
     ·(intro w hSw;have q1:=A7 (n:=32) hSw.2.1 (by rw[A8,hp1]);go_simp<;>with_reducible rfl)
     try simp only[Act.put,κg,κo,κp,αs,αz,αc]
     refine κt 2 ?_ hHeld ?_ ?_;rotate_left
     ·(intro w hSw;go_simp<;>with_reducible rfl)
     try simp only[Act.put,κg,κo,κp,αs,αz,αc]
     refine κt 3 ?_ hHeld ?_ ?_;rotate_left
     ·(intro w hSw;have q1:=A4 hSw.2.2.1 2;go_simp<;>with_reducible rfl)
     try simp only[Act.put,κg,κo,κp,αs,αz,αc]
     refine κt 4 ?_ hHeld ?_ ?_;rotate_left
     ·(intro w hSw;go_simp<;>with_reducible rfl)
     try simp only[Act.put,κg,κo,κp,αs,αz,αc]
     refine κt 5 ?_ hHeld ?_ ?_;rotate_left
     ·(intro w hSw;go_simp<;>with_reducible rfl)
     try simp only[Act.put,κg,κo,κp,αs,αz,αc]
     refine κt 6 ?_ hHeld ?_ ?_;rotate_left
     ·(intro w hSw;have q1:=U6 hSw.2.2.2 hp2;go_simp<;>with_reducible rfl)
     try simp only[Act.put,κg,κo,κp,αs,αz,αc]
     refine κt 7 ?_ hHeld ?_ ?_;rotate_left
     ·(intro w hSw;go_simp<;>with_reducible rfl)
     try simp only[Act.put,κg,κo,κp,αs,αz,αc]
     refine κr 8 (λ K hK=>?_);go_simp;refine hK.out _ _ (λ _=>HSA.out) ?_;clear hK K;try simp only[Act.put,κg,κo,κp,αs,αz,αc]
     refine κr 9 (λ K hK=>?_);refine G5 (by rfl) _ _ _ (by rfl) (by rfl) (by rfl) hrun ?_;refine hK.out _ _ (λ _=>HSB.out) ?_;clear hK K;try simp only[Act.put,κg,κo,κp,αs,αz,αc]
     refine κr 10 (λ K hK=>?_);go_simp;refine hK.out _ _ (B9 (by kernel_rfl)) ?_;clear hK K;try simp only[Act.put,κg,κo,κp,αs,αz,αc]
     refine B1 (by kernel_rfl) ?_ _;go_wp2_with fail
     exact⟨⟨q+1,by omega,by go_num,HRES.out⟩,by simp[intOf];omega⟩
    ·have hmb:decide ((A.length:Int)<most)=false:=decide_eq_false hm;have hsc:U8 from_ most A p=A:=by unfold U8;rw[if_neg (by intro x;exact hm x.2)]
     clear j0 j1 j2 j3 j4 j5 j6 j7 j8 j9 j10 i0 i1 i2 i3 i4;go_wp2_with fail
     exact⟨⟨q+1,by omega,by go_num,HNX.out hsc⟩,by simp[intOf];omega⟩
   ·have hsc:U8 from_ most A p=A:=by unfold U8;rw[if_neg (by intro x;rw[hlt2] at x;simp at x)]
    clear j0 j1 j2 j3 j4 j5 j6 j7 j8 j9 j10 i0 i1 i2 i3 i4;go_wp2_with fail
    exact⟨⟨q+1,by omega,by go_num,HNX.out hsc⟩,by simp[intOf];omega⟩
  ·obtain rfl:q=l.length:=by omega
   have hqb:decide ((l.length:Int)<(l.length:Int))=false:=decide_eq_false (by omega);rw[List.take_length] at hI;have hI':=hI;obtain⟨i0,i1,i2,v,i3,i4⟩:=hI';obtain⟨ap,cp,rfl⟩:=i4.shape;have ml:=A4 i3 0;have mm:=A4 i2 0;have HIr:=η hI;have HSr:=η hsp;have HFr:=η hf;clear i0 i1 i2 i3 i4 hI hsp c4 hK hV hf;go_wp2_with fail
   go_ret;refine⟨?_,HIr.out,HSr.out,HFr.out⟩;show _=Ending.returned (.bool (if l=[] then true else decide (((Q2 from_ most acc l).length:Int)<most)))
   rw[if_neg HNE.out];rfl
end
section
def O8(from_:Bs)(k:Nat)(l:List B0):List B0:=(l.filter λ p=> !ltB p.1 from_).take k
theorem Cr1(args:Array Value)(w:World):(callFunc 137 args).run Tryz.prog w=.ok (.enter 137 args) w:=by
 have:=Tryz.func137;simp[callFunc,this,Tryz.f137]
theorem Bo3{from_:Bs}{k:Nat}{la lv:List B0}(h:∀p,p∈la->ltB p.1 from_=true):Q2 from_ (k:Int) [] lv=O8 from_ k (la++lv):=by
 rw[Ap2 from_ k lv [] (by simp)];unfold O8;have:la.filter (λ p=> !ltB p.1 from_)=[]:=by
  rw[List.filter_eq_nil_iff];intro p hp;rw[h p hp];simp
 rw[List.filter_append,this];simp
attribute [-go_sem] loadCells storeCells Instr.build Instr.buildSlice
theorem Ba6{w:World}{g:Sg}{M:Nat->Option Sec}(h:B7 w g M)(hh1:1<g.h){from_:Bs}(most:Int) :
  Calls Tryz.prog 63 #[.pointer (some ⟨g.x.tb,0,none⟩),.int .u32 0,arr from_,.int .i64 most] w λ e w'=>e=.returned (.tuple #[.slice none 0 0,.int .i64 0])/\B7 w' g M/\Upd [] w w':=by
 have hb:((g.h:Int) == 0)=false:=by rw[beq_eq_false_iff_ne];omega
 obtain⟨wA,hwA⟩:∃wA,wA=(w.alloc (.cells (bts from_).toArray 35)).alloc (.cells #[.int .i64 most] 3):=⟨_,rfl⟩;have huA:Upd [] w wA:=by rw[hwA];exact((Upd.refl _ _).alloc _).alloc _
 have HO:=η (T3 (h.below huA));have HH:=η (h.below huA);have HUA:=η huA;have HW:=η hwA;clear h huA hwA;unfold arr;go_enter Tryz.func63,Tryz.ntmps63
 go_wp2_with fail
 have hwA:=HW.out;rw[← hwA];clear hwA;refine HO.out.mono ?_;rintro e w1 ⟨rfl,n1,hn1⟩;have HU1:Hid (Upd [] wA w1):=by show Upd _ _ _;rw[hn1];exact(Upd.refl _ _).drewN _
 clear hn1;go_wp2_with fail
 go_ret2;exact⟨rfl,HH.out.below HU1.out,HUA.out.trans HU1.out⟩
theorem Bt5{w:World}{g:Sg}{M:Nat->Option Sec}(h:B7 w g M)(hh1:1<g.h)(hh2:g.h<=4096){r:Nat}{l:List B0}{S:List Nat}(ht:Ba2 (g.cur M) g.h r l S)(hl:l.length<490){from_:Bs}(hfrom:from_.length=32)(k:Nat)(hk:1<=k) :
  Calls Tryz.prog 63 #[.pointer (some ⟨g.x.tb,0,none⟩),.int .u32 (r:Int),arr from_,.int .i64 (k:Int)] w λ e w'=>∃v,e=.returned (.tuple #[v,.int .i64 0])/\E8 w' w.heap.size v (O8 from_ k l)/\B7 w' g M/\Upd [g.j.jb] w w':=by
 rcases ht.at_ with⟨rfl,rfl,rfl⟩ | ⟨hr,d,hs⟩
 ·refine(Ba6 h hh1 (k:Int)).mono ?_;rintro e w' ⟨e1,e2,e3⟩;exact⟨_,e1,by rw[show O8 from_ k []=[] by simp[O8]];exact Y0 _ _ _ _,e2,e3.mono (by simp)⟩
 have hb:((g.h:Int) == 0)=false:=by rw[beq_eq_false_iff_ne];omega
 have hrb:((r:Int) == 0)=false:=by rw[beq_eq_false_iff_ne];omega
 have hkb:decide ((k:Int)<1)=false:=decide_eq_false (by omega);have hkb2:decide (k<1)=false:=decide_eq_false (by omega);have hd:=hs.flat hl;have hlf:=ht.left;have hjlt0:=h.jr.at_.lt;obtain⟨wA,hwA⟩:∃wA,wA=(w.alloc (.cells (bts from_).toArray 35)).alloc (.cells #[.int .i64 (k:Int)] 3):=⟨_,rfl⟩;have huA:Upd [] w wA:=by rw[hwA];exact((Upd.refl _ _).alloc _).alloc _
 have szA:wA.heap.size=w.heap.size+2:=by rw[hwA];simp
 have fA:wA.heap[w.heap.size]?=some (.cells (bts from_).toArray 35 (0,0)):=by rw[hwA,A9 (by simp)];exact A6 _
 have mA:wA.heap[w.heap.size+1]?=some (.cells #[.int .i64 (k:Int)] 3 (0,0)):=by rw[hwA];have:=A6 (w:=w.alloc (.cells (bts from_).toArray 35)) (.cells #[.int .i64 (k:Int)] 3);simpa using this
 have hA:=h.below huA;have HO:=η (T3 hA);have HA:=η hA;have HUA:=η huA;have HFA:=η fA;have HMA:=η mA;have HSA:=η szA;have HJ0:=η hjlt0;have HS:=η hs;have HL:=η ht.low;have HSL:Hid ((S.length:Int)<=(g.h:Int)):=by show _<=_;omega
 have HW:=η hwA;clear h ht hs hlf hjlt0 hwA huA szA fA mA hA;unfold arr;go_enter Tryz.func63,Tryz.ntmps63
 go_wp2_with fail
 have hwA:=HW.out;rw[← hwA];clear hwA;refine HO.out.mono ?_;rintro e w1 ⟨rfl,n1,hn1⟩;have HU1:Hid (Upd [] wA w1):=by show Upd _ _ _;rw[hn1];exact(Upd.refl _ _).drewN _
 have c1:=(HU1.out.block _ (A2 HMA.out) (by simp)).trans HMA.out;have m1:=A4 c1 0;clear hn1 c1;obtain⟨w2,hw2⟩:∃w2,w2=w1.alloc (.cells #[.slice none 0 0] 110):=⟨_,rfl⟩;have hu2:Upd [] w1 w2:=by rw[hw2];exact(Upd.refl _ _).alloc _
 have l2:w2.heap[w1.heap.size]?=some (.cells #[.slice none 0 0] 110 (0,0)):=by rw[hw2];exact A6 _
 have HU2:Hid (Upd [] wA w2):=η (HU1.out.trans hu2);have HO2:=η (T3 (HA.out.below HU2.out));have HL2:=η l2;have HSZ1:=η HU1.out.size;have HW2:=η hw2;clear hw2 hu2 l2;go_wp2_with fail
 have hw2:=HW2.out;rw[← hw2];clear hw2;refine HO2.out.mono ?_;rintro e w3 ⟨rfl,n3,hn3⟩;have hu3:Upd [] w2 w3:=by rw[hn3];exact(Upd.refl _ _).drewN _
 have hsz3:=hu3.size;have bl3:=(hu3.block _ (A2 HL2.out) (by simp)).trans HL2.out;have hblt:=A2 bl3;obtain⟨bl,hbl⟩:∃b,b=w1.heap.size:=⟨_,rfl⟩;rw[← hbl] at bl3 hblt;obtain⟨w4,hw4⟩:∃w4,w4=w3.alloc (.cells #[.int .i64 0] 3):=⟨_,rfl⟩;have hu4:Upd [] w3 w4:=by rw[hw4];exact(Upd.refl _ _).alloc _
 have l4:w4.heap[w3.heap.size]?=some (.cells #[.int .i64 0] 3 (0,0)):=by rw[hw4];exact A6 _
 have b4:=(hu4.block _ (A2 bl3) (by simp)).trans bl3;obtain⟨w5,hw5⟩:∃w5,w5=w4.setCell ⟨w3.heap.size,0,none⟩ (.int .i64 (g.h:Int)):=⟨_,rfl⟩;have st5:=D9 l4 0 (v:=.int .i64 (g.h:Int)) (by simp) rfl;rw[← hw5] at st5;have hu5:Upd [w3.heap.size] w4 w5:=by rw[hw5];exact(Upd.refl _ _).set _ (.inl (by simp))
 have l5:w5.heap[w3.heap.size]?=some (.cells #[.int .i64 (g.h:Int)] 3 (0,0)):=by rw[hw5];exact B3 l4 0 _
 have b5:=(hu5.block _ (A2 b4) (by simp;omega)).trans b4;have huA4:Upd [] wA w4:=(HU2.out.trans hu3).trans hu4;have hszA3:wA.heap.size+1<=w3.heap.size:=by
  have h1:=HSZ1.out;have h2:=A2 HL2.out;omega
 have f5:=(hu5.block _ (A2 ((huA4.block _ (A2 HFA.out) (by simp)).trans HFA.out)) (by have:=A2 HFA.out;simp;omega)).trans ((huA4.block _ (A2 HFA.out) (by simp)).trans HFA.out);have m5:=(hu5.block _ (A2 ((huA4.block _ (A2 HMA.out) (by simp)).trans HMA.out)) (by have:=A2 HMA.out;simp;omega)).trans ((huA4.block _ (A2 HMA.out) (by simp)).trans HMA.out);have h5:B7 w5 g M:=(HA.out.below huA4).turnedI (λ b hb=>by simp at hb;subst hb;exact⟨_,_,l4⟩) hu5;have hbA:wA.heap.size<=bl:=by rw[hbl];exact HSZ1.out
 have hsA:=HSA.out;have hJ0:=HJ0.out;have hInv:Y3 w.heap.size bl (w.heap.size+1) (w3.heap.size+1) from_ (k:Int) [] w5:=⟨A2 l5,f5,m5,_,b5,Y0 _ _ _ _⟩;have hk1:∀a v v',Y3 w.heap.size bl (w.heap.size+1) (w3.heap.size+1) from_ (k:Int) a v->Upd [g.j.jb] v v'->Y3 w.heap.size bl (w.heap.size+1) (w3.heap.size+1) from_ (k:Int) a v':=by
  rintro a v v' ⟨i0,i1,i2,vv,i3,i4⟩ hu;exact⟨Nat.le_trans i0 hu.size,(hu.block _ (A2 i1) (by simp;omega)).trans i1,(hu.block _ (A2 i2) (by simp;omega)).trans i2,vv,(hu.block _ (A2 i3) (by simp;omega)).trans i3,B8 i4 hu (λ k c hk hB=>by simp at hk;omega)⟩
 have hk2:∀a v v',Y3 w.heap.size bl (w.heap.size+1) (w3.heap.size+1) from_ (k:Int) a v->Upd [w3.heap.size] v v'->Y3 w.heap.size bl (w.heap.size+1) (w3.heap.size+1) from_ (k:Int) a v':=by
  rintro a v v' ⟨i0,i1,i2,vv,i3,i4⟩ hu;exact⟨Nat.le_trans i0 hu.size,(hu.block _ (A2 i1) (by simp;omega)).trans i1,(hu.block _ (A2 i2) (by simp;omega)).trans i2,vv,(hu.block _ (A2 i3) (by simp;omega)).trans i3,B8 i4 hu (λ k c hk hB=>by simp at hk;omega)⟩
 have hWk:=Ar1 (t:=Ar3 from_ (k:Int)) (U:=[bl]) (B:=w3.heap.size+1) (Inv:=Y3 w.heap.size bl (w.heap.size+1) (w3.heap.size+1) from_ (k:Int)) (lb:=w3.heap.size) (from_:=from_) (g:=g) (M:=M) (Cb1 hfrom) hk1 hk2 Cr1 (by simp;omega) hfrom d h5 HS.out HL.out (deep:=16) (by omega) (by omega) HSL.out (by omega) l5 [] hInv (λ k hk=>by simp at hk;subst hk;exact A2 b5) (by show 0+l.length<=1000;omega);unfold arr at hWk;rw[hbl] at hWk;have HWK:=η hWk;have HU5:Hid (Upd [] w w5):=by
  show Upd _ _ _
  exact(HUA.out.trans huA4).late hu5 (λ k hk=>by simp at hk;subst hk;exact .inr (by omega))
 have HB3:Hid (w.heap.size<=w3.heap.size):=by show _<=_;omega
 have HBA:Hid (w.heap.size<=bl):=by show _<=_;omega
 have HBL:=η hbl;have lf5:=A7 (n:=32) ((huA4.block _ (A2 HFA.out) (by simp)).trans HFA.out) (by rw[A8,hfrom]);have lf6:=A7 (n:=32) f5 (by rw[A8,hfrom]);rw[hw4] at st5;clear hn3 hu3 hsz3 bl3 hblt hbl hw4 hu4 l4 b4 hw5 hu5 l5 b5 huA4 hszA3 f5 m5 h5 hbA hsA hJ0 hInv hk1 hk2 hWk;go_wp2_with fail
 refine HWK.out.mono ?_;rintro e w6 ⟨la,lv,y,el,hla,rfl,hi,h6,_,_,_,hf⟩;have hF:((Ar3 from_ (k:Int)).F [] lv).1=O8 from_ k l:=by
  rw[el];exact Bo3 hla
 rw[hF] at hi;obtain⟨_,_,_,vv,j3,j4⟩:=hi;obtain⟨ap,cp,rfl⟩:=j4.shape;have m6:=A4 j3 0;have H6:=η h6;have HP6:Hid (E8 w6 w.heap.size (.slice ap (O8 from_ k l).length cp) (O8 from_ k l)):=η (Ao6 j4 (by have:=HB3.out;omega));have HU6:Hid (Upd [g.j.jb] w w6):=by
  show Upd _ _ _
  obtain⟨S',hu,hS'⟩:=hf;refine(HU5.out.mono (T:=[g.j.jb]) (by simp)).late hu (λ k hk=>?_);rcases hS' k hk with q | ⟨q,_⟩
  ·simp only[List.mem_cons,List.not_mem_nil,or_false] at q;rcases q with rfl | rfl | rfl
   ·exact .inr HB3.out
   ·exact .inl (by simp)
   ·exact .inr (by have:=HBA.out;have:=HBL.out;omega)
  ·exact .inr (by have:=HB3.out;omega)
 clear j3 j4 hF h6 hf hla el;go_wp2_with fail
 go_ret2;exact⟨_,rfl,HP6.out,H6.out,HU6.out⟩
theorem Cb2{w:World}{g:Sg}{M:Nat->Option Sec}(h:B7 w g M)(hh1:1<g.h)(hh2:g.h<=4096){r:Nat}{l:List B0}{S:List Nat}(ht:N0 (g.cur M) g.h r l S)(hl:l.length<490){from_:Bs}(hfrom:from_.length=32)(k:Nat)(hk:1<=k) :
  Calls Tryz.prog 63 #[.pointer (some ⟨g.x.tb,0,none⟩),.int .u32 (r:Int),arr from_,.int .i64 (k:Int)] w λ e w'=>∃v,e=.returned (.tuple #[v,.int .i64 0])/\E8 w' w.heap.size v (O8 from_ k l)/\B7 w' g M/\Upd [g.j.jb] w w':=Bt5 h hh1 hh2 ht.in_ hl hfrom k hk
end
end Go.Proofs.YtgfbepakonjbnaaGreat
end
