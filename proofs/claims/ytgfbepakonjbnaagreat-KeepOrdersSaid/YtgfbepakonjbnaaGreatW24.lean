/-
  Rows of one's own: their cells; a clone of a part.
-/
import Derived.Test.YtgfbepakonjbnaaGreatW20
import Derived.Test.YtgfbepakonjbnaaGreatW23
set_option maxRecDepth 100000
set_option maxHeartbeats 16000000
section
namespace Go.Proofs.YtgfbepakonjbnaaGreat
open Go.RowKit Go.MapKept Go.ChangeMaps
section
theorem N5{w:World}{B n sz:Nat}{e:TypeId}{v:Value}{xs:List Value}(h:w.ownsRow B e sz v n xs)(hn:0<n):∃g cap,v=.slice (some ⟨g,0,none⟩) n cap/\B<=g/\n<=cap/\(∀(j:Nat) (u:Value),xs[j]?=some u->w.cell? ⟨g,j,none⟩=some u)/\(∃c,w.heap[g]?=some (.cells c e (0,0))):=by
 rcases h.2 with⟨_,h0⟩ | ⟨g,cap,cur,rfl,hb,hg,hc,hm,hs,ht⟩
 ·omega
 ·refine⟨g,cap,rfl,hb,hc,λ j u hj=>?_,_,hg⟩;rw[← ht,List.getElem?_take] at hj;split at hj
  ·rw[A2 hg,← Array.getElem?_toList];exact hj
  ·simp at hj
theorem Bh6{w:World}{B B' n sz:Nat}{e:TypeId}{v:Value}{xs:List Value}(h:w.ownsRow B e sz v n xs)(hb:B'<=B):w.ownsRow B' e sz v n xs:=by
 refine⟨h.1,h.2.imp id ?_⟩;rintro⟨g,cap,cur,e1,e2,e3⟩;exact⟨g,cap,cur,e1,Nat.le_trans hb e2,e3⟩
theorem Bn2{w:World}{B B' n gk ck:Nat}{K:List Bs}(h:F9 w B (.slice (some ⟨gk,0,none⟩) n ck) K)(hl:∀x,x∈K->x.length=32)(i m o cap:Nat)(hm:i+m=K.length)(ho:o=i*32)(h0:0<m)(hn:n<=100)(hB:B'<=w.heap.size) :
  Calls Tryz.prog 206 #[.slice (some ⟨gk,o,none⟩) m cap] w λ e w'=>∃a c,e=.returned (.slice a m c)/\F9 w' B' (.slice a m c) (K.drop i)/\Upd [] w w':=by
 subst ho;obtain⟨g,cap',e,hb,hc,hcell,_⟩:=N5 h (by omega);injection e with e1 e2 e3;injection e1 with e1;injection e1 with e1;subst e1;have hxl:((K.drop i).map bts).flatten.length=m*32:=by rw[Am3 (Aa8 (n:=32) (λ x q=>hl x (List.mem_of_mem_drop q))),List.length_map,List.length_drop];congr 1;omega
 refine(Dg1 (b:=gk) (off:=i*32) (n:=m) (cap:=cap) (xs:=((K.drop i).map bts).flatten) h0 (by omega) hxl (Au0 _) (λ j u hj=>hcell (i*32+j) u ?_)).mono λ e w' hp=>?_
 ·rw[List.map_drop,Ah8 i (Aa8 hl),List.getElem?_drop] at hj;exact hj
 ·obtain⟨a,c,e1,e2,e3⟩:=hp;refine⟨a,c,e1,?_,e3⟩;unfold F9;rw[List.length_drop,show K.length-i=m by omega];exact Bh6 e2 hB
theorem Cl5{w:World}{B B' n gk ck:Nat}{K:List Bs}(h:G9 w B (.slice (some ⟨gk,0,none⟩) n ck) K)(hl:∀x,x∈K->x.length=16)(i m o cap:Nat)(hm:i+m=K.length)(ho:o=i*16)(h0:0<m)(hn:n<=100)(hB:B'<=w.heap.size) :
  Calls Tryz.prog 207 #[.slice (some ⟨gk,o,none⟩) m cap] w λ e w'=>∃a c,e=.returned (.slice a m c)/\G9 w' B' (.slice a m c) (K.drop i)/\Upd [] w w':=by
 subst ho;obtain⟨g,cap',e,hb,hc,hcell,_⟩:=N5 h (by omega);injection e with e1 e2 e3;injection e1 with e1;injection e1 with e1;subst e1;have hxl:((K.drop i).map bts).flatten.length=m*16:=by rw[Am3 (Aa8 (n:=16) (λ x q=>hl x (List.mem_of_mem_drop q))),List.length_map,List.length_drop];congr 1;omega
 refine(Dg2 (b:=gk) (off:=i*16) (n:=m) (cap:=cap) (xs:=((K.drop i).map bts).flatten) h0 (by omega) hxl (Au0 _) (λ j u hj=>hcell (i*16+j) u ?_)).mono λ e w' hp=>?_
 ·rw[List.map_drop,Ah8 i (Aa8 hl),List.getElem?_drop] at hj;exact hj
 ·obtain⟨a,c,e1,e2,e3⟩:=hp;refine⟨a,c,e1,?_,e3⟩;unfold G9;rw[List.length_drop,show K.length-i=m by omega];exact Bh6 e2 hB
theorem Cl6{w:World}{B B' n gk ck:Nat}{D:List Nat}(h:G6 w B (.slice (some ⟨gk,0,none⟩) n ck) D)(i m cap:Nat)(hm:i+m=D.length)(h0:0<m)(hn:n<=100)(hB:B'<=w.heap.size) :
  Calls Tryz.prog 210 #[.slice (some ⟨gk,i,none⟩) m cap] w λ e w'=>∃a c,e=.returned (.slice a m c)/\G6 w' B' (.slice a m c) (D.drop i)/\Upd [] w w':=by
 obtain⟨g,cap',e,hb,hc,hcell,_⟩:=N5 h (by omega);injection e with e1 e2 e3;injection e1 with e1;injection e1 with e1;subst e1;refine(Dg3 (b:=gk) (off:=i) (n:=m) (cap:=cap) (xs:=(D.drop i).map λ d:Nat=>Value.int .u32 (d:Int)) h0 (by omega) (by rw[List.length_map,List.length_drop];omega) (by intro u q;obtain⟨d,_,rfl⟩:=List.mem_map.1 q;rfl) (λ j u hj=>hcell (i+j) u ?_)).mono λ e w' hp=>?_
 ·rw[List.map_drop,List.getElem?_drop] at hj;exact hj
 ·obtain⟨a,c,e1,e2,e3⟩:=hp;refine⟨a,c,e1,?_,e3⟩;unfold G6;rw[List.length_drop,show D.length-i=m by omega];exact Bh6 e2 hB
structure N9(g:Sg)(M:Nat->Option Sec)(wA:World)(b10 b12:Nat)(X:Array Value)(k:Value)(K:List Bs)(R:World->Prop)(w:World):Prop where
 c12:w.heap[b12]?=some (.cells X 220 (0,0))
 k:F9 w wA.heap.size k K
 r:R w
 sp:B9 w g M
 upd:Upd g.S wA w
 c10:w.heap[b10]?=some (.cells (I6 none).toArray 228 (0,0))
theorem N9.below{g:Sg}{M:Nat->Option Sec}{wA:World}{b10 b12:Nat}{X:Array Value}{k:Value}{K:List Bs}{R:World->Prop}{w w':World}(h:N9 g M wA b10 b12 X k K R w)(hR:∀{w w'},R w->Upd [] w w'->R w')(hu:Upd [] w w'):N9 g M wA b10 b12 X k K R w':=
 ⟨(hu.block _ (A3 h.c12) (by simp)).trans h.c12,C5 (S:=[]) h.k hu (by simp),hR h.r hu,h.sp.below hu,h.upd.trans (hu.mono (by simp)),(hu.block _ (A3 h.c10) (by simp)).trans h.c10⟩
theorem G9.below{w w':World}{B:Nat}{v:Value}{V:List Bs}(h:G9 w B v V)(hu:Upd [] w w'):G9 w' B v V:=C5 (S:=[]) h hu (by simp)
theorem G6.below{w w':World}{B:Nat}{v:Value}{V:List Nat}(h:G6 w B v V)(hu:Upd [] w w'):G6 w' B v V:=C5 (S:=[]) h hu (by simp)
theorem F9.below{w w':World}{B:Nat}{v:Value}{V:List Bs}(h:F9 w B v V)(hu:Upd [] w w'):F9 w' B v V:=C5 (S:=[]) h hu (by simp)
def Ac8(R:World->Prop):Prop:=∀(w w':World) (b:Nat) (c:Array Value),R w->w.heap[b]?=some (.cells c 220 (0,0))->Upd [b] w w'->R w'
theorem G9.node{B:Nat}{v:Value}{V:List Bs}:Ac8 (λ w=>G9 w B v V):=λ w w' b c h hb hu=>C5 (S:=[b]) h hu (λ k c' hk _ e=>by simp at hk;subst hk;rw[hb] at e;simp at e)
theorem G6.node{B:Nat}{v:Value}{V:List Nat}:Ac8 (λ w=>G6 w B v V):=λ w w' b c h hb hu=>C5 (S:=[b]) h hu (λ k c' hk _ e=>by simp at hk;subst hk;rw[hb] at e;simp at e)
theorem F9.node{B:Nat}{v:Value}{V:List Bs}:Ac8 (λ w=>F9 w B v V):=λ w w' b c h hb hu=>C5 (S:=[b]) h hu (λ k c' hk _ e=>by simp at hk;subst hk;rw[hb] at e;simp at e)
theorem N9.node{g:Sg}{M:Nat->Option Sec}{wA:World}{b10 b12:Nat}{X:Array Value}{k:Value}{K:List Bs}{R:World->Prop}{w w':World}(h:N9 g M wA b10 b12 X k K R w)(hR:Ac8 R){b:Nat}{c:Array Value}(hb:w.heap[b]?=some (.cells c 220 (0,0)))(hne:b12≠b)(hB:wA.heap.size<=b)(hu:Upd [b] w w'):N9 g M wA b10 b12 X k K R w':=by
 have h10:b10≠b:=by
  rintro rfl;have:=h.c10;rw[hb] at this;simp at this
 exact⟨(hu.block _ (A3 h.c12) (by simpa using hne)).trans h.c12,F9.node _ _ _ _ h.k hb hu,hR _ _ _ _ h.r hb hu,h.sp.turned9 (λ x hx=>by simp at hx;subst hx;exact⟨_,_,_,hb,.inr (.inl rfl)⟩) hu,h.upd.late hu (λ x hx=> .inr (by simp at hx;subst hx;exact hB)),(hu.block _ (A3 h.c10) (by simpa using h10)).trans h.c10⟩
def Cy4(g:Sg)(M:Nat->Option Sec)(wA:World)(b10 b12:Nat)(X:Array Value)(k:Value)(K:List Bs)(R:World->Prop)(Y:Option Addr->Nat->Option Addr->Nat->List Value)(n2:Nat)(K2:List Bs)(R2:Option Addr->Nat->World->Prop)(s16:Value)(w:World):Prop:=
 ∃b16 a4 c4 a5 c5,s16=.pointer (some ⟨b16,0,none⟩)/\b12<b16/\wA.heap.size<=b16/\w.heap[b16]?=some (.cells (Y a4 c4 a5 c5).toArray 220 (0,0))/\F9 w wA.heap.size (.slice a4 n2 c4) K2/\R2 a5 c5 w/\N9 g M wA b10 b12 X k K R w
section
variable {g:Sg} {M:Nat->Option Sec} {wA:World} {b10 b12:Nat} {X:Array Value} {k:Value} {K:List Bs} {R:World->Prop} {Y:Option Addr->Nat->Option Addr->Nat->List Value} {n2:Nat} {K2:List Bs} {R2:Option Addr->Nat->World->Prop} {w:World} {a4 a5:Option Addr} {c4 c5:Nat}
theorem Au2(hM:N9 g M wA b10 b12 X k K R w)(hk4:F9 w wA.heap.size (.slice a4 n2 c4) K2)(hk5:R2 a5 c5 w)(hR:Ac8 R)(hR2:Ac8 (R2 a5 c5)){b16:Nat}{Z:Array Value}(h16:w.heap[b16]?=some (.cells Z 220 (0,0)))(hlt:b12<b16)(hB:wA.heap.size<=b16):Cy4 g M wA b10 b12 X k K R Y n2 K2 R2 (.pointer (some ⟨b16,0,none⟩)) (w.setRow b16 (Y a4 c4 a5 c5).toArray):=by
 have hu:Upd [b16] w (w.setRow b16 (Y a4 c4 a5 c5).toArray):=J6 (Upd.refl _ _) _ (.inl (by simp));exact⟨b16,a4,c4,a5,c5,rfl,hlt,hB,setRow_heap _ _ _ _ _ _ h16,F9.node _ _ _ _ hk4 h16 hu,hR2 _ _ _ _ hk5 h16 hu,hM.node hR h16 (by omega) hB hu⟩
theorem By0(hM:N9 g M wA b10 b12 X k K R w)(hk4:F9 w wA.heap.size (.slice a4 n2 c4) K2)(hk5:R2 a5 c5 w)(hR:∀{w w'},R w->Upd [] w w'->R w')(hR2:∀{w w'},R2 a5 c5 w->Upd [] w w'->R2 a5 c5 w'):Cy4 g M wA b10 b12 X k K R Y n2 K2 R2 (.pointer (some ⟨w.heap.size,0,none⟩)) (w.alloc (.cells (Y a4 c4 a5 c5).toArray 220)):=by
 have hu:Upd [] w (w.alloc (.cells (Y a4 c4 a5 c5).toArray 220)):=(Upd.refl _ _).alloc _;exact⟨w.heap.size,a4,c4,a5,c5,rfl,A3 hM.c12,hM.upd.size,A4 _,hk4.below hu,hR2 hk5 hu,hM.below hR hu⟩
end
theorem Cg4{M:Nat->Option Sec}{h a:Nat}{x:Sec}(ho:MOk M h)(ha:a<h)(hx:x.length=512):MOk (L3 M a x) h:=by
 intro i s e;unfold L3 at e;split at e
 ·next q=>cases e;exact⟨by omega,hx⟩
 ·exact ho i s e
theorem Bc5{w:World}{g:Sg}{M:Nat->Option Sec}(h:B9 w g M)(s:Nat)(h1:1<g.h):MOk (Q0 g M s) g.h:=by
 intro i x e;unfold Q0 Am0 at e;split at e
 ·next q=>cases e;exact⟨by omega,by rw[Y3,Af3];exact h.cur_len 1⟩
 ·exact h.ok i x e
theorem RRd.take{w:World}{ao:Option Addr}{n c sz:Nat}{es:List (List Value)}(h:RRd w (.slice ao n c) sz es){i:Nat}(hi:i<=es.length):RRd w (.slice ao i c) sz (es.take i):=by
 obtain⟨ao',cap,e,hc,hh⟩:=h;injection e with e1 e2 e3;subst e1 e3;refine⟨ao,c,by rw[List.length_take,Nat.min_eq_left hi],by rw[List.length_take];omega,λ hp=>?_⟩;rw[List.length_take] at hp;obtain⟨b,off,e,hr⟩:=hh (by omega);refine⟨b,off,e,λ j x hj=>hr j x ?_⟩;rw[List.getElem?_take] at hj;split at hj
 ·exact hj
 ·simp at hj
theorem KRd.take{w:World}{ao:Option Addr}{n c:Nat}{ds:List Nat}(h:KRd w (.slice ao n c) ds){i:Nat}(hi:i<=ds.length):KRd w (.slice ao i c) (ds.take i):=by
 obtain⟨ao',cap,e,hc,hh⟩:=h;injection e with e1 e2 e3;subst e1 e3;refine⟨ao,c,by rw[List.length_take,Nat.min_eq_left hi],by rw[List.length_take];omega,λ hp=>?_⟩;rw[List.length_take] at hp;obtain⟨b,off,e,hr⟩:=hh (by omega);refine⟨b,off,e,λ j x hj=>hr j x ?_⟩;rw[List.getElem?_take] at hj;split at hj
 ·exact hj
 ·simp at hj
end
section
def Ab8(B:Nat)(T:TypeId)(w w':World):Prop:=∃S,Upd S w w'/\∀k,k∈S->B<=k/\∃c,w.heap[k]?=some (.cells c T (0,0))
theorem Ab8.blk{B:Nat}{T:TypeId}{w w':World}(h:Ab8 B T w w'){k:Nat}{c:Array Value}{T2:TypeId}{fr:Nat × Nat}(hk:w.heap[k]?=some (.cells c T2 fr))(hn:T2≠T∨k<B):w'.heap[k]?=some (.cells c T2 fr):=by
 obtain⟨S,hu,hs⟩:=h;refine(hu.block _ (A3 hk) (λ q=>?_)).trans hk;obtain⟨hb,c2,e⟩:=hs k q;rw[hk] at e;rcases hn with hn | hn
 ·simp at e;exact hn e.2.1
 ·omega
theorem Ab8.own{B:Nat}{T:TypeId}{w w':World}(h:Ab8 B T w w'){B' n sz:Nat}{e:TypeId}{v:Value}{xs:List Value}(ho:w.ownsRow B' e sz v n xs)(hne:e≠T):w'.ownsRow B' e sz v n xs:=
 Bx0 ho λ k c hk e=>by rw[h.blk e (.inl hne)];exact e.symm
theorem Ab8.sp{B:Nat}{T:TypeId}{w w':World}(h:Ab8 B T w w')(hT:Ty9 T){g:Sg}{M:Nat->Option Sec}(hs:B9 w g M):B9 w' g M:=by
 obtain⟨S,hu,hS⟩:=h;exact hs.turned9 (λ b hb=>by obtain⟨_,c,e⟩:=hS b hb;exact⟨_,_,_,e,hT⟩) hu
theorem Ab8.upd{B:Nat}{T:TypeId}{w0 w w':World}(h:Ab8 B T w w'){S:List Nat}(hu:Upd S w0 w)(hB:w0.heap.size<=B):Upd S w0 w':=by
 obtain⟨S2,hu2,hS⟩:=h;exact hu.late hu2 (λ k hk=> .inr (Nat.le_trans hB (hS k hk).1))
structure Ag2(g:Sg)(M:Nat->Option Sec)(wA:World)(b7 b8 b10 b12:Nat)(key v:Bs)(X:Array Value)(w:World):Prop where
 sp:B9 w g M
 upd:Upd [g.j.jb] wA w
 c7:w.heap[b7]?=some (.cells (bts key).toArray 35 (0,0))
 c8:w.heap[b8]?=some (.cells (bts v).toArray 115 (0,0))
 c10:w.heap[b10]?=some (.cells (I6 none).toArray 228 (0,0))
 c12:w.heap[b12]?=some (.cells X 220 (0,0))
section
variable {g:Sg} {M:Nat->Option Sec} {wA:World} {b7 b8 b10 b12:Nat} {key v:Bs} {X:Array Value} {w w':World}
theorem Ag2.below(h:Ag2 g M wA b7 b8 b10 b12 key v X w)(hu:Upd [] w w'):Ag2 g M wA b7 b8 b10 b12 key v X w':=
 ⟨h.sp.below hu,h.upd.trans (hu.mono (by simp)),(hu.block _ (A3 h.c7) (by simp)).trans h.c7,(hu.block _ (A3 h.c8) (by simp)).trans h.c8,(hu.block _ (A3 h.c10) (by simp)).trans h.c10,(hu.block _ (A3 h.c12) (by simp)).trans h.c12⟩
theorem Ag2.turn(h:Ag2 g M wA b7 b8 b10 b12 key v X w){B:Nat}{T:TypeId}(ht:Ab8 B T w w')(hT:Ty9 T)(h7:b7<B)(h8:b8<B)(h10:b10<B)(h12:T≠220)(hB:wA.heap.size<=B):Ag2 g M wA b7 b8 b10 b12 key v X w':=
 ⟨ht.sp hT h.sp,ht.upd h.upd hB,ht.blk h.c7 (.inr h7),ht.blk h.c8 (.inr h8),ht.blk h.c10 (.inr h10),ht.blk h.c12 (.inl (Ne.symm h12))⟩
end
theorem Bh5{g:Sg}{M:Nat->Option Sec}{wA:World}{b7 b8 b10 b12:Nat}{key v:Bs}{X:Array Value}{w w':World}(h:Ag2 g M wA b7 b8 b10 b12 key v X w){n m szk szv:Nat}{ek ev:TypeId}{xk xv:Value}{ks vs:List Value}{Bk Bv:Nat}
  (hk:w.ownsRow Bk ek szk xk n ks) (hv:w.ownsRow Bv ev szv xv m vs) (hu:Upd [b12] w w') (hb:wA.heap.size<=b12) (hne:b10≠b12) (hek:ek≠220) (hev:ev≠220) :
  w'.ownsRow Bk ek szk xk n ks/\w'.ownsRow Bv ev szv xv m vs/\B9 w' g M/\Upd [g.j.jb] wA w'/\w'.heap[b10]?=some (.cells (I6 none).toArray 228 (0,0)):=by
 have ne:∀{e:TypeId},e≠220->∀(k:Nat) (c:Array Value),k∈[b12]->∀B,B<=k->w.heap[k]?≠some (.cells c e (0,0)):=λ he k c hk B _ q=>by
  simp at hk;subst hk;rw[h.c12] at q;simp at q;exact he q.2.symm
 exact⟨C5 hk hu (λ k c hk hB=>ne hek k c hk _ hB),C5 hv hu (λ k c hk hB=>ne hev k c hk _ hB),h.sp.turned9 (λ b hb=>by simp at hb;subst hb;exact⟨_,_,_,h.c12,.inr (.inl rfl)⟩) hu,h.upd.late hu (λ k hk=> .inr (by simp at hk;omega)),(hu.block _ (A3 h.c10) (by simpa using hne)).trans h.c10⟩
theorem F7.turn{w:World}{B:Nat}{e:TypeId}{sz n:Nat}{xs:List Value}{en:Ending}{w':World}(h:F7 w B e sz n xs en w'):∃a c,en=.returned (.slice a (n+1) c)/\w'.ownsRow B e sz (.slice a (n+1) c) (n+1) xs/\Ab8 B e w w':=by
 obtain⟨a,c,S,e1,e2,e3,e4⟩:=h;exact⟨a,c,e1,e2,S,e3,e4⟩
theorem Bn1{w:World}{B:Nat}{vk:Value}{ks:List Bs}(hK:F9 w B vk ks)(hl:∀x,x∈ks->x.length=32)(hn:ks.length<=100){P:Nat}(hP:P<=ks.length)(hB:B<=w.heap.size){key:Bs}(hkey:key.length=32){vb:Nat}(hv:w.heap[vb]?=some (.cells (bts key).toArray 35 (0,0)))(hne:∀a l c,vk=.slice (some a) l c->vb≠a.block) :
  Calls Tryz.prog 204 #[vk,.int .i64 (P:Int),.slice (some ⟨vb,0,none⟩) 1 1] w λ e w'=>∃a c,e=.returned (.slice a (ks.length+1) c)/\F9 w' B (.slice a (ks.length+1) c) (D7 ks P key)/\Ab8 B 35 w w':=by
 refine(Ct1 hK hn hP hB (Au0 ks) hne (by rw[A5,hkey]) (G7 key) hv).mono λ e w' hp=>?_;obtain⟨a,c,e1,e2,e3⟩:=hp.turn;refine⟨a,c,e1,?_,e3⟩;unfold F9;rw[Bx6 hl,L5 _ _ _ hP];exact e2
theorem Cl3{w:World}{B:Nat}{vv:Value}{vs:List Bs}(hV:G9 w B vv vs)(hl:∀x,x∈vs->x.length=16)(hn:vs.length<=100){P:Nat}(hP:P<=vs.length)(hB:B<=w.heap.size){v:Bs}(hv0:v.length=16){vb:Nat}(hv:w.heap[vb]?=some (.cells (bts v).toArray 115 (0,0)))(hne:∀a l c,vv=.slice (some a) l c->vb≠a.block) :
  Calls Tryz.prog 205 #[vv,.int .i64 (P:Int),.slice (some ⟨vb,0,none⟩) 1 1] w λ e w'=>∃a c,e=.returned (.slice a (vs.length+1) c)/\G9 w' B (.slice a (vs.length+1) c) (D7 vs P v)/\Ab8 B 115 w w':=by
 refine(Ct4 hV hn hP hB (Au0 vs) hne (by rw[A5,hv0]) (G7 v) hv).mono λ e w' hp=>?_;obtain⟨a,c,e1,e2,e3⟩:=hp.turn;refine⟨a,c,e1,?_,e3⟩;unfold G9;rw[Bx6 hl,L5 _ _ _ hP];exact e2
theorem Bc2{key:Bs}(hk:key.length=32)(w:World):(Instr.buildSlice 216 1 #[(0,.agg (bts key).toArray)]).run Tryz.prog w=.ok (.slice (some ⟨w.heap.size,0,none⟩) 1 1) (w.alloc (.cells (bts key).toArray 35)):=
 X8 (e:=35) (sz:=32) Tryz.underlying216 (by kernel_rfl) (by decide) (by decide) (bts key) (by rw[A5,hk]) w
theorem Cg1{v:Bs}(hv:v.length=16)(w:World):(Instr.buildSlice 217 1 #[(0,.agg (bts v).toArray)]).run Tryz.prog w=.ok (.slice (some ⟨w.heap.size,0,none⟩) 1 1) (w.alloc (.cells (bts v).toArray 115)):=
 X8 (e:=115) (sz:=16) Tryz.underlying217 (by kernel_rfl) (by decide) (by decide) (bts v) (by rw[A5,hv]) w
theorem Ba9(w:World)(c c':Array Value)(T T':TypeId):((w.alloc (.cells c T)).alloc (.cells c' T')).heap[w.heap.size]?=some (.cells c T (0,0)):=(A6 (by simp)).trans (A4 _)
theorem Bb0(w:World)(c c':Array Value)(T T':TypeId):((w.alloc (.cells c T)).alloc (.cells c' T')).heap[w.heap.size+1]?=some (.cells c' T' (0,0)):=by
 have:=A4 (w:=w.alloc (.cells c T)) (.cells c' T');simpa using this
theorem J7{w:World}{b:Nat}{C:Array Value}{T:TypeId}(h:w.heap[b]?=some (.cells C T (0,0)))(i:Nat){v:Value}(hi:i<C.size)(h1:v.oneCell'=true):(storeCells ⟨b,i,none⟩ [v] 0).run Tryz.prog w=.ok () (w.setCell ⟨b,i,none⟩ v):=by
 have hc:w.cell? ⟨b,i,none⟩=some C[i]:=by rw[A2 h];simp[hi]
 have hf:=B7 h i;have:=run_storeCells_cells (P:=Tryz.prog) b i [v] 0 w (by simp[hc]) (by simpa using hf) (by simpa using h1);simpa [World.setCells] using this
section
variable {P:Program} {ops:Array Oper} {Q:Exit->Act->World->Prop} {md:Region.Mode} {S:World->Prop} {St:List Nat}
theorem Bj1{i:Nat}{oi:Oper}{v:Value}(hi:ops[i]?=some oi)(hsel:∀(j:Nat) (o:Oper) cs b,ops[j]?=some o->o.op≠.select cs b)
  (hQ:∀c a w,Q (.panic c) (a.put oi.dst v) w->Q (.panic c) a w) (hw:∀s,s∈St->s≠i) :
  ∀(fuel:Nat) (listed:Array Bool) (a:Act) (w:World),
   (∀j oj,ops[j]?=some oj->j≠i->listed.getD j true=false->(∀e∈oj.after,Region.binds md e=true->e.on≠i)->oi.apart ops oj=true)->
   i∈Region.ready md ops listed->YieldsIf P ops (λ _=>True) oi v a->(Aq0 St (listed.setIfInBounds i true)->S w)->
   U7 P md ops Q S St fuel (listed.setIfInBounds i true) (a.put oi.dst v) w->U7 P md ops Q S St (fuel+1) listed a w:=by
 intro fuel;induction fuel with
 | zero=>
  intro listed a w _ hr hy hS H;refine⟨λ h=>(by rw[h] at hr;cases hr),λ j hj=>?_⟩;by_cases hji:j=i
  ·subst hji;exact hy.wpOp hi trivial ⟨hS,H⟩
  ·have:=ready_mono hj hji;rw[H.1] at this;cases this
 | succ fuel ih=>
  intro listed a w hfree hr hy hS H;refine⟨λ h=>(by rw[h] at hr;cases hr),λ j hj=>?_⟩;by_cases hji:j=i
  ·subst hji;exact hy.wpOp hi trivial ⟨hS,H⟩
  ·have h1:=H.2 j (ready_mono hj hji);obtain⟨hjun,oj,hoj,hall⟩:=mem_ready.1 hj;have hiun:=(mem_ready.1 hr).1;have hnot:∀e∈oj.after,Region.binds md e=true->e.on≠i:=λ e he hb heq=>by
    have h1:=hall e he hb;rw[heq] at h1;rcases Nat.lt_or_ge i listed.size with h' | h'
    ·simp[h'] at hiun h1;rw[hiun] at h1;cases h1
    ·simp[Array.getElem?_eq_none h'] at h1
   have h2:=wpOp_putIf hoj (hfree j oj hoj hji hjun hnot) (λ cs b=>hsel i oi cs b hi) (λ cs b=>hsel j oj cs b hoj) hQ hy h1;have hfree':∀k ok,ops[k]?=some ok->k≠i->(listed.setIfInBounds j true).getD k true=false->
     (∀e∈ok.after,Region.binds md e=true->e.on≠i)->oi.apart ops ok=true:=λ k ok hk hki hun hno=>by
    refine hfree k ok hk hki ?_ hno;by_cases hjk:j=k
    ·subst hjk;exact hjun
    ·rw[getD_set_ne true hjk] at hun;exact hun
   refine wpOp_mono (λ a' w' h3=>?_) h2;refine⟨λ hn=>h3.2.1 (λ s hs=>?_),ih (listed.setIfInBounds j true) a' w' hfree' (ready_mono hr (Ne.symm hji)) h3.1 (λ hn=>h3.2.1 ?_) ?_⟩
   ·rw[Array.setIfInBounds_comm _ _ (Ne.symm hji),getD_set_ne false (Ne.symm (hw s hs))];exact hn s hs
   ·rw[Array.setIfInBounds_comm _ _ (Ne.symm hji)];exact hn
   ·rw[Array.setIfInBounds_comm _ _ hji];exact h3.2.2
theorem Ac2{i:Nat}{oi:Oper}{v:Value}{fuel:Nat}{listed:Array Bool}{a:Act}{w:World}(hi:ops[i]?=some oi)
  (hk:(Region.noSelect ops && Region.free md ops listed i && (Region.ready md ops listed).contains i && St.all λ s=> !(s == i))=true)
  (hQ:∀c a w,Q (.panic c) (a.put oi.dst v) w->Q (.panic c) a w) (hS:Aq0 St (listed.setIfInBounds i true)->S w) (hy:YieldsIf P ops (λ _=>True) oi v a)
  (h:U7 P md ops Q S St fuel (listed.setIfInBounds i true) (a.put oi.dst v) w):U7 P md ops Q S St (fuel+1) listed a w:=by
 simp only[Bool.and_eq_true] at hk;obtain⟨⟨⟨h1,h2⟩,h3⟩,h4⟩:=hk;refine Bj1 hi (Region.noSelect_spec h1) hQ (λ s hs=>?_) fuel listed a w (Region.free_spec hi h2) (by simpa using h3) hy hS h;have:=(List.all_eq_true.1 h4) s hs;simpa using this
end
theorem D6{St:List Nat}{listed:Array Bool}{p:Prop}(h:(St.any λ s=>listed.getD s false)=true):Aq0 St listed->p:=λ hn=>by
 obtain⟨s,hs,he⟩:=List.any_eq_true.1 h;rw[hn s hs] at he;cases he
attribute [-go_sem] loadCells storeCells Instr.build Instr.buildSlice
attribute [local go_sem] Aj9 S8
def Bc3(g:Sg)(M:Nat->Option Sec)(root:Bool)(d a:Nat)(l:List C3)(S:List Nat)(key v:Bs)(w:World)(e:Ending)(w':World):Prop:=
 ∃M' o,e=.returned (.tuple #[Bh3 o,.int .i64 0])/\V0 g M M' root d a l S key v o/\B9 w' g M'/\Upd g.S w w'
def Df3(g:Sg)(M:Nat->Option Sec)(wA:World)(b10 b12 n:Nat)(K V:List Bs)(wz:World):Prop:=
 ∃a c a' c',wz.heap[b12]?=some (.cells #[.int .i64 1,.slice a n c,.slice a' n c',.slice none 0 0] 220 (0,0))/\F9 wz wA.heap.size (.slice a n c) K/\G9 wz wA.heap.size (.slice a' n c') V/\B9 wz g M/\Upd [g.j.jb] wA wz/\wz.heap[b10]?=some (.cells (I6 none).toArray 228 (0,0))/\K.length=n/\V.length=n
theorem Bx7(a4 a5:Option Addr)(c4 c5:Nat)(w:World):(Instr.build 220 #[(0,.int .i64 1),(1,.slice a4 6 c4),(2,.slice a5 6 c5)]).run Tryz.prog w=.ok (.agg #[.int .i64 1,.slice a4 6 c4,.slice a5 6 c5,.slice none 0 0]) w:=run_build w _ _ _ (by kernel_rfl)
theorem Bq5{g:Sg}{M:Nat->Option Sec}{wA wz:World}{b10 b12 n P:Nat}{ks vs K V:List Bs}{key v:Bs}{a5 a6:Option Addr}{c5 c6:Nat}(hn:n=ks.length+1)(hvs:vs.length=ks.length)(hK:D7 ks P key=K)(hV:D7 vs P v=V)(hP:P<=ks.length)
  (hb:wz.heap[b12]?=some (.cells #[.int .i64 1,.slice a5 (ks.length+1) c5,.slice a6 (vs.length+1) c6,.slice none 0 0] 220 (0,0)))
  (hp:F9 wz wA.heap.size (.slice a5 (ks.length+1) c5) (D7 ks P key)/\G9 wz wA.heap.size (.slice a6 (vs.length+1) c6) (D7 vs P v)/\B9 wz g M/\Upd [g.j.jb] wA wz/\wz.heap[b10]?=some (.cells (I6 none).toArray 228 (0,0))):Df3 g M wA b10 b12 n K V wz:=by
 subst hn hK hV;rw[hvs] at hb hp;obtain⟨h1,h2,h3,h4,h5⟩:=hp;exact⟨a5,c5,a6,c6,hb,h1,h2,h3,h4,h5,L5 _ _ _ hP,by rw[L5 _ _ _ (by omega),hvs]⟩
end
end Go.Proofs.YtgfbepakonjbnaaGreat
end
