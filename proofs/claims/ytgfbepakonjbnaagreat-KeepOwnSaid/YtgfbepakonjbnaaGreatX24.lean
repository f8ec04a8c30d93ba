/-
  A drawn region whose loads are spoiled by its own last stores: the loads are taken first, under a condition that is to hold till the first of those stores comes up.
-/
import Derived.Test.YtgfbepakonjbnaaGreatX20
set_option maxRecDepth 100000
set_option maxHeartbeats 16000000
section
namespace Go.Proofs.YtgfbepakonjbnaaGreat
open Go.RowKit Go.MapKept Go.ChangeMaps
section
section
variable {P:Program} {ops:Array Oper} {Q:Exit->Act->World->Prop} {md:Region.Mode} {S:World->Prop} {St:List Nat}
def Ap6(St:List Nat)(listed:Array Bool):Prop:=∀s,s∈St->listed.getD s false=false
def Av3(md:Region.Mode)(ops:Array Oper)(listed:Array Bool):Prop:=∀j oj,ops[j]?=some oj->listed.getD j false=true->∀e∈oj.after,Region.binds md e=true->listed.getD e.on false=true
def Bk0(md:Region.Mode)(ops:Array Oper)(i:Nat):Nat->Nat->Bool
 | 0,s=>s == i
 | f+1,s=>s == i || match ops[s]? with
  | none=>false
  | some o=>o.after.any λ e=>Region.binds md e && Bk0 md ops i f e.on
theorem Bt4{listed:Array Bool}(hc:Av3 md ops listed){i:Nat}:∀{f s:Nat},Bk0 md ops i f s=true->listed.getD s false=true->listed.getD i false=true
 | 0,s,h,hs=>by simp[Bk0] at h;rw[← h];exact hs
 | f+1,s,h,hs=>by
  unfold Bk0 at h;rw[Bool.or_eq_true] at h;rcases h with h | h
  ·simp at h;rw[← h];exact hs
  ·cases ho:ops[s]? with
   | none=>rw[ho] at h;simp at h
   | some o=>
    rw[ho] at h;obtain⟨e,he,hb⟩:=Array.any_eq_true'.1 h;simp only[Bool.and_eq_true] at hb;exact Bt4 hc hb.2 (hc s o ho hs e he hb.1)
theorem Av3.set{listed:Array Bool}(hc:Av3 md ops listed){j:Nat}(hj:j∈Region.ready md ops listed):Av3 md ops (listed.setIfInBounds j true):=by
 intro k ok hk hl e he hb;obtain⟨_,oj,hoj,hall⟩:=mem_ready.1 hj;by_cases hkj:j=k
 ·subst hkj;rw[hk] at hoj;cases hoj
  exact getD_set_true (hall e he hb)
 ·rw[getD_set_ne false hkj] at hl;exact getD_set_true (hc k ok hk hl e he hb)
def U0(P:Program)(md:Region.Mode)(ops:Array Oper)(Q:Exit->Act->World->Prop)(S:World->Prop)(St:List Nat):Nat->Array Bool->Act->World->Prop
 | 0,listed,a,w=>Region.ready md ops listed=[]/\Q .normal a w
 | fuel+1,listed,a,w=>
  (Region.ready md ops listed=[]->Q .normal a w)/\
  ∀i∈Region.ready md ops listed,wpOp P ops Q i (λ a' w'=>(Ap6 St (listed.setIfInBounds i true)->S w')/\U0 P md ops Q S St fuel (listed.setIfInBounds i true) a' w') a w
theorem Be1:∀(fuel:Nat) (listed:Array Bool) (a:Act) (w:World),U0 P md ops Q S St fuel listed a w->wpAny P md ops Q fuel listed a w
 | 0,_,_,_,h=>h
 | fuel+1,_,_,_,h=>⟨h.1,λ i hi=>wpOp_mono (λ a' w' h'=>Be1 fuel _ a' w' h'.2) (h.2 i hi)⟩
theorem Bn8{i:Nat}{oi:Oper}{v:Value}(hi:ops[i]?=some oi)(hsel:∀(j:Nat) (o:Oper) cs b,ops[j]?=some o->o.op≠.select cs b)
  (hQ:∀c a w,Q (.panic c) (a.put oi.dst v) w->Q (.panic c) a w) (hw:∀s,s∈St->∃f,Bk0 md ops i f s=true/\s≠i) :
  ∀(fuel:Nat) (listed:Array Bool) (a:Act) (w:World),Av3 md ops listed->
   (∀j oj,ops[j]?=some oj->j≠i->listed.getD j true=false->(∀e∈oj.after,Region.binds md e=true->e.on≠i)->oi.apart ops oj=true)->
   i∈Region.ready md ops listed->YieldsIf P ops S oi v a->S w->
   U0 P md ops Q S St fuel (listed.setIfInBounds i true) (a.put oi.dst v) w->U0 P md ops Q S St (fuel+1) listed a w:=by
 intro fuel;induction fuel with
 | zero=>
  intro listed a w _ _ hr hy hS H;refine⟨λ h=>(by rw[h] at hr;cases hr),λ j hj=>?_⟩;by_cases hji:j=i
  ·subst hji;exact hy.wpOp hi hS ⟨λ _=>hS,H⟩
  ·have:=ready_mono hj hji;rw[H.1] at this;cases this
 | succ fuel ih=>
  intro listed a w hcl hfree hr hy hS H;refine⟨λ h=>(by rw[h] at hr;cases hr),λ j hj=>?_⟩;by_cases hji:j=i
  ·subst hji;exact hy.wpOp hi hS ⟨λ _=>hS,H⟩
  ·have h1:=H.2 j (ready_mono hj hji);obtain⟨hjun,oj,hoj,hall⟩:=mem_ready.1 hj;have hiun:=(mem_ready.1 hr).1;have hnot:∀e∈oj.after,Region.binds md e=true->e.on≠i:=λ e he hb heq=>by
    have h1:=hall e he hb;rw[heq] at h1;rcases Nat.lt_or_ge i listed.size with h' | h'
    ·simp[h'] at hiun h1;rw[hiun] at h1;cases h1
    ·simp[Array.getElem?_eq_none h'] at h1
   have h2:=wpOp_putIf hoj (hfree j oj hoj hji hjun hnot) (λ cs b=>hsel i oi cs b hi) (λ cs b=>hsel j oj cs b hoj) hQ hy h1;have hfree':∀k ok,ops[k]?=some ok->k≠i->(listed.setIfInBounds j true).getD k true=false->
     (∀e∈ok.after,Region.binds md e=true->e.on≠i)->oi.apart ops ok=true:=λ k ok hk hki hun hno=>by
    refine hfree k ok hk hki ?_ hno;by_cases hjk:j=k
    ·subst hjk;exact hjun
    ·rw[getD_set_ne true hjk] at hun;exact hun
   have hcl':=hcl.set hj;have hi0:(listed.setIfInBounds j true).getD i false=false:=by
    rw[getD_set_ne false hji];rcases Nat.lt_or_ge i listed.size with h' | h'
    ·simp[h'] at hiun ⊢;exact hiun
    ·simp[Array.getElem?_eq_none h']
   have hnone:Ap6 St ((listed.setIfInBounds i true).setIfInBounds j true):=λ s hs=>by
    obtain⟨f,hf,hsi⟩:=hw s hs;rw[Array.setIfInBounds_comm _ _ (Ne.symm hji),getD_set_ne false (Ne.symm hsi)];cases hq:(listed.setIfInBounds j true).getD s false
    ·rfl
    ·have:=Bt4 hcl' hf hq;rw[hi0] at this;cases this
   refine wpOp_mono (λ a' w' h3=>?_) h2;have hS':=h3.2.1 hnone;refine⟨λ _=>hS',ih (listed.setIfInBounds j true) a' w' hcl' hfree' (ready_mono hr (Ne.symm hji)) h3.1 hS' ?_⟩;rw[Array.setIfInBounds_comm _ _ hji];exact h3.2.2
def Ce2(md:Region.Mode)(ops:Array Oper)(listed:Array Bool):Bool:=(List.range ops.size).all λ j=> !listed.getD j false || ((ops[j]?).map (·.after.all λ e=> !Region.binds md e || listed.getD e.on false)).getD true
theorem Ci6{listed:Array Bool}(h:Ce2 md ops listed=true):Av3 md ops listed:=by
 intro j oj hj hl e he hb;have h1:=(List.all_eq_true.1 h) j (List.mem_range.2 (Array.getElem?_eq_some_iff.1 hj).1);rw[hj,hl] at h1;simp only[Bool.not_true,Bool.false_or,Option.map_some,Option.getD_some] at h1;have h2:=Array.all_eq_true_iff_forall_mem.1 h1 e he;rw[hb] at h2;simpa using h2
theorem A7{i:Nat}{oi:Oper}{v:Value}{fuel:Nat}{listed:Array Bool}{a:Act}{w:World}(hi:ops[i]?=some oi)
  (hk:(Region.noSelect ops && Region.free md ops listed i && (Region.ready md ops listed).contains i && Ce2 md ops listed && St.all λ s=>Bk0 md ops i ops.size s && !(s == i))=true)
  (hQ:∀c a w,Q (.panic c) (a.put oi.dst v) w->Q (.panic c) a w) (hS:S w) (hy:YieldsIf P ops S oi v a)
  (h:U0 P md ops Q S St fuel (listed.setIfInBounds i true) (a.put oi.dst v) w):U0 P md ops Q S St (fuel+1) listed a w:=by
 simp only[Bool.and_eq_true] at hk;obtain⟨⟨⟨⟨h1,h2⟩,h3⟩,h4⟩,h5⟩:=hk;refine Bn8 hi (Region.noSelect_spec h1) hQ (λ s hs=>?_) fuel listed a w (Ci6 h4) (Region.free_spec hi h2) (by simpa using h3) hy hS h;have:=(List.all_eq_true.1 h5) s hs;simp only[Bool.and_eq_true,Bool.not_eq_true',beq_eq_false_iff_ne] at this;exact⟨_,this.1,this.2⟩
def B0(P:Program)(md:Region.Mode)(ops:Array Oper)(Q:Exit->Act->World->Prop)(S:World->Prop)(St:List Nat)(fuel:Nat)(listed:Array Bool)(a:Act)(w:World)(rs:List Nat):Prop:=
 ∀i∈rs,wpOp P ops Q i (λ a' w'=>(Ap6 St (listed.setIfInBounds i true)->S w')/\U0 P md ops Q S St fuel (listed.setIfInBounds i true) a' w') a w
theorem B0.one{fuel:Nat}{listed:Array Bool}{a:Act}{w:World}{i:Nat}{o:Oper}(ho:ops[i]?=some o)
  (h:∀K':Act->World->Prop,Shut (∀a w,(Ap6 St (listed.setIfInBounds i true)->S w)->(U0 P md ops Q S St fuel (listed.setIfInBounds i true) a w)->K' a w)->if Region.wanted o (yielded ops a.tmps)=true then Oper.wp P o a w K' Q else K' (a.put o.dst undef) w):B0 P md ops Q S St fuel listed a w [i]:=λ j hj=>by
 rcases List.mem_cons.1 hj with rfl | hj
 ·exact wpOp_step ho (λ K' hK=>h K' (λ a w hS hW=>hK a w ⟨hS,hW⟩))
 ·cases hj
theorem B0.cons{fuel:Nat}{listed:Array Bool}{a:Act}{w:World}{i:Nat}{rs:List Nat}(h:B0 P md ops Q S St fuel listed a w [i])(hs:B0 P md ops Q S St fuel listed a w rs):B0 P md ops Q S St fuel listed a w (i :: rs):=λ j hj=>by
 rcases List.mem_cons.1 hj with rfl | hj
 ·exact h j (by simp)
 ·exact hs j hj
theorem A9{rs:List Nat}{fuel:Nat}{listed:Array Bool}{a:Act}{w:World}(hr:Region.ready md ops listed=rs)(hne:rs≠[])
  (h:B0 P md ops Q S St fuel listed a w rs):U0 P md ops Q S St (fuel+1) listed a w:=
 ⟨λ h0=>absurd (hr ▸ h0) hne,hr ▸ h⟩
theorem F0{listed:Array Bool}{a:Act}{w:World}(hr:Region.ready md ops listed=[])(h:Q .normal a w) :
  ∀fuel,U0 P md ops Q S St fuel listed a w
 | 0=>⟨hr,h⟩
 | _+1=>⟨λ _=>h,by rw[hr];simp⟩
theorem O9{id:Nat}{a:Act}{w:World}(S:World->Prop)(St:List Nat)(hm:P.follows .mixedOrders=true)(hS:S w.drew)
  (h:S w.drew->U0 P .any ops Q S St ops.size (Array.replicate ops.size false) a w.drew):(Code.region id ops true).wp P Q a w:=
 wp_region_any hm (Be1 _ _ _ _ (h hS))
theorem Ae9:∀{fuel:Nat} {listed:Array Bool} {a:Act} {w:World},(St.any λ s=>listed.getD s false)=true->U0 P md ops Q (λ _=>True) [] fuel listed a w->U0 P md ops Q S St fuel listed a w
 | 0,_,_,_,_,h=>h
 | fuel+1,listed,a,w,hs,h=>⟨h.1,λ i hi=>wpOp_mono (λ a' w' h'=>by
   have hs':(St.any λ s=>(listed.setIfInBounds i true).getD s false)=true:=by
    obtain⟨s,hm,he⟩:=List.any_eq_true.1 hs;exact List.any_eq_true.2 ⟨s,hm,getD_set_true he⟩
   refine⟨λ hn=>?_,Ae9 hs' h'.2⟩;obtain⟨s,hm,he⟩:=List.any_eq_true.1 hs';rw[hn s hm] at he;cases he) (h.2 i hi)⟩
end
end
section
theorem N3{w:World}{B n sz:Nat}{e:TypeId}{v:Value}{xs:List Value}(h:w.ownsRow B e sz v n xs)(hn:0<n):∃g cap,v=.slice (some ⟨g,0,none⟩) n cap/\B<=g/\n<=cap/\(∀(j:Nat) (u:Value),xs[j]?=some u->w.cell? ⟨g,j,none⟩=some u)/\(∃c,w.heap[g]?=some (.cells c e (0,0))):=by
 rcases h.2 with⟨_,h0⟩ | ⟨g,cap,cur,rfl,hb,hg,hc,hm,hs,ht⟩
 ·omega
 ·refine⟨g,cap,rfl,hb,hc,λ j u hj=>?_,_,hg⟩;rw[← ht,List.getElem?_take] at hj;split at hj
  ·rw[A2 hg,← Array.getElem?_toList];exact hj
  ·simp at hj
theorem Bg3{w:World}{B B' n sz:Nat}{e:TypeId}{v:Value}{xs:List Value}(h:w.ownsRow B e sz v n xs)(hb:B'<=B):w.ownsRow B' e sz v n xs:=by
 refine⟨h.1,h.2.imp id ?_⟩;rintro⟨g,cap,cur,e1,e2,e3⟩;exact⟨g,cap,cur,e1,Nat.le_trans hb e2,e3⟩
theorem Bl8{w:World}{B B' n gk ck:Nat}{K:List Bs}(h:F5 w B (.slice (some ⟨gk,0,none⟩) n ck) K)(hl:∀x,x∈K->x.length=32)(i m o cap:Nat)(hm:i+m=K.length)(ho:o=i*32)(h0:0<m)(hn:n<=100)(hB:B'<=w.heap.size) :
  Calls Tryz.prog 206 #[.slice (some ⟨gk,o,none⟩) m cap] w λ e w'=>∃a c,e=.returned (.slice a m c)/\F5 w' B' (.slice a m c) (K.drop i)/\Upd [] w w':=by
 subst ho;obtain⟨g,cap',e,hb,hc,hcell,_⟩:=N3 h (by omega);injection e with e1 e2 e3;injection e1 with e1;injection e1 with e1;subst e1;have hxl:((K.drop i).map bts).flatten.length=m*32:=by rw[Al6 (Aa6 (n:=32) (λ x q=>hl x (List.mem_of_mem_drop q))),List.length_map,List.length_drop];congr 1;omega
 refine(Df4 (b:=gk) (off:=i*32) (n:=m) (cap:=cap) (xs:=((K.drop i).map bts).flatten) h0 (by omega) hxl (At6 _) (λ j u hj=>hcell (i*32+j) u ?_)).mono λ e w' hp=>?_
 ·rw[List.map_drop,Ah4 i (Aa6 hl),List.getElem?_drop] at hj;exact hj
 ·obtain⟨a,c,e1,e2,e3⟩:=hp;refine⟨a,c,e1,?_,e3⟩;unfold F5;rw[List.length_drop,show K.length-i=m by omega];exact Bg3 e2 hB
theorem Ck5{w:World}{B B' n gk ck:Nat}{K:List Bs}(h:G7 w B (.slice (some ⟨gk,0,none⟩) n ck) K)(hl:∀x,x∈K->x.length=16)(i m o cap:Nat)(hm:i+m=K.length)(ho:o=i*16)(h0:0<m)(hn:n<=100)(hB:B'<=w.heap.size) :
  Calls Tryz.prog 207 #[.slice (some ⟨gk,o,none⟩) m cap] w λ e w'=>∃a c,e=.returned (.slice a m c)/\G7 w' B' (.slice a m c) (K.drop i)/\Upd [] w w':=by
 subst ho;obtain⟨g,cap',e,hb,hc,hcell,_⟩:=N3 h (by omega);injection e with e1 e2 e3;injection e1 with e1;injection e1 with e1;subst e1;have hxl:((K.drop i).map bts).flatten.length=m*16:=by rw[Al6 (Aa6 (n:=16) (λ x q=>hl x (List.mem_of_mem_drop q))),List.length_map,List.length_drop];congr 1;omega
 refine(Df5 (b:=gk) (off:=i*16) (n:=m) (cap:=cap) (xs:=((K.drop i).map bts).flatten) h0 (by omega) hxl (At6 _) (λ j u hj=>hcell (i*16+j) u ?_)).mono λ e w' hp=>?_
 ·rw[List.map_drop,Ah4 i (Aa6 hl),List.getElem?_drop] at hj;exact hj
 ·obtain⟨a,c,e1,e2,e3⟩:=hp;refine⟨a,c,e1,?_,e3⟩;unfold G7;rw[List.length_drop,show K.length-i=m by omega];exact Bg3 e2 hB
theorem Ck6{w:World}{B B' n gk ck:Nat}{D:List Nat}(h:G0 w B (.slice (some ⟨gk,0,none⟩) n ck) D)(i m cap:Nat)(hm:i+m=D.length)(h0:0<m)(hn:n<=100)(hB:B'<=w.heap.size) :
  Calls Tryz.prog 210 #[.slice (some ⟨gk,i,none⟩) m cap] w λ e w'=>∃a c,e=.returned (.slice a m c)/\G0 w' B' (.slice a m c) (D.drop i)/\Upd [] w w':=by
 obtain⟨g,cap',e,hb,hc,hcell,_⟩:=N3 h (by omega);injection e with e1 e2 e3;injection e1 with e1;injection e1 with e1;subst e1;refine(Df6 (b:=gk) (off:=i) (n:=m) (cap:=cap) (xs:=(D.drop i).map λ d:Nat=>Value.int .u32 (d:Int)) h0 (by omega) (by rw[List.length_map,List.length_drop];omega) (by intro u q;obtain⟨d,_,rfl⟩:=List.mem_map.1 q;rfl) (λ j u hj=>hcell (i+j) u ?_)).mono λ e w' hp=>?_
 ·rw[List.map_drop,List.getElem?_drop] at hj;exact hj
 ·obtain⟨a,c,e1,e2,e3⟩:=hp;refine⟨a,c,e1,?_,e3⟩;unfold G0;rw[List.length_drop,show D.length-i=m by omega];exact Bg3 e2 hB
structure N6(g:Sg)(M:Nat->Option Sec)(wA:World)(b10 b12:Nat)(X:Array Value)(k:Value)(K:List Bs)(R:World->Prop)(w:World):Prop where
 c12:w.heap[b12]?=some (.cells X 220 (0,0))
 k:F5 w wA.heap.size k K
 r:R w
 sp:B7 w g M
 upd:Upd g.S wA w
 c10:w.heap[b10]?=some (.cells (I5 none).toArray 228 (0,0))
theorem N6.below{g:Sg}{M:Nat->Option Sec}{wA:World}{b10 b12:Nat}{X:Array Value}{k:Value}{K:List Bs}{R:World->Prop}{w w':World}(h:N6 g M wA b10 b12 X k K R w)(hR:∀{w w'},R w->Upd [] w w'->R w')(hu:Upd [] w w'):N6 g M wA b10 b12 X k K R w':=
 ⟨(hu.block _ (A3 h.c12) (by simp)).trans h.c12,C4 (S:=[]) h.k hu (by simp),hR h.r hu,h.sp.below hu,h.upd.trans (hu.mono (by simp)),(hu.block _ (A3 h.c10) (by simp)).trans h.c10⟩
theorem G7.below{w w':World}{B:Nat}{v:Value}{V:List Bs}(h:G7 w B v V)(hu:Upd [] w w'):G7 w' B v V:=C4 (S:=[]) h hu (by simp)
theorem G0.below{w w':World}{B:Nat}{v:Value}{V:List Nat}(h:G0 w B v V)(hu:Upd [] w w'):G0 w' B v V:=C4 (S:=[]) h hu (by simp)
theorem F5.below{w w':World}{B:Nat}{v:Value}{V:List Bs}(h:F5 w B v V)(hu:Upd [] w w'):F5 w' B v V:=C4 (S:=[]) h hu (by simp)
def Ac6(R:World->Prop):Prop:=∀(w w':World) (b:Nat) (c:Array Value),R w->w.heap[b]?=some (.cells c 220 (0,0))->Upd [b] w w'->R w'
theorem G7.node{B:Nat}{v:Value}{V:List Bs}:Ac6 (λ w=>G7 w B v V):=λ w w' b c h hb hu=>C4 (S:=[b]) h hu (λ k c' hk _ e=>by simp at hk;subst hk;rw[hb] at e;simp at e)
theorem G0.node{B:Nat}{v:Value}{V:List Nat}:Ac6 (λ w=>G0 w B v V):=λ w w' b c h hb hu=>C4 (S:=[b]) h hu (λ k c' hk _ e=>by simp at hk;subst hk;rw[hb] at e;simp at e)
theorem F5.node{B:Nat}{v:Value}{V:List Bs}:Ac6 (λ w=>F5 w B v V):=λ w w' b c h hb hu=>C4 (S:=[b]) h hu (λ k c' hk _ e=>by simp at hk;subst hk;rw[hb] at e;simp at e)
theorem N6.node{g:Sg}{M:Nat->Option Sec}{wA:World}{b10 b12:Nat}{X:Array Value}{k:Value}{K:List Bs}{R:World->Prop}{w w':World}(h:N6 g M wA b10 b12 X k K R w)(hR:Ac6 R){b:Nat}{c:Array Value}(hb:w.heap[b]?=some (.cells c 220 (0,0)))(hne:b12≠b)(hB:wA.heap.size<=b)(hu:Upd [b] w w'):N6 g M wA b10 b12 X k K R w':=by
 have h10:b10≠b:=by
  rintro rfl;have:=h.c10;rw[hb] at this;simp at this
 exact⟨(hu.block _ (A3 h.c12) (by simpa using hne)).trans h.c12,F5.node _ _ _ _ h.k hb hu,hR _ _ _ _ h.r hb hu,h.sp.turned9 (λ x hx=>by simp at hx;subst hx;exact⟨_,_,_,hb,.inr (.inl rfl)⟩) hu,h.upd.late hu (λ x hx=> .inr (by simp at hx;subst hx;exact hB)),(hu.block _ (A3 h.c10) (by simpa using h10)).trans h.c10⟩
def Cx8(g:Sg)(M:Nat->Option Sec)(wA:World)(b10 b12:Nat)(X:Array Value)(k:Value)(K:List Bs)(R:World->Prop)(Y:Option Addr->Nat->Option Addr->Nat->List Value)(n2:Nat)(K2:List Bs)(R2:Option Addr->Nat->World->Prop)(s16:Value)(w:World):Prop:=
 ∃b16 a4 c4 a5 c5,s16=.pointer (some ⟨b16,0,none⟩)/\b12<b16/\wA.heap.size<=b16/\w.heap[b16]?=some (.cells (Y a4 c4 a5 c5).toArray 220 (0,0))/\F5 w wA.heap.size (.slice a4 n2 c4) K2/\R2 a5 c5 w/\N6 g M wA b10 b12 X k K R w
section
variable {g:Sg} {M:Nat->Option Sec} {wA:World} {b10 b12:Nat} {X:Array Value} {k:Value} {K:List Bs} {R:World->Prop} {Y:Option Addr->Nat->Option Addr->Nat->List Value} {n2:Nat} {K2:List Bs} {R2:Option Addr->Nat->World->Prop} {w:World} {a4 a5:Option Addr} {c4 c5:Nat}
theorem At8(hM:N6 g M wA b10 b12 X k K R w)(hk4:F5 w wA.heap.size (.slice a4 n2 c4) K2)(hk5:R2 a5 c5 w)(hR:Ac6 R)(hR2:Ac6 (R2 a5 c5)){b16:Nat}{Z:Array Value}(h16:w.heap[b16]?=some (.cells Z 220 (0,0)))(hlt:b12<b16)(hB:wA.heap.size<=b16):Cx8 g M wA b10 b12 X k K R Y n2 K2 R2 (.pointer (some ⟨b16,0,none⟩)) (w.setRow b16 (Y a4 c4 a5 c5).toArray):=by
 have hu:Upd [b16] w (w.setRow b16 (Y a4 c4 a5 c5).toArray):=J5 (Upd.refl _ _) _ (.inl (by simp));exact⟨b16,a4,c4,a5,c5,rfl,hlt,hB,setRow_heap _ _ _ _ _ _ h16,F5.node _ _ _ _ hk4 h16 hu,hR2 _ _ _ _ hk5 h16 hu,hM.node hR h16 (by omega) hB hu⟩
theorem Bw9(hM:N6 g M wA b10 b12 X k K R w)(hk4:F5 w wA.heap.size (.slice a4 n2 c4) K2)(hk5:R2 a5 c5 w)(hR:∀{w w'},R w->Upd [] w w'->R w')(hR2:∀{w w'},R2 a5 c5 w->Upd [] w w'->R2 a5 c5 w'):Cx8 g M wA b10 b12 X k K R Y n2 K2 R2 (.pointer (some ⟨w.heap.size,0,none⟩)) (w.alloc (.cells (Y a4 c4 a5 c5).toArray 220)):=by
 have hu:Upd [] w (w.alloc (.cells (Y a4 c4 a5 c5).toArray 220)):=(Upd.refl _ _).alloc _;exact⟨w.heap.size,a4,c4,a5,c5,rfl,A3 hM.c12,hM.upd.size,A4 _,hk4.below hu,hR2 hk5 hu,hM.below hR hu⟩
end
theorem Cf3{M:Nat->Option Sec}{h a:Nat}{x:Sec}(ho:MOk M h)(ha:a<h)(hx:x.length=512):MOk (K9 M a x) h:=by
 intro i s e;unfold K9 at e;split at e
 ·next q=>cases e;exact⟨by omega,hx⟩
 ·exact ho i s e
theorem Bb3{w:World}{g:Sg}{M:Nat->Option Sec}(h:B7 w g M)(s:Nat)(h1:1<g.h):MOk (P6 g M s) g.h:=by
 intro i x e;unfold P6 Al4 at e;split at e
 ·next q=>cases e;exact⟨by omega,by rw[X9,Af1];exact h.cur_len 1⟩
 ·exact h.ok i x e
theorem RRd.take{w:World}{ao:Option Addr}{n c sz:Nat}{es:List (List Value)}(h:RRd w (.slice ao n c) sz es){i:Nat}(hi:i<=es.length):RRd w (.slice ao i c) sz (es.take i):=by
 obtain⟨ao',cap,e,hc,hh⟩:=h;injection e with e1 e2 e3;subst e1 e3;refine⟨ao,c,by rw[List.length_take,Nat.min_eq_left hi],by rw[List.length_take];omega,λ hp=>?_⟩;rw[List.length_take] at hp;obtain⟨b,off,e,hr⟩:=hh (by omega);refine⟨b,off,e,λ j x hj=>hr j x ?_⟩;rw[List.getElem?_take] at hj;split at hj
 ·exact hj
 ·simp at hj
theorem KRd.take{w:World}{ao:Option Addr}{n c:Nat}{ds:List Nat}(h:KRd w (.slice ao n c) ds){i:Nat}(hi:i<=ds.length):KRd w (.slice ao i c) (ds.take i):=by
 obtain⟨ao',cap,e,hc,hh⟩:=h;injection e with e1 e2 e3;subst e1 e3;refine⟨ao,c,by rw[List.length_take,Nat.min_eq_left hi],by rw[List.length_take];omega,λ hp=>?_⟩;rw[List.length_take] at hp;obtain⟨b,off,e,hr⟩:=hh (by omega);refine⟨b,off,e,λ j x hj=>hr j x ?_⟩;rw[List.getElem?_take] at hj;split at hj
 ·exact hj
 ·simp at hj
end
section
def Ab7(B:Nat)(T:TypeId)(w w':World):Prop:=∃S,Upd S w w'/\∀k,k∈S->B<=k/\∃c,w.heap[k]?=some (.cells c T (0,0))
theorem Ab7.blk{B:Nat}{T:TypeId}{w w':World}(h:Ab7 B T w w'){k:Nat}{c:Array Value}{T2:TypeId}{fr:Nat × Nat}(hk:w.heap[k]?=some (.cells c T2 fr))(hn:T2≠T∨k<B):w'.heap[k]?=some (.cells c T2 fr):=by
 obtain⟨S,hu,hs⟩:=h;refine(hu.block _ (A3 hk) (λ q=>?_)).trans hk;obtain⟨hb,c2,e⟩:=hs k q;rw[hk] at e;rcases hn with hn | hn
 ·simp at e;exact hn e.2.1
 ·omega
theorem Ab7.own{B:Nat}{T:TypeId}{w w':World}(h:Ab7 B T w w'){B' n sz:Nat}{e:TypeId}{v:Value}{xs:List Value}(ho:w.ownsRow B' e sz v n xs)(hne:e≠T):w'.ownsRow B' e sz v n xs:=
 Bv9 ho λ k c hk e=>by rw[h.blk e (.inl hne)];exact e.symm
theorem Ab7.sp{B:Nat}{T:TypeId}{w w':World}(h:Ab7 B T w w')(hT:Ty9 T){g:Sg}{M:Nat->Option Sec}(hs:B7 w g M):B7 w' g M:=by
 obtain⟨S,hu,hS⟩:=h;exact hs.turned9 (λ b hb=>by obtain⟨_,c,e⟩:=hS b hb;exact⟨_,_,_,e,hT⟩) hu
theorem Ab7.upd{B:Nat}{T:TypeId}{w0 w w':World}(h:Ab7 B T w w'){S:List Nat}(hu:Upd S w0 w)(hB:w0.heap.size<=B):Upd S w0 w':=by
 obtain⟨S2,hu2,hS⟩:=h;exact hu.late hu2 (λ k hk=> .inr (Nat.le_trans hB (hS k hk).1))
structure Af8(g:Sg)(M:Nat->Option Sec)(wA:World)(b7 b8 b10 b12:Nat)(key v:Bs)(X:Array Value)(w:World):Prop where
 sp:B7 w g M
 upd:Upd [g.j.jb] wA w
 c7:w.heap[b7]?=some (.cells (bts key).toArray 35 (0,0))
 c8:w.heap[b8]?=some (.cells (bts v).toArray 115 (0,0))
 c10:w.heap[b10]?=some (.cells (I5 none).toArray 228 (0,0))
 c12:w.heap[b12]?=some (.cells X 220 (0,0))
section
variable {g:Sg} {M:Nat->Option Sec} {wA:World} {b7 b8 b10 b12:Nat} {key v:Bs} {X:Array Value} {w w':World}
theorem Af8.below(h:Af8 g M wA b7 b8 b10 b12 key v X w)(hu:Upd [] w w'):Af8 g M wA b7 b8 b10 b12 key v X w':=
 ⟨h.sp.below hu,h.upd.trans (hu.mono (by simp)),(hu.block _ (A3 h.c7) (by simp)).trans h.c7,(hu.block _ (A3 h.c8) (by simp)).trans h.c8,(hu.block _ (A3 h.c10) (by simp)).trans h.c10,(hu.block _ (A3 h.c12) (by simp)).trans h.c12⟩
theorem Af8.turn(h:Af8 g M wA b7 b8 b10 b12 key v X w){B:Nat}{T:TypeId}(ht:Ab7 B T w w')(hT:Ty9 T)(h7:b7<B)(h8:b8<B)(h10:b10<B)(h12:T≠220)(hB:wA.heap.size<=B):Af8 g M wA b7 b8 b10 b12 key v X w':=
 ⟨ht.sp hT h.sp,ht.upd h.upd hB,ht.blk h.c7 (.inr h7),ht.blk h.c8 (.inr h8),ht.blk h.c10 (.inr h10),ht.blk h.c12 (.inl (Ne.symm h12))⟩
end
theorem Bg2{g:Sg}{M:Nat->Option Sec}{wA:World}{b7 b8 b10 b12:Nat}{key v:Bs}{X:Array Value}{w w':World}(h:Af8 g M wA b7 b8 b10 b12 key v X w){n m szk szv:Nat}{ek ev:TypeId}{xk xv:Value}{ks vs:List Value}{Bk Bv:Nat}
  (hk:w.ownsRow Bk ek szk xk n ks) (hv:w.ownsRow Bv ev szv xv m vs) (hu:Upd [b12] w w') (hb:wA.heap.size<=b12) (hne:b10≠b12) (hek:ek≠220) (hev:ev≠220) :
  w'.ownsRow Bk ek szk xk n ks/\w'.ownsRow Bv ev szv xv m vs/\B7 w' g M/\Upd [g.j.jb] wA w'/\w'.heap[b10]?=some (.cells (I5 none).toArray 228 (0,0)):=by
 have ne:∀{e:TypeId},e≠220->∀(k:Nat) (c:Array Value),k∈[b12]->∀B,B<=k->w.heap[k]?≠some (.cells c e (0,0)):=λ he k c hk B _ q=>by
  simp at hk;subst hk;rw[h.c12] at q;simp at q;exact he q.2.symm
 exact⟨C4 hk hu (λ k c hk hB=>ne hek k c hk _ hB),C4 hv hu (λ k c hk hB=>ne hev k c hk _ hB),h.sp.turned9 (λ b hb=>by simp at hb;subst hb;exact⟨_,_,_,h.c12,.inr (.inl rfl)⟩) hu,h.upd.late hu (λ k hk=> .inr (by simp at hk;omega)),(hu.block _ (A3 h.c10) (by simpa using hne)).trans h.c10⟩
theorem F3.turn{w:World}{B:Nat}{e:TypeId}{sz n:Nat}{xs:List Value}{en:Ending}{w':World}(h:F3 w B e sz n xs en w'):∃a c,en=.returned (.slice a (n+1) c)/\w'.ownsRow B e sz (.slice a (n+1) c) (n+1) xs/\Ab7 B e w w':=by
 obtain⟨a,c,S,e1,e2,e3,e4⟩:=h;exact⟨a,c,e1,e2,S,e3,e4⟩
theorem Bl7{w:World}{B:Nat}{vk:Value}{ks:List Bs}(hK:F5 w B vk ks)(hl:∀x,x∈ks->x.length=32)(hn:ks.length<=100){P:Nat}(hP:P<=ks.length)(hB:B<=w.heap.size){key:Bs}(hkey:key.length=32){vb:Nat}(hv:w.heap[vb]?=some (.cells (bts key).toArray 35 (0,0)))(hne:∀a l c,vk=.slice (some a) l c->vb≠a.block) :
  Calls Tryz.prog 204 #[vk,.int .i64 (P:Int),.slice (some ⟨vb,0,none⟩) 1 1] w λ e w'=>∃a c,e=.returned (.slice a (ks.length+1) c)/\F5 w' B (.slice a (ks.length+1) c) (D7 ks P key)/\Ab7 B 35 w w':=by
 refine(Cs2 hK hn hP hB (At6 ks) hne (by rw[A5,hkey]) (G5 key) hv).mono λ e w' hp=>?_;obtain⟨a,c,e1,e2,e3⟩:=hp.turn;refine⟨a,c,e1,?_,e3⟩;unfold F5;rw[Bw5 hl,L3 _ _ _ hP];exact e2
theorem Ck3{w:World}{B:Nat}{vv:Value}{vs:List Bs}(hV:G7 w B vv vs)(hl:∀x,x∈vs->x.length=16)(hn:vs.length<=100){P:Nat}(hP:P<=vs.length)(hB:B<=w.heap.size){v:Bs}(hv0:v.length=16){vb:Nat}(hv:w.heap[vb]?=some (.cells (bts v).toArray 115 (0,0)))(hne:∀a l c,vv=.slice (some a) l c->vb≠a.block) :
  Calls Tryz.prog 205 #[vv,.int .i64 (P:Int),.slice (some ⟨vb,0,none⟩) 1 1] w λ e w'=>∃a c,e=.returned (.slice a (vs.length+1) c)/\G7 w' B (.slice a (vs.length+1) c) (D7 vs P v)/\Ab7 B 115 w w':=by
 refine(Cs5 hV hn hP hB (At6 vs) hne (by rw[A5,hv0]) (G5 v) hv).mono λ e w' hp=>?_;obtain⟨a,c,e1,e2,e3⟩:=hp.turn;refine⟨a,c,e1,?_,e3⟩;unfold G7;rw[Bw5 hl,L3 _ _ _ hP];exact e2
theorem Bb0{key:Bs}(hk:key.length=32)(w:World):(Instr.buildSlice 216 1 #[(0,.agg (bts key).toArray)]).run Tryz.prog w=.ok (.slice (some ⟨w.heap.size,0,none⟩) 1 1) (w.alloc (.cells (bts key).toArray 35)):=
 X1 (e:=35) (sz:=32) Tryz.underlying216 (by kernel_rfl) (by decide) (by decide) (bts key) (by rw[A5,hk]) w
theorem Cf0{v:Bs}(hv:v.length=16)(w:World):(Instr.buildSlice 217 1 #[(0,.agg (bts v).toArray)]).run Tryz.prog w=.ok (.slice (some ⟨w.heap.size,0,none⟩) 1 1) (w.alloc (.cells (bts v).toArray 115)):=
 X1 (e:=115) (sz:=16) Tryz.underlying217 (by kernel_rfl) (by decide) (by decide) (bts v) (by rw[A5,hv]) w
theorem Az7(w:World)(c c':Array Value)(T T':TypeId):((w.alloc (.cells c T)).alloc (.cells c' T')).heap[w.heap.size]?=some (.cells c T (0,0)):=(A6 (by simp)).trans (A4 _)
theorem Az8(w:World)(c c':Array Value)(T T':TypeId):((w.alloc (.cells c T)).alloc (.cells c' T')).heap[w.heap.size+1]?=some (.cells c' T' (0,0)):=by
 have:=A4 (w:=w.alloc (.cells c T)) (.cells c' T');simpa using this
theorem J6{w:World}{b:Nat}{C:Array Value}{T:TypeId}(h:w.heap[b]?=some (.cells C T (0,0)))(i:Nat){v:Value}(hi:i<C.size)(h1:v.oneCell'=true):(storeCells ⟨b,i,none⟩ [v] 0).run Tryz.prog w=.ok () (w.setCell ⟨b,i,none⟩ v):=by
 have hc:w.cell? ⟨b,i,none⟩=some C[i]:=by rw[A2 h];simp[hi]
 have hf:=B6 h i;have:=run_storeCells_cells (P:=Tryz.prog) b i [v] 0 w (by simp[hc]) (by simpa using hf) (by simpa using h1);simpa [World.setCells] using this
section
variable {P:Program} {ops:Array Oper} {Q:Exit->Act->World->Prop} {md:Region.Mode} {S:World->Prop} {St:List Nat}
theorem Bh9{i:Nat}{oi:Oper}{v:Value}(hi:ops[i]?=some oi)(hsel:∀(j:Nat) (o:Oper) cs b,ops[j]?=some o->o.op≠.select cs b)
  (hQ:∀c a w,Q (.panic c) (a.put oi.dst v) w->Q (.panic c) a w) (hw:∀s,s∈St->s≠i) :
  ∀(fuel:Nat) (listed:Array Bool) (a:Act) (w:World),
   (∀j oj,ops[j]?=some oj->j≠i->listed.getD j true=false->(∀e∈oj.after,Region.binds md e=true->e.on≠i)->oi.apart ops oj=true)->
   i∈Region.ready md ops listed->YieldsIf P ops (λ _=>True) oi v a->(Ap6 St (listed.setIfInBounds i true)->S w)->
   U0 P md ops Q S St fuel (listed.setIfInBounds i true) (a.put oi.dst v) w->U0 P md ops Q S St (fuel+1) listed a w:=by
 intro fuel;induction fuel with
 | zero=>
  intro listed a w _ hr hy hS H;refine⟨λ h=>(by rw[h] at hr;cases hr),λ j hj=>?_⟩;by_cases hji:j=i
  ·subst hji;exact hy.wpOp hi trivial ⟨hS,H⟩
  ·have:=ready_mono hj hji;rw[H.1] at this;cases this
 | succ fuel ih=>
  intro listed a w hfree hr hy hS H;refine⟨λ h=>(by rw[h] at hr;cases hr),λ j hj=>?_⟩;by_cases hji:j=i
  ·subst hji;exact hy.wpOp hi trivial ⟨hS,H⟩
  ·have h1:=H.2 j (ready_mono hj hji);obtain⟨hjun,oj,hoj,hall⟩:=mem_ready.1 hj;have hiun:=(mem_ready.1 hr).1;have hnot:∀e∈oj.after,Region.binds md e=true->e.on≠i:=λ e he hb heq=>by
    have h1:=hall e he hb;rw[heq] at h1;rcases Nat.lt_or_ge i listed.size with h' | h'
    ·simp[h'] at hiun h1;rw[hiun] at h1;cases h1
    ·simp[Array.getElem?_eq_none h'] at h1
   have h2:=wpOp_putIf hoj (hfree j oj hoj hji hjun hnot) (λ cs b=>hsel i oi cs b hi) (λ cs b=>hsel j oj cs b hoj) hQ hy h1;have hfree':∀k ok,ops[k]?=some ok->k≠i->(listed.setIfInBounds j true).getD k true=false->
     (∀e∈ok.after,Region.binds md e=true->e.on≠i)->oi.apart ops ok=true:=λ k ok hk hki hun hno=>by
    refine hfree k ok hk hki ?_ hno;by_cases hjk:j=k
    ·subst hjk;exact hjun
    ·rw[getD_set_ne true hjk] at hun;exact hun
   refine wpOp_mono (λ a' w' h3=>?_) h2;refine⟨λ hn=>h3.2.1 (λ s hs=>?_),ih (listed.setIfInBounds j true) a' w' hfree' (ready_mono hr (Ne.symm hji)) h3.1 (λ hn=>h3.2.1 ?_) ?_⟩
   ·rw[Array.setIfInBounds_comm _ _ (Ne.symm hji),getD_set_ne false (Ne.symm (hw s hs))];exact hn s hs
   ·rw[Array.setIfInBounds_comm _ _ (Ne.symm hji)];exact hn
   ·rw[Array.setIfInBounds_comm _ _ hji];exact h3.2.2
theorem Ac0{i:Nat}{oi:Oper}{v:Value}{fuel:Nat}{listed:Array Bool}{a:Act}{w:World}(hi:ops[i]?=some oi)
  (hk:(Region.noSelect ops && Region.free md ops listed i && (Region.ready md ops listed).contains i && St.all λ s=> !(s == i))=true)
  (hQ:∀c a w,Q (.panic c) (a.put oi.dst v) w->Q (.panic c) a w) (hS:Ap6 St (listed.setIfInBounds i true)->S w) (hy:YieldsIf P ops (λ _=>True) oi v a)
  (h:U0 P md ops Q S St fuel (listed.setIfInBounds i true) (a.put oi.dst v) w):U0 P md ops Q S St (fuel+1) listed a w:=by
 simp only[Bool.and_eq_true] at hk;obtain⟨⟨⟨h1,h2⟩,h3⟩,h4⟩:=hk;refine Bh9 hi (Region.noSelect_spec h1) hQ (λ s hs=>?_) fuel listed a w (Region.free_spec hi h2) (by simpa using h3) hy hS h;have:=(List.all_eq_true.1 h4) s hs;simpa using this
end
theorem D5{St:List Nat}{listed:Array Bool}{p:Prop}(h:(St.any λ s=>listed.getD s false)=true):Ap6 St listed->p:=λ hn=>by
 obtain⟨s,hs,he⟩:=List.any_eq_true.1 h;rw[hn s hs] at he;cases he
attribute [-go_sem] loadCells storeCells Instr.build Instr.buildSlice
attribute [local go_sem] Aj5 R8
def Bb1(g:Sg)(M:Nat->Option Sec)(root:Bool)(d a:Nat)(l:List C0)(S:List Nat)(key v:Bs)(w:World)(e:Ending)(w':World):Prop:=
 ∃M' o,e=.returned (.tuple #[Bg0 o,.int .i64 0])/\U7 g M M' root d a l S key v o/\B7 w' g M'/\Upd g.S w w'
def De6(g:Sg)(M:Nat->Option Sec)(wA:World)(b10 b12 n:Nat)(K V:List Bs)(wz:World):Prop:=
 ∃a c a' c',wz.heap[b12]?=some (.cells #[.int .i64 1,.slice a n c,.slice a' n c',.slice none 0 0] 220 (0,0))/\F5 wz wA.heap.size (.slice a n c) K/\G7 wz wA.heap.size (.slice a' n c') V/\B7 wz g M/\Upd [g.j.jb] wA wz/\wz.heap[b10]?=some (.cells (I5 none).toArray 228 (0,0))/\K.length=n/\V.length=n
theorem Bw6(a4 a5:Option Addr)(c4 c5:Nat)(w:World):(Instr.build 220 #[(0,.int .i64 1),(1,.slice a4 6 c4),(2,.slice a5 6 c5)]).run Tryz.prog w=.ok (.agg #[.int .i64 1,.slice a4 6 c4,.slice a5 6 c5,.slice none 0 0]) w:=run_build w _ _ _ (by kernel_rfl)
theorem Bp3{g:Sg}{M:Nat->Option Sec}{wA wz:World}{b10 b12 n P:Nat}{ks vs K V:List Bs}{key v:Bs}{a5 a6:Option Addr}{c5 c6:Nat}(hn:n=ks.length+1)(hvs:vs.length=ks.length)(hK:D7 ks P key=K)(hV:D7 vs P v=V)(hP:P<=ks.length)
  (hb:wz.heap[b12]?=some (.cells #[.int .i64 1,.slice a5 (ks.length+1) c5,.slice a6 (vs.length+1) c6,.slice none 0 0] 220 (0,0)))
  (hp:F5 wz wA.heap.size (.slice a5 (ks.length+1) c5) (D7 ks P key)/\G7 wz wA.heap.size (.slice a6 (vs.length+1) c6) (D7 vs P v)/\B7 wz g M/\Upd [g.j.jb] wA wz/\wz.heap[b10]?=some (.cells (I5 none).toArray 228 (0,0))):De6 g M wA b10 b12 n K V wz:=by
 subst hn hK hV;rw[hvs] at hb hp;obtain⟨h1,h2,h3,h4,h5⟩:=hp;exact⟨a5,c5,a6,c6,hb,h1,h2,h3,h4,h5,L3 _ _ _ hP,by rw[L3 _ _ _ (by omega),hvs]⟩
end
end Go.Proofs.YtgfbepakonjbnaaGreat
end
