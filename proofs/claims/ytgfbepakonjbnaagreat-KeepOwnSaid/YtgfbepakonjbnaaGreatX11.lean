/-
  A drawn region whose operations all yield known values: its end. A drawn region inside a fence, by an invariant: known values, and a world that is a function of what has come up. A drawn region of known values with one call that turns memory. A drawn region by an invariant: what each operation's slot holds, as a predicate of the world; and what holds of the world. Drawn regions: the world a function of what has come up, outside a fence; values that are known or are what a lasting predicate says, in a region that only makes blocks.
-/
import Derived.Test.YtgfbepakonjbnaaGreatX10
import Derived.OrdersIn
import Derived.OwnWalkIn
import Derived.RangeFuncBound
import Derived.RangeFuncLeaves
import Derived.Shelf.Abstract
import Derived.Shelf.RegionOpen
import Derived.WalkKit
import Derived.TacticsInMore
import Derived.LoopNIn
import Derived.LoopIn
set_option maxRecDepth 100000
set_option maxHeartbeats 16000000
section
section
set_option linter.unusedSimpArgs false
set_option linter.unusedVariables false
namespace Go.Proofs.YtgfbepakonjbnaaGreat
open Go.RowKit Go.MapKept Go.ChangeMaps
theorem I4{tmps:Array Value}{i:Nat}{b:Bool}(h:tmps[i]?.getD undef=.bool b):tmps[i]?=some (.bool b):=by
 cases hq:tmps[i]? with
 | none=>rw[hq] at h;cases h
 | some v=>rw[hq] at h;rw[show v=.bool b from h]
theorem Ag6.fin{w0 w:World}{n:Nat}{a0:Act}{V:List (Nat × Nat × Value)}{L:Nat->Bool}{tmps:Array Value}(h:Ag6 w0 n a0 V [] L ⟨tmps,[]⟩ w)(hn:a0.tmps.size=n)(hall:∀t,t∈V->L t.1=true):tmps=Af6 a0.tmps (V.map (·.2)):=
 h.tmps_eq hn _ (λ j hj=>by
  rw[List.all_map] at hj;simp only[okO,List.all_nil,Bool.and_true];exact hj) (λ p hp=>by
  obtain⟨t,ht,rfl⟩:=List.mem_map.1 hp;exact h.val t ht (hall t ht))
end Go.Proofs.YtgfbepakonjbnaaGreat
end
section
set_option linter.unusedSimpArgs false
set_option linter.unusedVariables false
namespace Go.Proofs.YtgfbepakonjbnaaGreat
open Go.RowKit Go.MapKept Go.ChangeMaps
section
variable {F:Fence} {m:Nat} {P:Program} {ops:Array Oper} {Q:Exit->Act->World->Prop} {md:Region.Mode}
def P7(md:Region.Mode)(ops:Array Oper)(L:Nat->Bool):Prop:=∀j oj,ops[j]?=some oj->L j=true->∀e∈oj.after,Region.binds md e=true->L e.on=true
theorem P7.up{L:Nat->Bool}(h:P7 md ops L){i:Nat}{o:Oper}(ho:ops[i]?=some o)(hd:∀e∈o.after,Region.binds md e=true->L e.on=true):P7 md ops (upL L i):=by
 intro j oj hj hl e he hb;have key:L e.on=true:=by
  by_cases hji:j=i
  ·subst hji;rw[ho] at hj;cases hj;exact hd e he hb
  ·rw[F9 _ hji] at hl;exact h j oj hj hl e he hb
 by_cases h2:e.on=i
 ·rw[h2,Q3]
 ·rw[F9 _ h2];exact key
def Af7(md:Region.Mode)(ops:Array Oper)(i:Nat):Nat->Nat->Bool
 | 0,s=>s == i
 | f+1,s=>s == i || match ops[s]? with
  | none=>false
  | some o=>o.after.any λ e=>Region.binds md e && Af7 md ops i f e.on
theorem Am7{L:Nat->Bool}(hc:P7 md ops L){i:Nat}:∀{f s:Nat},Af7 md ops i f s=true->L s=true->L i=true
 | 0,s,h,hs=>by simp[Af7] at h;rw[← h];exact hs
 | f+1,s,h,hs=>by
  unfold Af7 at h;rw[Bool.or_eq_true] at h;rcases h with h | h
  ·simp at h;rw[← h];exact hs
  ·cases ho:ops[s]? with
   | none=>rw[ho] at h;simp at h
   | some o=>
    rw[ho] at h;obtain⟨e,he,hb⟩:=Array.any_eq_true'.1 h;simp only[Bool.and_eq_true] at hb;exact Am7 hc hb.2 (hc s o ho hs e he hb.1)
theorem P7.not_up{L:Nat->Bool}(hc:P7 md ops L){i s:Nat}(f:Nat)(hw:Af7 md ops i f s=true)(hi:L i=false):L s=false:=by
 cases hq:L s with
 | false=>rfl
 | true=>rw[Am7 hc hw hq] at hi;cases hi
theorem P7.dep_up{L:Nat->Bool}(hc:P7 md ops L){i s:Nat}{o:Oper}(ho:ops[i]?=some o)(hd:∀e∈o.after,Region.binds md e=true->L e.on=true)(f:Nat)(hw:Af7 md ops s f i=true)(hne:s≠i):L s=true:=by
 have:=Am7 (hc.up ho hd) hw (Q3 _ _);rwa [F9 _ hne] at this
theorem Ax8(Inv:(Nat->Bool)->Act->World->Prop)
  (hstep:∀i o L a w,ops[i]?=some o->Inv L a w->L i=false->(∀e∈o.after,Region.binds md e=true->L e.on=true)->P7 md ops L->wpOpIn F m P ops Q i (λ a' w'=>Inv (upL L i) a' w') a w)
  (hend:∀L a w,Inv L a w->(∀i,i<ops.size->L i=true)->Q .normal a w) (hlow:Bn6 md ops=true) :
  ∀(fuel:Nat) (listed:Array Bool) (a:Act) (w:World),listed.size=ops.size->(List.range ops.size).countP (λ i=> !listed.getD i false)<=fuel->Inv (λ i=>listed.getD i false) a w->P7 md ops (λ i=>listed.getD i false)->wpAnyIn F m P md ops Q fuel listed a w
 | 0,listed,a,w,hs,hc,hI,_=>by
  have hall:∀i,i<ops.size->listed.getD i false=true:=λ i hi=>by
   have:=List.countP_eq_zero.1 (Nat.le_zero.1 hc) i (List.mem_range.2 hi);simpa using this
  refine⟨?_,hend _ _ _ hI hall⟩;apply List.eq_nil_iff_forall_not_mem.2;intro i hi;obtain⟨h1,o,ho,_⟩:=mem_ready.1 hi;have hlt:=(Array.getElem?_eq_some_iff.1 ho).1;have:=hall i hlt;simp[Array.getD,hs,hlt] at h1 this;rw[this] at h1;cases h1
 | fuel+1,listed,a,w,hs,hc,hI,hcl=>by
  refine⟨λ hr=>hend _ _ _ hI (Bj7 hlow hs hr),λ i hi=>?_⟩;obtain⟨h1,o,ho,hdep⟩:=mem_ready.1 hi;have hlt:=(Array.getElem?_eq_some_iff.1 ho).1;have h0:listed.getD i false=false:=by simp[Array.getD,hs,hlt] at h1 ⊢;exact h1
  refine wpOpIn_mono (λ a' w' hI'=>?_) (hstep i o _ a w ho hI h0 hdep hcl);have hL:(λ j=>(listed.setIfInBounds i true).getD j false)=upL (λ j=>listed.getD j false) i:=by
   funext j
   by_cases hj:j=i
   ·subst hj;rw[Q3];simp[Array.getD,hs,hlt]
   ·rw[F9 _ hj,getD_set_ne false (Ne.symm hj)]
  refine Ax8 Inv hstep hend hlow fuel (listed.setIfInBounds i true) a' w' (by simpa using hs) ?_ (by rw[hL];exact hI') (by rw[hL];exact hcl.up ho hdep);have:=Av0 (p:=λ j=> !listed.getD j false) (p':=λ j=> !(listed.setIfInBounds i true).getD j false) (λ j hj=>by
   have e:(listed.setIfInBounds i true).getD j false=upL (λ j=>listed.getD j false) i j:=congrFun hL j;rw[e] at hj;by_cases hji:j=i
   ·subst hji;rw[Q3] at hj;simp at hj
   ·rwa [F9 _ hji] at hj) (i:=i) (by rw[h0];rfl) (by have e:(listed.setIfInBounds i true).getD i false=upL (λ j=>listed.getD j false) i i:=congrFun hL i;rw[e,Q3];rfl) (List.mem_range.2 hlt)
  omega
theorem Az5{id:Nat}{a:Act}{w:World}(Inv:(Nat->Bool)->Act->World->Prop)(hm:P.follows .mixedOrders=true)(h0:Inv (λ _=>false) a w.drew)
  (hstep:∀i o L a w,ops[i]?=some o->Inv L a w->L i=false->(∀e∈o.after,Region.binds .any e=true->L e.on=true)->P7 .any ops L->wpOpIn F m P ops Q i (λ a' w'=>Inv (upL L i) a' w') a w)
  (hend:∀L a w,Inv L a w->(∀i,i<ops.size->L i=true)->Q .normal a w) (hlow:Bn6 .any ops=true):(Code.region id ops true).wpIn F m P Q a w:=by
 have hz:(λ i=>(Array.replicate ops.size false).getD i false)=λ _=>false:=by
  funext i;simp only[Array.getD,Array.size_replicate];split<;>simp
 refine wpIn_region_any hm (Ax8 Inv hstep hend hlow _ _ _ _ (by simp) (Nat.le_trans List.countP_le_length (by simp)) ?_ ?_)
 ·rw[hz];exact h0
 ·rw[hz];intro j oj _ h;cases h
end
structure Az6(wf:(Nat->Bool)->World)(n:Nat)(a0:Act)(V:List (Nat × Nat × Value))(L:Nat->Bool)(a:Act)(w:World):Prop where
 dfs:a.defers=[]
 size:a.tmps.size=n
 old:∀j,okO V [] j=true->tm a j=tm a0 j
 val:∀t,t∈V->L t.1=true->tm a t.2.1=t.2.2
 wd:w=wf L
theorem Az6.val_step{wf:(Nat->Bool)->World}{w w':World}{n:Nat}{a0:Act}{V:List (Nat × Nat × Value)}{L:Nat->Bool}{a:Act}(h:Az6 wf n a0 V L a w)(i d:Nat)(v:Value)
  (hd:d<n) (hw:w'=wf (upL L i)) (hv:∀t,t∈V->t.1=i->t.2.2=v) (hok:okV V [] i d=true):Az6 wf n a0 V (upL L i) { tmps:=a.tmps.setIfInBounds d v,defers:=[] } w':=by
 simp only[okV,List.all_nil,Bool.and_true,Bool.and_eq_true] at hok;obtain⟨h1,h3⟩:=hok;have hV:∀t,t∈V->if t.1=i then t.2.1=d else t.2.1≠d:=λ t ht=>by
  have:=(List.all_eq_true.1 h1) t ht;split at this<;>rename_i hq
  ·rw[if_pos hq];simpa using this
  ·rw[if_neg hq];simpa using this
 have hb:∀j,okO V [] j=true->j≠d:=λ j hj e=>by
  subst e;obtain⟨t,ht,e⟩:=List.any_eq_true.1 h3;simp only[okO,List.all_nil,Bool.and_true] at hj;have:=(List.all_eq_true.1 hj) t ht;rw[e] at this;cases this
 have key:∀j,tm { tmps:=a.tmps.setIfInBounds d v,defers:=[] } j=if j=d then v else tm a j:=λ j=>by
  have:=Be0 (a:=a) (d:=d) (by rw[h.size];exact hd) v j;unfold tm at this ⊢;exact this
 refine⟨rfl,by simpa using h.size,λ j hj=>by rw[key,if_neg (hb j hj)];exact h.old j hj,λ t ht hl=>?_,hw⟩;have:=hV t ht;by_cases hq:t.1=i
 ·rw[if_pos hq] at this;rw[key,if_pos this];exact(hv t ht hq).symm
 ·rw[if_neg hq] at this;rw[key,if_neg this];exact h.val t ht (by rwa [F9 _ hq] at hl)
theorem Az6.none_step{wf:(Nat->Bool)->World}{w w':World}{n:Nat}{a0:Act}{V:List (Nat × Nat × Value)}{L:Nat->Bool}{a:Act}(h:Az6 wf n a0 V L a w)(i:Nat)
  (hw:w'=wf (upL L i)) (hok:(V.all λ t=> !(t.1 == i))=true):Az6 wf n a0 V (upL L i) a w':=
 ⟨h.dfs,h.size,h.old,λ t ht hl=>h.val t ht (by
  have:=(List.all_eq_true.1 hok) t ht;rwa [F9 _ (by simpa using this)] at hl),hw⟩
theorem Ao2{F:Fence}{m:Nat}{P:Program}{ops:Array Oper}{Q:Exit->Act->World->Prop}{id:Nat}{a:Act}{w:World}(wf:(Nat->Bool)->World)(V:List (Nat × Nat × Value))(hm:P.follows .mixedOrders=true)(hlow:Bn6 .any ops=true)(n:Nat)(hn:a.tmps.size=n)(hdf:a.defers=[])
  (hw:w.drew=wf λ _=>false)
  (hstep:∀i o L tmps w',ops[i]?=some o->Az6 wf n a V L ⟨tmps,[]⟩ w'->L i=false->(∀e∈o.after,Region.binds .any e=true->L e.on=true)->P7 .any ops L->wpOpIn F m P ops Q i (λ a' w'=>Az6 wf n a V (upL L i) a' w') ⟨tmps,[]⟩ w')
  (hend:∀L tmps w',Az6 wf n a V L ⟨tmps,[]⟩ w'->(∀i,i<ops.size->L i=true)->Q .normal ⟨tmps,[]⟩ w'):(Code.region id ops true).wpIn F m P Q a w:=by
 subst hn;refine Az5 (Az6 wf a.tmps.size a V) hm ⟨hdf,rfl,λ _ _=>rfl,(λ _ _ h=>(by cases h)),hw⟩ ?_ ?_ hlow
 ·rintro i o L ⟨tmps,dfs⟩ w' ho hI hL hd hc;obtain rfl:dfs=[]:=hI.dfs;exact hstep i o L tmps w' ho hI hL hd hc
 ·rintro L ⟨tmps,dfs⟩ w' hI hall;obtain rfl:dfs=[]:=hI.dfs;exact hend L tmps w' hI hall
theorem Az6.fin{wf:(Nat->Bool)->World}{w:World}{n:Nat}{a0:Act}{V:List (Nat × Nat × Value)}{L:Nat->Bool}{tmps:Array Value}(h:Az6 wf n a0 V L ⟨tmps,[]⟩ w)(hn:a0.tmps.size=n)(hall:∀t,t∈V->L t.1=true):tmps=Af6 a0.tmps (V.map (·.2)):=
 Bn7 (h.size.trans hn.symm) (λ j hj=>h.old j (by
  rw[List.all_map] at hj;simp only[okO,List.all_nil,Bool.and_true];exact hj)) (λ p hp=>by
  obtain⟨t,ht,rfl⟩:=List.mem_map.1 hp;exact h.val t ht (hall t ht))
theorem Av1{F:Fence}{n:Nat}{P:Program}{o:Oper}{a:Act}{w:World}{K:Act->World->Prop}{Q:Exit->Act->World->Prop}(s x:Operand)(T T2:TypeId)
  (ho:o.op=.call { callee:=.builtin .append,args:=#[s,x],argTypes:=#[T,T2] }) {vs vx v':Value} {w':World} (hs:a.eval s=vs) (hx:a.eval x=vx)
  (hrun:∀ty,(Builtin.append_ #[T,T2] ty #[vs,vx]).run P w=.ok v' w') (h:K (a.put o.dst v') w'):Oper.wpIn F n P o a w K Q:=by
 unfold Oper.wpIn;refine⟨?_,?_⟩
 ·simp[Oper.about,ho,resolve,Target.leads,Sem.run_pure]
 ·rw[Oper.semAt_plain F _ _ (by rw[ho];intro c hc';cases hc')];simp[execOp,ho,resolve,invoke,builtin,hs,hx,hrun,Result.andThen];exact h
end Go.Proofs.YtgfbepakonjbnaaGreat
end
section
set_option linter.unusedSimpArgs false
set_option linter.unusedVariables false
namespace Go.Proofs.YtgfbepakonjbnaaGreat
open Go.RowKit Go.MapKept Go.ChangeMaps
end Go.Proofs.YtgfbepakonjbnaaGreat
end
section
set_option linter.unusedSimpArgs false
set_option linter.unusedVariables false
namespace Go.Proofs.YtgfbepakonjbnaaGreat
open Go.RowKit Go.MapKept Go.ChangeMaps
structure Ci5(n:Nat)(a0:Act)(D:List (Nat × Nat))(pr:(Nat->Bool)->Nat->World->Value->Prop)(G:(Nat->Bool)->World->Prop)(L:Nat->Bool)(a:Act)(w:World):Prop where
 dfs:a.defers=[]
 size:a.tmps.size=n
 old:∀j,(D.all λ t=> !(t.2 == j))=true->tm a j=tm a0 j
 val:∀t,t∈D->L t.1=true->pr L t.1 w (tm a t.2)
 gw:G L w
def okD(D:List (Nat × Nat))(i d:Nat):Bool:=(D.all λ t=>(t.1 == i) == (t.2 == d)) && D.any (λ t=>t.2 == d)
theorem Ci5.step{n:Nat}{a0:Act}{D:List (Nat × Nat)}{pr:(Nat->Bool)->Nat->World->Value->Prop}{G:(Nat->Bool)->World->Prop}{L:Nat->Bool}{a:Act}{w w':World}(h:Ci5 n a0 D pr G L a w)(i d:Nat)(v:Value)
  (hd:d<n) (hok:okD D i d=true) (hst:∀k x,pr L k w x->pr (upL L i) k w' x) (hv:pr (upL L i) i w' v) (hg:G (upL L i) w'):Ci5 n a0 D pr G (upL L i) { tmps:=a.tmps.setIfInBounds d v,defers:=[] } w':=by
 simp only[okD,Bool.and_eq_true] at hok;have hD:∀t,t∈D->(t.1=i↔t.2=d):=λ t ht=>by
  have:=(List.all_eq_true.1 hok.1) t ht;by_cases h1:t.1=i<;>by_cases h2:t.2=d<;>simp[h1,h2] at this ⊢
 have hb:∀j,(D.all λ t=> !(t.2 == j))=true->j≠d:=λ j hj e=>by
  subst e;obtain⟨t,ht,e⟩:=List.any_eq_true.1 hok.2;have:=(List.all_eq_true.1 hj) t ht;rw[e] at this;cases this
 have key:∀j,tm { tmps:=a.tmps.setIfInBounds d v,defers:=[] } j=if j=d then v else tm a j:=λ j=>by
  have:=Be0 (a:=a) (d:=d) (by rw[h.size];exact hd) v j;unfold tm at this ⊢;exact this
 refine⟨rfl,by simpa using h.size,λ j hj=>by rw[key,if_neg (hb j hj)];exact h.old j hj,λ t ht hl=>?_,hg⟩;by_cases hq:t.1=i
 ·rw[key,if_pos ((hD t ht).1 hq),hq];exact hv
 ·rw[key,if_neg (λ e=>hq ((hD t ht).2 e))];exact hst _ _ (h.val t ht (by rwa [F9 _ hq] at hl))
theorem Ci5.tmps_eq{n:Nat}{a0:Act}{D:List (Nat × Nat)}{pr:(Nat->Bool)->Nat->World->Value->Prop}{G:(Nat->Bool)->World->Prop}{L:Nat->Bool}{tmps:Array Value}{w:World}(h:Ci5 n a0 D pr G L ⟨tmps,[]⟩ w)(hn:a0.tmps.size=n)(l:List (Nat × Value))
  (h1:∀j,(l.all λ p=> !(p.1 == j))=true->(D.all λ t=> !(t.2 == j))=true) (h2:∀p,p∈l->tmps[p.1]?.getD undef=p.2):tmps=Af6 a0.tmps l:=
 Bn7 (h.size.trans hn.symm) (λ j hj=>h.old j (h1 j hj)) h2
end Go.Proofs.YtgfbepakonjbnaaGreat
end
section
set_option linter.unusedSimpArgs false
set_option linter.unusedVariables false
namespace Go.Proofs.YtgfbepakonjbnaaGreat
open Go.RowKit Go.MapKept Go.ChangeMaps
theorem Cw6{a a0:Act}{n d:Nat}{v:Value}{L:Nat->Bool}{i:Nat}{D:List (Nat × Nat)}(hs:a.tmps.size=n)(hd:d<n)(hD:∀t,t∈D->(t.1=i↔t.2=d))(h:∀t,t∈D->L t.1=false->tm a t.2=tm a0 t.2) :
  ∀t,t∈D->upL L i t.1=false->tm { tmps:=a.tmps.setIfInBounds d v,defers:=[] } t.2=tm a0 t.2:=by
 intro t ht hl;have hne:t.1≠i:=λ e=>by rw[e,Q3] at hl;cases hl
 have key:tm { tmps:=a.tmps.setIfInBounds d v,defers:=[] } t.2=if t.2=d then v else tm a t.2:=by
  have:=Be0 (a:=a) (d:=d) (by rw[hs];exact hd) v t.2;unfold tm at this ⊢;exact this
 rw[key,if_neg (λ e=>hne ((hD t ht).2 e))];exact h t ht (by rwa [F9 _ hne] at hl)
inductive Kd where
 | c (v:Value)
 | f (p:World->Value->Prop)
def Kd.is:Kd->World->Value->Prop
 | .c x,_,v=>v=x
 | .f p,w,v=>p w v
def Kd.lasts:Kd->Prop
 | .c _=>True
 | .f p=>∀w w' v,Upd [] w w'->p w v->p w' v
theorem Kd.is_upd{k:Kd}(h:k.lasts){w w':World}(hu:Upd [] w w'){v:Value}(hv:k.is w v):k.is w' v:=by
 cases k with
 | c x=>exact hv
 | f p=>exact h w w' v hu hv
structure Av2(w0:World)(n:Nat)(a0:Act)(D:List (Nat × Nat))(kd:Nat->Kd)(L:Nat->Bool)(a:Act)(w:World):Prop extends Ci5 n a0 D (λ _ k w v=>(kd k).is w v) (λ _ w=>Upd [] w0 w) L a w where
 yet:∀t,t∈D->L t.1=false->tm a t.2=tm a0 t.2
theorem Av2.ustep{w0:World}{n:Nat}{a0:Act}{D:List (Nat × Nat)}{kd:Nat->Kd}{L:Nat->Bool}{a:Act}{w w':World}(h:Av2 w0 n a0 D kd L a w)(hl:∀k,(kd k).lasts)(i d:Nat)(v:Value)
  (hd:d<n) (hok:okD D i d=true) (hu:Upd [] w w') (hv:(kd i).is w' v):Av2 w0 n a0 D kd (upL L i) { tmps:=a.tmps.setIfInBounds d v,defers:=[] } w':=by
 refine⟨h.toCi5.step i d v hd hok (λ k x hx=>Kd.is_upd (hl k) hu hx) hv (h.gw.trans hu),Cw6 h.size hd (λ t ht=>?_) h.yet⟩;simp only[okD,Bool.and_eq_true] at hok;have:=(List.all_eq_true.1 hok.1) t ht;by_cases h1:t.1=i<;>by_cases h2:t.2=d<;>simp[h1,h2] at this ⊢
theorem Av2.tmps_eq{w0:World}{n:Nat}{a0:Act}{D:List (Nat × Nat)}{kd:Nat->Kd}{L:Nat->Bool}{tmps:Array Value}{w:World}(h:Av2 w0 n a0 D kd L ⟨tmps,[]⟩ w)(hn:a0.tmps.size=n)(l:List (Nat × Value))
  (h1:∀j,(l.all λ p=> !(p.1 == j))=true->(D.all λ t=> !(t.2 == j))=true) (h2:∀p,p∈l->tmps[p.1]?.getD undef=p.2):tmps=Af6 a0.tmps l:=h.toCi5.tmps_eq hn l h1 h2
end Go.Proofs.YtgfbepakonjbnaaGreat
end
end
section
set_option linter.unusedSimpArgs false
set_option linter.unusedVariables false
namespace Go.Proofs.YtgfbepakonjbnaaGreat
open Go.RowKit Go.MapKept Go.ChangeMaps
def v3(l:Sec)(a q:Nat):List Value:=[.int .i64 ((if 0<q then num l a 4 else 0:Nat):Int),.int .i64 ((if 1<q then num l (a+4) 4 else 0:Nat):Int),.int .i64 ((if 2<q then num l (a+8) 4 else 0:Nat):Int)]
theorem Cp8(l:Sec)(a:Nat){q:Nat}(hq:q<3):(v3 l a q).toArray.setIfInBounds q (.int .i64 (num l (a+4*q) 4:Int))=(v3 l a (q+1)).toArray:=by
 obtain rfl | rfl | rfl:q=0∨q=1∨q=2:=by omega
 ·rfl
 ·rfl
 ·rfl
def F2(b tb:Nat)(N0 h:Nat)(g1:Bool)(x1 x2 x3:Value)(r:Bool):List (Nat × Nat × Value):=[(0,54,.pointer (some ⟨b,0,none⟩)),(1,55,.int .i64 (N0:Int)),(2,56,.pointer (some ⟨tb,0,none⟩)),(3,57,.int .i64 (h:Int)),(4,58,.int .i64 ((h:Int)-16)),(5,59,.bool g1),(6,60,.bool g1),(7,61,x1),(8,62,x2),(9,63,x3),(10,64,.bool r)]
theorem Bk2{w:World}{g:Sg}{M:Nat->Option Sec}(h:B7 w g M)(hh:20<=g.h)(hh2:g.h<=4096)(n:Nat)(hn:n<64) :
  Calls Tryz.prog 180 #[.pointer (some ⟨g.x.tb,0,none⟩),.int .i64 (n:Int)] w λ e w'=>e=.returned (.tuple #[stV (Ak7 (g.cur M) g.h n),.int .i64 0])/\B7 w' g M/\Upd [g.j.jb] w w':=by
 obtain⟨d,hd⟩:∃d,d=n / 32:=⟨_,rfl⟩;obtain⟨r,hr⟩:∃r,r=n % 32:=⟨_,rfl⟩;obtain⟨sd,hsd⟩:∃sd,sd=2+d:=⟨_,rfl⟩;have HM:Hid (∀w',B7 w' g M->Calls Tryz.prog 82 #[.pointer (some ⟨g.x.tb,0,none⟩)] w' λ e w''=>e=.returned (.int .i64 (g.h:Int))/\∃n,w''=w'.drewN n):=by
  show ∀w',_
  exact λ w' h'=>U6 h'
 have HLP:Hid (Ak7 (g.cur M) g.h n=if g.h-16<num (g.cur M sd) (16*r) 4∨8192<num (g.cur M sd) (16*r+4) 4 then(0,0,0) else(num (g.cur M sd) (16*r) 4,num (g.cur M sd) (16*r+4) 4,num (g.cur M sd) (16*r+8) 4)):=by
  show _=_
  rw[hsd,hd,hr];rfl
 have hl:=h.cur_len sd;have HR:Hid (∀w',B7 w' g M->Calls Tryz.prog 155 #[.pointer (some ⟨g.x.tb,0,none⟩),.int .i64 (sd:Int)] w' λ e w''=>∃v,e=.returned (.tuple #[v,.int .i64 0])/\Y1 w'' 5 (λ k=>w'.heap.size<=k) v (g.cur M sd)/\B7 w'' g M/\Upd [g.j.jb] w' w''):=by
  show ∀w',_
  exact λ w' h'=>As6 h' sd (by omega)
 generalize g.cur M sd=L at HLP hl HR;obtain⟨w0,hw0⟩:∃w0,w0=w.alloc (.cells #[.int .i64 0,.int .i64 0,.int .i64 0] 200):=⟨_,rfl⟩;have hu0:Upd [] w w0:=by rw[hw0];exact(Upd.refl _ _).alloc _
 have H0:=η (h.below hu0);have HLT0:=η h.lt;have hb0:w0.heap[w.heap.size]?=some (.cells #[.int .i64 0,.int .i64 0,.int .i64 0] 200 (0,0)):=by rw[hw0];exact A4 _
 have HB0:=η hb0;have HU0:=η hu0;obtain⟨rb,hrb⟩:∃rb,rb=w.heap.size:=⟨_,rfl⟩;have HRB:=η hrb;have HW0:=η hw0;have hd1:d<=1:=by omega
 have e1:(n:Int) / 32=(d:Int):=by omega
 have e2:(n:Int) % 32=(r:Int):=by omega
 have e3:(2:Int)+(d:Int)=(sd:Int):=by omega
 have hr1:r<=31:=by omega
 have h0:((g.h:Int) == 0)=false:=by rw[beq_eq_false_iff_ne];omega
 have t0:decide ((n:Int)<0)=false:=decide_eq_false (by omega);have t1:decide ((64:Int)<=(n:Int))=false:=decide_eq_false (by omega);clear hd hr hsd h hw0 hu0 hb0 hrb;go_enter Tryz.func180,Tryz.ntmps180
 go_upto_region 1 with(fail)
 have hw0:=HW0.out;have hrb:=HRB.out;rw[← hw0,← hrb];clear hw0 hrb;go_wp2_with fail
 refine(HM.out _ H0.out).mono ?_;rintro e w1 ⟨rfl,m1,hw1⟩;have hu1:Upd [] w0 w1:=by rw[hw1];exact(Upd.refl _ _).drewN _
 have HRD:=η (HR.out _ (H0.out.below hu1));have HU1:=η hu1;clear hw1 hu1;go_wp2_with fail
 refine HRD.out.mono ?_;rintro e w2 ⟨bv0,rfl,ho,h2,hu2⟩;have HRd:=η ho.rd;obtain⟨w3,hw3⟩:∃w3,w3=w2.alloc (.cells #[.int .i64 0,.int .i64 0,.int .i64 0] 273):=⟨_,rfl⟩;have hu3:Upd [] w2 w3:=by rw[hw3];exact(Upd.refl _ _).alloc _
 obtain⟨vb,hvb⟩:∃vb,vb=w2.heap.size:=⟨_,rfl⟩;have hb3:w3.heap[vb]?=some (.cells (v3 L (16*r) 0).toArray 273 (0,0)):=by rw[hw3,hvb];exact A4 _
 have HB3:=η hb3;have HU3:=η hu3;have H3:=η (h2.below hu3);have HU2:=η hu2;have HLT:=η h2.lt;have HW3:=η hw3;have HVB:=η hvb;clear ho h2 hu2 hw3 hvb hb3 hu3;go_upto_region 9 with(fail)
 have hw3:=HW3.out;have hvb:=HVB.out;rw[← hw3,← hvb];clear hw3 hvb;go_wp2_with fail
 go_loopw [35] (λ i wr=>∃q:Nat,q<=3/\i=.int .i64 (q:Int)/\wr.heap[vb]?=some (.cells (v3 L (16*r) q).toArray 273 (0,0))/\Upd [vb] w3 wr) (λ i _=>3-(intOf i).toNat)
 case atStart=>exact⟨0,by omega,rfl,HB3.out,Upd.refl _ _⟩
 case round=>
  obtain⟨q,hq,rfl,hb,hu⟩:=hrel;by_cases hlt:q<3
  ·have hlt':decide ((q:Int)<3)=true:=decide_eq_true (by omega);obtain⟨A,hA⟩:∃A,A=16*r+4*q:=⟨_,rfl⟩;have hat:=Am2 _ L A 4 wr ((HRd.out.below HU3.out).of_block λ b o c hc=>hu.block b (block_lt_of_cell hc) (by
    simp;rintro rfl;rw[A2 HB3.out] at hc;match o,hc with
    | 0,hc | 1,hc | 2,hc=>simp[v3,bv] at hc
    | k+3,hc=>simp[v3] at hc)) (by omega) (by omega) (by omega) (by omega)
   have hs:=Cp8 L (16*r) hlt;rw[← hA] at hs;obtain⟨X,hX⟩:∃X,X=num L A 4:=⟨_,rfl⟩;have hXl:X<4294967296:=by rw[hX];exact Ap1 _ _ _
   rw[← hX] at hat hs;rw[show((4:Nat):Int)=4 from rfl] at hat;have st:=A8 (v:=.int .i64 (X:Int)) (o:=q) hb;rw[hs] at st;have eA:16*(r:Int)+4*(q:Int)=(A:Int):=by omega
   have HAT:=η hat;have HST:=η st;have fr:=B6 hb q;have⟨old,hc⟩:∃old,wr.cell? ⟨vb,q,none⟩=some old:=by
    rw[A2 hb];obtain rfl | rfl | rfl:q=0∨q=1∨q=2:=by omega
    all_goals exact⟨_,rfl⟩
   have HU:=η (hu.set (o:=q) (.int .i64 (X:Int)) (.inl (List.mem_singleton.2 rfl)));have eX:IntKind.i64.wrap (X:Int)=(X:Int):=by rw[IntKind.wrap_i64];omega
   have HA:=η hA;clear hat st hs hb hu hX hA;go_wp2_with fail
   refine HAT.out.mono ?_;rintro e w' ⟨rfl,rfl⟩;go_wp2_with fail
   refine⟨⟨q+1,by omega,by go_num,HST.out,HU.out⟩,by simp[intOf];omega⟩
  ·obtain rfl:q=3:=by omega
   have hlt':decide (((3:Nat):Int)<3)=false:=rfl;have hS:B7 wr g M:=H3.out.turnedR hu (λ k hk=>by
    simp at hk;have:=HVB.out;exact⟨λ q=>by have:=HLT.out.1 k q;omega,by have:=HLT.out.2;omega⟩) (λ k hk c e=>by
    simp at hk;subst hk;rw[HB3.out] at e;injection e with e;injection e with _ q2;exact absurd q2 (by decide))
   obtain⟨N0,hN0⟩:∃N0,N0=num L (16*r) 4:=⟨_,rfl⟩;obtain⟨N1,hN1⟩:∃N1,N1=num L (16*r+4) 4:=⟨_,rfl⟩;obtain⟨N2,hN2⟩:∃N2,N2=num L (16*r+8) 4:=⟨_,rfl⟩;have hLP:=HLP.out;rw[← hN0,← hN1,← hN2] at hLP;have c0:wr.cell? ⟨vb,0,none⟩=some (.int .i64 (N0:Int)):=by rw[A2 hb,hN0];rfl
   have c1:wr.cell? ⟨vb,1,none⟩=some (.int .i64 (N1:Int)):=by rw[A2 hb,hN1];rfl
   have c2:wr.cell? ⟨vb,2,none⟩=some (.int .i64 (N2:Int)):=by rw[A2 hb,hN2];rfl
   have HS:=η hS;have hwr:IntKind.i64.wrap ((g.h:Int)-16)=(g.h:Int)-16:=by rw[IntKind.wrap_i64];omega
   have HLQ:=η hLP;have HHM:Hid (∀w',Upd [] wr w'->Calls Tryz.prog 82 #[.pointer (some ⟨g.x.tb,0,none⟩)] w' λ e w''=>e=.returned (.int .i64 (g.h:Int))/\∃n,w''=w'.drewN n):=(by show ∀w',_;exact λ w' hu=>HM.out _ (HS.out.below hu));have HWR:=η hu;clear hLP hS hN0 hN1 hN2 hu hb;have HBR:Hid (∀w4:World,Upd [] wr.drew w4->w4.heap[rb]?=some (.cells #[.int .i64 0,.int .i64 0,.int .i64 0] 200 (0,0))):=by
    show ∀w4:World,_
    intro w4 hu4;have q1:=HRB.out;have q2:=HLT0.out;have q3:=HVB.out;have q5:=HWR.out.size;have b0:=HB0.out;rw[← q1] at b0;have b1:=(HU1.out.block _ (A3 b0) (by simp)).trans b0;have b2:=(HU2.out.block _ (A3 b1) (by simp;intro e;have:=q2.1 g.j.jb (by simp[Sg.S,JG.all]);omega)).trans b1;have hne:rb≠vb:=by have:=A3 b2;omega
    have b3:=(HU3.out.block _ (A3 b2) (by simp)).trans b2;have b4:=(HWR.out.block _ (A3 b3) (by simpa using hne)).trans b3;exact(hu4.block _ (A3 (w:=wr.drew) b4) (by simp)).trans b4
   have HFIN:Hid (∀w4 w5:World,Upd [] wr.drew w4->Upd [rb] w4 w5->B7 w5 g M/\Upd [g.j.jb] w w5):=by
    show ∀w4 w5:World,_
    intro w4 w5 hu4 hu5;have q1:=HRB.out;have q2:=HLT0.out;have q3:=HVB.out;have a1:Upd [g.j.jb] w w2:=((HU0.out.mono (by simp)).trans (HU1.out.mono (by simp))).trans HU2.out;have a2:Upd [g.j.jb] w wr:=(a1.trans (HU3.out.mono (by simp))).late HWR.out (λ i hi=> .inr (by simp at hi;have:=a1.size;omega));have a3:Upd [g.j.jb] w w4:=a2.trans ((Upd.refl _ _).drew.trans (hu4.mono (by simp)));refine⟨(HS.out.below ((Upd.refl [] wr).drew.trans hu4)).turnedR hu5 (λ k hk=>?_) (λ k hk c e=>?_),a3.late hu5 (λ i hi=> .inr (by simp at hi;omega))⟩
    ·simp at hk;exact⟨λ q=>by have:=q2.1 k q;omega,by have:=q2.2;omega⟩
    ·simp at hk;subst hk;rw[HBR.out w4 hu4] at e;injection e with e;injection e with _ q2;exact absurd q2 (by decide)
   by_cases g1:g.h-16<N0
   ·have d1:decide ((g.h:Int)-16<(N0:Int))=true:=decide_eq_true (by omega);go_wp2_with fail
    refine Aa5 (F2 vb g.x.tb N0 g.h true (.tuple #[]) (.tuple #[]) (.tuple #[]) true) [] (by kernel_rfl) (by kernel_rfl) 73 rfl rfl ?_ ?_
    ·intro i o L tmps w' ho hI hL hd;have hi:i<11:=(Array.getElem?_eq_some_iff.1 ho).1;have m0:=K8 c0 ((Upd.refl [] _).drew.trans hI.upd) (by simp);have m1:=K8 c1 ((Upd.refl [] _).drew.trans hI.upd) (by simp);have t8:tmps[8]?.getD undef=.pointer (some ⟨vb,0,none⟩):=(hI.old 8 (by rfl)).trans rfl;have t0:tmps[0]?.getD undef=.pointer (some ⟨g.x.tb,0,none⟩):=(hI.old 0 (by rfl)).trans rfl;obtain rfl | rfl | rfl | rfl | rfl | rfl | rfl | rfl | rfl | rfl | rfl:i=0∨i=1∨i=2∨i=3∨i=4∨i=5∨i=6∨i=7∨i=8∨i=9∨i=10:=by omega
     ·cases ho
      refine wpOp_step rfl (λ K hK=>?_);go_simp;exact hK _ _ (hI.val_step 0 54 (.pointer (some ⟨vb,0,none⟩)) (by decide) (Upd.refl _ _) (by simp[F2]) (by kernel_rfl))
     ·cases ho
      have t54:tmps[54]?.getD undef=.pointer (some ⟨vb,0,none⟩):=hI.val (0,54,_) (by simp[F2]) (hd ⟨0,.data⟩ (by simp) rfl);refine wpOp_step rfl (λ K hK=>?_);go_simp;exact hK _ _ (hI.val_step 1 55 (.int .i64 (N0:Int)) (by decide) (Upd.refl _ _) (by simp[F2]) (by kernel_rfl))
     ·cases ho
      refine wpOp_step rfl (λ K hK=>?_);go_simp;exact hK _ _ (hI.val_step 2 56 (.pointer (some ⟨g.x.tb,0,none⟩)) (by decide) (Upd.refl _ _) (by simp[F2]) (by kernel_rfl))
     ·cases ho
      have t56:tmps[56]?.getD undef=.pointer (some ⟨g.x.tb,0,none⟩):=hI.val (2,56,_) (by simp[F2]) (hd ⟨2,.data⟩ (by simp) rfl);refine wpOp_step rfl (λ K hK=>?_);go_simp;go_at_call 82
      refine(HHM.out _ ((Upd.refl _ _).drew.trans hI.upd)).mono ?_;rintro e w2 ⟨rfl,m,rfl⟩;exact hK _ _ (hI.val_step 3 57 (.int .i64 (g.h:Int)) (by decide) ((Upd.refl _ _).drewN _) (by simp[F2]) (by kernel_rfl))
     ·cases ho
      have t57:tmps[57]?.getD undef=.int .i64 (g.h:Int):=hI.val (3,57,_) (by simp[F2]) (hd ⟨3,.data⟩ (by simp) rfl);refine wpOp_step rfl (λ K hK=>?_);go_simp;exact hK _ _ (hI.val_step 4 58 (.int .i64 ((g.h:Int)-16)) (by decide) (Upd.refl _ _) (by simp[F2]) (by kernel_rfl))
     ·cases ho
      have t55:tmps[55]?.getD undef=.int .i64 (N0:Int):=hI.val (1,55,_) (by simp[F2]) (hd ⟨1,.data⟩ (by simp) rfl);have t58:tmps[58]?.getD undef=.int .i64 ((g.h:Int)-16):=hI.val (4,58,_) (by simp[F2]) (hd ⟨4,.data⟩ (by simp) rfl);refine wpOp_step rfl (λ K hK=>?_);go_simp;exact hK _ _ (hI.val_step 5 59 (.bool true) (by decide) (Upd.refl _ _) (by simp[F2]) (by kernel_rfl))
     ·cases ho
      have t59:tmps[59]?.getD undef=.bool true:=hI.val (5,59,_) (by simp[F2]) (hd ⟨5,.data⟩ (by simp) rfl);refine wpOp_step rfl (λ K hK=>?_);go_simp;exact hK _ _ (hI.val_step 6 60 (.bool true) (by decide) (Upd.refl _ _) (by simp[F2]) (by kernel_rfl))
     ·cases ho
      have t60:tmps[60]?.getD undef=.bool true:=hI.val (6,60,_) (by simp[F2]) (hd ⟨6,.guard⟩ (by simp) rfl);have tg:=I4 t60;clear t60;refine wpOp_step rfl (λ K hK=>?_);go_simp;exact hK _ _ (hI.val_step 7 61 (.tuple #[]) (by decide) (Upd.refl _ _) (by simp[F2]) (by kernel_rfl))
     ·cases ho
      have t61:tmps[61]?.getD undef=.tuple #[]:=hI.val (7,61,_) (by simp[F2]) (hd ⟨7,.data⟩ (by simp) rfl);have t60:tmps[60]?.getD undef=.bool true:=hI.val (6,60,_) (by simp[F2]) (hd ⟨6,.guard⟩ (by simp) rfl);have tg:=I4 t60;clear t60;refine wpOp_step rfl (λ K hK=>?_);go_simp;exact hK _ _ (hI.val_step 8 62 (.tuple #[]) (by decide) (Upd.refl _ _) (by simp[F2]) (by kernel_rfl))
     ·cases ho
      have t62:tmps[62]?.getD undef=.tuple #[]:=hI.val (8,62,_) (by simp[F2]) (hd ⟨8,.data⟩ (by simp) rfl);have t60:tmps[60]?.getD undef=.bool true:=hI.val (6,60,_) (by simp[F2]) (hd ⟨6,.guard⟩ (by simp) rfl);have tg:=I4 t60;clear t60;refine wpOp_step rfl (λ K hK=>?_);go_simp;exact hK _ _ (hI.val_step 9 63 (.tuple #[]) (by decide) (Upd.refl _ _) (by simp[F2]) (by kernel_rfl))
     ·cases ho
      have t60:tmps[60]?.getD undef=.bool true:=hI.val (6,60,_) (by simp[F2]) (hd ⟨6,.data⟩ (by simp) rfl);have t63:tmps[63]?.getD undef=.tuple #[]:=hI.val (9,63,_) (by simp[F2]) (hd ⟨9,.data⟩ (by simp) rfl);refine wpOp_step rfl (λ K hK=>?_);go_simp;exact hK _ _ (hI.val_step 10 64 (.bool true) (by decide) (Upd.refl _ _) (by simp[F2]) (by kernel_rfl))
    ·intro L tmps w4 hI hall;have hat:=hI.fin rfl (λ t ht=>hall _ (by have h9:=List.all_eq_true.1 (show((F2 vb g.x.tb N0 g.h true (.tuple #[]) (.tuple #[]) (.tuple #[]) true).all λ t=>decide (t.1<11))=true from rfl) t ht;simpa using h9));have hu4:=hI.upd;clear hI hall;simp only[F2,List.map_cons,List.map_nil,Af6,αs,αz,αc] at hat;rw[hat];clear hat tmps;have hb4:w4.heap[rb]?=some (.cells #[.int .i64 0,.int .i64 0,.int .i64 0] 200 (0,0)):=HBR.out w4 hu4;have c40:w4.cell? ⟨rb,0,none⟩=some (.int .i64 0):=by rw[A2 hb4];rfl
     have c41:w4.cell? ⟨rb,1,none⟩=some (.int .i64 0):=by rw[A2 hb4];rfl
     have c42:w4.cell? ⟨rb,2,none⟩=some (.int .i64 0):=by rw[A2 hb4];rfl
     have f40:=B6 hb4 0;have f41:=B6 hb4 1;have f42:=B6 hb4 2;have HB4:=η hb4;have HU4:=η hu4;clear hb4 hu4;go_wp2_with fail
     refine bodyPost_ret (Z3 (p:=4) (u:=5) (by rfl) _ _ rb _ _ _ (by rfl) (by first | rfl | exact A8 (A8 (A8 HB4.out 0 _) 1 _) 2 _)) (by rfl) ?_;have:=HFIN.out _ _ HU4.out (((Upd.refl [rb] w4).set (o:=0) (.int .i64 0) (.inl (List.mem_singleton.2 rfl))).set (o:=1) (.int .i64 0) (.inl (List.mem_singleton.2 rfl)) |>.set (o:=2) (.int .i64 0) (.inl (List.mem_singleton.2 rfl)));exact⟨by rw[HLQ.out,if_pos (.inl g1)];rfl,this.1,this.2⟩
   ·obtain⟨g2,hg2⟩:∃g2,g2=decide ((8192:Int)<(N1:Int)):=⟨_,rfl⟩;have d1:decide ((g.h:Int)-16<(N0:Int))=false:=decide_eq_false (by omega);have d2:decide ((8192:Int)<(N1:Int))=g2:=hg2.symm;have HG2:=η hg2;clear hg2;go_wp2_with fail
    refine Aa5 (F2 vb g.x.tb N0 g.h false (.pointer (some ⟨vb,1,none⟩)) (.int .i64 (N1:Int)) (.bool g2) g2) [] (by kernel_rfl) (by kernel_rfl) 73 rfl rfl ?_ ?_
    ·intro i o L tmps w' ho hI hL hd;have hi:i<11:=(Array.getElem?_eq_some_iff.1 ho).1;have m0:=K8 c0 ((Upd.refl [] _).drew.trans hI.upd) (by simp);have m1:=K8 c1 ((Upd.refl [] _).drew.trans hI.upd) (by simp);have t8:tmps[8]?.getD undef=.pointer (some ⟨vb,0,none⟩):=(hI.old 8 (by rfl)).trans rfl;have t0:tmps[0]?.getD undef=.pointer (some ⟨g.x.tb,0,none⟩):=(hI.old 0 (by rfl)).trans rfl;obtain rfl | rfl | rfl | rfl | rfl | rfl | rfl | rfl | rfl | rfl | rfl:i=0∨i=1∨i=2∨i=3∨i=4∨i=5∨i=6∨i=7∨i=8∨i=9∨i=10:=by omega
     ·cases ho
      refine wpOp_step rfl (λ K hK=>?_);go_simp;exact hK _ _ (hI.val_step 0 54 (.pointer (some ⟨vb,0,none⟩)) (by decide) (Upd.refl _ _) (by simp[F2]) (by kernel_rfl))
     ·cases ho
      have t54:tmps[54]?.getD undef=.pointer (some ⟨vb,0,none⟩):=hI.val (0,54,_) (by simp[F2]) (hd ⟨0,.data⟩ (by simp) rfl);refine wpOp_step rfl (λ K hK=>?_);go_simp;exact hK _ _ (hI.val_step 1 55 (.int .i64 (N0:Int)) (by decide) (Upd.refl _ _) (by simp[F2]) (by kernel_rfl))
     ·cases ho
      refine wpOp_step rfl (λ K hK=>?_);go_simp;exact hK _ _ (hI.val_step 2 56 (.pointer (some ⟨g.x.tb,0,none⟩)) (by decide) (Upd.refl _ _) (by simp[F2]) (by kernel_rfl))
     ·cases ho
      have t56:tmps[56]?.getD undef=.pointer (some ⟨g.x.tb,0,none⟩):=hI.val (2,56,_) (by simp[F2]) (hd ⟨2,.data⟩ (by simp) rfl);refine wpOp_step rfl (λ K hK=>?_);go_simp;go_at_call 82
      refine(HHM.out _ ((Upd.refl _ _).drew.trans hI.upd)).mono ?_;rintro e w2 ⟨rfl,m,rfl⟩;exact hK _ _ (hI.val_step 3 57 (.int .i64 (g.h:Int)) (by decide) ((Upd.refl _ _).drewN _) (by simp[F2]) (by kernel_rfl))
     ·cases ho
      have t57:tmps[57]?.getD undef=.int .i64 (g.h:Int):=hI.val (3,57,_) (by simp[F2]) (hd ⟨3,.data⟩ (by simp) rfl);refine wpOp_step rfl (λ K hK=>?_);go_simp;exact hK _ _ (hI.val_step 4 58 (.int .i64 ((g.h:Int)-16)) (by decide) (Upd.refl _ _) (by simp[F2]) (by kernel_rfl))
     ·cases ho
      have t55:tmps[55]?.getD undef=.int .i64 (N0:Int):=hI.val (1,55,_) (by simp[F2]) (hd ⟨1,.data⟩ (by simp) rfl);have t58:tmps[58]?.getD undef=.int .i64 ((g.h:Int)-16):=hI.val (4,58,_) (by simp[F2]) (hd ⟨4,.data⟩ (by simp) rfl);refine wpOp_step rfl (λ K hK=>?_);go_simp;exact hK _ _ (hI.val_step 5 59 (.bool false) (by decide) (Upd.refl _ _) (by simp[F2]) (by kernel_rfl))
     ·cases ho
      have t59:tmps[59]?.getD undef=.bool false:=hI.val (5,59,_) (by simp[F2]) (hd ⟨5,.data⟩ (by simp) rfl);refine wpOp_step rfl (λ K hK=>?_);go_simp;exact hK _ _ (hI.val_step 6 60 (.bool false) (by decide) (Upd.refl _ _) (by simp[F2]) (by kernel_rfl))
     ·cases ho
      have t60:tmps[60]?.getD undef=.bool false:=hI.val (6,60,_) (by simp[F2]) (hd ⟨6,.guard⟩ (by simp) rfl);have tg:=I4 t60;clear t60;refine wpOp_step rfl (λ K hK=>?_);go_simp;exact hK _ _ (hI.val_step 7 61 (.pointer (some ⟨vb,1,none⟩)) (by decide) (Upd.refl _ _) (by simp[F2]) (by kernel_rfl))
     ·cases ho
      have t61:tmps[61]?.getD undef=.pointer (some ⟨vb,1,none⟩):=hI.val (7,61,_) (by simp[F2]) (hd ⟨7,.data⟩ (by simp) rfl);have t60:tmps[60]?.getD undef=.bool false:=hI.val (6,60,_) (by simp[F2]) (hd ⟨6,.guard⟩ (by simp) rfl);have tg:=I4 t60;clear t60;refine wpOp_step rfl (λ K hK=>?_);go_simp;exact hK _ _ (hI.val_step 8 62 (.int .i64 (N1:Int)) (by decide) (Upd.refl _ _) (by simp[F2]) (by kernel_rfl))
     ·cases ho
      have t62:tmps[62]?.getD undef=.int .i64 (N1:Int):=hI.val (8,62,_) (by simp[F2]) (hd ⟨8,.data⟩ (by simp) rfl);have t60:tmps[60]?.getD undef=.bool false:=hI.val (6,60,_) (by simp[F2]) (hd ⟨6,.guard⟩ (by simp) rfl);have tg:=I4 t60;clear t60;refine wpOp_step rfl (λ K hK=>?_);go_simp;exact hK _ _ (hI.val_step 9 63 (.bool g2) (by decide) (Upd.refl _ _) (by simp[F2]) (by kernel_rfl))
     ·cases ho
      have t60:tmps[60]?.getD undef=.bool false:=hI.val (6,60,_) (by simp[F2]) (hd ⟨6,.data⟩ (by simp) rfl);have t63:tmps[63]?.getD undef=.bool g2:=hI.val (9,63,_) (by simp[F2]) (hd ⟨9,.data⟩ (by simp) rfl);refine wpOp_step rfl (λ K hK=>?_);go_simp;exact hK _ _ (hI.val_step 10 64 (.bool g2) (by decide) (Upd.refl _ _) (by simp[F2]) (by kernel_rfl))
    ·intro L tmps w4 hI hall;have hat:=hI.fin rfl (λ t ht=>hall _ (by have h9:=List.all_eq_true.1 (show((F2 vb g.x.tb N0 g.h false (.pointer (some ⟨vb,1,none⟩)) (.int .i64 (N1:Int)) (.bool g2) g2).all λ t=>decide (t.1<11))=true from rfl) t ht;simpa using h9));have hu4:=hI.upd;clear hI hall;simp only[F2,List.map_cons,List.map_nil,Af6,αs,αz,αc] at hat;rw[hat];clear hat tmps;have hb4:w4.heap[rb]?=some (.cells #[.int .i64 0,.int .i64 0,.int .i64 0] 200 (0,0)):=HBR.out w4 hu4;have c40:w4.cell? ⟨rb,0,none⟩=some (.int .i64 0):=by rw[A2 hb4];rfl
     have c41:w4.cell? ⟨rb,1,none⟩=some (.int .i64 0):=by rw[A2 hb4];rfl
     have c42:w4.cell? ⟨rb,2,none⟩=some (.int .i64 0):=by rw[A2 hb4];rfl
     have f40:=B6 hb4 0;have f41:=B6 hb4 1;have f42:=B6 hb4 2;have HB4:=η hb4;have HU4:=η hu4;clear hb4 hu4;have c0':=K8 c0 ((Upd.refl [] _).drew.trans HU4.out) (by simp);have c1':=K8 c1 ((Upd.refl [] _).drew.trans HU4.out) (by simp);have c2':=K8 c2 ((Upd.refl [] _).drew.trans HU4.out) (by simp);cases g2
     ·have hg:=of_decide_eq_false HG2.out.symm;clear HG2;go_wp2_with fail
      refine bodyPost_ret (Z3 (p:=4) (u:=5) (by rfl) _ _ rb _ _ _ (by rfl) (by first | rfl | exact A8 (A8 (A8 HB4.out 0 _) 1 _) 2 _)) (by rfl) ?_;have:=HFIN.out _ _ HU4.out (((Upd.refl [rb] w4).set (o:=0) (.int .i64 (N0:Int)) (.inl (List.mem_singleton.2 rfl))).set (o:=1) (.int .i64 (N1:Int)) (.inl (List.mem_singleton.2 rfl)) |>.set (o:=2) (.int .i64 (N2:Int)) (.inl (List.mem_singleton.2 rfl)));exact⟨by rw[HLQ.out,if_neg (λ e=>by omega)];rfl,this.1,this.2⟩
     ·have hg:=of_decide_eq_true HG2.out.symm;clear HG2;go_wp2_with fail
      refine bodyPost_ret (Z3 (p:=4) (u:=5) (by rfl) _ _ rb _ _ _ (by rfl) (by first | rfl | exact A8 (A8 (A8 HB4.out 0 _) 1 _) 2 _)) (by rfl) ?_;have:=HFIN.out _ _ HU4.out (((Upd.refl [rb] w4).set (o:=0) (.int .i64 0) (.inl (List.mem_singleton.2 rfl))).set (o:=1) (.int .i64 0) (.inl (List.mem_singleton.2 rfl)) |>.set (o:=2) (.int .i64 0) (.inl (List.mem_singleton.2 rfl)));exact⟨by rw[HLQ.out,if_pos (.inr (by omega))];rfl,this.1,this.2⟩
end Go.Proofs.YtgfbepakonjbnaaGreat
end
section
section
set_option linter.unusedSimpArgs false
set_option linter.unusedVariables false
namespace Go.Proofs.YtgfbepakonjbnaaGreat
open Go.RowKit Go.MapKept Go.ChangeMaps
def Ao3(l:Sec)(a s u v:Nat):Nat->Sec
 | 0=>l
 | 1=>put l a 4 s
 | 2=>put (put l a 4 s) (a+4) 4 u
 | 3=>put (put (put l a 4 s) (a+4) 4 u) (a+8) 4 v
 | _=>Ad7 l a s u v
def Bk4(s u v:Nat):Nat->Nat
 | 0=>s
 | 1=>u
 | 2=>v
 | _=>0
theorem Ap7(l:Sec)(a s u v:Nat){q:Nat}(hq:q<4):put (Ao3 l a s u v q) (a+4*q) 4 (Bk4 s u v q)=Ao3 l a s u v (q+1):=by
 obtain rfl | rfl | rfl | rfl:q=0∨q=1∨q=2∨q=3:=by omega
 all_goals rfl
theorem Ai6{l:Sec}{a s u v:Nat}(h:a+16<=l.length):∀q,q<=4->(Ao3 l a s u v q).length=l.length
 | 0,_=>rfl
 | q+1,hq=>by
  rw[← Ap7 l a s u v (by omega)];exact E6 (Ai6 h q (by omega)) (by omega)
theorem Bu3{s u v q:Nat}(hs:s<=100000)(hu:u<=100000)(hv:v<=100000):Bk4 s u v q<=100000:=by
 match q with
 | 0=>exact hs
 | 1=>exact hu
 | 2=>exact hv
 | q+3=>show 0<=_;omega
theorem Ca6(s u v:Nat){q:Nat}(hq:q<4)(w:World):(Instr.index 309 (.agg #[.int .i64 (s:Int),.int .i64 (u:Int),.int .i64 (v:Int),.int .i64 0]) (.int .i64 (q:Int))).run Tryz.prog w=.ok (.int .i64 (Bk4 s u v q:Int)) w:=by
 obtain rfl | rfl | rfl | rfl:q=0∨q=1∨q=2∨q=3:=by omega
 all_goals kernel_rfl
theorem Ap8{w:World}{g:Sg}{M:Nat->Option Sec}(h:B7 w g M)(hh:4<=g.h)(s u v n:Nat)(hs:s<=100000)(hu:u<=100000)(hv:v<=100000)(hn:n<64)(hc:(M (2+n / 32)).isSome=true∨E1 M g.h<40) :
  Calls Tryz.prog 170 #[stV (s,u,v),.pointer (some ⟨g.x.tb,0,none⟩),.int .i64 (n:Int)] w λ e w'=>e=.returned (.int .i64 0)/\B7 w' g (wr1 M (2+n / 32) (Ad7 (g.cur M (2+n / 32)) (16*(n % 32)) s u v))/\Upd g.S w w':=by
 obtain⟨d,hd⟩:∃d,d=n / 32:=⟨_,rfl⟩;obtain⟨r,hr⟩:∃r,r=n % 32:=⟨_,rfl⟩;obtain⟨sd,hsd⟩:∃sd,sd=2+d:=⟨_,rfl⟩;rw[← hd,← hsd] at hc;rw[← hd,← hr,← hsd];have hl:=h.cur_len sd;obtain⟨w0,hw0⟩:∃w0,w0=w.alloc (.cells #[.int .i64 (s:Int),.int .i64 (u:Int),.int .i64 (v:Int)] 200):=⟨_,rfl⟩;have hu0:Upd [] w w0:=by rw[hw0];exact(Upd.refl _ _).alloc _
 have hb0:w0.heap[w.heap.size]?=some (.cells #[.int .i64 (s:Int),.int .i64 (u:Int),.int .i64 (v:Int)] 200 (0,0)):=by rw[hw0];exact A4 _
 have h0:=h.below hu0;have HR:Hid (Calls Tryz.prog 155 #[.pointer (some ⟨g.x.tb,0,none⟩),.int .i64 (sd:Int)] w0 λ e w''=>∃v,e=.returned (.tuple #[v,.int .i64 0])/\Y1 w'' 5 (λ k=>w0.heap.size<=k) v (g.cur M sd)/\B7 w'' g M/\Upd [g.j.jb] w0 w''):=η (As6 h0 sd (by omega));generalize g.cur M sd=L at HR hl;have H0:=η h0;have HC:=η hc;have HB0:=η hb0;have HU0:=η hu0;have HW0:=η hw0;have HLT:=η h.lt;obtain⟨rb,hrb⟩:∃rb,rb=w.heap.size:=⟨_,rfl⟩;have HRB:=η hrb;have hsh:sd<g.h:=by omega
 have e1:(n:Int) / 32=(d:Int):=by omega
 have e2:(n:Int) % 32=(r:Int):=by omega
 have e3:(2:Int)+(d:Int)=(sd:Int):=by omega
 have hr1:r<=31:=by omega
 have hsd4:sd<=4:=by omega
 clear hd hr hsd h hc hw0 hb0 hu0 h0 hrb;unfold stV;go_enter Tryz.func170,Tryz.ntmps170
 go_upto_region 1 with(fail)
 have hw0:=HW0.out;have hrb:=HRB.out;rw[← hw0,← hrb];clear hw0 hrb;go_wp2_with fail
 refine HR.out.mono ?_;rintro e w1 ⟨v1,rfl,ho,h1,hu1⟩;obtain⟨k,c,rfl,_,hk,-⟩:=ho.sec hl;have ho1:=ho.own (by omega);have HO1:=η ho1;have HK:=η hk;have H1:=η h1;have HU1:=η hu1;have hb1:=(hu1.block _ (A3 HB0.out) (by simp;intro e;have:=HLT.out.1 g.j.jb (by simp[Sg.S,JG.all]);omega)).trans HB0.out;rw[← HRB.out] at hb1;have s0:w1.cell? ⟨rb,0,none⟩=some (.int .i64 (s:Int)):=by rw[A2 hb1];rfl
 have s1:w1.cell? ⟨rb,1,none⟩=some (.int .i64 (u:Int)):=by rw[A2 hb1];rfl
 have s2:w1.cell? ⟨rb,2,none⟩=some (.int .i64 (v:Int)):=by rw[A2 hb1];rfl
 clear ho ho1 hk h1 hu1 hb1;go_wp2_with fail
 go_loopw [30] (λ i wr=>∃q:Nat,q<=4/\i=.int .i64 (q:Int)/\Own wr 5 (λ k=>w0.heap.size<=k) (.slice (some ⟨k,0,none⟩) 512 c) (Ao3 L (16*r) s u v q)/\Upd [k] w1 wr) (λ i _=>4-(intOf i).toNat)
 case atStart=>exact⟨0,by omega,rfl,HO1.out,Upd.refl _ _⟩
 case round=>
  clear s0 s1 s2;obtain⟨q,hq,rfl,ho,hu2⟩:=hrel;have hlq:(Ao3 L (16*r) s u v q).length=512:=by rw[Ai6 (by omega) _ hq];exact hl
  by_cases hlt:q<4
  ·have hlt':decide ((q:Int)<4)=true:=decide_eq_true (by omega);have hix:=Ca6 s u v hlt;have hV:=Bu3 (q:=q) hs hu hv;have hstq:=Ap7 L (16*r) s u v hlt;obtain⟨V,hVe⟩:∃V,V=Bk4 s u v q:=⟨_,rfl⟩;rw[← hVe] at hix hV hstq;obtain⟨A,hA⟩:∃A,A=16*r+4*q:=⟨_,rfl⟩;rw[← hA] at hstq;generalize Ao3 L (16*r) s u v q=LQ at ho hstq hlq;have eA:16*(r:Int)+4*(q:Int)=(A:Int):=by omega
   have hA4:A+4<=512:=by omega
   have HO:=η ho;have HU2:=η hu2;have HSQ:=η hstq;obtain⟨wo,rfl⟩:∃wo:World,wo=wr:=⟨_,rfl⟩;clear ho hu2 hA hstq hVe;go_wp2_with fail
   go_loopw [34] (λ i wr=>∃p:Nat,p<=4/\i=.int .i64 (p:Int)/\Own wr 5 (λ k=>w0.heap.size<=k) (.slice (some ⟨k,0,none⟩) 512 c) (Ah7 LQ A 4 V p)/\Upd [k] w1 wr) (λ i _=>4-(intOf i).toNat)
   case atStart=>exact⟨0,by omega,rfl,by rw[Ag0];exact HO.out,HU2.out⟩
   case round=>
    obtain⟨p,hp,rfl,ho,hu2⟩:=hrel;by_cases hpt:p<4
    ·have hpt':decide ((p:Int)<4)=true:=decide_eq_true (by omega);have hlen:(Ah7 LQ A 4 V p).length=512:=by rw[Aa7 (by omega) (by omega)];exact hlq
     have hst:=Ag2 (b:=LQ) (a:=A) (n:=4) (v:=V) hpt (by omega);obtain⟨I,hI⟩:∃I,I=A+p:=⟨_,rfl⟩;have hIk:(A:Int)+(p:Int)=(I:Int):=by omega
     obtain⟨hcl,hf⟩:=ho.cell512 hlen (q:=I) (by omega);obtain⟨Y,hY⟩:∃Y,Y=V / 256 ^ (4-1-p) % 256:=⟨_,rfl⟩;have o2:=Aj0 ho hlen (q:=I) (by omega) (y:=Y) (by omega);have eY:UInt8.ofNat Y=UInt8.ofNat (V / 256 ^ (4-1-p)):=by
      apply UInt8.toNat_inj.1;rw[UInt8.toNat_ofNat',UInt8.toNat_ofNat',hY];omega
     rw[eY,hI,hst,← hI] at o2;have u2:Upd [k] wr (wr.setCell ⟨k,I,none⟩ (.int .u8 (Y:Int))):=(Upd.refl _ _).set _ (by simp);have HO2:=η o2;have HUx:=η (hu2.trans u2);have i0:(0:Int)<=(I:Int):=by omega
     have i1:(I:Int)<512:=by omega
     have t0:decide ((24:Int)-8*(p:Int)<0)=false:=decide_eq_false (by omega);have hsh:(0:Int)<=24-8*(p:Int):=by omega
     have hsh2:24-8*(p:Int)<=24:=by omega
     have hYI:(V:Int) / 2 ^ (24-8*p) % 256=(Y:Int):=by
      have e1:(2:Int) ^ (24-8*p)=((256 ^ (4-1-p):Nat):Int):=by
       rw[show(256:Nat)=2 ^ 8 from rfl,← Nat.pow_mul,Int.natCast_pow,show 24-8*p=8*(4-1-p) from by omega];rfl
      rw[e1,hY];omega
     have HYI:=η hYI;clear ho hu2 hlen hst hI eY o2 u2 hYI hY;go_wp2_with fail
     exact⟨⟨p+1,by omega,by go_num,by rw[HYI.out];exact HO2.out,by rw[HYI.out];exact HUx.out⟩,by simp[intOf];omega⟩
    ·obtain rfl:p=4:=by omega
     have hpt':decide (((4:Nat):Int)<4)=false:=rfl;rw[Ag1,HSQ.out] at ho;have HO2:=η ho;have HU3:=η hu2;clear ho hu2;go_wp2_with fail
     refine⟨⟨q+1,by omega,by go_num,HO2.out,HU3.out⟩,by simp[intOf];omega⟩
  ·obtain rfl:q=4:=by omega
   have hlt':decide (((4:Nat):Int)<4)=false:=rfl;have hkk:=HK.out;have hsp:B7 wr g M:=H0.out.late H1.out HU1.out hu2 (λ i hi=>by simp at hi;omega);have HW:=η (Ai9 hsp sd hsh _ _ ho.rd hlq HC.out);have HUF:Hid (Upd g.S w wr):=η (((HU0.out.mono (by simp)).trans (HU1.out.mono g.mem)).late hu2 (λ i hi=> .inr (by simp at hi;have:=HU0.out.size;omega)));clear ho hu2 hsp;go_wp2_with fail
   refine HW.out.mono ?_;rintro e w5 ⟨rfl,h5,hu5⟩;have H5:=η h5;have HU5:=η (HUF.out.trans (hu5.mono g.memw));clear h5 hu5;go_wp2_with fail
   go_ret;exact⟨rfl,H5.out,HU5.out⟩
end Go.Proofs.YtgfbepakonjbnaaGreat
end
section
set_option linter.unusedSimpArgs false
set_option linter.unusedVariables false
namespace Go.Proofs.YtgfbepakonjbnaaGreat
open Go.RowKit Go.MapKept Go.ChangeMaps
def Ad9(M:Nat->Option Sec)(s q:Nat):Nat->Option Sec:=λ k=>if s<=k/\k<s+q then some D9 else M k
theorem Ca7(M:Nat->Option Sec)(s:Nat):Ad9 M s 0=M:=by
 funext k;unfold Ad9;rw[if_neg (by omega)]
theorem Ca8(M:Nat->Option Sec)(s q:Nat):(λ k=>if k=s+q then some D9 else Ad9 M s q k)=Ad9 M s (q+1):=by
 funext k
 unfold Ad9;by_cases h1:k=s+q
 ·rw[if_pos h1,if_pos (by omega)]
 ·rw[if_neg h1];by_cases h2:s<=k/\k<s+q
  ·rw[if_pos h2,if_pos (by omega)]
  ·rw[if_neg h2,if_neg (by omega)]
theorem Bu4{M:Nat->Option Sec}{s q:Nat}(hq:q<=16):Ag7 M (Ad9 M s q) (List.range' s 16):=λ i hi=>by
 unfold Ad9 at hi;split at hi
 ·right;rw[List.mem_range'_1];omega
 ·exact .inl hi
def Ca9(g:Sg)(M M':Nat->Option Sec):Option Nat->Prop
 | some s=>T3 (g.T M) g.h 16 (some s)/\(∀i,g.T M' i=if s<=i/\i<s+16 then true else g.T M i)/\(∀i,i≠1->¬(s<=i/\i<s+16)->M' i=M i)/\(∀i,s<=i->i<s+16->M' i=some D9)/\4<=s/\s+16<=g.h
 | none=>T3 (g.T M) g.h 16 Option.none/\M'=M
theorem B7.res{w0 w w':World}{g:Sg}{M:Nat->Option Sec}(h0:(∀k,k∈g.S->k<w0.heap.size)/\g.x.tb<w0.heap.size)(h:B7 w g M){b:Nat}(hb:w0.heap.size<=b){c:Array Value}{T:TypeId}{fr:Nat × Nat}(he:w.heap[b]?=some (.cells c T fr))(hT:T≠5)(hu:Upd [b] w w'):B7 w' g M:=
 h.turnedR hu (λ k hk=>by
  simp at hk;exact⟨λ q=>by have:=h0.1 k q;omega,by have:=h0.2;omega⟩) (λ k hk c' e=>by
  simp at hk;subst hk;rw[he] at e;injection e with e;injection e with _ q2;exact hT q2)
theorem Upd.three{S:List Nat}{a w:World}{b:Nat}(h:Upd S a w)(x y z:Value)(hb:b∈S∨a.heap.size<=b):Upd S a (((w.setCell ⟨b,0,none⟩ x).setCell ⟨b,1,none⟩ y).setCell ⟨b,2,none⟩ z):=((h.set x hb).set y hb).set z hb
theorem Cq0{w:World}{g:Sg}{M:Nat->Option Sec}(h:B7 w g M)(hh:20<=g.h)(hh2:g.h<=4096)(hc:E1 M g.h+18<=40) :
  Calls Tryz.prog 115 #[.pointer (some ⟨g.x.tb,0,none⟩)] w λ e w'=>∃o M',e=.returned (.tuple #[stV (o.getD 0,0,0),.int .i64 (if o=Option.none then 7 else 0)])/\Ca9 g M M' o/\B7 w' g M'/\Upd g.S w w':=by
 have hlt:=h.lt;obtain⟨w0,hw0⟩:∃w0,w0=w.alloc (.cells #[.int .i64 0,.int .i64 0,.int .i64 0] 200):=⟨_,rfl⟩;obtain⟨rb,hrb⟩:∃rb,rb=w.heap.size:=⟨_,rfl⟩;have hu0:Upd [] w w0:=by rw[hw0];exact(Upd.refl _ _).alloc _
 have hb0:w0.heap[rb]?=some (.cells #[.int .i64 0,.int .i64 0,.int .i64 0] 200 (0,0)):=by rw[hw0,hrb];exact A4 _
 have h0:=h.below hu0;have HT:=η (Bl0 h0 (by omega) hh2 (.inr (by omega)) 16 (by omega) (by omega));have hl1:=h0.cur_len 1;have HLT:=η hlt;have HB0:=η hb0;have HU0:=η hu0;have HW0:=η hw0;have HRB:=η hrb;have H0:=η h0;have hmk:=L0;clear h h0 hlt hb0 hu0 hw0 hrb;go_enter Tryz.func115,Tryz.ntmps115
 go_upto_region 1 with(fail)
 have hw0:=HW0.out;have hrb:=HRB.out;rw[← hw0,← hrb];clear hw0 hrb;go_wp2_with fail
 refine HT.out.mono ?_;rintro e w1 ⟨hu1,⟨s,hf,rfl,h1⟩ | ⟨hf,rfl,h1⟩⟩
 ·
  have hb1:=(hu1.block _ (A3 HB0.out) (λ q=>by have:=HLT.out.1 _ q;have:=HRB.out;omega)).trans HB0.out;have hs4:4<=s:=by
   rcases Nat.lt_or_ge s 4 with q | q
   ·have:=hf.2.1 0 (by omega);rw[Nat.add_zero,Sg.T_low (H0.out.cur_len 1) q] at this;cases this
   ·exact q
  have hsh:s+16<=g.h:=hf.1;obtain⟨M1,hM1⟩:∃M1,M1=Al4 M (Ai8 (T6 (g.cur M 1)) s true 16):=⟨_,rfl⟩;have hT1:∀i,g.T M1 i=if s<=i/\i<s+16 then true else g.T M i:=λ i=>by rw[hM1];exact Sg.T_turn hl1 true hs4 (by omega) i
  have hk1:∀i,i≠1->M1 i=M i:=λ i hi=>by rw[hM1];unfold Al4;rw[if_neg hi]
  rw[← hM1] at h1;have hc1:E1 M1 g.h<=E1 M g.h+1:=by
   have ht:Ag7 M M1 [1]:=λ i hi=>by
    by_cases e:i=1
    ·right;simp[e]
    ·rw[hk1 i e] at hi;exact .inl hi
   exact ht.cnt H0.out.ok h1.ok
  have HF:=η hf;have H1:=η h1;have HU1:=η hu1;have HB1:=η hb1;have HT1:=η hT1;have HK1:=η hk1;clear hf h1 hu1 hb1 hM1 hT1 hk1;go_wp2_with fail
  go_loopw [17] (λ i wr=>∃q:Nat,q<=16/\i=.int .i64 (q:Int)/\B7 wr g (Ad9 M1 s q)/\wr.heap[rb]?=some (.cells #[.int .i64 0,.int .i64 0,.int .i64 0] 200 (0,0))/\Upd g.S w1 wr) (λ i _=>16-(intOf i).toNat)
  case atStart=>exact⟨0,by omega,rfl,by rw[Ca7];exact H1.out,HB1.out,Upd.refl _ _⟩
  case round=>
   obtain⟨q,hq,rfl,hsp,hb,hu⟩:=hrel;by_cases hlt:q<16
   ·have hlt':decide ((q:Int)<16)=true:=decide_eq_true (by omega);obtain⟨I,hI⟩:∃I,I=s+q:=⟨_,rfl⟩;have eI:(s:Int)+(q:Int)=(I:Int):=by omega
    have hzb:(wr.alloc (.cells (bts D9).toArray 5)).heap[wr.heap.size]?=some (.cells (bts D9).toArray 5 (0,0)):=A4 _;obtain⟨w2,hw2⟩:∃w2,w2=wr.alloc (.cells (bts D9).toArray 5):=⟨_,rfl⟩;have hmk1:(Instr.makeSlice 32 (.int .i64 512) (.int .i64 512)).run Tryz.prog wr=.ok (.slice (some ⟨wr.heap.size,0,none⟩) 512 512) w2:=by rw[hw2];exact L0 wr
    have hu2:Upd [] wr w2:=by rw[hw2];exact(Upd.refl _ _).alloc _
    rw[← hw2] at hzb;have hcn:E1 (Ad9 M1 s q) g.h<40:=by
     have:=(Bu4 (M:=M1) (s:=s) (q:=q) (by omega)).cnt H1.out.ok hsp.ok;rw[List.length_range'] at this;omega
    have HW:=η (Ai9 (hsp.below hu2) I (by omega) _ _ (Cm2 hzb B9) B9 (.inr hcn));have HZ:Hid ((λ k=>if k=I then some D9 else Ad9 M1 s q k)=Ad9 M1 s (q+1)):=η (by rw[hI];exact Ca8 M1 s q);have HBr:=η ((hu2.block _ (A3 hb) (by simp)).trans hb);have HU2:=η (hu.trans (hu2.mono (by simp)));clear hmk hw2 hsp hb hu hzb hu2 hcn hI;go_wp2_with fail
    refine HW.out.mono ?_;rintro e w3 ⟨rfl,h3,hu3⟩;rw[HZ.out] at h3;have H3:=η h3;have HB3:=η ((hu3.block _ (A3 HBr.out) (λ q=>by have:=HLT.out.1 _ (g.memw _ q);have:=HRB.out;omega)).trans HBr.out);have HU3:=η (HU2.out.trans (hu3.mono g.memw));clear h3 hu3;go_wp2_with fail
    exact⟨⟨q+1,by omega,by go_num,H3.out,HB3.out,HU3.out⟩,by simp[intOf];omega⟩
   ·obtain rfl:q=16:=by omega
    have hlt':decide (((16:Nat):Int)<16)=false:=rfl;have HS:=η hsp;have HB:=η hb;have HU:=η hu;have m0:wr.cell? ⟨rb,0,none⟩=some (.int .i64 0):=by rw[A2 hb];rfl
    have m1:wr.cell? ⟨rb,1,none⟩=some (.int .i64 0):=by rw[A2 hb];rfl
    have m2:wr.cell? ⟨rb,2,none⟩=some (.int .i64 0):=by rw[A2 hb];rfl
    have f0:=B6 hb 0;have f1:=B6 hb 1;have f2:=B6 hb 2;clear hsp hb hu;go_wp2_with fail
    refine bodyPost_ret (Z3 (p:=2) (u:=3) (by rfl) _ _ rb (.int .i64 (s:Int)) (.int .i64 0) (.int .i64 0) (by rfl) (A8 (A8 (A8 HB.out 0 _) 1 _) 2 _)) (by rfl) ?_;have hb5:=HRB.out;have hu5:Upd [rb] wr (((wr.setCell ⟨rb,0,none⟩ (.int .i64 (s:Int))).setCell ⟨rb,1,none⟩ (.int .i64 0)).setCell ⟨rb,2,none⟩ (.int .i64 0)):=(Upd.refl _ _).three _ _ _ (.inl (List.mem_singleton.2 rfl));refine⟨some s,Ad9 M1 s 16,rfl,⟨HF.out,λ i=>?_,λ i hi hn=>?_,λ i i1 i2=>?_,hs4,hsh⟩,HS.out.res HLT.out (by omega) HB.out (by decide) hu5,?_⟩
    ·rw[← HT1.out i];exact congrFun (Ba4 g (by unfold Ad9;rw[if_neg (by omega)])) i
    ·unfold Ad9;rw[if_neg hn];exact HK1.out i hi
    ·unfold Ad9;rw[if_pos ⟨i1,i2⟩]
    ·exact(((HU0.out.mono (by simp)).trans HU1.out).trans HU.out).late hu5 (λ i hi=> .inr (by simp at hi;omega))
 ·
  have hb1:=(hu1.block _ (A3 HB0.out) (λ q=>by have:=HLT.out.1 _ q;have:=HRB.out;omega)).trans HB0.out;have m0:w1.cell? ⟨rb,0,none⟩=some (.int .i64 0):=by rw[A2 hb1];rfl
  have m1:w1.cell? ⟨rb,1,none⟩=some (.int .i64 0):=by rw[A2 hb1];rfl
  have m2:w1.cell? ⟨rb,2,none⟩=some (.int .i64 0):=by rw[A2 hb1];rfl
  have f0:=B6 hb1 0;have f1:=B6 hb1 1;have f2:=B6 hb1 2;have HF:=η hf;have H1:=η h1;have HU1:=η hu1;have HB1:=η hb1;clear hf h1 hu1 hb1;go_wp2_with fail
  refine bodyPost_ret (Z3 (p:=2) (u:=3) (by rfl) _ _ rb (.int .i64 0) (.int .i64 0) (.int .i64 0) (by rfl) (A8 (A8 (A8 HB1.out 0 _) 1 _) 2 _)) (by rfl) ?_;have hb5:=HRB.out;have hu5:Upd [rb] w1 (((w1.setCell ⟨rb,0,none⟩ (.int .i64 0)).setCell ⟨rb,1,none⟩ (.int .i64 0)).setCell ⟨rb,2,none⟩ (.int .i64 0)):=(Upd.refl _ _).three _ _ _ (.inl (List.mem_singleton.2 rfl));exact⟨Option.none,M,rfl,⟨HF.out,rfl⟩,H1.out.res HLT.out (by omega) HB1.out (by decide) hu5,((HU0.out.mono (by simp)).trans HU1.out).late hu5 (λ i hi=> .inr (by simp at hi;omega))⟩
end Go.Proofs.YtgfbepakonjbnaaGreat
end
end
section
set_option linter.unusedSimpArgs false
set_option linter.unusedVariables false
namespace Go.Proofs.YtgfbepakonjbnaaGreat
open Go.RowKit Go.MapKept Go.ChangeMaps
section
def Db7:Obj->Prop
 | .cells _ _ _=>False
 | _=>True
def Cy9{α:Type}(F:Fence)(n:Nat)(P:Program)(g:Nat)(lb:Array Value)(encs:α->Array Value)(L:List α)(bs:List Nat)(b1:Nat)(w:World):Prop:=
 ∀(l:Nat) (J:Nat->World->Prop) (W:World),(∀b,b∈bs->W.heap[b]?=w.heap[b]?)->(∀q W v,J q W->J q (W.setCell ⟨b1,0,none⟩ v))->
  (∀q x W1,L[q]?=some x->J q W1->YieldAt F (n-1) P l (encs x) W1 λ e W'=>e=.returned (.bool true)/\J (q+1) W'/\∀b,b∈bs->W'.heap[b]?=W1.heap[b]?)->
  J 0 W->CallsIn F n P g (#[.func (.yield l) #[] #[]]++lb) W λ e W'=>(∃v,e=.returned v)/\J L.length W'
variable {F:Fence} {n:Nat} {P:Program}
theorem Ce5(W:World)(l:Nat)(o:Obj):Upd [l] W (W.putObj l o):=
 ⟨rfl,rfl,rfl,by simp,λ k hk hs=>World.putObj_heap_other (by simp at hs;omega)⟩
def Cq4(D l:Nat)(bs:List Nat)(I:World->Prop)(W W2:World):Exit->Act->World->Prop
 | .normal,_,W3=>(∀b,b∈[D,l]->W3.heap[b]?=W2.heap[b]?)/\I W3/\∀b,b∈bs->W3.heap[b]?=W.heap[b]?
 | _,_,_=>False
theorem Ab2{α:Type}{g:Operand}{ps:Array Tmp}{assign body:Code}{Q:Exit->Act->World->Prop}{a:Act}{w:World}
  (hro:F.round=none) (h1:1<=n) {gf:Nat} {lb:Array Value} (hg:a.eval g=.func (.func gf) #[] lb) (hFg:F.fn gf) (eg:∀args w,(callFunc gf args).run P w=.ok (.enter gf args) w)
  {encs:α->Array Value} {L:List α} {bs:List Nat} {b1:Nat} (hseq:Cy9 F (n-1) P gf lb encs L bs b1 w) (hbs:∀b,b∈bs->b<w.heap.size) (hb1:b1<w.heap.size) (hps:∀x,(encs x).size=ps.size)
  (I:Nat->World->Prop)
  (hIo:∀q W W',I q W->Upd [w.heap.size,w.heap.size+1] W W'->(∀b,b∈[w.heap.size,w.heap.size+1]->∀o,W.heap[b]?=some o->Db7 o)->I q W')
  (hIs:∀q W v,I q W->I q (W.setCell ⟨b1,0,none⟩ v)) (h0:I 0 w)
  (hround:∀(l q:Nat) (x:α) (W:World),l=w.heap.size+1->L[q]?=some x->I q W->l<W.heap.size->
   assign.wpIn (F.inRound l) (n-1-1) P (Exit.then (λ a₁ W1=>(∀b,b∈[w.heap.size,l]->W1.heap[b]?=W.heap[b]?)/\∀W2:World,Upd [l] W1 W2->(∃o,W1.heap[l]?=some o/\Db7 o)->
    body.wpIn (F.inRound l) (n-1-1) P (Cq4 w.heap.size l bs (I (q+1)) W W2) a₁ W2) (λ _ _ _=>False))
    { tmps:=(ps.zip (encs x)).foldl (λ t (p,v)=>t.setIfInBounds p v) a.tmps,defers:=[] } W)
  (hdone:∀W:World,I L.length W->W.heap[w.heap.size]?=some (.deferred (some []))->Q .normal { a with defers:={ target:=.collected w.heap.size,args:=#[] } :: a.defers } W) :
  (Code.rangeFunc g ps assign body).wpIn F n P Q a w:=by
 refine wpIn_rangeFunc ?_;intro fn hfn;rw[hro];obtain⟨rec,hrec⟩:∃rec:LoopState->Option Code->Loop,rec=λ st pe=> { state:=st,pending:=pe,fn,tmps:=a.tmps,params:=ps,assign,body,defers:=w.heap.size }:=⟨_,rfl⟩;obtain⟨W1,hW1⟩:∃W1,(w.alloc (.deferred (some []))).alloc (.loop (rec .ready none))=W1:=⟨_,rfl⟩;have hL1:W1.heap[w.heap.size+1]?=some (.loop (rec .ready none)):=by
  rw[← hW1];have:=World.alloc_heap_new (w.alloc (.deferred (some []))) (.loop (rec .ready none));rwa [World.size_alloc] at this
 have hK1:W1.heap[w.heap.size]?=some (.deferred (some [])):=by
  rw[← hW1];exact(Below.heap_alloc _ _ _ (by simp)).trans (World.alloc_heap_new w _)
 have hu1:Upd [] w W1:=by rw[← hW1];exact((Upd.refl _ _).alloc _).alloc _
 have hI1:I 0 W1:=hIo 0 w W1 h0 ⟨hu1.os,hu1.tape,hu1.output,hu1.size,λ k hk _=>hu1.block k hk (by simp)⟩ (λ b hb o e=>by
  have:=(Array.getElem?_eq_some_iff.1 e).1;simp at hb;omega)
 have two:∀{W:World},W.heap[w.heap.size+1]?=some (.loop (rec .ready none))∨(∃st pe,W.heap[w.heap.size+1]?=some (.loop (rec st pe)))->W.heap[w.heap.size]?=some (.deferred (some []))->∀b,b∈[w.heap.size,w.heap.size+1]->∀o,W.heap[b]?=some o->Db7 o:=by
  intro W h1 h2 b hb o e;simp at hb;rcases hb with rfl | rfl
  ·rw[h2] at e;cases e;trivial
  ·rcases h1 with h1 | ⟨st,pe,h1⟩
   ·rw[h1] at e;cases e;trivial
   ·rw[h1] at e;cases e;trivial
 have put2:∀(W:World) (o:Obj),Upd [w.heap.size,w.heap.size+1] W (W.putObj (w.heap.size+1) o):=λ W o=>by
  have h:=Ce5 W (w.heap.size+1) o;exact⟨h.os,h.tape,h.output,h.size,λ k hk hs=>h.block k hk (by simp at hs ⊢;omega)⟩
 refine⟨w.heap.size+1,[{ target:=.collected w.heap.size,args:=#[] }],W1,{ target:=.fn (.func gf) lb,args:=#[.func (.yield (w.heap.size+1)) #[] #[]] },W1,gf,
  #[.func (.yield (w.heap.size + 1)) #[] #[]] ++ lb, W1, ?_, ?_, ?_, ?_, λ _ => h1, ?_⟩
 ·rw[← hW1,hrec];exact run_enterLoop_outer _ _ _ _ _
 ·simp only[resolve,hg];simp[go_sem]
 ·intro f' hf';simp[Target.leads] at hf';subst hf';exact hFg
 ·simp[invoke,go_sem,eg]
 ·refine(hseq (w.heap.size+1)
   (λ q W=>I q W/\W.heap[w.heap.size+1]?=some (.loop (rec .ready none))/\W.heap[w.heap.size]?=some (.deferred (some [])))
   W1 (λ b hb=>hu1.block b (hbs b hb) (by simp))
   (λ q W v hs=>⟨hIs q W v hs.1,(C5 0 v (show w.heap.size+1≠b1 by omega)).trans hs.2.1,(C5 0 v (show w.heap.size≠b1 by omega)).trans hs.2.2⟩)
   ?_ ⟨hI1,hL1,hK1⟩).mono ?_
  ·rintro q x W hx ⟨hi,hl,hk⟩;have hlt:w.heap.size+1<W.heap.size:=(Array.getElem?_eq_some_iff.1 hl).1;have hy:=run_yield (P:=P) (args:=encs x) hl (by rw[hrec];exact hps x);rw[hrec] at hy;refine⟨fn,_,assign,body,hy,roundIn_of_wpIn hfn (wpIn_mono (hround (w.heap.size+1) q x W rfl hx hi hlt) ?_)⟩;rintro e a1 W2 hp;cases e with
   | normal=>
    obtain⟨hkeep,hb⟩:=hp;have hl2:W2.heap[w.heap.size+1]?=some (.loop (rec .ready none)):=(hkeep _ (by simp)).trans hl;have hk2:W2.heap[w.heap.size]?=some (.deferred (some [])):=(hkeep _ (by simp)).trans hk;have hlt2:w.heap.size+1<W2.heap.size:=(Array.getElem?_eq_some_iff.1 hl2).1;refine⟨_,run_beginRound hl2 (by rw[hrec]),?_⟩;obtain⟨W3,hW3⟩:∃W3,W3=W2.putObj (w.heap.size+1) (.loop { rec .ready none with state:=.busy }):=⟨_,rfl⟩;rw[← hW3];have hl3:W3.heap[w.heap.size+1]?=some (.loop { rec .ready none with state:=.busy }):=by rw[hW3];exact World.putObj_heap_same hlt2
    have hk3:W3.heap[w.heap.size]?=some (.deferred (some [])):=by rw[hW3];exact(World.putObj_heap_other (by omega)).trans hk2
    refine wpIn_mono (hb W3 (by rw[hW3];exact Ce5 _ _ _) ⟨_,hl2,trivial⟩) ?_;rintro e a3 W4 hp4;cases e with
    | normal=>
     obtain⟨hkeep4,hi4,hb4⟩:=hp4;have hl4:=(hkeep4 _ (by simp)).trans hl3;have hk4:=(hkeep4 _ (by simp)).trans hk3;have hlt4:w.heap.size+1<W4.heap.size:=(Array.getElem?_eq_some_iff.1 hl4).1;have hr:=run_endRound (P:=P) none hl4;refine⟨_,_,hr,rfl,⟨hIo _ _ _ hi4 (put2 _ _) (two (.inr ⟨.busy,none,by rw[hl4,hrec]⟩) hk4),?_,(World.putObj_heap_other (by omega)).trans hk4⟩,λ b hb=>?_⟩
     ·rw[World.putObj_heap_same hlt4,hrec];rfl
     ·have:=hbs b hb;rw[World.putObj_heap_other (by omega)];exact hb4 b hb
    | _=>exact hp4.elim
   | _=>exact hp.elim
  ·rintro e W2 ⟨⟨v,rfl⟩,hi,hl,hk⟩;exact⟨none,_,by have:=run_endLoop (P:=P) hl (by rw[hrec];simp);rw[hrec] at this;exact this,hdone _ (hIo _ _ _ hi (put2 _ _) (two (.inl hl) hk)) ((World.putObj_heap_other (by omega)).trans hk)⟩
end
end Go.Proofs.YtgfbepakonjbnaaGreat
end
