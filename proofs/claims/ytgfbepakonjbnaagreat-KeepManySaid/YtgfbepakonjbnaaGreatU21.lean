/-
  A tree of sectors, as its pairs. No program in sight. A child of a node is turned, or parted. No program in sight. A pair is put into a rising list; a node is parted. No program in sight.
-/
import Derived.Test.YtgfbepakonjbnaaGreatU20
section
section
namespace Go.Proofs.YtgfbepakonjbnaaGreat
open Go.RowKit
abbrev Pair9:=Bs × Bs
inductive Kids (P:Nat→List Pair9→List Nat→Prop):List Bs→List Nat→List Pair9→List Nat→Prop
 | one {k:Nat} {l:List Pair9} {S:List Nat}:P k l S→Kids P [] [k] l S
 | more {k:Nat} {l:List Pair9} {S:List Nat} {key:Bs} {ks:List Bs} {ds:List Nat} {l2:List Pair9} {S2:List Nat}:P k l S→(∀p,p∈l→ltB p.1 key=true)→(∀p,p∈l2→ltB p.1 key=false)→Kids P ks ds l2 S2→Kids P (key :: ks) (k :: ds) (l++l2) (S++S2)
def Shape(C:Nat→Sec):Bool→Nat→Nat→List Pair9→List Nat→Prop
 | root,0,a,l,S=>S=[a]∧a<4294967296∧LeafOk (l.map (·.1)) (l.map (·.2))∧C a=encLeaf (l.map (·.1)) (l.map (·.2))∧(if root then 1 else 5)≤l.length∧(l.map (·.1)).Pairwise (fun x y=>ltB x y=true)
 | root,d+1,a,l,S=>a<4294967296∧∃ks ds S',S=a :: S'∧InnerOk ks ds∧C a=encInner ks ds∧(if root then 1 else 6)≤ks.length∧ks.Pairwise (fun x y=>ltB x y=true)∧Kids (fun k l S=>Shape C false d k l S) ks ds l S'
theorem Kids.mono{P Q:Nat→List Pair9→List Nat→Prop}{ks:List Bs}{ds:List Nat}{l:List Pair9}{S:List Nat}(h:Kids P ks ds l S)(hpq:∀k l' S',(∀s,s∈S'→s∈S)→P k l' S'→Q k l' S'):Kids Q ks ds l S:=by
 induction h with
 | one h=>exact .one (hpq _ _ _ (fun _ q=>q) h)
 | more h h1 h2 hk ih=>exact .more (hpq _ _ _ (fun s q=>List.mem_append_left _ q) h) h1 h2 (ih fun k l' S' hs=>hpq k l' S' fun s q=>List.mem_append_right _ (hs s q))
theorem Shape.keep{C C':Nat→Sec}:∀{d:Nat} {root:Bool} {a:Nat} {l:List Pair9} {S:List Nat},Shape C root d a l S→(∀s,s∈S→C' s=C s)→Shape C' root d a l S
 | 0,root,a,l,S,h,hc=>by
  obtain⟨h1,h2,h3,h4,h5⟩:=h
  exact⟨h1,h2,h3,by rw[hc a (by rw[h1];simp)];exact h4,h5⟩
 | d+1,root,a,l,S,h,hc=>by
  obtain⟨h0,ks,ds,S',h1,h2,h3,h4,h5,h6⟩:=h
  refine⟨h0,ks,ds,S',h1,h2,by rw[hc a (by rw[h1];simp)];exact h3,h4,h5,h6.mono fun k l' S'' hs h=>?_⟩
  exact Shape.keep (d:=d) h fun s q=>hc s (by rw[h1];exact List.mem_cons_of_mem _ (hs s q))
theorem Shape.mem{C:Nat→Sec}:∀{d:Nat} {root:Bool} {a:Nat} {l:List Pair9} {S:List Nat},Shape C root d a l S→a∈S∧a<4294967296
 | 0,_,_,_,_,h=>⟨by rw[h.1];simp,h.2.1⟩
 | _+1,_,_,_,_,h=>by obtain⟨h0,ks,ds,S',h1,_⟩:=h;exact⟨by rw[h1];simp,h0⟩
theorem chK_nil(key:Bs):chK [] key=0:=by unfold chK hasK posK;simp
theorem chK_cons(k:Bs)(ks:List Bs)(key:Bs):chK (k :: ks) key=if ltB k key then chK ks key+1 else if k=key then 1 else 0:=by
 unfold chK hasK
 cases h:ltB k key
 ·have hp:posK (k :: ks) key=0:=by unfold posK;rw[h];rfl
  rw[hp]
  by_cases e:k=key
  ·simp[e]
  ·simp[e]
 ·have hp:posK (k :: ks) key=posK ks key+1:=by rw[posK,h];rfl
  rw[hp]
  simp only[List.getElem?_cons_succ,if_true]
  split<;>rfl
theorem ltB_of_ge{a b c:Bs}(h:ltB b a=false)(k:ltB b c=true):ltB a c=true:=by
 cases q:ltB a b
 ·rw[ltB_total q h];exact k
 ·exact ltB_trans q k
theorem Kids.at{P:Nat→List Pair9→List Nat→Prop}{key:Bs}:∀{ks:List Bs} {ds:List Nat} {l:List Pair9} {S:List Nat},Kids P ks ds l S→ks.Pairwise (fun x y=>ltB x y=true)→
  ∃k la lc lb Sa Sc Sb,ds[chK ks key]?=some k∧l=la++(lc++lb)∧S=Sa++(Sc++Sb)∧P k lc Sc∧(∀p,p∈la→ltB p.1 key=true)∧(∀p,p∈lb→ltB key p.1=true)∧
   (∀x,x∈ks→(∀p,p∈lc→ltB p.1 x=true)∧ltB key x=true∨(∀p,p∈lc→ltB p.1 x=false)∧ltB key x=false)
 | _,_,l,S,.one (k:=k) h,_=>⟨k,[],l,[],[],S,[],by rw[chK_nil];rfl,by simp,by simp,h,by simp,by simp,by simp⟩
 | _,_,_,_,.more (k:=k) (l:=l) (S:=S) (key:=x) (ks:=ks) (ds:=ds) (l2:=l2) (S2:=S2) h h1 h2 hk,hp=>by
  have hp2:=(List.pairwise_cons.1 hp).2
  have hp1:=(List.pairwise_cons.1 hp).1
  rw[chK_cons]
  have rest:ltB key x=false→∃k' la lc lb Sa Sc Sb,(k :: ds)[chK ks key+1]?=some k'∧l++l2=la++(lc++lb)∧S++S2=Sa++(Sc++Sb)∧P k' lc Sc∧(∀p,p∈la→ltB p.1 key=true)∧(∀p,p∈lb→ltB key p.1=true)∧
    (∀y,y∈x :: ks→(∀p,p∈lc→ltB p.1 y=true)∧ltB key y=true∨(∀p,p∈lc→ltB p.1 y=false)∧ltB key y=false):=by
   intro hle
   obtain⟨k',la,lc,lb,Sa,Sc,Sb,e1,e2,e3,e4,e5,e6,e7⟩:=Kids.at (key:=key) hk hp2
   refine⟨k',l++la,lc,lb,S++Sa,Sc,Sb,by simpa using e1,by rw[e2];simp,by rw[e3];simp,e4,fun p hq=>?_,e6,fun y hy=>?_⟩
   ·rcases List.mem_append.1 hq with q | q
    ·cases hc:ltB p.1 key
     ·have:=h1 p q
      have:=ltB_of_ge (a:=key) hc this
      rw[hle] at this;simp at this
     ·rfl
    ·exact e5 p q
   ·rcases List.mem_cons.1 hy with rfl | hy
    ·exact .inr ⟨fun p hq=>h2 p (by rw[e2];simp[hq]),hle⟩
    ·exact e7 y hy
  cases hx:ltB x key
  ·by_cases e:x=key
   ·rw[if_pos e]
    have hz:chK ks key=0:=by
     cases ks with
     | nil=>exact chK_nil key
     | cons y ks=>
      have:=hp1 y (by simp)
      rw[e] at this
      rw[chK_cons,ltB_asymm this]
      simp only[Bool.false_eq_true,if_false]
      rw[if_neg (by rintro rfl;rw[ltB_irrefl] at this;simp at this)]
    have:=rest (by rw[e];exact ltB_irrefl _)
    rw[hz] at this
    exact this
   ·rw[if_neg e]
    have hlt:ltB key x=true:=by
     cases q:ltB key x
     ·exact absurd (ltB_total hx q) e
     ·rfl
    refine⟨k,[],l,l2,[],S,S2,rfl,by simp,by simp,h,by simp,fun p hq=>?_,fun y hy=> .inl ⟨fun p hq=>?_,?_⟩⟩
    ·have:=h2 p hq
     cases q:ltB key p.1
     ·have:=ltB_of_ge (a:=p.1) q hlt
      rw[h2 p hq] at this;simp at this
     ·rfl
    ·rcases List.mem_cons.1 hy with rfl | hy
     ·exact h1 p hq
     ·exact ltB_trans (h1 p hq) (hp1 y hy)
    ·rcases List.mem_cons.1 hy with rfl | hy
     ·exact hlt
     ·exact ltB_trans hlt (hp1 y hy)
  ·simp only[if_true]
   exact rest (ltB_asymm hx)
end Go.Proofs.YtgfbepakonjbnaaGreat
end
section
namespace Go.Proofs.YtgfbepakonjbnaaGreat
open Go.RowKit
def insAt{α:Type}(l:List α)(i:Nat)(x:α):List α:=l.take i++x :: l.drop i
theorem insAt_zero{α:Type}(l:List α)(x:α):insAt l 0 x=x :: l:=by simp[insAt]
theorem insAt_succ{α:Type}(a:α)(l:List α)(i:Nat)(x:α):insAt (a :: l) (i+1) x=a :: insAt l i x:=by simp[insAt]
theorem insAt_length{α:Type}(l:List α)(i:Nat)(x:α)(hi:i≤l.length):(insAt l i x).length=l.length+1:=by simp[insAt];omega
theorem mem_insAt{α:Type}{l:List α}{i:Nat}{x y:α}(h:y∈insAt l i x):y=x∨y∈l:=by
 unfold insAt at h
 rcases List.mem_append.1 h with q | q
 ·exact .inr (List.mem_of_mem_take q)
 ·rcases List.mem_cons.1 q with q | q
  ·exact .inl q
  ·exact .inr (List.mem_of_mem_drop q)
def Fits(ks:List Bs)(key:Bs)(l:List Pair9):Prop:=∀x,x∈ks→(ltB key x=true→∀p,p∈l→ltB p.1 x=true)∧(ltB key x=false→∀p,p∈l→ltB p.1 x=false)
def FitK(ks:List Bs)(key k':Bs):Prop:=∀x,x∈ks→(ltB key x=true→ltB k' x=true)∧(ltB key x=false→ltB x k'=true)
theorem Fits.tail{x:Bs}{ks:List Bs}{key:Bs}{l:List Pair9}(h:Fits (x :: ks) key l):Fits ks key l:=fun y hy=>h y (List.mem_cons_of_mem _ hy)
theorem FitK.tail{x:Bs}{ks:List Bs}{key k':Bs}(h:FitK (x :: ks) key k'):FitK ks key k':=fun y hy=>h y (List.mem_cons_of_mem _ hy)
theorem pair_ins{key k':Bs}:∀{ks:List Bs},ks.Pairwise (fun x y=>ltB x y=true)→FitK ks key k'→(insAt ks (chK ks key) k').Pairwise (fun x y=>ltB x y=true)
 | [],_,_=>by rw[chK_nil,insAt_zero];simp
 | x :: ks,hp,hf=>by
  have hp1:=(List.pairwise_cons.1 hp).1
  have hp2:=(List.pairwise_cons.1 hp).2
  rw[chK_cons]
  have step:ltB key x=false→(insAt (x :: ks) (chK ks key+1) k').Pairwise (fun x y=>ltB x y=true):=fun hle=>by
   rw[insAt_succ]
   refine List.pairwise_cons.2 ⟨fun y hy=>?_,pair_ins hp2 hf.tail⟩
   rcases mem_insAt hy with rfl | q
   ·exact(hf x (by simp)).2 hle
   ·exact hp1 y q
  cases hx:ltB x key
  ·by_cases e:x=key
   ·rw[if_pos e]
    have hz:chK ks key=0:=by
     cases ks with
     | nil=>exact chK_nil key
     | cons y ks=>
      have:=hp1 y (by simp)
      rw[e] at this
      rw[chK_cons,ltB_asymm this]
      simp only[Bool.false_eq_true,if_false]
      rw[if_neg (by rintro rfl;rw[ltB_irrefl] at this;simp at this)]
    have:=step (by rw[e];exact ltB_irrefl _)
    rw[hz] at this
    exact this
   ·rw[if_neg e]
    have hlt:ltB key x=true:=by
     cases q:ltB key x
     ·exact absurd (ltB_total hx q) e
     ·rfl
    show(insAt (x :: ks) 0 k').Pairwise _
    rw[insAt_zero]
    refine List.pairwise_cons.2 ⟨fun y hy=>?_,hp⟩
    rcases List.mem_cons.1 hy with rfl | q
    ·exact(hf y (by simp)).1 hlt
    ·exact(hf y (by simp[q])).1 (ltB_trans hlt (hp1 y q))
  ·simp only[if_true]
   exact step (ltB_asymm hx)
def Turn(P:Nat→List Pair9→List Nat→Prop)(key:Bs)(ks:List Bs)(ds:List Nat)(l:List Pair9)(S:List Nat)(i:Nat):Prop:=
 ∃k la lc lb Sa Sc Sb,ds[i]?=some k∧l=la++(lc++lb)∧S=Sa++(Sc++Sb)∧P k lc Sc∧(∀p,p∈la→ltB p.1 key=true)∧(∀p,p∈lb→ltB key p.1=true)∧Fits ks key lc∧
  (∀(Q:Nat→List Pair9→List Nat→Prop) lc' Sc',(∀k l S',P k l S'→(∀s,s∈S'→s∈Sa∨s∈Sb)→Q k l S')→Q k lc' Sc'→Fits ks key lc'→Kids Q ks ds (la++(lc'++lb)) (Sa++(Sc'++Sb)))∧
  (∀(Q:Nat→List Pair9→List Nat→Prop) k2 k' l1 S1 l2 S2,(∀k l S',P k l S'→(∀s,s∈S'→s∈Sa∨s∈Sb)→Q k l S')→Q k l1 S1→Q k2 l2 S2→(∀p,p∈l1→ltB p.1 k'=true)→(∀p,p∈l2→ltB p.1 k'=false)→Fits ks key (l1++l2)→FitK ks key k'→
   Kids Q (insAt ks i k') (insAt ds (i+1) k2) (la++((l1++l2)++lb)) (Sa++((S1++S2)++Sb)))
theorem Kids.turn{P:Nat→List Pair9→List Nat→Prop}{key:Bs}:∀{ks:List Bs} {ds:List Nat} {l:List Pair9} {S:List Nat},Kids P ks ds l S→ks.Pairwise (fun x y=>ltB x y=true)→Turn P key ks ds l S (chK ks key)
 | _,_,l,S,.one (k:=k) h,_=>by
  rw[chK_nil]
  refine⟨k,[],l,[],[],S,[],rfl,by simp,by simp,h,by simp,by simp,fun x hx=>by simp at hx,fun Q lc' Sc' _ hq _=>by simpa using Kids.one hq,fun Q k2 k' l1 S1 l2 S2 _ h1 h2 b1 b2 _ _=>?_⟩
  have:=Kids.more h1 b1 b2 (Kids.one h2)
  simpa [insAt] using this
 | _,_,_,_,.more (k:=k) (l:=l) (S:=S) (key:=x) (ks:=ks) (ds:=ds) (l2:=l2) (S2:=S2) h h1 h2 hk,hp=>by
  have hp2:=(List.pairwise_cons.1 hp).2
  have hp1:=(List.pairwise_cons.1 hp).1
  rw[chK_cons]
  have rest:ltB key x=false→Turn P key (x :: ks) (k :: ds) (l++l2) (S++S2) (chK ks key+1):=by
   intro hle
   obtain⟨k',la,lc,lb,Sa,Sc,Sb,e1,e2,e3,e4,e5,e6,e7,t1,t2⟩:=Kids.turn (key:=key) hk hp2
   refine⟨k',l++la,lc,lb,S++Sa,Sc,Sb,by simpa using e1,by rw[e2];simp,by rw[e3];simp,e4,fun p hq=>?_,e6,fun y hy=>?_,fun Q lc' Sc' ho hq hf=>?_,fun Q k2 kn l1 S1 l2' S2' ho q1 q2 b1 b2 hf hfk=>?_⟩
   ·rcases List.mem_append.1 hq with q | q
    ·cases hc:ltB p.1 key
     ·have:=ltB_of_ge (a:=key) hc (h1 p q)
      rw[hle] at this;simp at this
     ·rfl
    ·exact e5 p q
   ·rcases List.mem_cons.1 hy with rfl | hy
    ·exact⟨fun q=>by rw[hle] at q;simp at q,fun _ p hq=>h2 p (by rw[e2];simp[hq])⟩
    ·exact e7 y hy
   ·have hK:=t1 Q lc' Sc' (fun k l S' hP hs=>ho k l S' hP fun s q=>by rcases hs s q with r | r<;>simp[r]) hq hf.tail
    have:=Kids.more (ho _ _ _ h (fun s q=> .inl (by simp[q]))) h1 (fun p hq=>?_) hK
    ·simpa using this
    ·rcases List.mem_append.1 hq with q | q
     ·exact h2 p (by rw[e2];simp[q])
     ·rcases List.mem_append.1 q with q | q
      ·exact(hf x (by simp)).2 hle p q
      ·exact h2 p (by rw[e2];simp[q])
   ·have hK:=t2 Q k2 kn l1 S1 l2' S2' (fun k l S' hP hs=>ho k l S' hP fun s q=>by rcases hs s q with r | r<;>simp[r]) q1 q2 b1 b2 hf.tail hfk.tail
    have:=Kids.more (ho _ _ _ h (fun s q=> .inl (by simp[q]))) h1 (fun p hq=>?_) hK
    ·rw[insAt_succ,insAt_succ]
     simpa using this
    ·rcases List.mem_append.1 hq with q | q
     ·exact h2 p (by rw[e2];simp[q])
     ·rcases List.mem_append.1 q with q | q
      ·exact(hf x (by simp)).2 hle p q
      ·exact h2 p (by rw[e2];simp[q])
  cases hx:ltB x key
  ·by_cases e:x=key
   ·rw[if_pos e]
    have hz:chK ks key=0:=by
     cases ks with
     | nil=>exact chK_nil key
     | cons y ks=>
      have:=hp1 y (by simp)
      rw[e] at this
      rw[chK_cons,ltB_asymm this]
      simp only[Bool.false_eq_true,if_false]
      rw[if_neg (by rintro rfl;rw[ltB_irrefl] at this;simp at this)]
    have:=rest (by rw[e];exact ltB_irrefl _)
    rw[hz] at this
    exact this
   ·rw[if_neg e]
    have hlt:ltB key x=true:=by
     cases q:ltB key x
     ·exact absurd (ltB_total hx q) e
     ·rfl
    have hgt:∀p,p∈l2→ltB key p.1=true:=fun p hq=>by
     cases q:ltB key p.1
     ·have:=ltB_of_ge (a:=p.1) q hlt
      rw[h2 p hq] at this;simp at this
     ·rfl
    refine⟨k,[],l,l2,[],S,S2,rfl,by simp,by simp,h,by simp,hgt,fun y hy=>⟨fun _ p hq=>?_,fun q=>?_⟩,fun Q lc' Sc' ho hq hf=>?_,fun Q k2 kn l1 S1 l2' S2' ho q1 q2 b1 b2 hf hfk=>?_⟩
    ·rcases List.mem_cons.1 hy with rfl | hy
     ·exact h1 p hq
     ·exact ltB_trans (h1 p hq) (hp1 y hy)
    ·rcases List.mem_cons.1 hy with rfl | hy
     ·rw[hlt] at q;simp at q
     ·rw[ltB_trans hlt (hp1 y hy)] at q;simp at q
    ·have:=Kids.more hq (fun p hq=>(hf x (by simp)).1 hlt p hq) h2 (hk.mono fun k l' S' hs hP=>ho k l' S' hP fun s q=> .inr (hs s q))
     simpa using this
    ·have hK:=hk.mono (Q:=Q) fun k l' S' hs hP=>ho k l' S' hP fun s q=> .inr (hs s q)
     have hin:=Kids.more q2 (fun p hq=>(hf x (by simp)).1 hlt p (by simp[hq])) h2 hK
     have:=Kids.more q1 b1 (fun p hq=>?_) hin
     ·simp only[Bool.false_eq_true,if_false]
      rw[insAt_zero,insAt_succ,insAt_zero]
      simpa using this
     ·rcases List.mem_append.1 hq with q | q
      ·exact b2 p q
      ·cases r:ltB p.1 kn
       ·rfl
       ·have:=ltB_trans r ((hfk x (by simp)).1 hlt)
        rw[h2 p q] at this;simp at this
  ·simp only[if_true]
   exact rest (ltB_asymm hx)
end Go.Proofs.YtgfbepakonjbnaaGreat
end
section
namespace Go.Proofs.YtgfbepakonjbnaaGreat
open Go.RowKit
def insL:List Pair9→Bs→Bs→List Pair9
 | [],key,v=>[(key,v)]
 | p :: l,key,v=>if ltB p.1 key then p :: insL l key v else if p.1=key then(key,v) :: l else(key,v) :: p :: l
theorem insL_keys:∀(l:List Pair9) (key v:Bs),(insL l key v).map (·.1)=if hasK (l.map (·.1)) key then l.map (·.1) else insAt (l.map (·.1)) (posK (l.map (·.1)) key) key
 | [],key,v=>by simp[insL,hasK,posK,insAt]
 | p :: l,key,v=>by
  have ih:=insL_keys l key v
  unfold insL
  cases h:ltB p.1 key
  ·have hp:posK ((p :: l).map (·.1)) key=0:=by rw[List.map_cons,posK,h];rfl
   have hh:hasK ((p :: l).map (·.1)) key=decide (p.1=key):=by unfold hasK;rw[hp];simp
   rw[hp,hh]
   by_cases e:p.1=key
   ·simp[e]
   ·simp[e,insAt]
  ·have hp:posK ((p :: l).map (·.1)) key=posK (l.map (·.1)) key+1:=by rw[List.map_cons,posK,h];rfl
   have hh:hasK ((p :: l).map (·.1)) key=hasK (l.map (·.1)) key:=by unfold hasK;rw[hp];simp
   rw[hp,hh]
   simp only[if_true,List.map_cons,ih]
   split
   ·rfl
   ·rw[insAt_succ]
theorem insL_vals:∀(l:List Pair9) (key v:Bs),(insL l key v).map (·.2)=if hasK (l.map (·.1)) key then(l.map (·.2)).set (posK (l.map (·.1)) key) v else insAt (l.map (·.2)) (posK (l.map (·.1)) key) v
 | [],key,v=>by simp[insL,hasK,posK,insAt]
 | p :: l,key,v=>by
  have ih:=insL_vals l key v
  unfold insL
  cases h:ltB p.1 key
  ·have hp:posK ((p :: l).map (·.1)) key=0:=by rw[List.map_cons,posK,h];rfl
   have hh:hasK ((p :: l).map (·.1)) key=decide (p.1=key):=by unfold hasK;rw[hp];simp
   rw[hp,hh]
   by_cases e:p.1=key
   ·simp[e]
   ·simp[e,insAt]
  ·have hp:posK ((p :: l).map (·.1)) key=posK (l.map (·.1)) key+1:=by rw[List.map_cons,posK,h];rfl
   have hh:hasK ((p :: l).map (·.1)) key=hasK (l.map (·.1)) key:=by unfold hasK;rw[hp];simp
   rw[hp,hh]
   simp only[if_true,List.map_cons,ih]
   split
   ·simp
   ·rw[insAt_succ]
theorem insL_mem{l:List Pair9}{key v:Bs}:∀{p:Pair9},p∈insL l key v→p=(key,v)∨p∈l:=by
 induction l with
 | nil=>intro p h;simp[insL] at h;exact .inl h
 | cons q l ih=>
  intro p h
  unfold insL at h
  split at h
  ·rcases List.mem_cons.1 h with r | r
   ·exact .inr (by simp[r])
   ·rcases ih r with r | r
    ·exact .inl r
    ·exact .inr (by simp[r])
  ·split at h
   ·rcases List.mem_cons.1 h with r | r
    ·exact .inl r
    ·exact .inr (by simp[r])
   ·rcases List.mem_cons.1 h with r | r
    ·exact .inl r
    ·exact .inr r
theorem insL_high{key v:Bs}{lb:List Pair9}(h:∀p,p∈lb→ltB key p.1=true):insL lb key v=(key,v) :: lb:=by
 cases lb with
 | nil=>rfl
 | cons q lb=>
  have hq:=h q (by simp)
  unfold insL
  rw[ltB_asymm hq]
  simp only[Bool.false_eq_true,if_false]
  rw[if_neg (by intro e;rw[e,ltB_irrefl] at hq;simp at hq)]
theorem insL_right{key v:Bs}:∀{lc lb:List Pair9},(∀p,p∈lb→ltB key p.1=true)→insL (lc++lb) key v=insL lc key v++lb
 | [],lb,h=>by rw[List.nil_append,insL_high h];rfl
 | p :: lc,lb,h=>by
  have ih:=insL_right (lc:=lc) h (key:=key) (v:=v)
  show insL (p :: (lc++lb)) key v=_
  unfold insL
  split
  ·rw[ih];rfl
  ·split<;>rfl
theorem insL_left{key v:Bs}:∀{la l:List Pair9},(∀p,p∈la→ltB p.1 key=true)→insL (la++l) key v=la++insL l key v
 | [],l,_=>rfl
 | p :: la,l,h=>by
  have ih:=insL_left (la:=la) (l:=l) (key:=key) (v:=v) (fun q hq=>h q (by simp[hq]))
  show insL (p :: (la++l)) key v=_
  rw[show insL (p :: (la++l)) key v=if ltB p.1 key then p :: insL (la++l) key v else if p.1=key then(key,v) :: (la++l) else(key,v) :: p :: (la++l) from rfl,h p (by simp),ih]
  simp
theorem insL_mid{key v:Bs}{la lc lb:List Pair9}(ha:∀p,p∈la→ltB p.1 key=true)(hb:∀p,p∈lb→ltB key p.1=true):insL (la++(lc++lb)) key v=la++(insL lc key v++lb):=by rw[insL_left ha,insL_right hb]
theorem insL_sorted{key v:Bs}:∀{l:List Pair9},(l.map (·.1)).Pairwise (fun x y=>ltB x y=true)→((insL l key v).map (·.1)).Pairwise (fun x y=>ltB x y=true)
 | [],_=>by simp[insL]
 | p :: l,h=>by
  have h1:=(List.pairwise_cons.1 h).1
  have h2:=(List.pairwise_cons.1 h).2
  unfold insL
  cases hp:ltB p.1 key
  ·simp only[Bool.false_eq_true,if_false]
   by_cases e:p.1=key
   ·rw[if_pos e]
    show(key :: l.map (·.1)).Pairwise _
    rw[← e];exact h
   ·rw[if_neg e]
    have hlt:ltB key p.1=true:=by
     cases q:ltB key p.1
     ·exact absurd (ltB_total hp q) e
     ·rfl
    refine List.pairwise_cons.2 ⟨fun y hy=>?_,h⟩
    rcases List.mem_cons.1 hy with rfl | q
    ·exact hlt
    ·exact ltB_trans hlt (h1 y q)
  ·simp only[if_true]
   refine List.pairwise_cons.2 ⟨fun y hy=>?_,insL_sorted h2⟩
   obtain⟨q,hq,rfl⟩:=List.mem_map.1 hy
   rcases insL_mem hq with rfl | r
   ·exact hp
   ·exact h1 _ (List.mem_map.2 ⟨q,r,rfl⟩)
theorem insL_length(l:List Pair9)(key v:Bs):(insL l key v).length=if hasK (l.map (·.1)) key then l.length else l.length+1:=by
 have h:=congrArg List.length (insL_keys l key v)
 rw[List.length_map] at h
 rw[h]
 split
 ·simp
 ·rw[insAt_length _ _ _ (posK_le _ _)];simp
theorem Fits.ins{ks:List Bs}{key v:Bs}{l:List Pair9}(h:Fits ks key l):Fits ks key (insL l key v):=fun x hx=>⟨fun q p hp=>by
  rcases insL_mem hp with rfl | r
  ·exact q
  ·exact(h x hx).1 q p r,fun q p hp=>by
  rcases insL_mem hp with rfl | r
  ·exact q
  ·exact(h x hx).2 q p r⟩
theorem Fits.key{ks:List Bs}{key k':Bs}{l1 l2:List Pair9}(h:Fits ks key (l1++l2))(h1:l1≠[])(h2:l2≠[])(b1:∀p,p∈l1→ltB p.1 k'=true)(b2:∀p,p∈l2→ltB p.1 k'=false):FitK ks key k':=fun x hx=>by
 obtain⟨p1,hp1⟩:=List.exists_mem_of_ne_nil _ h1
 obtain⟨p2,hp2⟩:=List.exists_mem_of_ne_nil _ h2
 refine⟨fun q=>?_,fun q=>?_⟩
 ·exact ltB_of_ge (b2 p2 hp2) ((h x hx).1 q p2 (by simp[hp2]))
 ·exact ltB_of_ge ((h x hx).2 q p1 (by simp[hp1])) (b1 p1 hp1)
theorem Kids.ne{P:Nat→List Pair9→List Nat→Prop}(hP:∀k l S,P k l S→l≠[]){ks:List Bs}{ds:List Nat}{l:List Pair9}{S:List Nat}(h:Kids P ks ds l S):l≠[]:=by
 cases h with
 | one h=>exact hP _ _ _ h
 | more h _ _ _=>intro e;exact hP _ _ _ h (List.append_eq_nil_iff.1 e).1
theorem Shape.ne{C:Nat→Sec}:∀{d:Nat} {root:Bool} {a:Nat} {l:List Pair9} {S:List Nat},Shape C root d a l S→l≠[]
 | 0,root,_,l,_,h=>by
  have:=h.2.2.2.2.1
  rintro rfl
  cases root<;>simp at this
 | d+1,_,_,_,_,h=>by
  obtain⟨_,ks,ds,S',_,_,_,_,_,hk⟩:=h
  exact hk.ne fun k l S h=>Shape.ne (d:=d) h
theorem Kids.part{P:Nat→List Pair9→List Nat→Prop}:∀{m:Nat} {ks:List Bs} {ds:List Nat} {l:List Pair9} {S:List Nat} {k:Bs},Kids P ks ds l S→ks.Pairwise (fun x y=>ltB x y=true)→ks[m]?=some k→
  ∃l1 S1 l2 S2,l=l1++l2∧S=S1++S2∧Kids P (ks.take m) (ds.take (m+1)) l1 S1∧Kids P (ks.drop (m+1)) (ds.drop (m+1)) l2 S2∧(∀p,p∈l1→ltB p.1 k=true)∧(∀p,p∈l2→ltB p.1 k=false)
 | m,_,_,_,_,k,.one h,_,hm=>by simp at hm
 | 0,_,_,_,_,k,.more (k:=a) (l:=l) (S:=S) (l2:=l2) (S2:=S2) h h1 h2 hk,_,hm=>by
  simp at hm;subst hm
  exact⟨l,S,l2,S2,rfl,rfl,.one h,by simpa using hk,h1,h2⟩
 | m+1,_,_,_,_,k,.more (k:=a) (l:=l) (S:=S) (key:=x) (ks:=ks) (ds:=ds) (l2:=l2) (S2:=S2) h h1 h2 hk,hp,hm=>by
  have hp2:=(List.pairwise_cons.1 hp).2
  have hp1:=(List.pairwise_cons.1 hp).1
  have hm':ks[m]?=some k:=by simpa using hm
  obtain⟨la,Sa,lb,Sb,e1,e2,k1,k2,b1,b2⟩:=Kids.part hk hp2 hm'
  have hxk:=hp1 k (List.mem_of_getElem? hm')
  refine⟨l++la,S++Sa,lb,Sb,by rw[e1];simp,by rw[e2];simp,?_,by simpa using k2,fun p hq=>?_,b2⟩
  ·have:=Kids.more h h1 (fun p hq=>h2 p (by rw[e1];simp[hq])) k1
   simpa using this
  ·rcases List.mem_append.1 hq with q | q
   ·exact ltB_trans (h1 p q) hxk
   ·exact b1 p q
end Go.Proofs.YtgfbepakonjbnaaGreat
end
end
section
namespace Go.Proofs.YtgfbepakonjbnaaGreat
open Go.RowKit Go.MapKept Go.ChangeMaps
section
attribute [-go_sem] loadCells
theorem DOwn.cell{w:World}{B:Nat}{v:Value}{ds:List Nat}(h:DOwn w B v ds)(hp:0<ds.length):∃gd cap,v=.slice (some ⟨gd,0,none⟩) ds.length cap∧B≤gd∧∀(i d:Nat),ds[i]?=some d→w.cell? ⟨gd,i,none⟩=some (.int .u32 (d:Int)):=by
 rcases h.2 with⟨rfl,h0⟩ | ⟨g,cap,cur,rfl,hb,hg,hc,_,hs,ht⟩
 ·omega
 ·refine⟨g,cap,rfl,hb,fun i d hd=>?_⟩
  have hi:i<ds.length:=(List.getElem?_eq_some_iff.1 hd).1
  have hf:(ds.map fun d:Nat=>Value.int .u32 (d:Int))[i]?=some (.int .u32 (d:Int)):=by rw[List.getElem?_map,hd];rfl
  rw[← ht,List.getElem?_take_of_lt (by omega)] at hf
  rw[blk_cell hg]
  simpa using hf
end
section
def lookL:List Pair9→Bs→Option Bs
 | [],_=>none
 | p :: l,key=>if ltB p.1 key then lookL l key else if p.1=key then some p.2 else none
theorem lookL_high{key:Bs}{lb:List Pair9}(h:∀p,p∈lb→ltB key p.1=true):lookL lb key=none:=by
 cases lb with
 | nil=>rfl
 | cons q lb=>
  have hq:=h q (by simp)
  unfold lookL
  rw[ltB_asymm hq]
  simp only[Bool.false_eq_true,if_false]
  rw[if_neg (by intro e;rw[e,ltB_irrefl] at hq;simp at hq)]
theorem lookL_right{key:Bs}:∀{lc lb:List Pair9},(∀p,p∈lb→ltB key p.1=true)→lookL (lc++lb) key=lookL lc key
 | [],lb,h=>by rw[List.nil_append,lookL_high h];rfl
 | p :: lc,lb,h=>by
  have ih:=lookL_right (lc:=lc) h
  show(if ltB p.1 key then lookL (lc++lb) key else if p.1=key then some p.2 else none)=(if ltB p.1 key then lookL lc key else if p.1=key then some p.2 else none)
  rw[ih]
theorem lookL_left{key:Bs}:∀{la l:List Pair9},(∀p,p∈la→ltB p.1 key=true)→lookL (la++l) key=lookL l key
 | [],l,_=>rfl
 | p :: la,l,h=>by
  have ih:=lookL_left (la:=la) (l:=l) (key:=key) (fun q hq=>h q (by simp[hq]))
  show(if ltB p.1 key then lookL (la++l) key else if p.1=key then some p.2 else none)=_
  rw[h p (by simp),ih]
  simp
theorem lookL_mid{key:Bs}{la lc lb:List Pair9}(ha:∀p,p∈la→ltB p.1 key=true)(hb:∀p,p∈lb→ltB key p.1=true):lookL (la++(lc++lb)) key=lookL lc key:=by rw[lookL_left ha,lookL_right hb]
theorem lookL_leaf:∀(l:List Pair9) (key:Bs),lookL l key=if hasK (l.map (·.1)) key then(l.map (·.2))[posK (l.map (·.1)) key]? else none
 | [],key=>by simp[lookL,hasK,posK]
 | p :: l,key=>by
  have ih:=lookL_leaf l key
  unfold lookL
  cases h:ltB p.1 key
  ·have hp:posK ((p :: l).map (·.1)) key=0:=by rw[List.map_cons,posK,h];rfl
   have hh:hasK ((p :: l).map (·.1)) key=decide (p.1=key):=by unfold hasK;rw[hp];simp
   rw[hp,hh]
   by_cases e:p.1=key
   ·simp[e]
   ·simp[e]
  ·have hp:posK ((p :: l).map (·.1)) key=posK (l.map (·.1)) key+1:=by rw[List.map_cons,posK,h];rfl
   have hh:hasK ((p :: l).map (·.1)) key=hasK (l.map (·.1)) key:=by unfold hasK;rw[hp];simp
   rw[hp,hh]
   simp only[if_true,ih,List.map_cons,List.getElem?_cons_succ]
attribute [-go_sem] loadCells storeCells
theorem store4_run(w:World)(a b c:Option Addr)(k:Int)(n1 c1 n2 c2 n3 c3:Nat):(storeCells ⟨w.heap.size,0,none⟩ [.int .i64 k,.slice a n1 c1,.slice b n2 c2,.slice c n3 c3] 0).run Tryz.prog (w.alloc (.cells #[.int .i64 0,.slice none 0 0,.slice none 0 0,.slice none 0 0] 220))=.ok () (w.alloc (.cells #[.int .i64 k,.slice a n1 c1,.slice b n2 c2,.slice c n3 c3] 220)):=by
 have:=run_storeCells_from (P:=Tryz.prog) w.heap.size 220 [.int .i64 k,.slice a n1 c1,.slice b n2 c2,.slice c n3 c3] 0 #[.int .i64 0,.slice none 0 0,.slice none 0 0,.slice none 0 0] _ (blk_alloc _) rfl (by intro v hv;simp at hv;rcases hv with rfl | rfl | rfl | rfl<;>rfl)
 rw[this,setRow_alloc]
 rfl
attribute [local go_sem] store4_run
theorem store16_run{w:World}{b:Nat}{C:Array Value}{T:TypeId}(h:w.heap[b]?=some (.cells C T (0,0)))(hC:C.size=16){l:List UInt8}(hl:l.length=16):(storeCells ⟨b,0,none⟩ (bts l) 0).run Tryz.prog w=.ok () (w.setRow b (bts l).toArray):=by
 have:=run_storeCells_from (P:=Tryz.prog) b T (bts l) 0 C w h (by rw[bts_length,hl,hC]) (bts_one l)
 rw[this]
 rfl
def z16:List UInt8:=List.replicate 16 0
theorem z16_bts:[.int .u8 0,.int .u8 0,.int .u8 0,.int .u8 0,.int .u8 0,.int .u8 0,.int .u8 0,.int .u8 0,.int .u8 0,.int .u8 0,.int .u8 0,.int .u8 0,.int .u8 0,.int .u8 0,.int .u8 0,.int .u8 0]=bts z16:=rfl
theorem get_end{w w4:World}{g:Sg}{M:Nat→Option Sec}(h0:SpAt w g M)(h4:SpAt w4 g M)(hu:Upd [g.j.jb] w w4){b6:Nat}(hb:w.heap.size≤b6)(cs:Array Value):SpAt (w4.setRow b6 cs) g M∧Upd [g.j.jb] w (w4.setRow b6 cs):=by
 have hr:Upd [b6] w4 (w4.setRow b6 cs):=upd_row (Upd.refl _ _) _ (.inl (by simp))
 exact⟨SpAt.late h0 h4 hu hr (fun k hk=>by simp at hk;omega),hu.late hr (fun k hk=> .inr (by simp at hk;omega))⟩
theorem val_size{l:List UInt8}(hl:l.length=16):(Tryz.prog.info? 115).map (·.size)=some (bts l).toArray.size:=by
 rw[infoVl,List.size_toArray,bts_length,hl]
theorem RRd.at{w:World}{a:Option Addr}{n c sz:Nat}{es:List (List Value)}(h:RRd w (.slice a n c) sz es){i:Nat}{e:List Value}(he:es[i]?=some e):∃b off,a=some ⟨b,off,none⟩∧w.rangeAt b (off+i*sz) e:=by
 obtain⟨ao,cap,ev,hc,hh⟩:=h
 injection ev with e1 e2 e3
 obtain⟨b,off,rfl,hr⟩:=hh (by have:=(List.getElem?_eq_some_iff.1 he).1;omega)
 exact⟨b,off,e1,hr i e he⟩
def getV:Option Bs→Value
 | some v=> .tuple #[.agg (bts v).toArray,.int .i64 0]
 | none=> .tuple #[.agg (bts z16).toArray,.int .i64 5]
set_option maxRecDepth 100000 in
set_option maxHeartbeats 4000000 in
theorem get_spec{w:World}{g:Sg}{M:Nat→Option Sec}(h:SpAt w g M){d a:Nat}{l:List Pair9}{S:List Nat}(hs:Shape (g.cur M) true d a l S)(hS:∀s,s∈S→4≤s∧s<g.h)(hd:d<16)(key:Bs)(hkey:key.length=32) :
  Calls Tryz.prog 61 #[.pointer (some ⟨g.x.tb,0,none⟩),.int .u32 (a:Int),arr key] w fun e w'=>e=.returned (getV (lookL l key))∧SpAt w' g M∧Upd [g.j.jb] w w':=by
 have hm:=hS a hs.mem.1
 have hb:((g.h:Int) == 0)=false:=by rw[beq_eq_false_iff_ne];omega
 have ha:((a:Int) == 0)=false:=by rw[beq_eq_false_iff_ne];omega
 obtain⟨wA,hwA⟩:∃wA,wA=(w.alloc (.cells (bts key).toArray 35)).alloc (.cells #[.int .u8 0,.int .u8 0,.int .u8 0,.int .u8 0,.int .u8 0,.int .u8 0,.int .u8 0,.int .u8 0,.int .u8 0,.int .u8 0,.int .u8 0,.int .u8 0,.int .u8 0,.int .u8 0,.int .u8 0,.int .u8 0] 115):=⟨_,rfl⟩
 have huA:Upd [] w wA:=by rw[hwA];exact((Upd.refl _ _).alloc _).alloc _
 obtain⟨b5,hb5⟩:∃b,b=w.heap.size:=⟨_,rfl⟩
 obtain⟨b6,hb6⟩:∃b,b=w.heap.size+1:=⟨_,rfl⟩
 have h5:wA.heap[b5]?=some (.cells (bts key).toArray 35 (0,0)):=by
  rw[hwA,hb5,blk_alloc_ne (by simp)];exact blk_alloc _
 have h6:wA.heap[b6]?=some (.cells #[.int .u8 0,.int .u8 0,.int .u8 0,.int .u8 0,.int .u8 0,.int .u8 0,.int .u8 0,.int .u8 0,.int .u8 0,.int .u8 0,.int .u8 0,.int .u8 0,.int .u8 0,.int .u8 0,.int .u8 0,.int .u8 0] 115 (0,0)):=by
  rw[hwA,hb6];have:=blk_alloc (w:=w.alloc (.cells (bts key).toArray 35)) (.cells #[.int .u8 0,.int .u8 0,.int .u8 0,.int .u8 0,.int .u8 0,.int .u8 0,.int .u8 0,.int .u8 0,.int .u8 0,.int .u8 0,.int .u8 0,.int .u8 0,.int .u8 0,.int .u8 0,.int .u8 0,.int .u8 0] 115);simpa using this
 have HO:=Lib.hid (homesS (h.below huA))
 have HH:=Lib.hid (h.below huA)
 have HH0:=Lib.hid h
 have HSH:=Lib.hid hs
 have HSS:=Lib.hid hS
 have HUA:=Lib.hid huA
 have HW:=Lib.hid hwA
 have HB5:=Lib.hid hb5
 have HB6:=Lib.hid hb6
 have H5:=Lib.hid h5
 have H6:=Lib.hid h6
 clear h hs hS hm huA hwA hb5 hb6 h5 h6
 unfold arr
 go_enter Tryz.func61,Tryz.ntmps61
 go_wp2_with fail
 have hwA:=HW.out
 have hb5:=HB5.out
 have hb6:=HB6.out
 rw[← hwA,← hb6,← hb5]
 clear hwA hb5 hb6
 refine HO.out.mono ?_
 rintro e w1 ⟨rfl,n1,hn1⟩
 have HU1:Hid (Upd [] wA w1):=by show Upd _ _ _;rw[hn1];exact(Upd.refl _ _).drewN _
 clear hn1
 go_wp2_with fail
 go_loopw [20,1] (fun i r wr=>∃(q:Nat) (b:Bool) (d' a':Nat) (l':List Pair9) (S':List Nat),q+d'=d∧i=.int .i64 (q:Int)∧r=.int .u32 (a':Int)∧Shape (g.cur M) b d' a' l' S'∧lookL l key=lookL l' key∧(∀s,s∈S'→s∈S)∧wr.heap[b5]?=some (.cells (bts key).toArray 35 (0,0))∧wr.heap[b6]?=some (.cells #[.int .u8 0,.int .u8 0,.int .u8 0,.int .u8 0,.int .u8 0,.int .u8 0,.int .u8 0,.int .u8 0,.int .u8 0,.int .u8 0,.int .u8 0,.int .u8 0,.int .u8 0,.int .u8 0,.int .u8 0,.int .u8 0] 115 (0,0))∧SpAt wr g M∧Upd [g.j.jb] w wr) (fun i _ _=>16-(intOf i).toNat)
 case atStart=>exact⟨0,true,d,a,l,S,by omega,rfl,rfl,HSH.out,rfl,fun _ q=>q,(HU1.out.block _ (blk_lt H5.out) (by simp)).trans H5.out,(HU1.out.block _ (blk_lt H6.out) (by simp)).trans H6.out,HH.out.below HU1.out,(HUA.out.trans HU1.out).mono (by simp)⟩
 case round=>
  obtain⟨q,b,d',a',l',S',hq,rfl,rfl,hsh,hlo,hsub,h5,h6,hsp,hu⟩:=hrel
  have hlt:decide ((q:Int)<16)=true:=decide_eq_true (by omega)
  have hlt2:decide (q<16)=true:=decide_eq_true (by omega)
  have ham:=HSS.out a' (hsub a' hsh.mem.1)
  have ha4:=hsh.mem.2
  have hj5:b5∉[g.j.jb]:=by simp;rintro rfl;have:=hsp.jr.at_.st;rw[h5] at this;simp at this
  have hj6:b6∉[g.j.jb]:=by simp;rintro rfl;have:=hsp.jr.at_.st;rw[h6] at this;simp at this
  cases d' with
  | zero=>
   have hr:=read_leaf hsp a' ham.2 ha4 hsh.2.2.1 hsh.2.2.2.1
   have hlo2:=hlo.trans (lookL_leaf l' key)
   have hok0:=hsh.2.2.1
   generalize l'.map (·.1)=K at *
   generalize l'.map (·.2)=V at *
   have HR:=Lib.hid hr
   have HUr:=Lib.hid hu
   have HOK:=Lib.hid hok0
   have HLO:=Lib.hid hlo2
   have H5r:=Lib.hid h5
   have H6r:=Lib.hid h6
   clear hr hsh hsub hsp hu hlo h5 h6 hlo2 hok0
   go_wp2_with fail
   refine HR.out.mono ?_
   rintro e w2 ⟨vk,vv,rfl,hK,hV,h2,hu2⟩
   obtain⟨ak,ck,rfl⟩:=own_shape hK
   obtain⟨av,cv,rfl⟩:=own_shape hV
   have hj5w:wr.heap[b5]?=w2.heap[b5]?:=(hu2.block _ (blk_lt H5r.out) hj5).symm
   have hj6w:wr.heap[b6]?=w2.heap[b6]?:=(hu2.block _ (blk_lt H6r.out) hj6).symm
   have h5:=hj5w.symm.trans H5r.out
   have h6:=hj6w.symm.trans H6r.out
   obtain⟨w3,hw3⟩:∃w3,w3=w2.alloc (.cells #[.int .i64 1,.slice ak K.length ck,.slice av V.length cv,.slice none 0 0] 220):=⟨_,rfl⟩
   have hu3:Upd [] w2 w3:=by rw[hw3];exact(Upd.refl _ _).alloc _
   have h5':=(hu3.block _ (blk_lt h5) (by simp)).trans h5
   have h6':=(hu3.block _ (blk_lt h6) (by simp)).trans h6
   have h8:w3.heap[w2.heap.size]?=some (.cells #[.int .i64 1,.slice ak K.length ck,.slice av V.length cv,.slice none 0 0] 220 (0,0)):=by rw[hw3];exact blk_alloc _
   have hok:=HOK.out
   have hKd:=(KOwn.rd hK hok.k).keep hu3 (fun _ _ _ _=>by simp)
   have hVd:=(VOwn.rd hV hok.v).keep hu3 (fun _ _ _ _=>by simp)
   have hF:=find_spec (vv:=.slice av V.length cv) (vd:=.slice none 0 0) 1 hKd hok.k (by have:=hok.most;omega) key hkey
   have l1:=run_cells_blk (n:=4) (cs:=[.int .i64 1,.slice ak K.length ck,.slice av V.length cv,.slice none 0 0]) h8 rfl
   have l2:=run_cells_blk (n:=32) h5' (by rw[bts_length,hkey])
   have kc:=blk_cell h8 2
   have HF:=Lib.hid hF
   have HU3:=Lib.hid hu3
   have HW3:=Lib.hid hw3
   have H63:=Lib.hid h6'
   have HVd:=Lib.hid hVd
   have HU2:=Lib.hid (HUr.out.trans hu2)
   have H2:=Lib.hid h2
   have HC2:=Lib.hid h8
   rw[hw3] at l1 l2
   clear hK hV hj5w hj6w h5 h6 hu3 h5' h6' h8 hok hKd hVd hF kc hw3 h2 hu2
   have hP:=posK_le K key
   unfold arr at *
   cases hh:hasK K key
   ·have hf:=HF.out
    rw[hh] at hf
    have HFb:=Lib.hid hf
    have hlo:=HLO.out
    rw[hh,if_neg (by simp)] at hlo
    have HLb:=Lib.hid hlo
    clear hf
    clear hh hlo HF HLO
    generalize posK K key=P at *
    go_wp2_with fail
    have hw3:=HW3.out
    rw[← hw3]
    refine HFb.out.mono ?_
    rintro e w4 ⟨rfl,hu4⟩
    have h6:=(hu4.block _ (blk_lt H63.out) (by simp)).trans H63.out
    have s6:=store16_run h6 rfl (l:=z16) rfl
    rw[← z16_bts] at s6
    go_wp2_with fail
    rw[z16_bts]
    refine bodyPost_ret (results_row_tmp (p:=6) (u:=7) (ty:=115) (by rfl) _ _ b6 _ (by rfl) (run_loadVar_row _ b6 _ _ _ _ _ (setRow_heap _ _ _ _ _ _ h6) Tryz.underlying115 rfl (val_size (l:=z16) rfl))) (by rfl) ?_
    exact⟨by rw[HLb.out];rfl,get_end HH0.out (H2.out.below (HU3.out.trans hu4)) (HU2.out.trans ((HU3.out.trans hu4).mono (by simp))) (by have:=HB6.out;omega) _⟩
   ·obtain⟨x,hx⟩:∃x,V[posK K key]?=some x:=by
     have hlt:posK K key<V.length:=by
      have:=HOK.out.n
      unfold hasK at hh
      have:=of_decide_eq_true hh
      have:=(List.getElem?_eq_some_iff.1 this).1
      omega
     exact⟨_,List.getElem?_eq_getElem hlt⟩
    have hf:=HF.out
    rw[hh] at hf
    have HFb:=Lib.hid hf
    have hxl:=HOK.out.v x (List.mem_of_getElem? hx)
    have hlo:=HLO.out
    rw[hh,if_pos rfl,hx] at hlo
    have HLb:=Lib.hid hlo
    have hPV:posK K key<V.length:=(List.getElem?_eq_some_iff.1 hx).1
    obtain⟨bv,off,rfl,hrv⟩:=HVd.out.at (i:=posK K key) (e:=bts x) (by rw[List.getElem?_map,hx];rfl)
    clear hf hlo hh hx HF HLO
    generalize posK K key=P at *
    have hP0:(P:Int)<(V.length:Int):=by omega
    go_wp2_with fail
    have hw3:=HW3.out
    rw[← hw3]
    refine HFb.out.mono ?_
    rintro e w4 ⟨rfl,hu4⟩
    have h6:=(hu4.block _ (blk_lt H63.out) (by simp)).trans H63.out
    have s6:=store16_run h6 rfl (l:=x) hxl
    have h8:=(hu4.block _ (blk_lt HC2.out) (by simp)).trans HC2.out
    have k8:=blk_cell h8 2
    have hrv4:=range_upd hrv hu4 (by simp)
    have l16:=run_cells16 hrv4 hxl
    go_wp2_with fail
    refine bodyPost_ret (results_row_tmp (p:=6) (u:=7) (ty:=115) (by rfl) _ _ b6 _ (by rfl) (run_loadVar_row _ b6 _ _ _ _ _ (setRow_heap _ _ _ _ _ _ h6) Tryz.underlying115 rfl (val_size hxl))) (by rfl) ?_
    exact⟨by rw[HLb.out];rfl,get_end HH0.out (H2.out.below (HU3.out.trans hu4)) (HU2.out.trans ((HU3.out.trans hu4).mono (by simp))) (by have:=HB6.out;omega) _⟩
  | succ d'=>
   obtain⟨_,ks,ds,S2,e1,hok,hc,_,hpw,hk⟩:=hsh
   obtain⟨kid,la,lc,lb,Sa,Sc,Sb,hkid,el,eS,hsc,hla,hlb,_⟩:=hk.turn (key:=key) hpw
   have hr:=read_inner hsp a' ham.2 ha4 hok hc
   have HSB:Hid (∀s,s∈Sc→s∈S):=by show ∀s,_;exact fun s hs=>hsub s (by rw[e1,eS];simp[hs])
   have HLO:Hid (lookL l key=lookL lc key):=by show _=_;rw[hlo,el,lookL_mid hla hlb]
   have HR:=Lib.hid hr
   have HUr:=Lib.hid hu
   have HOK:=Lib.hid hok
   have HKID:=Lib.hid hkid
   have HSC:=Lib.hid hsc
   have H5r:=Lib.hid h5
   have H6r:=Lib.hid h6
   clear hr hsub hsp hu hok hc hk hkid hsc el eS e1 hla hlb hlo h5 h6 hpw
   go_wp2_with fail
   refine HR.out.mono ?_
   rintro e w2 ⟨vk,vd,rfl,hK,hD,h2,hu2⟩
   obtain⟨ak,ck,rfl⟩:=own_shape hK
   have hI:chK ks key<ds.length:=(List.getElem?_eq_some_iff.1 HKID.out).1
   obtain⟨gd,cap,rfl,_,hcell⟩:=hD.cell (by omega)
   have h5:=(hu2.block _ (blk_lt H5r.out) hj5).trans H5r.out
   have h6:=(hu2.block _ (blk_lt H6r.out) hj6).trans H6r.out
   obtain⟨w3,hw3⟩:∃w3,w3=w2.alloc (.cells #[.int .i64 2,.slice ak ks.length ck,.slice none 0 0,.slice (some ⟨gd,0,none⟩) ds.length cap] 220):=⟨_,rfl⟩
   have hu3:Upd [] w2 w3:=by rw[hw3];exact(Upd.refl _ _).alloc _
   have h5':=(hu3.block _ (blk_lt h5) (by simp)).trans h5
   have h6':=(hu3.block _ (blk_lt h6) (by simp)).trans h6
   obtain⟨b8,hb8⟩:∃b,b=w2.heap.size:=⟨_,rfl⟩
   have h8:w3.heap[b8]?=some (.cells #[.int .i64 2,.slice ak ks.length ck,.slice none 0 0,.slice (some ⟨gd,0,none⟩) ds.length cap] 220 (0,0)):=by rw[hw3,hb8];exact blk_alloc _
   have hKd:=(KOwn.rd hK HOK.out.k).keep hu3 (fun _ _ _ _=>by simp)
   have hC:=child_spec (w:=w3.drew) (vv:=.slice none 0 0) (vd:=.slice (some ⟨gd,0,none⟩) ds.length cap) 2 (hKd.keep (Upd.refl [] _).drew (fun _ _ _ _=>by simp)) HOK.out.k (by have:=HOK.out.most;omega) key hkey
   have l1:=run_cells_blk (w:=w3.drew) (n:=4) (cs:=[.int .i64 2,.slice ak ks.length ck,.slice none 0 0,.slice (some ⟨gd,0,none⟩) ds.length cap]) h8 rfl
   have l2:=run_cells_blk (w:=w3.drew) (n:=32) h5' (by rw[bts_length,hkey])
   have kc:=blk_cell h8 3
   have kd:=cell_upd (hcell _ _ HKID.out) hu3 (by simp)
   have HC:=Lib.hid hC
   have HU3:=Lib.hid hu3
   have HW3:=Lib.hid hw3
   have HB8:=Lib.hid hb8
   have H53:=Lib.hid h5'
   have H63:=Lib.hid h6'
   have HU2:=Lib.hid (HUr.out.trans hu2)
   have H2:=Lib.hid h2
   have k0:=blk_cell h8 0
   have hIi:((chK ks key:Nat):Int)<(ds.length:Int):=by omega
   clear hK hD h5 h6 hu3 h5' h6' h8 hKd hC hb8 hw3 h2 hu2 hcell hI
   unfold arr at *
   generalize chK ks key=I at *
   go_wp2_with fail
   have hw3:=HW3.out
   have hb8:=HB8.out
   rw[← hw3,← hb8]
   clear hw3 hb8
   go_region_law (first | (go_simp;go_at_call 135;(with_reducible refine HC.out.mono ?_);rintro e w4 ⟨rfl,hu4⟩;have kc4:=cell_upd kc ((Upd.refl [] _).drew.trans hu4) (by simp);have kd4:=cell_upd kd ((Upd.refl [] _).drew.trans hu4) (by simp);have HU4:=Lib.hid hu4;clear hu4;dsimp only))
   all_goals
    go_wp2_with fail
    have hu34:=(HU3.out.trans (Upd.refl [] _).drew).trans HU4.out
    have hu43:=(Upd.refl [] w3).drew.trans HU4.out
    exact⟨⟨q+1,false,d',kid,lc,Sc,by omega,by go_num,rfl,HSC.out,HLO.out,HSB.out,(hu43.block _ (blk_lt H53.out) (by simp)).trans H53.out,(hu43.block _ (blk_lt H63.out) (by simp)).trans H63.out,H2.out.below hu34,HU2.out.trans (hu34.mono (by simp))⟩,by simp[intOf];omega⟩
end
end Go.Proofs.YtgfbepakonjbnaaGreat
end
