/-
  A tree of sectors, as its pairs. No program in sight. A child of a node is turned, or parted. No program in sight. A pair is put into a rising list; a node is parted. No program in sight.
-/
import Derived.Test.YtgfbepakonjbnaaGreatZ12
set_option maxRecDepth 100000
set_option maxHeartbeats 16000000
section
section
namespace Go.Proofs.YtgfbepakonjbnaaGreat
open Go.RowKit
abbrev B0:=Bs × Bs
inductive I6 (P:Nat->List B0->List Nat->Prop):List Bs->List Nat->List B0->List Nat->Prop
 | one {k:Nat} {l:List B0} {S:List Nat}:P k l S->I6 P [] [k] l S
 | more {k:Nat} {l:List B0} {S:List Nat} {key:Bs} {ks:List Bs} {ds:List Nat} {l2:List B0} {S2:List Nat}:P k l S->(∀p,p∈l->ltB p.1 key=true)->(∀p,p∈l2->ltB p.1 key=false)->I6 P ks ds l2 S2->I6 P (key :: ks) (k :: ds) (l++l2) (S++S2)
def E3(C:Nat->Sec):Bool->Nat->Nat->List B0->List Nat->Prop
 | root,0,a,l,S=>S=[a]/\a<4294967296/\K5 (l.map (·.1)) (l.map (·.2))/\C a=C8 (l.map (·.1)) (l.map (·.2))/\(if root then 1 else 5)<=l.length/\(l.map (·.1)).Pairwise (λ x y=>ltB x y=true)
 | root,d+1,a,l,S=>a<4294967296/\∃ks ds S',S=a :: S'/\G0 ks ds/\C a=B5 ks ds/\(if root then 1 else 6)<=ks.length/\ks.Pairwise (λ x y=>ltB x y=true)/\I6 (λ k l S=>E3 C false d k l S) ks ds l S'
theorem I6.mono{P Q:Nat->List B0->List Nat->Prop}{ks:List Bs}{ds:List Nat}{l:List B0}{S:List Nat}(h:I6 P ks ds l S)(hpq:∀k l' S',(∀s,s∈S'->s∈S)->P k l' S'->Q k l' S'):I6 Q ks ds l S:=by
 induction h with
 | one h=>exact .one (hpq _ _ _ (λ _ q=>q) h)
 | more h h1 h2 hk ih=>exact .more (hpq _ _ _ (λ s q=>List.mem_append_left _ q) h) h1 h2 (ih λ k l' S' hs=>hpq k l' S' λ s q=>List.mem_append_right _ (hs s q))
theorem E3.keep{C C':Nat->Sec}:∀{d:Nat} {root:Bool} {a:Nat} {l:List B0} {S:List Nat},E3 C root d a l S->(∀s,s∈S->C' s=C s)->E3 C' root d a l S
 | 0,root,a,l,S,h,hc=>by
  obtain⟨h1,h2,h3,h4,h5⟩:=h;exact⟨h1,h2,h3,by rw[hc a (by rw[h1];simp)];exact h4,h5⟩
 | d+1,root,a,l,S,h,hc=>by
  obtain⟨h0,ks,ds,S',h1,h2,h3,h4,h5,h6⟩:=h;refine⟨h0,ks,ds,S',h1,h2,by rw[hc a (by rw[h1];simp)];exact h3,h4,h5,h6.mono λ k l' S'' hs h=>?_⟩;exact E3.keep (d:=d) h λ s q=>hc s (by rw[h1];exact List.mem_cons_of_mem _ (hs s q))
theorem E3.mem{C:Nat->Sec}:∀{d:Nat} {root:Bool} {a:Nat} {l:List B0} {S:List Nat},E3 C root d a l S->a∈S/\a<4294967296
 | 0,_,_,_,_,h=>⟨by rw[h.1];simp,h.2.1⟩
 | _+1,_,_,_,_,h=>by obtain⟨h0,ks,ds,S',h1,_⟩:=h;exact⟨by rw[h1];simp,h0⟩
theorem Ad6(key:Bs):chK [] key=0:=by unfold chK I4 F4;simp
theorem Y1(k:Bs)(ks:List Bs)(key:Bs):chK (k :: ks) key=if ltB k key then chK ks key+1 else if k=key then 1 else 0:=by
 unfold chK I4;cases h:ltB k key
 ·have hp:F4 (k :: ks) key=0:=by unfold F4;rw[h];rfl
  rw[hp];by_cases e:k=key
  ·simp[e]
  ·simp[e]
 ·have hp:F4 (k :: ks) key=F4 ks key+1:=by rw[F4,h];rfl
  rw[hp];simp only[List.getElem?_cons_succ,if_true];split<;>rfl
theorem J9{a b c:Bs}(h:ltB b a=false)(k:ltB b c=true):ltB a c=true:=by
 cases q:ltB a b
 ·rw[X1 q h];exact k
 ·exact I8 q k
theorem I6.at{P:Nat->List B0->List Nat->Prop}{key:Bs}:∀{ks:List Bs} {ds:List Nat} {l:List B0} {S:List Nat},I6 P ks ds l S->ks.Pairwise (λ x y=>ltB x y=true)->
  ∃k la lc lb Sa Sc Sb,ds[chK ks key]?=some k/\l=la++(lc++lb)/\S=Sa++(Sc++Sb)/\P k lc Sc/\(∀p,p∈la->ltB p.1 key=true)/\(∀p,p∈lb->ltB key p.1=true)/\
   (∀x,x∈ks->(∀p,p∈lc->ltB p.1 x=true)/\ltB key x=true∨(∀p,p∈lc->ltB p.1 x=false)/\ltB key x=false)
 | _,_,l,S,.one (k:=k) h,_=>⟨k,[],l,[],[],S,[],by rw[Ad6];rfl,by simp,by simp,h,by simp,by simp,by simp⟩
 | _,_,_,_,.more (k:=k) (l:=l) (S:=S) (key:=x) (ks:=ks) (ds:=ds) (l2:=l2) (S2:=S2) h h1 h2 hk,hp=>by
  have hp2:=(List.pairwise_cons.1 hp).2;have hp1:=(List.pairwise_cons.1 hp).1;rw[Y1];have rest:ltB key x=false->∃k' la lc lb Sa Sc Sb,(k :: ds)[chK ks key+1]?=some k'/\l++l2=la++(lc++lb)/\S++S2=Sa++(Sc++Sb)/\P k' lc Sc/\(∀p,p∈la->ltB p.1 key=true)/\(∀p,p∈lb->ltB key p.1=true)/\
    (∀y,y∈x :: ks->(∀p,p∈lc->ltB p.1 y=true)/\ltB key y=true∨(∀p,p∈lc->ltB p.1 y=false)/\ltB key y=false):=by
   intro hle;obtain⟨k',la,lc,lb,Sa,Sc,Sb,e1,e2,e3,e4,e5,e6,e7⟩:=I6.at (key:=key) hk hp2;refine⟨k',l++la,lc,lb,S++Sa,Sc,Sb,by simpa using e1,by rw[e2];simp,by rw[e3];simp,e4,λ p hq=>?_,e6,λ y hy=>?_⟩
   ·rcases List.mem_append.1 hq with q | q
    ·cases hc:ltB p.1 key
     ·have:=h1 p q;have:=J9 (a:=key) hc this;rw[hle] at this;simp at this
     ·rfl
    ·exact e5 p q
   ·rcases List.mem_cons.1 hy with rfl | hy
    ·exact .inr ⟨λ p hq=>h2 p (by rw[e2];simp[hq]),hle⟩
    ·exact e7 y hy
  cases hx:ltB x key
  ·by_cases e:x=key
   ·rw[if_pos e];have hz:chK ks key=0:=by
     cases ks with
     | nil=>exact Ad6 key
     | cons y ks=>
      have:=hp1 y (by simp);rw[e] at this;rw[Y1,P3 this];simp only[Bool.false_eq_true,if_false];rw[if_neg (by rintro rfl;rw[L5] at this;simp at this)]
    have:=rest (by rw[e];exact L5 _);rw[hz] at this;exact this
   ·rw[if_neg e];have hlt:ltB key x=true:=by
     cases q:ltB key x
     ·exact absurd (X1 hx q) e
     ·rfl
    refine⟨k,[],l,l2,[],S,S2,rfl,by simp,by simp,h,by simp,λ p hq=>?_,λ y hy=> .inl ⟨λ p hq=>?_,?_⟩⟩
    ·have:=h2 p hq;cases q:ltB key p.1
     ·have:=J9 (a:=p.1) q hlt;rw[h2 p hq] at this;simp at this
     ·rfl
    ·rcases List.mem_cons.1 hy with rfl | hy
     ·exact h1 p hq
     ·exact I8 (h1 p hq) (hp1 y hy)
    ·rcases List.mem_cons.1 hy with rfl | hy
     ·exact hlt
     ·exact I8 hlt (hp1 y hy)
  ·simp only[if_true];exact rest (P3 hx)
end Go.Proofs.YtgfbepakonjbnaaGreat
end
section
namespace Go.Proofs.YtgfbepakonjbnaaGreat
open Go.RowKit
def E6{α:Type}(l:List α)(i:Nat)(x:α):List α:=l.take i++x :: l.drop i
theorem Ah1{α:Type}(l:List α)(x:α):E6 l 0 x=x :: l:=by simp[E6]
theorem Z1{α:Type}(a:α)(l:List α)(i:Nat)(x:α):E6 (a :: l) (i+1) x=a :: E6 l i x:=by simp[E6]
theorem M8{α:Type}(l:List α)(i:Nat)(x:α)(hi:i<=l.length):(E6 l i x).length=l.length+1:=by simp[E6];omega
theorem Af5{α:Type}{l:List α}{i:Nat}{x y:α}(h:y∈E6 l i x):y=x∨y∈l:=by
 unfold E6 at h;rcases List.mem_append.1 h with q | q
 ·exact .inr (List.mem_of_mem_take q)
 ·rcases List.mem_cons.1 q with q | q
  ·exact .inl q
  ·exact .inr (List.mem_of_mem_drop q)
def Aq7(ks:List Bs)(key:Bs)(l:List B0):Prop:=∀x,x∈ks->(ltB key x=true->∀p,p∈l->ltB p.1 x=true)/\(ltB key x=false->∀p,p∈l->ltB p.1 x=false)
def Bz4(ks:List Bs)(key k':Bs):Prop:=∀x,x∈ks->(ltB key x=true->ltB k' x=true)/\(ltB key x=false->ltB x k'=true)
theorem Aq7.tail{x:Bs}{ks:List Bs}{key:Bs}{l:List B0}(h:Aq7 (x :: ks) key l):Aq7 ks key l:=λ y hy=>h y (List.mem_cons_of_mem _ hy)
theorem Bz4.tail{x:Bs}{ks:List Bs}{key k':Bs}(h:Bz4 (x :: ks) key k'):Bz4 ks key k':=λ y hy=>h y (List.mem_cons_of_mem _ hy)
theorem Az0{key k':Bs}:∀{ks:List Bs},ks.Pairwise (λ x y=>ltB x y=true)->Bz4 ks key k'->(E6 ks (chK ks key) k').Pairwise (λ x y=>ltB x y=true)
 | [],_,_=>by rw[Ad6,Ah1];simp
 | x :: ks,hp,hf=>by
  have hp1:=(List.pairwise_cons.1 hp).1;have hp2:=(List.pairwise_cons.1 hp).2;rw[Y1];have step:ltB key x=false->(E6 (x :: ks) (chK ks key+1) k').Pairwise (λ x y=>ltB x y=true):=λ hle=>by
   rw[Z1];refine List.pairwise_cons.2 ⟨λ y hy=>?_,Az0 hp2 hf.tail⟩;rcases Af5 hy with rfl | q
   ·exact(hf x (by simp)).2 hle
   ·exact hp1 y q
  cases hx:ltB x key
  ·by_cases e:x=key
   ·rw[if_pos e];have hz:chK ks key=0:=by
     cases ks with
     | nil=>exact Ad6 key
     | cons y ks=>
      have:=hp1 y (by simp);rw[e] at this;rw[Y1,P3 this];simp only[Bool.false_eq_true,if_false];rw[if_neg (by rintro rfl;rw[L5] at this;simp at this)]
    have:=step (by rw[e];exact L5 _);rw[hz] at this;exact this
   ·rw[if_neg e];have hlt:ltB key x=true:=by
     cases q:ltB key x
     ·exact absurd (X1 hx q) e
     ·rfl
    show(E6 (x :: ks) 0 k').Pairwise _
    rw[Ah1];refine List.pairwise_cons.2 ⟨λ y hy=>?_,hp⟩;rcases List.mem_cons.1 hy with rfl | q
    ·exact(hf y (by simp)).1 hlt
    ·exact(hf y (by simp[q])).1 (I8 hlt (hp1 y q))
  ·simp only[if_true];exact step (P3 hx)
def Cq4(P:Nat->List B0->List Nat->Prop)(key:Bs)(ks:List Bs)(ds:List Nat)(l:List B0)(S:List Nat)(i:Nat):Prop:=
 ∃k la lc lb Sa Sc Sb,ds[i]?=some k/\l=la++(lc++lb)/\S=Sa++(Sc++Sb)/\P k lc Sc/\(∀p,p∈la->ltB p.1 key=true)/\(∀p,p∈lb->ltB key p.1=true)/\Aq7 ks key lc/\
  (∀(Q:Nat->List B0->List Nat->Prop) lc' Sc',(∀k l S',P k l S'->(∀s,s∈S'->s∈Sa∨s∈Sb)->Q k l S')->Q k lc' Sc'->Aq7 ks key lc'->I6 Q ks ds (la++(lc'++lb)) (Sa++(Sc'++Sb)))/\
  (∀(Q:Nat->List B0->List Nat->Prop) k2 k' l1 S1 l2 S2,(∀k l S',P k l S'->(∀s,s∈S'->s∈Sa∨s∈Sb)->Q k l S')->Q k l1 S1->Q k2 l2 S2->(∀p,p∈l1->ltB p.1 k'=true)->(∀p,p∈l2->ltB p.1 k'=false)->Aq7 ks key (l1++l2)->Bz4 ks key k'->
   I6 Q (E6 ks i k') (E6 ds (i+1) k2) (la++((l1++l2)++lb)) (Sa++((S1++S2)++Sb)))
theorem I6.turn{P:Nat->List B0->List Nat->Prop}{key:Bs}:∀{ks:List Bs} {ds:List Nat} {l:List B0} {S:List Nat},I6 P ks ds l S->ks.Pairwise (λ x y=>ltB x y=true)->Cq4 P key ks ds l S (chK ks key)
 | _,_,l,S,.one (k:=k) h,_=>by
  rw[Ad6];refine⟨k,[],l,[],[],S,[],rfl,by simp,by simp,h,by simp,by simp,λ x hx=>by simp at hx,λ Q lc' Sc' _ hq _=>by simpa using I6.one hq,λ Q k2 k' l1 S1 l2 S2 _ h1 h2 b1 b2 _ _=>?_⟩;have:=I6.more h1 b1 b2 (I6.one h2);simpa [E6] using this
 | _,_,_,_,.more (k:=k) (l:=l) (S:=S) (key:=x) (ks:=ks) (ds:=ds) (l2:=l2) (S2:=S2) h h1 h2 hk,hp=>by
  have hp2:=(List.pairwise_cons.1 hp).2;have hp1:=(List.pairwise_cons.1 hp).1;rw[Y1];have rest:ltB key x=false->Cq4 P key (x :: ks) (k :: ds) (l++l2) (S++S2) (chK ks key+1):=by
   intro hle;obtain⟨k',la,lc,lb,Sa,Sc,Sb,e1,e2,e3,e4,e5,e6,e7,t1,t2⟩:=I6.turn (key:=key) hk hp2;refine⟨k',l++la,lc,lb,S++Sa,Sc,Sb,by simpa using e1,by rw[e2];simp,by rw[e3];simp,e4,λ p hq=>?_,e6,λ y hy=>?_,λ Q lc' Sc' ho hq hf=>?_,λ Q k2 kn l1 S1 l2' S2' ho q1 q2 b1 b2 hf hfk=>?_⟩
   ·rcases List.mem_append.1 hq with q | q
    ·cases hc:ltB p.1 key
     ·have:=J9 (a:=key) hc (h1 p q);rw[hle] at this;simp at this
     ·rfl
    ·exact e5 p q
   ·rcases List.mem_cons.1 hy with rfl | hy
    ·exact⟨λ q=>by rw[hle] at q;simp at q,λ _ p hq=>h2 p (by rw[e2];simp[hq])⟩
    ·exact e7 y hy
   ·have hK:=t1 Q lc' Sc' (λ k l S' hP hs=>ho k l S' hP λ s q=>by rcases hs s q with r | r<;>simp[r]) hq hf.tail
    have:=I6.more (ho _ _ _ h (λ s q=> .inl (by simp[q]))) h1 (λ p hq=>?_) hK
    ·simpa using this
    ·rcases List.mem_append.1 hq with q | q
     ·exact h2 p (by rw[e2];simp[q])
     ·rcases List.mem_append.1 q with q | q
      ·exact(hf x (by simp)).2 hle p q
      ·exact h2 p (by rw[e2];simp[q])
   ·have hK:=t2 Q k2 kn l1 S1 l2' S2' (λ k l S' hP hs=>ho k l S' hP λ s q=>by rcases hs s q with r | r<;>simp[r]) q1 q2 b1 b2 hf.tail hfk.tail
    have:=I6.more (ho _ _ _ h (λ s q=> .inl (by simp[q]))) h1 (λ p hq=>?_) hK
    ·rw[Z1,Z1];simpa using this
    ·rcases List.mem_append.1 hq with q | q
     ·exact h2 p (by rw[e2];simp[q])
     ·rcases List.mem_append.1 q with q | q
      ·exact(hf x (by simp)).2 hle p q
      ·exact h2 p (by rw[e2];simp[q])
  cases hx:ltB x key
  ·by_cases e:x=key
   ·rw[if_pos e];have hz:chK ks key=0:=by
     cases ks with
     | nil=>exact Ad6 key
     | cons y ks=>
      have:=hp1 y (by simp);rw[e] at this;rw[Y1,P3 this];simp only[Bool.false_eq_true,if_false];rw[if_neg (by rintro rfl;rw[L5] at this;simp at this)]
    have:=rest (by rw[e];exact L5 _);rw[hz] at this;exact this
   ·rw[if_neg e];have hlt:ltB key x=true:=by
     cases q:ltB key x
     ·exact absurd (X1 hx q) e
     ·rfl
    have hgt:∀p,p∈l2->ltB key p.1=true:=λ p hq=>by
     cases q:ltB key p.1
     ·have:=J9 (a:=p.1) q hlt;rw[h2 p hq] at this;simp at this
     ·rfl
    refine⟨k,[],l,l2,[],S,S2,rfl,by simp,by simp,h,by simp,hgt,λ y hy=>⟨λ _ p hq=>?_,λ q=>?_⟩,λ Q lc' Sc' ho hq hf=>?_,λ Q k2 kn l1 S1 l2' S2' ho q1 q2 b1 b2 hf hfk=>?_⟩
    ·rcases List.mem_cons.1 hy with rfl | hy
     ·exact h1 p hq
     ·exact I8 (h1 p hq) (hp1 y hy)
    ·rcases List.mem_cons.1 hy with rfl | hy
     ·rw[hlt] at q;simp at q
     ·rw[I8 hlt (hp1 y hy)] at q;simp at q
    ·have:=I6.more hq (λ p hq=>(hf x (by simp)).1 hlt p hq) h2 (hk.mono λ k l' S' hs hP=>ho k l' S' hP λ s q=> .inr (hs s q));simpa using this
    ·have hK:=hk.mono (Q:=Q) λ k l' S' hs hP=>ho k l' S' hP λ s q=> .inr (hs s q);have hin:=I6.more q2 (λ p hq=>(hf x (by simp)).1 hlt p (by simp[hq])) h2 hK;have:=I6.more q1 b1 (λ p hq=>?_) hin
     ·simp only[Bool.false_eq_true,if_false];rw[Ah1,Z1,Ah1];simpa using this
     ·rcases List.mem_append.1 hq with q | q
      ·exact b2 p q
      ·cases r:ltB p.1 kn
       ·rfl
       ·have:=I8 r ((hfk x (by simp)).1 hlt);rw[h2 p q] at this;simp at this
  ·simp only[if_true];exact rest (P3 hx)
end Go.Proofs.YtgfbepakonjbnaaGreat
end
section
namespace Go.Proofs.YtgfbepakonjbnaaGreat
open Go.RowKit
def J8:List B0->Bs->Bs->List B0
 | [],key,v=>[(key,v)]
 | p :: l,key,v=>if ltB p.1 key then p :: J8 l key v else if p.1=key then(key,v) :: l else(key,v) :: p :: l
theorem Af6:∀(l:List B0) (key v:Bs),(J8 l key v).map (·.1)=if I4 (l.map (·.1)) key then l.map (·.1) else E6 (l.map (·.1)) (F4 (l.map (·.1)) key) key
 | [],key,v=>by simp[J8,I4,F4,E6]
 | p :: l,key,v=>by
  have ih:=Af6 l key v;unfold J8;cases h:ltB p.1 key
  ·have hp:F4 ((p :: l).map (·.1)) key=0:=by rw[List.map_cons,F4,h];rfl
   have hh:I4 ((p :: l).map (·.1)) key=decide (p.1=key):=by unfold I4;rw[hp];simp
   rw[hp,hh];by_cases e:p.1=key
   ·simp[e]
   ·simp[e,E6]
  ·have hp:F4 ((p :: l).map (·.1)) key=F4 (l.map (·.1)) key+1:=by rw[List.map_cons,F4,h];rfl
   have hh:I4 ((p :: l).map (·.1)) key=I4 (l.map (·.1)) key:=by unfold I4;rw[hp];simp
   rw[hp,hh];simp only[if_true,List.map_cons,ih];split
   ·rfl
   ·rw[Z1]
theorem Ak7:∀(l:List B0) (key v:Bs),(J8 l key v).map (·.2)=if I4 (l.map (·.1)) key then(l.map (·.2)).set (F4 (l.map (·.1)) key) v else E6 (l.map (·.2)) (F4 (l.map (·.1)) key) v
 | [],key,v=>by simp[J8,I4,F4,E6]
 | p :: l,key,v=>by
  have ih:=Ak7 l key v;unfold J8;cases h:ltB p.1 key
  ·have hp:F4 ((p :: l).map (·.1)) key=0:=by rw[List.map_cons,F4,h];rfl
   have hh:I4 ((p :: l).map (·.1)) key=decide (p.1=key):=by unfold I4;rw[hp];simp
   rw[hp,hh];by_cases e:p.1=key
   ·simp[e]
   ·simp[e,E6]
  ·have hp:F4 ((p :: l).map (·.1)) key=F4 (l.map (·.1)) key+1:=by rw[List.map_cons,F4,h];rfl
   have hh:I4 ((p :: l).map (·.1)) key=I4 (l.map (·.1)) key:=by unfold I4;rw[hp];simp
   rw[hp,hh];simp only[if_true,List.map_cons,ih];split
   ·simp
   ·rw[Z1]
theorem Aa5{l:List B0}{key v:Bs}:∀{p:B0},p∈J8 l key v->p=(key,v)∨p∈l:=by
 induction l with
 | nil=>intro p h;simp[J8] at h;exact .inl h
 | cons q l ih=>
  intro p h;unfold J8 at h;split at h
  ·rcases List.mem_cons.1 h with r | r
   ·exact .inr (by simp[r])
   ·rcases ih r with r | r
    ·exact .inl r
    ·exact .inr (by simp[r])
  ·split at h
   ·rcases List.mem_cons.1 h with r | r
    ·exact .inl r
    ·exact .inr (by simp[r])
   ·rcases List.mem_cons.1 h with r | r
    ·exact .inl r
    ·exact .inr r
theorem Bz5{key v:Bs}{lb:List B0}(h:∀p,p∈lb->ltB key p.1=true):J8 lb key v=(key,v) :: lb:=by
 cases lb with
 | nil=>rfl
 | cons q lb=>
  have hq:=h q (by simp);unfold J8;rw[P3 hq];simp only[Bool.false_eq_true,if_false];rw[if_neg (by intro e;rw[e,L5] at hq;simp at hq)]
theorem Az1{key v:Bs}:∀{lc lb:List B0},(∀p,p∈lb->ltB key p.1=true)->J8 (lc++lb) key v=J8 lc key v++lb
 | [],lb,h=>by rw[List.nil_append,Bz5 h];rfl
 | p :: lc,lb,h=>by
  have ih:=Az1 (lc:=lc) h (key:=key) (v:=v);show J8 (p :: (lc++lb)) key v=_
  unfold J8;split
  ·rw[ih];rfl
  ·split<;>rfl
theorem Be3{key v:Bs}:∀{la l:List B0},(∀p,p∈la->ltB p.1 key=true)->J8 (la++l) key v=la++J8 l key v
 | [],l,_=>rfl
 | p :: la,l,h=>by
  have ih:=Be3 (la:=la) (l:=l) (key:=key) (v:=v) (λ q hq=>h q (by simp[hq]));show J8 (p :: (la++l)) key v=_
  rw[show J8 (p :: (la++l)) key v=if ltB p.1 key then p :: J8 (la++l) key v else if p.1=key then(key,v) :: (la++l) else(key,v) :: p :: (la++l) from rfl,h p (by simp),ih];simp
theorem Az2{key v:Bs}{la lc lb:List B0}(ha:∀p,p∈la->ltB p.1 key=true)(hb:∀p,p∈lb->ltB key p.1=true):J8 (la++(lc++lb)) key v=la++(J8 lc key v++lb):=by rw[Be3 ha,Az1 hb]
theorem Ad7{key v:Bs}:∀{l:List B0},(l.map (·.1)).Pairwise (λ x y=>ltB x y=true)->((J8 l key v).map (·.1)).Pairwise (λ x y=>ltB x y=true)
 | [],_=>by simp[J8]
 | p :: l,h=>by
  have h1:=(List.pairwise_cons.1 h).1;have h2:=(List.pairwise_cons.1 h).2;unfold J8;cases hp:ltB p.1 key
  ·simp only[Bool.false_eq_true,if_false];by_cases e:p.1=key
   ·rw[if_pos e];show(key :: l.map (·.1)).Pairwise _
    rw[← e];exact h
   ·rw[if_neg e];have hlt:ltB key p.1=true:=by
     cases q:ltB key p.1
     ·exact absurd (X1 hp q) e
     ·rfl
    refine List.pairwise_cons.2 ⟨λ y hy=>?_,h⟩;rcases List.mem_cons.1 hy with rfl | q
    ·exact hlt
    ·exact I8 hlt (h1 y q)
  ·simp only[if_true];refine List.pairwise_cons.2 ⟨λ y hy=>?_,Ad7 h2⟩;obtain⟨q,hq,rfl⟩:=List.mem_map.1 hy;rcases Aa5 hq with rfl | r
   ·exact hp
   ·exact h1 _ (List.mem_map.2 ⟨q,r,rfl⟩)
theorem Ad8(l:List B0)(key v:Bs):(J8 l key v).length=if I4 (l.map (·.1)) key then l.length else l.length+1:=by
 have h:=congrArg List.length (Af6 l key v);rw[List.length_map] at h;rw[h];split
 ·simp
 ·rw[M8 _ _ _ (Z9 _ _)];simp
theorem Aq7.ins{ks:List Bs}{key v:Bs}{l:List B0}(h:Aq7 ks key l):Aq7 ks key (J8 l key v):=λ x hx=>⟨λ q p hp=>by
  rcases Aa5 hp with rfl | r
  ·exact q
  ·exact(h x hx).1 q p r,λ q p hp=>by
  rcases Aa5 hp with rfl | r
  ·exact q
  ·exact(h x hx).2 q p r⟩
theorem Aq7.key{ks:List Bs}{key k':Bs}{l1 l2:List B0}(h:Aq7 ks key (l1++l2))(h1:l1≠[])(h2:l2≠[])(b1:∀p,p∈l1->ltB p.1 k'=true)(b2:∀p,p∈l2->ltB p.1 k'=false):Bz4 ks key k':=λ x hx=>by
 obtain⟨p1,hp1⟩:=List.exists_mem_of_ne_nil _ h1;obtain⟨p2,hp2⟩:=List.exists_mem_of_ne_nil _ h2;refine⟨λ q=>?_,λ q=>?_⟩
 ·exact J9 (b2 p2 hp2) ((h x hx).1 q p2 (by simp[hp2]))
 ·exact J9 ((h x hx).2 q p1 (by simp[hp1])) (b1 p1 hp1)
theorem I6.ne{P:Nat->List B0->List Nat->Prop}(hP:∀k l S,P k l S->l≠[]){ks:List Bs}{ds:List Nat}{l:List B0}{S:List Nat}(h:I6 P ks ds l S):l≠[]:=by
 cases h with
 | one h=>exact hP _ _ _ h
 | more h _ _ _=>intro e;exact hP _ _ _ h (List.append_eq_nil_iff.1 e).1
theorem E3.ne{C:Nat->Sec}:∀{d:Nat} {root:Bool} {a:Nat} {l:List B0} {S:List Nat},E3 C root d a l S->l≠[]
 | 0,root,_,l,_,h=>by
  have:=h.2.2.2.2.1;rintro rfl;cases root<;>simp at this
 | d+1,_,_,_,_,h=>by
  obtain⟨_,ks,ds,S',_,_,_,_,_,hk⟩:=h;exact hk.ne λ k l S h=>E3.ne (d:=d) h
theorem I6.part{P:Nat->List B0->List Nat->Prop}:∀{m:Nat} {ks:List Bs} {ds:List Nat} {l:List B0} {S:List Nat} {k:Bs},I6 P ks ds l S->ks.Pairwise (λ x y=>ltB x y=true)->ks[m]?=some k->
  ∃l1 S1 l2 S2,l=l1++l2/\S=S1++S2/\I6 P (ks.take m) (ds.take (m+1)) l1 S1/\I6 P (ks.drop (m+1)) (ds.drop (m+1)) l2 S2/\(∀p,p∈l1->ltB p.1 k=true)/\(∀p,p∈l2->ltB p.1 k=false)
 | m,_,_,_,_,k,.one h,_,hm=>by simp at hm
 | 0,_,_,_,_,k,.more (k:=a) (l:=l) (S:=S) (l2:=l2) (S2:=S2) h h1 h2 hk,_,hm=>by
  simp at hm;subst hm;exact⟨l,S,l2,S2,rfl,rfl,.one h,by simpa using hk,h1,h2⟩
 | m+1,_,_,_,_,k,.more (k:=a) (l:=l) (S:=S) (key:=x) (ks:=ks) (ds:=ds) (l2:=l2) (S2:=S2) h h1 h2 hk,hp,hm=>by
  have hp2:=(List.pairwise_cons.1 hp).2;have hp1:=(List.pairwise_cons.1 hp).1;have hm':ks[m]?=some k:=by simpa using hm
  obtain⟨la,Sa,lb,Sb,e1,e2,k1,k2,b1,b2⟩:=I6.part hk hp2 hm';have hxk:=hp1 k (List.mem_of_getElem? hm');refine⟨l++la,S++Sa,lb,Sb,by rw[e1];simp,by rw[e2];simp,?_,by simpa using k2,λ p hq=>?_,b2⟩
  ·have:=I6.more h h1 (λ p hq=>h2 p (by rw[e1];simp[hq])) k1;simpa using this
  ·rcases List.mem_append.1 hq with q | q
   ·exact I8 (h1 p q) hxk
   ·exact b1 p q
end Go.Proofs.YtgfbepakonjbnaaGreat
end
end
section
namespace Go.Proofs.YtgfbepakonjbnaaGreat
open Go.RowKit Go.MapKept Go.ChangeMaps
section
attribute [-go_sem] loadCells
theorem D8.cell{w:World}{B:Nat}{v:Value}{ds:List Nat}(h:D8 w B v ds)(hp:0<ds.length):∃gd cap,v=.slice (some ⟨gd,0,none⟩) ds.length cap/\B<=gd/\∀(i d:Nat),ds[i]?=some d->w.cell? ⟨gd,i,none⟩=some (.int .u32 (d:Int)):=by
 rcases h.2 with⟨rfl,h0⟩ | ⟨g,cap,cur,rfl,hb,hg,hc,_,hs,ht⟩
 ·omega
 ·refine⟨g,cap,rfl,hb,λ i d hd=>?_⟩;have hi:i<ds.length:=(List.getElem?_eq_some_iff.1 hd).1;have hf:(ds.map λ d:Nat=>Value.int .u32 (d:Int))[i]?=some (.int .u32 (d:Int)):=by rw[List.getElem?_map,hd];rfl
  rw[← ht,List.getElem?_take_of_lt (by omega)] at hf;rw[A4 hg];simpa using hf
theorem I6.first{P:Nat->List B0->List Nat->Prop}{ks:List Bs}{ds:List Nat}{l:List B0}{S:List Nat}(h:I6 P ks ds l S):∃k l1 S1,ds[0]?=some k/\P k l1 S1/\∀s,s∈S1->s∈S:=by
 cases h with
 | one h=>exact⟨_,_,_,rfl,h,λ _ q=>q⟩
 | more h _ _ _=>exact⟨_,_,_,rfl,h,λ s q=>List.mem_append_left _ q⟩
theorem Az3{w:World}{g:Sg}{M:Nat->Option Sec}(h:B7 w g M){d a:Nat}{l:List B0}{S:List Nat}(hs:E3 (g.cur M) true d a l S)(hS:∀s,s∈S->4<=s/\s<g.h)(hd:d<16) :
  Calls Tryz.prog 67 #[.pointer (some ⟨g.x.tb,0,none⟩),.int .u32 (a:Int)] w λ e w'=>e=.returned (.tuple #[.int .i64 ((d+1:Nat):Int),.int .i64 0])/\B7 w' g M/\Upd [g.j.jb] w w':=by
 have hm:=hS a hs.mem.1;have HO:=η (T3 h);have hb:((g.h:Int) == 0)=false:=by rw[beq_eq_false_iff_ne];omega
 have ha:((a:Int) == 0)=false:=by rw[beq_eq_false_iff_ne];omega
 have HH:=η h;have HSH:=η hs;have HSS:=η hS;clear h hs hS hm;go_enter Tryz.func67,Tryz.ntmps67
 go_wp2_with fail
 refine HO.out.mono ?_;rintro e w1 ⟨rfl,n1,hn1⟩;have HU1:Hid (Upd [] w w1):=by show Upd _ _ _;rw[hn1];exact(Upd.refl _ _).drewN _
 clear hn1;go_wp2_with fail
 go_loopw [6,1] (λ n r wr=>∃(q:Nat) (b:Bool) (d' a':Nat) (l':List B0) (S':List Nat),q+d'=d/\n=.int .i64 ((q+1:Nat):Int)/\r=.int .u32 (a':Int)/\E3 (g.cur M) b d' a' l' S'/\(∀s,s∈S'->s∈S)/\B7 wr g M/\Upd [g.j.jb] w wr) (λ n _ _=>17-(intOf n).toNat)
 case atStart=>exact⟨0,true,d,a,l,S,by omega,rfl,rfl,HSH.out,λ _ q=>q,HH.out.below HU1.out,HU1.out.mono (by simp)⟩
 case round=>
  obtain⟨q,b,d',a',l',S',hq,rfl,rfl,hsh,hsub,hsp,hu⟩:=hrel;have hlt:decide (((q+1:Nat):Int)<=16)=true:=decide_eq_true (by omega);obtain⟨Q,hQ⟩:∃Q:Int,Q=((q+1:Nat):Int):=⟨_,rfl⟩;rw[← hQ] at hlt ⊢;have hQ0:0<=Q:=by omega
  have hQ1:Q<=16:=by omega
  have HQ:=η hQ;have ham:=HSS.out a' (hsub a' hsh.mem.1);have ha4:=hsh.mem.2;cases d' with
  | zero=>
   have hr:=Y9 hsp a' ham.2 ha4 hsh.2.2.1 hsh.2.2.2.1;have HR:=η hr;have HUr:=η hu;clear hr hsh hsub hsp hu hQ;go_wp2_with fail
   refine HR.out.mono ?_;rintro e w2 ⟨vk,vv,rfl,hK,hV,h2,hu2⟩;obtain⟨ak,ck,rfl⟩:=C4 hK;obtain⟨av,cv,rfl⟩:=C4 hV;have H2:=η h2;have HU2:=η (HUr.out.trans hu2);clear h2 hu2 hK hV;go_wp2_with fail
   go_ret2;refine⟨by rw[HQ.out,show q+1=d+1 from by omega];rfl,H2.out.below ((Upd.refl _ _).alloc _),HU2.out.alloc _⟩
  | succ d'=>
   obtain⟨_,ks,ds,S2,e1,hok,hc,_,_,hk⟩:=hsh;obtain⟨k,l1,S1,hk0,hks,hsub1⟩:=hk.first;have hr:=Z0 hsp a' ham.2 ha4 hok hc;have HR:=η hr;have HUr:=η hu;have HOK:=η hok;have HK0:=η hk0;have HKS:=η hks;have HSB:Hid (∀s,s∈S1->s∈S):=by show ∀s,_;exact λ s hs=>hsub s (by rw[e1];exact List.mem_cons_of_mem _ (hsub1 s hs))
   clear hr hsub hsp hu hQ hok hc hk hk0 hks e1;go_wp2_with fail
   refine HR.out.mono ?_;rintro e w2 ⟨vk,vd,rfl,hK,hD,h2,hu2⟩;obtain⟨ak,ck,rfl⟩:=C4 hK;obtain⟨gd,cap,rfl,_,hcell⟩:=hD.cell (by rw[HOK.out.n];omega);have kc:=D7 (w':=w2.alloc (.cells #[.int .i64 2,.slice ak ks.length ck,.slice none 0 0,.slice (some ⟨gd,0,none⟩) ds.length cap] 220)) (hcell 0 k HK0.out) ((Upd.refl [] _).alloc _) (by simp);have i9:(0:Int)<(ds.length:Int):=by have:=HOK.out.n;omega
   have H2:=η h2;have HU2:=η (HUr.out.trans hu2);clear h2 hu2 hD hcell hK;go_wp2_with fail
   exact⟨⟨q+1,false,d',k,l1,S1,by omega,by have:=HQ.out;congr 1;omega,rfl,HKS.out,HSB.out,H2.out.below ((Upd.refl _ _).alloc _),HU2.out.alloc _⟩,by have:=HQ.out;simp[intOf];omega⟩
end
section
def G9:List B0->Bs->Option Bs
 | [],_=>none
 | p :: l,key=>if ltB p.1 key then G9 l key else if p.1=key then some p.2 else none
theorem Bs8{key:Bs}{lb:List B0}(h:∀p,p∈lb->ltB key p.1=true):G9 lb key=none:=by
 cases lb with
 | nil=>rfl
 | cons q lb=>
  have hq:=h q (by simp);unfold G9;rw[P3 hq];simp only[Bool.false_eq_true,if_false];rw[if_neg (by intro e;rw[e,L5] at hq;simp at hq)]
theorem At4{key:Bs}:∀{lc lb:List B0},(∀p,p∈lb->ltB key p.1=true)->G9 (lc++lb) key=G9 lc key
 | [],lb,h=>by rw[List.nil_append,Bs8 h];rfl
 | p :: lc,lb,h=>by
  have ih:=At4 (lc:=lc) h;show(if ltB p.1 key then G9 (lc++lb) key else if p.1=key then some p.2 else none)=(if ltB p.1 key then G9 lc key else if p.1=key then some p.2 else none)
  rw[ih]
theorem Az4{key:Bs}:∀{la l:List B0},(∀p,p∈la->ltB p.1 key=true)->G9 (la++l) key=G9 l key
 | [],l,_=>rfl
 | p :: la,l,h=>by
  have ih:=Az4 (la:=la) (l:=l) (key:=key) (λ q hq=>h q (by simp[hq]));show(if ltB p.1 key then G9 (la++l) key else if p.1=key then some p.2 else none)=_
  rw[h p (by simp),ih];simp
theorem Ab6{key:Bs}{la lc lb:List B0}(ha:∀p,p∈la->ltB p.1 key=true)(hb:∀p,p∈lb->ltB key p.1=true):G9 (la++(lc++lb)) key=G9 lc key:=by rw[Az4 ha,At4 hb]
theorem W0:∀(l:List B0) (key:Bs),G9 l key=if I4 (l.map (·.1)) key then(l.map (·.2))[F4 (l.map (·.1)) key]? else none
 | [],key=>by simp[G9,I4,F4]
 | p :: l,key=>by
  have ih:=W0 l key;unfold G9;cases h:ltB p.1 key
  ·have hp:F4 ((p :: l).map (·.1)) key=0:=by rw[List.map_cons,F4,h];rfl
   have hh:I4 ((p :: l).map (·.1)) key=decide (p.1=key):=by unfold I4;rw[hp];simp
   rw[hp,hh];by_cases e:p.1=key
   ·simp[e]
   ·simp[e]
  ·have hp:F4 ((p :: l).map (·.1)) key=F4 (l.map (·.1)) key+1:=by rw[List.map_cons,F4,h];rfl
   have hh:I4 ((p :: l).map (·.1)) key=I4 (l.map (·.1)) key:=by unfold I4;rw[hp];simp
   rw[hp,hh];simp only[if_true,ih,List.map_cons,List.getElem?_cons_succ]
attribute [-go_sem] loadCells storeCells
theorem L6(w:World)(a b c:Option Addr)(k:Int)(n1 c1 n2 c2 n3 c3:Nat):(storeCells ⟨w.heap.size,0,none⟩ [.int .i64 k,.slice a n1 c1,.slice b n2 c2,.slice c n3 c3] 0).run Tryz.prog (w.alloc (.cells #[.int .i64 0,.slice none 0 0,.slice none 0 0,.slice none 0 0] 220))=.ok () (w.alloc (.cells #[.int .i64 k,.slice a n1 c1,.slice b n2 c2,.slice c n3 c3] 220)):=by
 have:=run_storeCells_from (P:=Tryz.prog) w.heap.size 220 [.int .i64 k,.slice a n1 c1,.slice b n2 c2,.slice c n3 c3] 0 #[.int .i64 0,.slice none 0 0,.slice none 0 0,.slice none 0 0] _ (A6 _) rfl (by intro v hv;simp at hv;rcases hv with rfl | rfl | rfl | rfl<;>rfl)
 rw[this,N8];rfl
attribute [local go_sem] L6
theorem At5{w:World}{b:Nat}{C:Array Value}{T:TypeId}(h:w.heap[b]?=some (.cells C T (0,0)))(hC:C.size=16){l:List UInt8}(hl:l.length=16):(storeCells ⟨b,0,none⟩ (bts l) 0).run Tryz.prog w=.ok () (w.setRow b (bts l).toArray):=by
 have:=run_storeCells_from (P:=Tryz.prog) b T (bts l) 0 C w h (by rw[A8,hl,hC]) (G7 l);rw[this];rfl
def z16:List UInt8:=List.replicate 16 0
theorem Bw2:[.int .u8 0,.int .u8 0,.int .u8 0,.int .u8 0,.int .u8 0,.int .u8 0,.int .u8 0,.int .u8 0,.int .u8 0,.int .u8 0,.int .u8 0,.int .u8 0,.int .u8 0,.int .u8 0,.int .u8 0,.int .u8 0]=bts z16:=rfl
theorem Bh9{w w4:World}{g:Sg}{M:Nat->Option Sec}(h0:B7 w g M)(h4:B7 w4 g M)(hu:Upd [g.j.jb] w w4){b6:Nat}(hb:w.heap.size<=b6)(cs:Array Value):B7 (w4.setRow b6 cs) g M/\Upd [g.j.jb] w (w4.setRow b6 cs):=by
 have hr:Upd [b6] w4 (w4.setRow b6 cs):=D5 (Upd.refl _ _) _ (.inl (by simp));exact⟨B7.late h0 h4 hu hr (λ k hk=>by simp at hk;omega),hu.late hr (λ k hk=> .inr (by simp at hk;omega))⟩
theorem Af7{l:List UInt8}(hl:l.length=16):(Tryz.prog.info? 115).map (·.size)=some (bts l).toArray.size:=by
 rw[Ay9,List.size_toArray,A8,hl]
theorem RRd.at{w:World}{a:Option Addr}{n c sz:Nat}{es:List (List Value)}(h:RRd w (.slice a n c) sz es){i:Nat}{e:List Value}(he:es[i]?=some e):∃b off,a=some ⟨b,off,none⟩/\w.rangeAt b (off+i*sz) e:=by
 obtain⟨ao,cap,ev,hc,hh⟩:=h;injection ev with e1 e2 e3;obtain⟨b,off,rfl,hr⟩:=hh (by have:=(List.getElem?_eq_some_iff.1 he).1;omega);exact⟨b,off,e1,hr i e he⟩
def Bz6:Option Bs->Value
 | some v=> .tuple #[.agg (bts v).toArray,.int .i64 0]
 | none=> .tuple #[.agg (bts z16).toArray,.int .i64 5]
theorem Bm7{w:World}{g:Sg}{M:Nat->Option Sec}(h:B7 w g M){d a:Nat}{l:List B0}{S:List Nat}(hs:E3 (g.cur M) true d a l S)(hS:∀s,s∈S->4<=s/\s<g.h)(hd:d<16)(key:Bs)(hkey:key.length=32) :
  Calls Tryz.prog 61 #[.pointer (some ⟨g.x.tb,0,none⟩),.int .u32 (a:Int),arr key] w λ e w'=>e=.returned (Bz6 (G9 l key))/\B7 w' g M/\Upd [g.j.jb] w w':=by
 have hm:=hS a hs.mem.1;have hb:((g.h:Int) == 0)=false:=by rw[beq_eq_false_iff_ne];omega
 have ha:((a:Int) == 0)=false:=by rw[beq_eq_false_iff_ne];omega
 obtain⟨wA,hwA⟩:∃wA,wA=(w.alloc (.cells (bts key).toArray 35)).alloc (.cells #[.int .u8 0,.int .u8 0,.int .u8 0,.int .u8 0,.int .u8 0,.int .u8 0,.int .u8 0,.int .u8 0,.int .u8 0,.int .u8 0,.int .u8 0,.int .u8 0,.int .u8 0,.int .u8 0,.int .u8 0,.int .u8 0] 115):=⟨_,rfl⟩;have huA:Upd [] w wA:=by rw[hwA];exact((Upd.refl _ _).alloc _).alloc _
 obtain⟨b5,hb5⟩:∃b,b=w.heap.size:=⟨_,rfl⟩;obtain⟨b6,hb6⟩:∃b,b=w.heap.size+1:=⟨_,rfl⟩;have h5:wA.heap[b5]?=some (.cells (bts key).toArray 35 (0,0)):=by
  rw[hwA,hb5,A9 (by simp)];exact A6 _
 have h6:wA.heap[b6]?=some (.cells #[.int .u8 0,.int .u8 0,.int .u8 0,.int .u8 0,.int .u8 0,.int .u8 0,.int .u8 0,.int .u8 0,.int .u8 0,.int .u8 0,.int .u8 0,.int .u8 0,.int .u8 0,.int .u8 0,.int .u8 0,.int .u8 0] 115 (0,0)):=by
  rw[hwA,hb6];have:=A6 (w:=w.alloc (.cells (bts key).toArray 35)) (.cells #[.int .u8 0,.int .u8 0,.int .u8 0,.int .u8 0,.int .u8 0,.int .u8 0,.int .u8 0,.int .u8 0,.int .u8 0,.int .u8 0,.int .u8 0,.int .u8 0,.int .u8 0,.int .u8 0,.int .u8 0,.int .u8 0] 115);simpa using this
 have HO:=η (T3 (h.below huA));have HH:=η (h.below huA);have HH0:=η h;have HSH:=η hs;have HSS:=η hS;have HUA:=η huA;have HW:=η hwA;have HB5:=η hb5;have HB6:=η hb6;have H5:=η h5;have H6:=η h6;clear h hs hS hm huA hwA hb5 hb6 h5 h6;unfold arr;go_enter Tryz.func61,Tryz.ntmps61
 go_wp2_with fail
 have hwA:=HW.out;have hb5:=HB5.out;have hb6:=HB6.out;rw[← hwA,← hb6,← hb5];clear hwA hb5 hb6;refine HO.out.mono ?_;rintro e w1 ⟨rfl,n1,hn1⟩;have HU1:Hid (Upd [] wA w1):=by show Upd _ _ _;rw[hn1];exact(Upd.refl _ _).drewN _
 clear hn1;go_wp2_with fail
 go_loopw [20,1] (λ i r wr=>∃(q:Nat) (b:Bool) (d' a':Nat) (l':List B0) (S':List Nat),q+d'=d/\i=.int .i64 (q:Int)/\r=.int .u32 (a':Int)/\E3 (g.cur M) b d' a' l' S'/\G9 l key=G9 l' key/\(∀s,s∈S'->s∈S)/\wr.heap[b5]?=some (.cells (bts key).toArray 35 (0,0))/\wr.heap[b6]?=some (.cells #[.int .u8 0,.int .u8 0,.int .u8 0,.int .u8 0,.int .u8 0,.int .u8 0,.int .u8 0,.int .u8 0,.int .u8 0,.int .u8 0,.int .u8 0,.int .u8 0,.int .u8 0,.int .u8 0,.int .u8 0,.int .u8 0] 115 (0,0))/\B7 wr g M/\Upd [g.j.jb] w wr) (λ i _ _=>16-(intOf i).toNat)
 case atStart=>exact⟨0,true,d,a,l,S,by omega,rfl,rfl,HSH.out,rfl,λ _ q=>q,(HU1.out.block _ (A2 H5.out) (by simp)).trans H5.out,(HU1.out.block _ (A2 H6.out) (by simp)).trans H6.out,HH.out.below HU1.out,(HUA.out.trans HU1.out).mono (by simp)⟩
 case round=>
  obtain⟨q,b,d',a',l',S',hq,rfl,rfl,hsh,hlo,hsub,h5,h6,hsp,hu⟩:=hrel;have hlt:decide ((q:Int)<16)=true:=decide_eq_true (by omega);have hlt2:decide (q<16)=true:=decide_eq_true (by omega);have ham:=HSS.out a' (hsub a' hsh.mem.1);have ha4:=hsh.mem.2;have hj5:b5∉[g.j.jb]:=by simp;rintro rfl;have:=hsp.jr.at_.st;rw[h5] at this;simp at this
  have hj6:b6∉[g.j.jb]:=by simp;rintro rfl;have:=hsp.jr.at_.st;rw[h6] at this;simp at this
  cases d' with
  | zero=>
   have hr:=Y9 hsp a' ham.2 ha4 hsh.2.2.1 hsh.2.2.2.1;have hlo2:=hlo.trans (W0 l' key);have hok0:=hsh.2.2.1;generalize l'.map (·.1)=K at *;generalize l'.map (·.2)=V at *;have HR:=η hr;have HUr:=η hu;have HOK:=η hok0;have HLO:=η hlo2;have H5r:=η h5;have H6r:=η h6;clear hr hsh hsub hsp hu hlo h5 h6 hlo2 hok0;go_wp2_with fail
   refine HR.out.mono ?_;rintro e w2 ⟨vk,vv,rfl,hK,hV,h2,hu2⟩;obtain⟨ak,ck,rfl⟩:=C4 hK;obtain⟨av,cv,rfl⟩:=C4 hV;have hj5w:wr.heap[b5]?=w2.heap[b5]?:=(hu2.block _ (A2 H5r.out) hj5).symm;have hj6w:wr.heap[b6]?=w2.heap[b6]?:=(hu2.block _ (A2 H6r.out) hj6).symm;have h5:=hj5w.symm.trans H5r.out;have h6:=hj6w.symm.trans H6r.out;obtain⟨w3,hw3⟩:∃w3,w3=w2.alloc (.cells #[.int .i64 1,.slice ak K.length ck,.slice av V.length cv,.slice none 0 0] 220):=⟨_,rfl⟩;have hu3:Upd [] w2 w3:=by rw[hw3];exact(Upd.refl _ _).alloc _
   have h5':=(hu3.block _ (A2 h5) (by simp)).trans h5;have h6':=(hu3.block _ (A2 h6) (by simp)).trans h6;have h8:w3.heap[w2.heap.size]?=some (.cells #[.int .i64 1,.slice ak K.length ck,.slice av V.length cv,.slice none 0 0] 220 (0,0)):=by rw[hw3];exact A6 _
   have hok:=HOK.out;have hKd:=(C3.rd hK hok.k).keep hu3 (λ _ _ _ _=>by simp);have hVd:=(F7.rd hV hok.v).keep hu3 (λ _ _ _ _=>by simp);have hF:=Af2 (vv:=.slice av V.length cv) (vd:=.slice none 0 0) 1 hKd hok.k (by have:=hok.most;omega) key hkey;have l1:=A7 (n:=4) (cs:=[.int .i64 1,.slice ak K.length ck,.slice av V.length cv,.slice none 0 0]) h8 rfl;have l2:=A7 (n:=32) h5' (by rw[A8,hkey]);have kc:=A4 h8 2;have HF:=η hF;have HU3:=η hu3;have HW3:=η hw3;have H63:=η h6';have HVd:=η hVd;have HU2:=η (HUr.out.trans hu2);have H2:=η h2;have HC2:=η h8;rw[hw3] at l1 l2;clear hK hV hj5w hj6w h5 h6 hu3 h5' h6' h8 hok hKd hVd hF kc hw3 h2 hu2;have hP:=Z9 K key;unfold arr at *;cases hh:I4 K key
   ·have hf:=HF.out;rw[hh] at hf;have HFb:=η hf;have hlo:=HLO.out;rw[hh,if_neg (by simp)] at hlo;have HLb:=η hlo;clear hf;clear hh hlo HF HLO;generalize F4 K key=P at *;go_wp2_with fail
    have hw3:=HW3.out;rw[← hw3];refine HFb.out.mono ?_;rintro e w4 ⟨rfl,hu4⟩;have h6:=(hu4.block _ (A2 H63.out) (by simp)).trans H63.out;have s6:=At5 h6 rfl (l:=z16) rfl;rw[← Bw2] at s6;go_wp2_with fail
    rw[Bw2];refine bodyPost_ret (C5 (p:=6) (u:=7) (ty:=115) (by rfl) _ _ b6 _ (by rfl) (run_loadVar_row _ b6 _ _ _ _ _ (setRow_heap _ _ _ _ _ _ h6) Tryz.underlying115 rfl (Af7 (l:=z16) rfl))) (by rfl) ?_;exact⟨by rw[HLb.out];rfl,Bh9 HH0.out (H2.out.below (HU3.out.trans hu4)) (HU2.out.trans ((HU3.out.trans hu4).mono (by simp))) (by have:=HB6.out;omega) _⟩
   ·obtain⟨x,hx⟩:∃x,V[F4 K key]?=some x:=by
     have hlt:F4 K key<V.length:=by
      have:=HOK.out.n;unfold I4 at hh;have:=of_decide_eq_true hh;have:=(List.getElem?_eq_some_iff.1 this).1;omega
     exact⟨_,List.getElem?_eq_getElem hlt⟩
    have hf:=HF.out;rw[hh] at hf;have HFb:=η hf;have hxl:=HOK.out.v x (List.mem_of_getElem? hx);have hlo:=HLO.out;rw[hh,if_pos rfl,hx] at hlo;have HLb:=η hlo;have hPV:F4 K key<V.length:=(List.getElem?_eq_some_iff.1 hx).1;obtain⟨bv,off,rfl,hrv⟩:=HVd.out.at (i:=F4 K key) (e:=bts x) (by rw[List.getElem?_map,hx];rfl);clear hf hlo hh hx HF HLO;generalize F4 K key=P at *;have hP0:(P:Int)<(V.length:Int):=by omega
    go_wp2_with fail
    have hw3:=HW3.out;rw[← hw3];refine HFb.out.mono ?_;rintro e w4 ⟨rfl,hu4⟩;have h6:=(hu4.block _ (A2 H63.out) (by simp)).trans H63.out;have s6:=At5 h6 rfl (l:=x) hxl;have h8:=(hu4.block _ (A2 HC2.out) (by simp)).trans HC2.out;have k8:=A4 h8 2;have hrv4:=E9 hrv hu4 (by simp);have l16:=U6 hrv4 hxl;go_wp2_with fail
    refine bodyPost_ret (C5 (p:=6) (u:=7) (ty:=115) (by rfl) _ _ b6 _ (by rfl) (run_loadVar_row _ b6 _ _ _ _ _ (setRow_heap _ _ _ _ _ _ h6) Tryz.underlying115 rfl (Af7 hxl))) (by rfl) ?_;exact⟨by rw[HLb.out];rfl,Bh9 HH0.out (H2.out.below (HU3.out.trans hu4)) (HU2.out.trans ((HU3.out.trans hu4).mono (by simp))) (by have:=HB6.out;omega) _⟩
  | succ d'=>
   obtain⟨_,ks,ds,S2,e1,hok,hc,_,hpw,hk⟩:=hsh;obtain⟨kid,la,lc,lb,Sa,Sc,Sb,hkid,el,eS,hsc,hla,hlb,_⟩:=hk.turn (key:=key) hpw;have hr:=Z0 hsp a' ham.2 ha4 hok hc;have HSB:Hid (∀s,s∈Sc->s∈S):=by show ∀s,_;exact λ s hs=>hsub s (by rw[e1,eS];simp[hs])
   have HLO:Hid (G9 l key=G9 lc key):=by show _=_;rw[hlo,el,Ab6 hla hlb]
   have HR:=η hr;have HUr:=η hu;have HOK:=η hok;have HKID:=η hkid;have HSC:=η hsc;have H5r:=η h5;have H6r:=η h6;clear hr hsub hsp hu hok hc hk hkid hsc el eS e1 hla hlb hlo h5 h6 hpw;go_wp2_with fail
   refine HR.out.mono ?_;rintro e w2 ⟨vk,vd,rfl,hK,hD,h2,hu2⟩;obtain⟨ak,ck,rfl⟩:=C4 hK;have hI:chK ks key<ds.length:=(List.getElem?_eq_some_iff.1 HKID.out).1;obtain⟨gd,cap,rfl,_,hcell⟩:=hD.cell (by omega);have h5:=(hu2.block _ (A2 H5r.out) hj5).trans H5r.out;have h6:=(hu2.block _ (A2 H6r.out) hj6).trans H6r.out;obtain⟨w3,hw3⟩:∃w3,w3=w2.alloc (.cells #[.int .i64 2,.slice ak ks.length ck,.slice none 0 0,.slice (some ⟨gd,0,none⟩) ds.length cap] 220):=⟨_,rfl⟩;have hu3:Upd [] w2 w3:=by rw[hw3];exact(Upd.refl _ _).alloc _
   have h5':=(hu3.block _ (A2 h5) (by simp)).trans h5;have h6':=(hu3.block _ (A2 h6) (by simp)).trans h6;obtain⟨b8,hb8⟩:∃b,b=w2.heap.size:=⟨_,rfl⟩;have h8:w3.heap[b8]?=some (.cells #[.int .i64 2,.slice ak ks.length ck,.slice none 0 0,.slice (some ⟨gd,0,none⟩) ds.length cap] 220 (0,0)):=by rw[hw3,hb8];exact A6 _
   have hKd:=(C3.rd hK HOK.out.k).keep hu3 (λ _ _ _ _=>by simp);have hC:=Ag8 (w:=w3.drew) (vv:=.slice none 0 0) (vd:=.slice (some ⟨gd,0,none⟩) ds.length cap) 2 (hKd.keep (Upd.refl [] _).drew (λ _ _ _ _=>by simp)) HOK.out.k (by have:=HOK.out.most;omega) key hkey;have l1:=A7 (w:=w3.drew) (n:=4) (cs:=[.int .i64 2,.slice ak ks.length ck,.slice none 0 0,.slice (some ⟨gd,0,none⟩) ds.length cap]) h8 rfl;have l2:=A7 (w:=w3.drew) (n:=32) h5' (by rw[A8,hkey]);have kc:=A4 h8 3;have kd:=D7 (hcell _ _ HKID.out) hu3 (by simp);have HC:=η hC;have HU3:=η hu3;have HW3:=η hw3;have HB8:=η hb8;have H53:=η h5';have H63:=η h6';have HU2:=η (HUr.out.trans hu2);have H2:=η h2;have k0:=A4 h8 0;have hIi:((chK ks key:Nat):Int)<(ds.length:Int):=by omega
   clear hK hD h5 h6 hu3 h5' h6' h8 hKd hC hb8 hw3 h2 hu2 hcell hI;unfold arr at *;generalize chK ks key=I at *;go_wp2_with fail
   have hw3:=HW3.out;have hb8:=HB8.out;rw[← hw3,← hb8];clear hw3 hb8;go_region_law (first | (go_simp;go_at_call 135;(with_reducible refine HC.out.mono ?_);rintro e w4 ⟨rfl,hu4⟩;have kc4:=D7 kc ((Upd.refl [] _).drew.trans hu4) (by simp);have kd4:=D7 kd ((Upd.refl [] _).drew.trans hu4) (by simp);have HU4:=η hu4;clear hu4;dsimp only))
   all_goals
    go_wp2_with fail
    have hu34:=(HU3.out.trans (Upd.refl [] _).drew).trans HU4.out;have hu43:=(Upd.refl [] w3).drew.trans HU4.out;exact⟨⟨q+1,false,d',kid,lc,Sc,by omega,by go_num,rfl,HSC.out,HLO.out,HSB.out,(hu43.block _ (A2 H53.out) (by simp)).trans H53.out,(hu43.block _ (A2 H63.out) (by simp)).trans H63.out,H2.out.below hu34,HU2.out.trans (hu34.mono (by simp))⟩,by simp[intOf];omega⟩
end
end Go.Proofs.YtgfbepakonjbnaaGreat
end
