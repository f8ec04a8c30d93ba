/-
  A key is taken away from a tree: what becomes of pairs, of nodes side by side, of sectors. No program in sight.
-/
import Derived.Test.YtgfbepakonjbnaaGreatZ14
set_option maxRecDepth 100000
set_option maxHeartbeats 16000000
section
set_option linter.unusedSimpArgs false
set_option linter.unusedVariables false
namespace Go.Proofs.YtgfbepakonjbnaaGreat
open Go.RowKit
def N7(l:List B0)(key:Bs):List B0:=l.filter λ p=>decide (p.1≠key)
theorem Bo6(l1 l2:List B0)(key:Bs):N7 (l1++l2) key=N7 l1 key++N7 l2 key:=List.filter_append ..
theorem Bo7{l:List B0}{key:Bs}(h:∀p,p∈l->p.1≠key):N7 l key=l:=List.filter_eq_self.2 λ p hp=>decide_eq_true (h p hp)
theorem Bi6{a b:Bs}(h:ltB a b=true):a≠b:=by rintro rfl;rw[L5] at h;simp at h
theorem Ch9{l:List B0}{key:Bs}(h:∀p,p∈l->ltB p.1 key=true):N7 l key=l:=Bo7 λ p hp=>Bi6 (h p hp)
theorem Ar4{l:List B0}{key:Bs}(h:∀p,p∈l->ltB key p.1=true):N7 l key=l:=Bo7 λ p hp=>(Bi6 (h p hp)).symm
theorem Bo8{key:Bs}{la lc lb:List B0}(ha:∀p,p∈la->ltB p.1 key=true)(hb:∀p,p∈lb->ltB key p.1=true):N7 (la++(lc++lb)) key=la++(N7 lc key++lb):=by
 rw[Bo6,Bo6,Ch9 ha,Ar4 hb]
theorem Y4{l:List B0}{key:Bs}{p:B0}(h:p∈N7 l key):p∈l:=(List.mem_filter.1 h).1
theorem Bo9(l:List B0)(key:Bs):(N7 l key).Sublist l:=List.filter_sublist
theorem Bp0(l:List B0)(key:Bs):(N7 l key).length<=l.length:=(Bo9 l key).length_le
theorem Bp1{l:List B0}(h:(l.map (·.1)).Pairwise (λ x y=>ltB x y=true))(key:Bs):((N7 l key).map (·.1)).Pairwise (λ x y=>ltB x y=true):=h.sublist ((Bo9 l key).map _)
theorem Be8{key:Bs}:∀{l:List B0},(l.map (·.1)).Pairwise (λ x y=>ltB x y=true)->I4 (l.map (·.1)) key=true->(N7 l key).map (·.1)=(l.map (·.1)).eraseIdx (F4 (l.map (·.1)) key)/\(N7 l key).map (·.2)=(l.map (·.2)).eraseIdx (F4 (l.map (·.1)) key)
 | [],_,h=>by simp[I4,F4] at h
 | p :: l,hs,hh=>by
  have hs1:=(List.pairwise_cons.1 hs).1;have hs2:=(List.pairwise_cons.1 hs).2;cases h:ltB p.1 key
  ·have hp:F4 ((p :: l).map (·.1)) key=0:=by rw[List.map_cons,F4,h];rfl
   rw[hp];unfold I4 at hh;rw[hp] at hh;have e:p.1=key:=by simpa using hh
   have:N7 (p :: l) key=l:=by
    unfold N7;rw[List.filter_cons,if_neg (by simp[e])];refine Ar4 (key:=key) λ q hq=>?_;rw[← e];exact hs1 q.1 (List.mem_map.2 ⟨q,hq,rfl⟩)
   rw[this];simp
  ·have hp:F4 ((p :: l).map (·.1)) key=F4 (l.map (·.1)) key+1:=by rw[List.map_cons,F4,h];rfl
   have hh2:I4 (l.map (·.1)) key=true:=by unfold I4 at hh ⊢;rw[hp] at hh;simpa using hh
   obtain⟨i1,i2⟩:=Be8 (l:=l) hs2 hh2;have:N7 (p :: l) key=p :: N7 l key:=by
    unfold N7;rw[List.filter_cons,if_pos (by simpa using Bi6 h)]
   rw[hp,this];simp only[List.map_cons,List.eraseIdx_cons_succ,i1,i2,and_self]
theorem Bp2{l:List B0}{key:Bs}:I4 (l.map (·.1)) key=true↔G9 l key≠none:=by
 rw[W0];cases h:I4 (l.map (·.1)) key
 ·simp
 ·unfold I4 at h;have h2:=(List.getElem?_eq_some_iff.1 (of_decide_eq_true h)).1;rw[List.length_map] at h2;simp[h2]
theorem Be9{key:Bs}:∀{ks:List Bs},ks.Pairwise (λ x y=>ltB x y=true)->∀{i:Nat} {x:Bs},i<chK ks key->ks[i]?=some x->ltB key x=false
 | [],_,i,x,h,_=>by rw[Ad6] at h;omega
 | k :: ks,hp,i,x,h,hx=>by
  have hp1:=(List.pairwise_cons.1 hp).1;have hp2:=(List.pairwise_cons.1 hp).2;rw[Y1] at h;cases i with
  | zero=>
   simp at hx;subst hx;cases q:ltB k key
   ·rw[q] at h;simp only[Bool.false_eq_true,if_false] at h;split at h
    ·next e=>rw[e];exact L5 _
    ·omega
   ·exact P3 q
  | succ i=>
   have hx':ks[i]?=some x:=by simpa using hx
   cases q:ltB k key
   ·rw[q] at h;simp only[Bool.false_eq_true,if_false] at h;split at h<;>omega
   ·rw[q] at h;simp only[if_true] at h;exact Be9 hp2 (by omega) hx'
theorem Ar5{key:Bs}:∀{ks:List Bs},ks.Pairwise (λ x y=>ltB x y=true)->∀{x:Bs},ks[chK ks key]?=some x->ltB key x=true
 | [],_,x,h=>by simp at h
 | k :: ks,hp,x,h=>by
  have hp1:=(List.pairwise_cons.1 hp).1;have hp2:=(List.pairwise_cons.1 hp).2;rw[Y1] at h;cases q:ltB k key
  ·rw[q] at h;simp only[Bool.false_eq_true,if_false] at h;split at h
   ·next e=>
    have h':ks[0]?=some x:=by simpa using h
    rw[← e];exact hp1 x (List.mem_of_getElem? h')
   ·next e=>
    simp at h;subst h;cases q2:ltB key k
    ·exact absurd (X1 q q2) e
    ·rfl
  ·rw[q] at h;simp only[if_true,List.getElem?_cons_succ] at h;exact Ar5 hp2 h
theorem I6.n{P:Nat->List B0->List Nat->Prop}{ks:List Bs}{ds:List Nat}{l:List B0}{S:List Nat}(h:I6 P ks ds l S):ds.length=ks.length+1:=by
 induction h with
 | one _=>rfl
 | more _ _ _ _ ih=>simp[ih]
structure Cn5(P:Nat->List B0->List Nat->Prop)(ks:List Bs)(ds:List Nat)(l:List B0)(S:List Nat)(i:Nat)(k0:Bs)(c1 c2:Nat)(la l1 l2 lb:List B0)(Sa S1 S2 Sb:List Nat):Prop where
 k:ks[i]?=some k0
 d1:ds[i]?=some c1
 d2:ds[i+1]?=some c2
 el:l=la++(l1++(l2++lb))
 eS:S=Sa++(S1++(S2++Sb))
 p1:P c1 l1 S1
 p2:P c2 l2 S2
 low:∀p,p∈la++l1->ltB p.1 k0=true
 high:∀p,p∈l2++lb->ltB p.1 k0=false
 first:i=0->la=[]
 next:∀x,ks[i+1]?=some x->(∀p,p∈l2->ltB p.1 x=true)/\∀p,p∈lb->ltB p.1 x=false
 last:ks.length=i+1->lb=[]
 join:∀(Q:Nat->List B0->List Nat->Prop) l' S',(∀k l S,P k l S->(∀s,s∈S->s∈Sa∨s∈Sb)->Q k l S)->Q c1 l' S'->(∀p,p∈l'->p∈l1++l2)->I6 Q (ks.eraseIdx i) (ds.eraseIdx (i+1)) (la++(l'++lb)) (Sa++(S'++Sb))
 share:∀(Q:Nat->List B0->List Nat->Prop) k' l1' S1' l2' S2',(∀k l S,P k l S->(∀s,s∈S->s∈Sa∨s∈Sb)->Q k l S)->Q c1 l1' S1'->Q c2 l2' S2'->l1'≠[]->l2'≠[]->(∀p,p∈l1'->ltB p.1 k'=true)->(∀p,p∈l2'->ltB p.1 k'=false)->(∀p,p∈l1'++l2'->p∈l1++l2)->
  I6 Q (ks.set i k') ds (la++((l1'++l2')++lb)) (Sa++((S1'++S2')++Sb))/\(ks.set i k').Pairwise (λ x y=>ltB x y=true)
theorem I6.pair{P:Nat->List B0->List Nat->Prop}:∀{i:Nat} {ks:List Bs} {ds:List Nat} {l:List B0} {S:List Nat},I6 P ks ds l S->ks.Pairwise (λ x y=>ltB x y=true)->i<ks.length->∃k0 c1 c2 la l1 l2 lb Sa S1 S2 Sb,Cn5 P ks ds l S i k0 c1 c2 la l1 l2 lb Sa S1 S2 Sb
 | i,_,_,_,_,.one _,_,hi=>by simp at hi
 | 0,_,_,_,_,.more (k:=c) (l:=l) (S:=S) (key:=x) (ks:=ks0) (ds:=ds0) (l2:=l2) (S2:=S2) h h1 h2 hk,hp,_=>by
  cases hk with
  | @one c2 _ _ h3=>
   refine⟨x,c,c2,[],l,l2,[],[],S,S2,[],rfl,rfl,rfl,by simp,by simp,h,h3,by simpa using h1,by simpa using h2,λ _=>rfl,λ y hy=>by simp at hy,λ _=>rfl,λ Q l' S' _ hq _=>?_,λ Q k' l1' S1' l2' S2' _ q1 q2 _ _ b1 b2 _=>?_⟩
   ·simpa using I6.one hq
   ·refine⟨?_,by simp⟩;simpa using I6.more q1 b1 b2 (I6.one q2)
  | @more c2 m2 T2 y ks ds l3 S3 h3 h4 h5 hk=>
   have hp1:=(List.pairwise_cons.1 hp).1;have hp2:=(List.pairwise_cons.1 hp).2;have hxy:=hp1 y (by simp);refine⟨x,c,c2,[],l,m2,l3,[],S,T2,S3,rfl,rfl,rfl,by simp,by simp,h,h3,by simpa using h1,h2,λ _=>rfl,λ z hz=>?_,λ e=>by simp at e,λ Q l' S' hm hq hl=>?_,λ Q k' l1' S1' l2' S2' hm q1 q2 n1 n2 b1 b2 hl=>?_⟩
   ·simp at hz;subst hz;exact⟨h4,h5⟩
   ·have:=I6.more hq (key:=y) (λ p hp=>?_) h5 (hk.mono λ k l S hs hP=>hm k l S hP λ s q=> .inr (hs s q))
    ·simpa using this
    ·rcases List.mem_append.1 (hl p hp) with q | q
     ·exact I8 (h1 p q) hxy
     ·exact h4 p q
   ·have inb:∀p,p∈l1'++l2'->ltB p.1 y=true:=λ p hp=>by
     rcases List.mem_append.1 (hl p hp) with q | q
     ·exact I8 (h1 p q) hxy
     ·exact h4 p q
    obtain⟨p2,hp2'⟩:=List.exists_mem_of_ne_nil _ n2;have hky:ltB k' y=true:=J9 (b2 p2 hp2') (inb p2 (by simp[hp2']));have hrest:=hk.mono (Q:=Q) λ k l S hs hP=>hm k l S hP λ s q=> .inr (hs s q);have m2:=I6.more q2 (key:=y) (λ p hp=>inb p (by simp[hp])) h5 hrest;have m1:=I6.more (key:=k') q1 b1 (λ p hp=>?_) m2
    ·refine⟨by simpa using m1,?_⟩;simp only[αz];refine List.pairwise_cons.2 ⟨λ z hz=>?_,hp2⟩;rcases List.mem_cons.1 hz with rfl | hz
     ·exact hky
     ·exact I8 hky ((List.pairwise_cons.1 hp2).1 z hz)
    ·rcases List.mem_append.1 hp with q | q
     ·exact b2 p q
     ·cases r:ltB p.1 k'
      ·rfl
      ·have:=I8 r hky;rw[h5 p q] at this;simp at this
 | i+1,_,_,_,_,.more (k:=c) (l:=l) (S:=S) (key:=x) (ks:=ks) (ds:=ds) (l2:=l2) (S2:=S2) h h1 h2 hk,hp,hi=>by
  have hp1:=(List.pairwise_cons.1 hp).1;have hp2:=(List.pairwise_cons.1 hp).2;obtain⟨k0,c1,c2,la,m1,m2,lb,Sa,T1,T2,Sb,H⟩:=I6.pair (i:=i) hk hp2 (by simpa using hi);have hx0:=hp1 k0 (List.mem_of_getElem? H.k);have hin:∀p,p∈m1++m2->ltB p.1 x=false:=λ p hp=>h2 p (by
   rw[H.el];simp only[List.mem_append] at hp ⊢;rcases hp with q | q<;>simp[q])
  refine⟨k0,c1,c2,l++la,m1,m2,lb,S++Sa,T1,T2,Sb,by simpa using H.k,by simpa using H.d1,by simpa using H.d2,by rw[H.el];simp,by rw[H.eS];simp,H.p1,H.p2,λ p hp=>?_,H.high,λ e=>by omega,λ y hy=>H.next y (by simpa using hy),λ e=>H.last (by simpa using e),λ Q l' S' hm hq hl=>?_,λ Q k' l1' S1' l2' S2' hm q1 q2 n1 n2 b1 b2 hl=>?_⟩
  ·rw[List.append_assoc] at hp;rcases List.mem_append.1 hp with q | q
   ·exact I8 (h1 p q) hx0
   ·exact H.low p q
  ·have hK:=H.join Q l' S' (λ k l S hP hs=>hm k l S hP λ s q=>by rcases hs s q with r | r<;>simp[r]) hq hl
   have:=I6.more (hm _ _ _ h (λ s q=> .inl (by simp[q]))) h1 (λ p hp=>?_) hK
   ·simpa using this
   ·rcases List.mem_append.1 hp with q | q
    ·exact h2 p (by rw[H.el];simp[q])
    ·rcases List.mem_append.1 q with q | q
     ·exact hin p (hl p q)
     ·exact h2 p (by rw[H.el];simp[q])
  ·obtain⟨hK,hs⟩:=H.share Q k' l1' S1' l2' S2' (λ k l S hP hs=>hm k l S hP λ s q=>by rcases hs s q with r | r<;>simp[r]) q1 q2 n1 n2 b1 b2 hl
   have:=I6.more (hm _ _ _ h (λ s q=> .inl (by simp[q]))) h1 (λ p hp=>?_) hK
   ·refine⟨by simpa using this,?_⟩;simp only[αc];refine List.pairwise_cons.2 ⟨λ z hz=>?_,hs⟩;rcases List.mem_or_eq_of_mem_set hz with q | rfl
    ·exact hp1 z q
    ·obtain⟨p1,hp1'⟩:=List.exists_mem_of_ne_nil _ n1;exact J9 (hin p1 (hl p1 (by simp[hp1']))) (b1 p1 hp1')
   ·rcases List.mem_append.1 hp with q | q
    ·exact h2 p (by rw[H.el];simp[q])
    ·rcases List.mem_append.1 q with q | q
     ·exact hin p (hl p q)
     ·exact h2 p (by rw[H.el];simp[q])
theorem I6.key_lt{P:Nat->List B0->List Nat->Prop}(hP:∀k l S,P k l S->l≠[]){ks:List Bs}{ds:List Nat}{l:List B0}{S:List Nat}(h:I6 P ks ds l S){k0:Bs}(hl:∀p,p∈l->ltB p.1 k0=true):∀x,x∈ks->ltB x k0=true:=by
 induction h with
 | one _=>simp
 | more h h1 h2 hk ih=>
  intro x hx;rcases List.mem_cons.1 hx with rfl | hx
  ·obtain⟨p,hp⟩:=List.exists_mem_of_ne_nil _ (hk.ne hP);exact J9 (h2 p hp) (hl p (by simp[hp]))
  ·exact ih (λ p hp=>hl p (by simp[hp])) x hx
theorem I6.key_ge{P:Nat->List B0->List Nat->Prop}(hP:∀k l S,P k l S->l≠[]){ks:List Bs}{ds:List Nat}{l:List B0}{S:List Nat}(h:I6 P ks ds l S){k0:Bs}(hl:∀p,p∈l->ltB p.1 k0=false):∀x,x∈ks->ltB k0 x=true:=by
 induction h with
 | one _=>simp
 | more h h1 h2 hk ih=>
  intro x hx;rcases List.mem_cons.1 hx with rfl | hx
  ·obtain⟨p,hp⟩:=List.exists_mem_of_ne_nil _ (hP _ _ _ h);exact J9 (hl p (by simp[hp])) (h1 p hp)
  ·exact ih (λ p hp=>hl p (by simp[hp])) x hx
theorem I6.append{P:Nat->List B0->List Nat->Prop}{ks1:List Bs}{ds1:List Nat}{l1:List B0}{S1:List Nat}(h:I6 P ks1 ds1 l1 S1){ks2:List Bs}{ds2:List Nat}{l2:List B0}{S2:List Nat}(h2:I6 P ks2 ds2 l2 S2){k0:Bs}(b1:∀p,p∈l1->ltB p.1 k0=true)(b2:∀p,p∈l2->ltB p.1 k0=false)(hx:∀x,x∈ks1->ltB x k0=true):I6 P (ks1++k0 :: ks2) (ds1++ds2) (l1++l2) (S1++S2):=by
 induction h with
 | one h=>exact .more h b1 b2 h2
 | more h g1 g2 hk ih=>
  have:=I6.more h g1 (λ p hp=>?_) (ih (λ p hp=>b1 p (by simp[hp])) (λ x q=>hx x (by simp[q])))
  ·simpa using this
  ·rcases List.mem_append.1 hp with q | q
   ·exact g2 p q
   ·rename_i key _ _ _ _;cases r:ltB p.1 key
    ·rfl
    ·have:=I8 r (hx key (by simp));rw[b2 p q] at this;simp at this
def Q7(C:Nat->Sec):Nat->List Bs->List Bs->List Nat->List B0->List Nat->Prop
 | 0,ks,vs,ds,l,S=>S=[]/\ds=[]/\ks=l.map (·.1)/\vs=l.map (·.2)/\(∀p,p∈l->p.1.length=32/\p.2.length=16)/\ks.Pairwise (λ x y=>ltB x y=true)
 | d+1,ks,vs,ds,l,S=>vs=[]/\(∀x,x∈ks->x.length=32)/\(∀x,x∈ds->x<4294967296)/\ks.Pairwise (λ x y=>ltB x y=true)/\I6 (λ k l S=>E3 C false d k l S) ks ds l S
def Aj7:Nat->List Bs->List Bs->List Nat->Sec
 | 0,ks,vs,_=>C8 ks vs
 | _+1,ks,_,ds=>B5 ks ds
def N9:Nat->Nat
 | 0=>5
 | _+1=>6
def V2:Nat->Nat
 | 0=>10
 | _+1=>13
theorem E3.open{C:Nat->Sec}:∀{d:Nat} {root:Bool} {a:Nat} {l:List B0} {S:List Nat},E3 C root d a l S->∃ks vs ds S',S=a :: S'/\a<4294967296/\Q7 C d ks vs ds l S'/\C a=Aj7 d ks vs ds/\(if root then 1 else N9 d)<=ks.length/\ks.length<=V2 d
 | 0,root,a,l,S,h=>by
  obtain⟨h1,h2,h3,h4,h5,h6⟩:=h;exact⟨_,_,[],[],h1,h2,⟨rfl,rfl,rfl,rfl,h3.pairs,h6⟩,h4,by rw[List.length_map];exact h5,h3.most⟩
 | d+1,root,a,l,S,h=>by
  obtain⟨h0,ks,ds,S',h1,h2,h3,h4,h5,h6⟩:=h;exact⟨ks,[],ds,S',h1,h0,⟨rfl,h2.k,h2.d,h5,h6⟩,h3,h4,h2.most⟩
theorem Q7.close{C:Nat->Sec}:∀{d:Nat} {ks vs:List Bs} {ds:List Nat} {l:List B0} {S:List Nat},Q7 C d ks vs ds l S->∀{root:Bool} {a:Nat},a<4294967296->C a=Aj7 d ks vs ds->(if root then 1 else N9 d)<=ks.length->ks.length<=V2 d->E3 C root d a l (a :: S)
 | 0,_,_,_,l,S,h,root,a,ha,hc,h1,h2=>by
  obtain⟨rfl,rfl,rfl,rfl,h3,h4⟩:=h;rw[List.length_map] at h1 h2;exact⟨rfl,ha,Be6 h3 h2,hc,h1,h4⟩
 | d+1,ks,vs,ds,l,S,h,root,a,ha,hc,h1,h2=>by
  obtain⟨rfl,h3,h4,h5,h6⟩:=h;exact⟨ha,ks,ds,S,rfl,⟨h3,h4,h6.n,h2⟩,hc,h1,h5,h6⟩
theorem Q7.keep{C C':Nat->Sec}:∀{d:Nat} {ks vs:List Bs} {ds:List Nat} {l:List B0} {S:List Nat},Q7 C d ks vs ds l S->(∀s,s∈S->C' s=C s)->Q7 C' d ks vs ds l S
 | 0,_,_,_,_,_,h,_=>h
 | _+1,_,_,_,_,_,⟨h1,h2,h3,h4,h5⟩,hc=>⟨h1,h2,h3,h4,h5.mono λ _ _ _ hs h=>h.keep λ s q=>hc s (hs s q)⟩
theorem Q7.len{C:Nat->Sec}:∀{d:Nat} {ks vs:List Bs} {ds:List Nat} {l:List B0} {S:List Nat},Q7 C d ks vs ds l S->(∀x,x∈ks->x.length=32)/\(∀x,x∈vs->x.length=16)/\(∀x,x∈ds->x<4294967296)/\(if d=0 then vs.length=ks.length/\ds=[] else ds.length=ks.length+1/\vs=[])
 | 0,_,_,_,l,_,h=>by
  obtain⟨rfl,rfl,rfl,rfl,h3,h4⟩:=h;refine⟨λ x hx=>?_,λ x hx=>?_,by simp,by simp⟩
  ·obtain⟨p,hp,rfl⟩:=List.mem_map.1 hx;exact(h3 p hp).1
  ·obtain⟨p,hp,rfl⟩:=List.mem_map.1 hx;exact(h3 p hp).2
 | _+1,_,_,_,_,_,h=>by
  obtain⟨rfl,h2,h3,h4,h5⟩:=h;exact⟨h2,by simp,h3,by simp[h5.n]⟩
def Ah9:Nat->List Bs->Bs->List Bs->List Bs
 | 0,ks1,_,ks2=>ks1++ks2
 | _+1,ks1,k0,ks2=>ks1++k0 :: ks2
def Al7:Nat->List Bs->Nat->List Bs
 | 0,ks,h=>ks.drop h
 | _+1,ks,h=>ks.drop (h+1)
theorem Q7.join{C:Nat->Sec}:∀{d:Nat} {ks1 vs1 ks2 vs2:List Bs} {ds1 ds2:List Nat} {l1 l2:List B0} {S1 S2:List Nat} {k0:Bs},Q7 C d ks1 vs1 ds1 l1 S1->Q7 C d ks2 vs2 ds2 l2 S2->k0.length=32->(∀p,p∈l1->ltB p.1 k0=true)->(∀p,p∈l2->ltB p.1 k0=false)->Q7 C d (Ah9 d ks1 k0 ks2) (vs1++vs2) (ds1++ds2) (l1++l2) (S1++S2)
 | 0,_,_,_,_,_,_,l1,l2,_,_,k0,h1,h2,hk,b1,b2=>by
  obtain⟨rfl,rfl,rfl,rfl,h3,h4⟩:=h1;obtain⟨rfl,rfl,rfl,rfl,g3,g4⟩:=h2;refine⟨rfl,rfl,by simp[Ah9],by simp,λ p hp=>?_,?_⟩
  ·rcases List.mem_append.1 hp with q | q
   ·exact h3 p q
   ·exact g3 p q
  ·refine List.pairwise_append.2 ⟨h4,g4,λ x hx y hy=>?_⟩;obtain⟨p,hp,rfl⟩:=List.mem_map.1 hx;obtain⟨q,hq,rfl⟩:=List.mem_map.1 hy;cases r:ltB p.1 q.1
   ·have:=J9 (a:=q.1) r (b1 p hp);rw[b2 q hq] at this;simp at this
   ·rfl
 | d+1,ks1,_,ks2,_,_,_,_,_,_,_,k0,h1,h2,hk,b1,b2=>by
  obtain⟨rfl,h2',h3,h4,h5⟩:=h1;obtain⟨rfl,g2,g3,g4,g5⟩:=h2;have k1:=h5.key_lt (λ k l S h=>E3.ne h) b1;have k2:=g5.key_ge (λ k l S h=>E3.ne h) b2;show Q7 C (d+1) (ks1++k0 :: ks2) _ _ _ _
  refine⟨rfl,λ x hx=>?_,λ x hx=>?_,?_,h5.append g5 b1 b2 k1⟩
  ·simp only[List.mem_append,List.mem_cons] at hx;rcases hx with q | rfl | q
   ·exact h2' x q
   ·exact hk
   ·exact g2 x q
  ·rcases List.mem_append.1 hx with q | q
   ·exact h3 x q
   ·exact g3 x q
  ·refine List.pairwise_append.2 ⟨h4,List.pairwise_cons.2 ⟨k2,g4⟩,λ x hx y hy=>?_⟩;rcases List.mem_cons.1 hy with rfl | hy
   ·exact k1 x hx
   ·exact I8 (k1 x hx) (k2 y hy)
theorem Q7.share{C:Nat->Sec}:∀{d:Nat} {ks vs:List Bs} {ds:List Nat} {l:List B0} {S:List Nat},Q7 C d ks vs ds l S->∀{h:Nat} {k':Bs},ks[h]?=some k'->∃l1 S1 l2 S2,l=l1++l2/\S=S1++S2/\Q7 C d (ks.take h) (vs.take h) (ds.take (h+1)) l1 S1/\Q7 C d (Al7 d ks h) (vs.drop h) (ds.drop (h+1)) l2 S2/\(∀p,p∈l1->ltB p.1 k'=true)/\(∀p,p∈l2->ltB p.1 k'=false)
 | 0,_,_,_,l,_,ho,h,k',hk=>by
  obtain⟨rfl,rfl,rfl,rfl,h3,h4⟩:=ho;refine⟨l.take h,[],l.drop h,[],by simp,rfl,⟨rfl,by simp,by rw[List.map_take],by rw[List.map_take],λ p hp=>h3 p (List.mem_of_mem_take hp),h4.sublist (List.take_sublist _ _)⟩,⟨rfl,by simp,by simp[Al7,List.map_drop],by rw[List.map_drop],λ p hp=>h3 p (List.mem_of_mem_drop hp),?_⟩,λ p hp=>?_,λ p hp=>?_⟩
  ·exact h4.sublist (List.drop_sublist _ _)
  all_goals
   have hlt:=(List.getElem?_eq_some_iff.1 hk).1;have hsp:(l.map (·.1))=(l.map (·.1)).take h++k' :: (l.map (·.1)).drop (h+1):=by
    rw[← (List.getElem?_eq_some_iff.1 hk).2,← List.drop_eq_getElem_cons,List.take_append_drop]
   rw[hsp] at h4;have h5:=List.pairwise_append.1 h4
  ·exact h5.2.2 p.1 (by rw[← List.map_take];exact List.mem_map.2 ⟨p,hp,rfl⟩) k' (by simp)
  ·have hm:p.1∈(l.map (·.1)).drop h:=by rw[← List.map_drop];exact List.mem_map.2 ⟨p,hp,rfl⟩
   rw[List.drop_eq_getElem_cons hlt,(List.getElem?_eq_some_iff.1 hk).2] at hm;rcases List.mem_cons.1 hm with e | q
   ·rw[e];exact L5 _
   ·exact P3 ((List.pairwise_cons.1 h5.2.1).1 _ q)
 | d+1,ks,_,ds,l,S,ho,h,k',hk=>by
  obtain⟨rfl,h2,h3,h4,h5⟩:=ho;obtain⟨l1,S1,l2,S2,e1,e2,k1,k2,b1,b2⟩:=h5.part h4 hk;exact⟨l1,S1,l2,S2,e1,e2,⟨by simp,λ x q=>h2 x (List.mem_of_mem_take q),λ x q=>h3 x (List.mem_of_mem_take q),h4.sublist (List.take_sublist _ _),k1⟩,⟨by simp,λ x q=>h2 x (List.mem_of_mem_drop q),λ x q=>h3 x (List.mem_of_mem_drop q),h4.sublist (List.drop_sublist _ _),k2⟩,b1,b2⟩
end Go.Proofs.YtgfbepakonjbnaaGreat
end
section
namespace Go.Proofs.YtgfbepakonjbnaaGreat
open Go.RowKit Go.MapKept Go.ChangeMaps
section
section
variable {P:Program} {ops:Array Oper} {Q:Exit->Act->World->Prop} {md:Region.Mode} {S:World->Prop} {St:List Nat}
def Am5(St:List Nat)(listed:Array Bool):Prop:=∀s,s∈St->listed.getD s false=false
def Aq6(md:Region.Mode)(ops:Array Oper)(listed:Array Bool):Prop:=∀j oj,ops[j]?=some oj->listed.getD j false=true->∀e∈oj.after,Region.binds md e=true->listed.getD e.on false=true
def Ax5(md:Region.Mode)(ops:Array Oper)(i:Nat):Nat->Nat->Bool
 | 0,s=>s == i
 | f+1,s=>s == i || match ops[s]? with
  | none=>false
  | some o=>o.after.any λ e=>Region.binds md e && Ax5 md ops i f e.on
theorem Bl5{listed:Array Bool}(hc:Aq6 md ops listed){i:Nat}:∀{f s:Nat},Ax5 md ops i f s=true->listed.getD s false=true->listed.getD i false=true
 | 0,s,h,hs=>by simp[Ax5] at h;rw[← h];exact hs
 | f+1,s,h,hs=>by
  unfold Ax5 at h;rw[Bool.or_eq_true] at h;rcases h with h | h
  ·simp at h;rw[← h];exact hs
  ·cases ho:ops[s]? with
   | none=>rw[ho] at h;simp at h
   | some o=>
    rw[ho] at h;obtain⟨e,he,hb⟩:=Array.any_eq_true'.1 h;simp only[Bool.and_eq_true] at hb;exact Bl5 hc hb.2 (hc s o ho hs e he hb.1)
theorem Aq6.set{listed:Array Bool}(hc:Aq6 md ops listed){j:Nat}(hj:j∈Region.ready md ops listed):Aq6 md ops (listed.setIfInBounds j true):=by
 intro k ok hk hl e he hb;obtain⟨_,oj,hoj,hall⟩:=mem_ready.1 hj;by_cases hkj:j=k
 ·subst hkj;rw[hk] at hoj;cases hoj
  exact getD_set_true (hall e he hb)
 ·rw[getD_set_ne false hkj] at hl;exact getD_set_true (hc k ok hk hl e he hb)
def T9(P:Program)(md:Region.Mode)(ops:Array Oper)(Q:Exit->Act->World->Prop)(S:World->Prop)(St:List Nat):Nat->Array Bool->Act->World->Prop
 | 0,listed,a,w=>Region.ready md ops listed=[]/\Q .normal a w
 | fuel+1,listed,a,w=>
  (Region.ready md ops listed=[]->Q .normal a w)/\
  ∀i∈Region.ready md ops listed,wpOp P ops Q i (λ a' w'=>(Am5 St (listed.setIfInBounds i true)->S w')/\T9 P md ops Q S St fuel (listed.setIfInBounds i true) a' w') a w
theorem Ax6:∀(fuel:Nat) (listed:Array Bool) (a:Act) (w:World),T9 P md ops Q S St fuel listed a w->wpAny P md ops Q fuel listed a w
 | 0,_,_,_,h=>h
 | fuel+1,_,_,_,h=>⟨h.1,λ i hi=>wpOp_mono (λ a' w' h'=>Ax6 fuel _ a' w' h'.2) (h.2 i hi)⟩
theorem Bh0{i:Nat}{oi:Oper}{v:Value}(hi:ops[i]?=some oi)(hsel:∀(j:Nat) (o:Oper) cs b,ops[j]?=some o->o.op≠.select cs b)
  (hQ:∀c a w,Q (.panic c) (a.put oi.dst v) w->Q (.panic c) a w) (hw:∀s,s∈St->∃f,Ax5 md ops i f s=true/\s≠i) :
  ∀(fuel:Nat) (listed:Array Bool) (a:Act) (w:World),Aq6 md ops listed->
   (∀j oj,ops[j]?=some oj->j≠i->listed.getD j true=false->(∀e∈oj.after,Region.binds md e=true->e.on≠i)->oi.apart ops oj=true)->
   i∈Region.ready md ops listed->YieldsIf P ops S oi v a->S w->
   T9 P md ops Q S St fuel (listed.setIfInBounds i true) (a.put oi.dst v) w->T9 P md ops Q S St (fuel+1) listed a w:=by
 intro fuel;induction fuel with
 | zero=>
  intro listed a w _ _ hr hy hS H;refine⟨λ h=>(by rw[h] at hr;cases hr),λ j hj=>?_⟩;by_cases hji:j=i
  ·subst hji;exact hy.wpOp hi hS ⟨λ _=>hS,H⟩
  ·have:=ready_mono hj hji;rw[H.1] at this;cases this
 | succ fuel ih=>
  intro listed a w hcl hfree hr hy hS H;refine⟨λ h=>(by rw[h] at hr;cases hr),λ j hj=>?_⟩;by_cases hji:j=i
  ·subst hji;exact hy.wpOp hi hS ⟨λ _=>hS,H⟩
  ·have h1:=H.2 j (ready_mono hj hji);obtain⟨hjun,oj,hoj,hall⟩:=mem_ready.1 hj;have hiun:=(mem_ready.1 hr).1;have hnot:∀e∈oj.after,Region.binds md e=true->e.on≠i:=λ e he hb heq=>by
    have h1:=hall e he hb;rw[heq] at h1;rcases Nat.lt_or_ge i listed.size with h' | h'
    ·simp[h'] at hiun h1;rw[hiun] at h1;cases h1
    ·simp[Array.getElem?_eq_none h'] at h1
   have h2:=wpOp_putIf hoj (hfree j oj hoj hji hjun hnot) (λ cs b=>hsel i oi cs b hi) (λ cs b=>hsel j oj cs b hoj) hQ hy h1;have hfree':∀k ok,ops[k]?=some ok->k≠i->(listed.setIfInBounds j true).getD k true=false->
     (∀e∈ok.after,Region.binds md e=true->e.on≠i)->oi.apart ops ok=true:=λ k ok hk hki hun hno=>by
    refine hfree k ok hk hki ?_ hno;by_cases hjk:j=k
    ·subst hjk;exact hjun
    ·rw[getD_set_ne true hjk] at hun;exact hun
   have hcl':=hcl.set hj;have hi0:(listed.setIfInBounds j true).getD i false=false:=by
    rw[getD_set_ne false hji];rcases Nat.lt_or_ge i listed.size with h' | h'
    ·simp[h'] at hiun ⊢;exact hiun
    ·simp[Array.getElem?_eq_none h']
   have hnone:Am5 St ((listed.setIfInBounds i true).setIfInBounds j true):=λ s hs=>by
    obtain⟨f,hf,hsi⟩:=hw s hs;rw[Array.setIfInBounds_comm _ _ (Ne.symm hji),getD_set_ne false (Ne.symm hsi)];cases hq:(listed.setIfInBounds j true).getD s false
    ·rfl
    ·have:=Bl5 hcl' hf hq;rw[hi0] at this;cases this
   refine wpOp_mono (λ a' w' h3=>?_) h2;have hS':=h3.2.1 hnone;refine⟨λ _=>hS',ih (listed.setIfInBounds j true) a' w' hcl' hfree' (ready_mono hr (Ne.symm hji)) h3.1 hS' ?_⟩;rw[Array.setIfInBounds_comm _ _ hji];exact h3.2.2
def Bv6(md:Region.Mode)(ops:Array Oper)(listed:Array Bool):Bool:=(List.range ops.size).all λ j=> !listed.getD j false || ((ops[j]?).map (·.after.all λ e=> !Region.binds md e || listed.getD e.on false)).getD true
theorem By6{listed:Array Bool}(h:Bv6 md ops listed=true):Aq6 md ops listed:=by
 intro j oj hj hl e he hb;have h1:=(List.all_eq_true.1 h) j (List.mem_range.2 (Array.getElem?_eq_some_iff.1 hj).1);rw[hj,hl] at h1;simp only[Bool.not_true,Bool.false_or,Option.map_some,Option.getD_some] at h1;have h2:=Array.all_eq_true_iff_forall_mem.1 h1 e he;rw[hb] at h2;simpa using h2
theorem A0{i:Nat}{oi:Oper}{v:Value}{fuel:Nat}{listed:Array Bool}{a:Act}{w:World}(hi:ops[i]?=some oi)
  (hk:(Region.noSelect ops && Region.free md ops listed i && (Region.ready md ops listed).contains i && Bv6 md ops listed && St.all λ s=>Ax5 md ops i ops.size s && !(s == i))=true)
  (hQ:∀c a w,Q (.panic c) (a.put oi.dst v) w->Q (.panic c) a w) (hS:S w) (hy:YieldsIf P ops S oi v a)
  (h:T9 P md ops Q S St fuel (listed.setIfInBounds i true) (a.put oi.dst v) w):T9 P md ops Q S St (fuel+1) listed a w:=by
 simp only[Bool.and_eq_true] at hk;obtain⟨⟨⟨⟨h1,h2⟩,h3⟩,h4⟩,h5⟩:=hk;refine Bh0 hi (Region.noSelect_spec h1) hQ (λ s hs=>?_) fuel listed a w (By6 h4) (Region.free_spec hi h2) (by simpa using h3) hy hS h;have:=(List.all_eq_true.1 h5) s hs;simp only[Bool.and_eq_true,Bool.not_eq_true',beq_eq_false_iff_ne] at this;exact⟨_,this.1,this.2⟩
def A5(P:Program)(md:Region.Mode)(ops:Array Oper)(Q:Exit->Act->World->Prop)(S:World->Prop)(St:List Nat)(fuel:Nat)(listed:Array Bool)(a:Act)(w:World)(rs:List Nat):Prop:=
 ∀i∈rs,wpOp P ops Q i (λ a' w'=>(Am5 St (listed.setIfInBounds i true)->S w')/\T9 P md ops Q S St fuel (listed.setIfInBounds i true) a' w') a w
theorem A5.one{fuel:Nat}{listed:Array Bool}{a:Act}{w:World}{i:Nat}{o:Oper}(ho:ops[i]?=some o)
  (h:∀K':Act->World->Prop,Shut (∀a w,(Am5 St (listed.setIfInBounds i true)->S w)->(T9 P md ops Q S St fuel (listed.setIfInBounds i true) a w)->K' a w)->if Region.wanted o (yielded ops a.tmps)=true then Oper.wp P o a w K' Q else K' (a.put o.dst undef) w):A5 P md ops Q S St fuel listed a w [i]:=λ j hj=>by
 rcases List.mem_cons.1 hj with rfl | hj
 ·exact wpOp_step ho (λ K' hK=>h K' (λ a w hS hW=>hK a w ⟨hS,hW⟩))
 ·cases hj
theorem A5.cons{fuel:Nat}{listed:Array Bool}{a:Act}{w:World}{i:Nat}{rs:List Nat}(h:A5 P md ops Q S St fuel listed a w [i])(hs:A5 P md ops Q S St fuel listed a w rs):A5 P md ops Q S St fuel listed a w (i :: rs):=λ j hj=>by
 rcases List.mem_cons.1 hj with rfl | hj
 ·exact h j (by simp)
 ·exact hs j hj
theorem A3{rs:List Nat}{fuel:Nat}{listed:Array Bool}{a:Act}{w:World}(hr:Region.ready md ops listed=rs)(hne:rs≠[])
  (h:A5 P md ops Q S St fuel listed a w rs):T9 P md ops Q S St (fuel+1) listed a w:=
 ⟨λ h0=>absurd (hr ▸ h0) hne,hr ▸ h⟩
theorem κt(i:Nat){oi:Oper}(v:Value){fuel:Nat}{listed:Array Bool}{a:Act}{w:World}(hS:S w)(hr:∀w,S w->(execOp a.eval oi).run P w=.ok (.value v) w)(h:T9 P md ops Q S St fuel (listed.setIfInBounds i true) (a.put oi.dst v) w)(hi:ops[i]?=some oi:=by exact rfl)(hk:(Region.noSelect ops && Region.free md ops listed i && (Region.ready md ops listed).contains i && Bv6 md ops listed && St.all λ s=>Ax5 md ops i ops.size s && !(s == i))=true:=by kernel_rfl)(hQ:∀c a w,Q (.panic c) (a.put oi.dst v) w->Q (.panic c) a w:=by exact λ _ _ _ h=>h)(hw:Region.wanted oi (yielded ops a.tmps)=true:=by kernel_rfl):T9 P md ops Q S St (fuel+1) listed a w:=A0 hi hk hQ hS (.inl ⟨hw,hr⟩) h
theorem κr(i:Nat){fuel:Nat}{listed:Array Bool}{a:Act}{w:World}{o:Oper}(h:∀K':Act->World->Prop,Shut (∀a w,(Am5 St (listed.setIfInBounds i true)->S w)->(T9 P md ops Q S St fuel (listed.setIfInBounds i true) a w)->K' a w)->if Region.wanted o (yielded ops a.tmps)=true then Oper.wp P o a w K' Q else K' (a.put o.dst undef) w)(hr:Region.ready md ops listed=[i]:=by kernel_rfl)(ho:ops[i]?=some o:=by exact rfl):T9 P md ops Q S St (fuel+1) listed a w:=A3 hr (by simp) (A5.one ho h)
theorem κg{α:Type _}{xs:List α}{i:Nat}(h:i<xs.toArray.size):xs.toArray[i]=xs[i]'(by simpa using h):=List.getElem_toArray h
theorem κo{α:Type _}(a:α)(l:List α)(h:0<(a::l).length):(a::l)[0]'h=a:=rfl
theorem κp{α:Type _}(a:α)(l:List α)(i:Nat)(h:i+1<(a::l).length):(a::l)[i+1]'h=l[i]'(Nat.lt_of_succ_lt_succ h):=rfl
theorem B1{listed:Array Bool}{a:Act}{w:World}(hr:Region.ready md ops listed=[])(h:Q .normal a w) :
  ∀fuel,T9 P md ops Q S St fuel listed a w
 | 0=>⟨hr,h⟩
 | _+1=>⟨λ _=>h,by rw[hr];simp⟩
theorem B6{id:Nat}{a:Act}{w:World}(S:World->Prop)(St:List Nat)(hm:P.follows .mixedOrders=true)(hS:S w.drew)
  (h:S w.drew->T9 P .any ops Q S St ops.size (Array.replicate ops.size false) a w.drew):(Code.region id ops true).wp P Q a w:=
 wp_region_any hm (Ax6 _ _ _ _ (h hS))
theorem E0:∀{fuel:Nat} {listed:Array Bool} {a:Act} {w:World},(St.any λ s=>listed.getD s false)=true->T9 P md ops Q (λ _=>True) [] fuel listed a w->T9 P md ops Q S St fuel listed a w
 | 0,_,_,_,_,h=>h
 | fuel+1,listed,a,w,hs,h=>⟨h.1,λ i hi=>wpOp_mono (λ a' w' h'=>by
   have hs':(St.any λ s=>(listed.setIfInBounds i true).getD s false)=true:=by
    obtain⟨s,hm,he⟩:=List.any_eq_true.1 hs;exact List.any_eq_true.2 ⟨s,hm,getD_set_true he⟩
   refine⟨λ hn=>?_,E0 hs' h'.2⟩;obtain⟨s,hm,he⟩:=List.any_eq_true.1 hs';rw[hn s hm] at he;cases he) (h.2 i hi)⟩
end
end
section
theorem F3{w:World}{B n sz:Nat}{e:TypeId}{v:Value}{xs:List Value}(h:w.ownsRow B e sz v n xs)(hn:0<n):∃g cap,v=.slice (some ⟨g,0,none⟩) n cap/\B<=g/\n<=cap/\(∀(j:Nat) (u:Value),xs[j]?=some u->w.cell? ⟨g,j,none⟩=some u)/\(∃c,w.heap[g]?=some (.cells c e (0,0))):=by
 rcases h.2 with⟨_,h0⟩ | ⟨g,cap,cur,rfl,hb,hg,hc,hm,hs,ht⟩
 ·omega
 ·refine⟨g,cap,rfl,hb,hc,λ j u hj=>?_,_,hg⟩;rw[← ht,List.getElem?_take] at hj;split at hj
  ·rw[A4 hg,← Array.getElem?_toList];exact hj
  ·simp at hj
theorem L3{w:World}{B B' n sz:Nat}{e:TypeId}{v:Value}{xs:List Value}(h:w.ownsRow B e sz v n xs)(hb:B'<=B):w.ownsRow B' e sz v n xs:=by
 refine⟨h.1,h.2.imp id ?_⟩;rintro⟨g,cap,cur,e1,e2,e3⟩;exact⟨g,cap,cur,e1,Nat.le_trans hb e2,e3⟩
theorem Al0{w:World}{B B' n gk ck:Nat}{K:List Bs}(h:C3 w B (.slice (some ⟨gk,0,none⟩) n ck) K)(hl:∀x,x∈K->x.length=32)(i m o cap:Nat)(hm:i+m=K.length)(ho:o=i*32)(h0:0<m)(hn:n<=100)(hB:B'<=w.heap.size) :
  Calls Tryz.prog 206 #[.slice (some ⟨gk,o,none⟩) m cap] w λ e w'=>∃a c,e=.returned (.slice a m c)/\C3 w' B' (.slice a m c) (K.drop i)/\Upd [] w w':=by
 subst ho;obtain⟨g,cap',e,hb,hc,hcell,_⟩:=F3 h (by omega);injection e with e1 e2 e3;injection e1 with e1;injection e1 with e1;subst e1;have hxl:((K.drop i).map bts).flatten.length=m*32:=by rw[M5 (M9 (n:=32) (λ x q=>hl x (List.mem_of_mem_drop q))),List.length_map,List.length_drop];congr 1;omega
 refine(Cs2 (b:=gk) (off:=i*32) (n:=m) (cap:=cap) (xs:=((K.drop i).map bts).flatten) h0 (by omega) hxl (V6 _) (λ j u hj=>hcell (i*32+j) u ?_)).mono λ e w' hp=>?_
 ·rw[List.map_drop,Ab7 i (M9 hl),List.getElem?_drop] at hj;exact hj
 ·obtain⟨a,c,e1,e2,e3⟩:=hp;refine⟨a,c,e1,?_,e3⟩;unfold C3;rw[List.length_drop,show K.length-i=m by omega];exact L3 e2 hB
theorem Bz9{w:World}{B B' n gk ck:Nat}{K:List Bs}(h:F7 w B (.slice (some ⟨gk,0,none⟩) n ck) K)(hl:∀x,x∈K->x.length=16)(i m o cap:Nat)(hm:i+m=K.length)(ho:o=i*16)(h0:0<m)(hn:n<=100)(hB:B'<=w.heap.size) :
  Calls Tryz.prog 207 #[.slice (some ⟨gk,o,none⟩) m cap] w λ e w'=>∃a c,e=.returned (.slice a m c)/\F7 w' B' (.slice a m c) (K.drop i)/\Upd [] w w':=by
 subst ho;obtain⟨g,cap',e,hb,hc,hcell,_⟩:=F3 h (by omega);injection e with e1 e2 e3;injection e1 with e1;injection e1 with e1;subst e1;have hxl:((K.drop i).map bts).flatten.length=m*16:=by rw[M5 (M9 (n:=16) (λ x q=>hl x (List.mem_of_mem_drop q))),List.length_map,List.length_drop];congr 1;omega
 refine(Cs3 (b:=gk) (off:=i*16) (n:=m) (cap:=cap) (xs:=((K.drop i).map bts).flatten) h0 (by omega) hxl (V6 _) (λ j u hj=>hcell (i*16+j) u ?_)).mono λ e w' hp=>?_
 ·rw[List.map_drop,Ab7 i (M9 hl),List.getElem?_drop] at hj;exact hj
 ·obtain⟨a,c,e1,e2,e3⟩:=hp;refine⟨a,c,e1,?_,e3⟩;unfold F7;rw[List.length_drop,show K.length-i=m by omega];exact L3 e2 hB
theorem Ca0{w:World}{B B' n gk ck:Nat}{D:List Nat}(h:D8 w B (.slice (some ⟨gk,0,none⟩) n ck) D)(i m cap:Nat)(hm:i+m=D.length)(h0:0<m)(hn:n<=100)(hB:B'<=w.heap.size) :
  Calls Tryz.prog 210 #[.slice (some ⟨gk,i,none⟩) m cap] w λ e w'=>∃a c,e=.returned (.slice a m c)/\D8 w' B' (.slice a m c) (D.drop i)/\Upd [] w w':=by
 obtain⟨g,cap',e,hb,hc,hcell,_⟩:=F3 h (by omega);injection e with e1 e2 e3;injection e1 with e1;injection e1 with e1;subst e1;refine(Cs4 (b:=gk) (off:=i) (n:=m) (cap:=cap) (xs:=(D.drop i).map λ d:Nat=>Value.int .u32 (d:Int)) h0 (by omega) (by rw[List.length_map,List.length_drop];omega) (by intro u q;obtain⟨d,_,rfl⟩:=List.mem_map.1 q;rfl) (λ j u hj=>hcell (i+j) u ?_)).mono λ e w' hp=>?_
 ·rw[List.map_drop,List.getElem?_drop] at hj;exact hj
 ·obtain⟨a,c,e1,e2,e3⟩:=hp;refine⟨a,c,e1,?_,e3⟩;unfold D8;rw[List.length_drop,show D.length-i=m by omega];exact L3 e2 hB
structure O7(g:Sg)(M:Nat->Option Sec)(wA:World)(b10 b12:Nat)(X:Array Value)(k:Value)(K:List Bs)(R:World->Prop)(w:World):Prop where
 c12:w.heap[b12]?=some (.cells X 220 (0,0))
 k:C3 w wA.heap.size k K
 r:R w
 sp:B7 w g M
 upd:Upd g.S wA w
 c10:w.heap[b10]?=some (.cells (K4 none).toArray 228 (0,0))
theorem O7.below{g:Sg}{M:Nat->Option Sec}{wA:World}{b10 b12:Nat}{X:Array Value}{k:Value}{K:List Bs}{R:World->Prop}{w w':World}(h:O7 g M wA b10 b12 X k K R w)(hR:∀{w w'},R w->Upd [] w w'->R w')(hu:Upd [] w w'):O7 g M wA b10 b12 X k K R w':=
 ⟨(hu.block _ (A2 h.c12) (by simp)).trans h.c12,B8 (S:=[]) h.k hu (by simp),hR h.r hu,h.sp.below hu,h.upd.trans (hu.mono (by simp)),(hu.block _ (A2 h.c10) (by simp)).trans h.c10⟩
theorem F7.below{w w':World}{B:Nat}{v:Value}{V:List Bs}(h:F7 w B v V)(hu:Upd [] w w'):F7 w' B v V:=B8 (S:=[]) h hu (by simp)
theorem D8.below{w w':World}{B:Nat}{v:Value}{V:List Nat}(h:D8 w B v V)(hu:Upd [] w w'):D8 w' B v V:=B8 (S:=[]) h hu (by simp)
theorem C3.below{w w':World}{B:Nat}{v:Value}{V:List Bs}(h:C3 w B v V)(hu:Upd [] w w'):C3 w' B v V:=B8 (S:=[]) h hu (by simp)
def Ab8(R:World->Prop):Prop:=∀(w w':World) (b:Nat) (c:Array Value),R w->w.heap[b]?=some (.cells c 220 (0,0))->Upd [b] w w'->R w'
theorem F7.node{B:Nat}{v:Value}{V:List Bs}:Ab8 (λ w=>F7 w B v V):=λ w w' b c h hb hu=>B8 (S:=[b]) h hu (λ k c' hk _ e=>by simp at hk;subst hk;rw[hb] at e;simp at e)
theorem D8.node{B:Nat}{v:Value}{V:List Nat}:Ab8 (λ w=>D8 w B v V):=λ w w' b c h hb hu=>B8 (S:=[b]) h hu (λ k c' hk _ e=>by simp at hk;subst hk;rw[hb] at e;simp at e)
theorem C3.node{B:Nat}{v:Value}{V:List Bs}:Ab8 (λ w=>C3 w B v V):=λ w w' b c h hb hu=>B8 (S:=[b]) h hu (λ k c' hk _ e=>by simp at hk;subst hk;rw[hb] at e;simp at e)
theorem O7.node{g:Sg}{M:Nat->Option Sec}{wA:World}{b10 b12:Nat}{X:Array Value}{k:Value}{K:List Bs}{R:World->Prop}{w w':World}(h:O7 g M wA b10 b12 X k K R w)(hR:Ab8 R){b:Nat}{c:Array Value}(hb:w.heap[b]?=some (.cells c 220 (0,0)))(hne:b12≠b)(hB:wA.heap.size<=b)(hu:Upd [b] w w'):O7 g M wA b10 b12 X k K R w':=by
 have h10:b10≠b:=by
  rintro rfl;have:=h.c10;rw[hb] at this;simp at this
 exact⟨(hu.block _ (A2 h.c12) (by simpa using hne)).trans h.c12,C3.node _ _ _ _ h.k hb hu,hR _ _ _ _ h.r hb hu,h.sp.turned9 (λ x hx=>by simp at hx;subst hx;exact⟨_,_,_,hb,.inr (.inl rfl)⟩) hu,h.upd.late hu (λ x hx=> .inr (by simp at hx;subst hx;exact hB)),(hu.block _ (A2 h.c10) (by simpa using h10)).trans h.c10⟩
def Cl9(g:Sg)(M:Nat->Option Sec)(wA:World)(b10 b12:Nat)(X:Array Value)(k:Value)(K:List Bs)(R:World->Prop)(Y:Option Addr->Nat->Option Addr->Nat->List Value)(n2:Nat)(K2:List Bs)(R2:Option Addr->Nat->World->Prop)(s16:Value)(w:World):Prop:=
 ∃b16 a4 c4 a5 c5,s16=.pointer (some ⟨b16,0,none⟩)/\b12<b16/\wA.heap.size<=b16/\w.heap[b16]?=some (.cells (Y a4 c4 a5 c5).toArray 220 (0,0))/\C3 w wA.heap.size (.slice a4 n2 c4) K2/\R2 a5 c5 w/\O7 g M wA b10 b12 X k K R w
section
variable {g:Sg} {M:Nat->Option Sec} {wA:World} {b10 b12:Nat} {X:Array Value} {k:Value} {K:List Bs} {R:World->Prop} {Y:Option Addr->Nat->Option Addr->Nat->List Value} {n2:Nat} {K2:List Bs} {R2:Option Addr->Nat->World->Prop} {w:World} {a4 a5:Option Addr} {c4 c5:Nat}
theorem Ao9(hM:O7 g M wA b10 b12 X k K R w)(hk4:C3 w wA.heap.size (.slice a4 n2 c4) K2)(hk5:R2 a5 c5 w)(hR:Ab8 R)(hR2:Ab8 (R2 a5 c5)){b16:Nat}{Z:Array Value}(h16:w.heap[b16]?=some (.cells Z 220 (0,0)))(hlt:b12<b16)(hB:wA.heap.size<=b16):Cl9 g M wA b10 b12 X k K R Y n2 K2 R2 (.pointer (some ⟨b16,0,none⟩)) (w.setRow b16 (Y a4 c4 a5 c5).toArray):=by
 have hu:Upd [b16] w (w.setRow b16 (Y a4 c4 a5 c5).toArray):=D5 (Upd.refl _ _) _ (.inl (by simp));exact⟨b16,a4,c4,a5,c5,rfl,hlt,hB,setRow_heap _ _ _ _ _ _ h16,C3.node _ _ _ _ hk4 h16 hu,hR2 _ _ _ _ hk5 h16 hu,hM.node hR h16 (by omega) hB hu⟩
theorem Bn3(hM:O7 g M wA b10 b12 X k K R w)(hk4:C3 w wA.heap.size (.slice a4 n2 c4) K2)(hk5:R2 a5 c5 w)(hR:∀{w w'},R w->Upd [] w w'->R w')(hR2:∀{w w'},R2 a5 c5 w->Upd [] w w'->R2 a5 c5 w'):Cl9 g M wA b10 b12 X k K R Y n2 K2 R2 (.pointer (some ⟨w.heap.size,0,none⟩)) (w.alloc (.cells (Y a4 c4 a5 c5).toArray 220)):=by
 have hu:Upd [] w (w.alloc (.cells (Y a4 c4 a5 c5).toArray 220)):=(Upd.refl _ _).alloc _;exact⟨w.heap.size,a4,c4,a5,c5,rfl,A2 hM.c12,hM.upd.size,A6 _,hk4.below hu,hR2 hk5 hu,hM.below hR hu⟩
end
theorem Ah4{M:Nat->Option Sec}{h a:Nat}{x:Sec}(ho:MOk M h)(ha:a<h)(hx:x.length=512):MOk (F1 M a x) h:=by
 intro i s e;unfold F1 at e;split at e
 ·next q=>cases e;exact⟨by omega,hx⟩
 ·exact ho i s e
theorem Av1{w:World}{g:Sg}{M:Nat->Option Sec}(h:B7 w g M)(s:Nat)(h1:1<g.h):MOk (Q5 g M s) g.h:=by
 intro i x e;unfold Q5 Ai0 at e;split at e
 ·next q=>cases e;exact⟨by omega,by rw[U0,X0];exact h.cur_len 1⟩
 ·exact h.ok i x e
theorem RRd.take{w:World}{ao:Option Addr}{n c sz:Nat}{es:List (List Value)}(h:RRd w (.slice ao n c) sz es){i:Nat}(hi:i<=es.length):RRd w (.slice ao i c) sz (es.take i):=by
 obtain⟨ao',cap,e,hc,hh⟩:=h;injection e with e1 e2 e3;subst e1 e3;refine⟨ao,c,by rw[List.length_take,Nat.min_eq_left hi],by rw[List.length_take];omega,λ hp=>?_⟩;rw[List.length_take] at hp;obtain⟨b,off,e,hr⟩:=hh (by omega);refine⟨b,off,e,λ j x hj=>hr j x ?_⟩;rw[List.getElem?_take] at hj;split at hj
 ·exact hj
 ·simp at hj
theorem KRd.take{w:World}{ao:Option Addr}{n c:Nat}{ds:List Nat}(h:KRd w (.slice ao n c) ds){i:Nat}(hi:i<=ds.length):KRd w (.slice ao i c) (ds.take i):=by
 obtain⟨ao',cap,e,hc,hh⟩:=h;injection e with e1 e2 e3;subst e1 e3;refine⟨ao,c,by rw[List.length_take,Nat.min_eq_left hi],by rw[List.length_take];omega,λ hp=>?_⟩;rw[List.length_take] at hp;obtain⟨b,off,e,hr⟩:=hh (by omega);refine⟨b,off,e,λ j x hj=>hr j x ?_⟩;rw[List.getElem?_take] at hj;split at hj
 ·exact hj
 ·simp at hj
end
section
def Y2(B:Nat)(T:TypeId)(w w':World):Prop:=∃S,Upd S w w'/\∀k,k∈S->B<=k/\∃c,w.heap[k]?=some (.cells c T (0,0))
theorem Y2.blk{B:Nat}{T:TypeId}{w w':World}(h:Y2 B T w w'){k:Nat}{c:Array Value}{T2:TypeId}{fr:Nat × Nat}(hk:w.heap[k]?=some (.cells c T2 fr))(hn:T2≠T∨k<B):w'.heap[k]?=some (.cells c T2 fr):=by
 obtain⟨S,hu,hs⟩:=h;refine(hu.block _ (A2 hk) (λ q=>?_)).trans hk;obtain⟨hb,c2,e⟩:=hs k q;rw[hk] at e;rcases hn with hn | hn
 ·simp at e;exact hn e.2.1
 ·omega
theorem Y2.own{B:Nat}{T:TypeId}{w w':World}(h:Y2 B T w w'){B' n sz:Nat}{e:TypeId}{v:Value}{xs:List Value}(ho:w.ownsRow B' e sz v n xs)(hne:e≠T):w'.ownsRow B' e sz v n xs:=
 Bm3 ho λ k c hk e=>by rw[h.blk e (.inl hne)];exact e.symm
theorem Y2.sp{B:Nat}{T:TypeId}{w w':World}(h:Y2 B T w w')(hT:Ty9 T){g:Sg}{M:Nat->Option Sec}(hs:B7 w g M):B7 w' g M:=by
 obtain⟨S,hu,hS⟩:=h;exact hs.turned9 (λ b hb=>by obtain⟨_,c,e⟩:=hS b hb;exact⟨_,_,_,e,hT⟩) hu
theorem Y2.upd{B:Nat}{T:TypeId}{w0 w w':World}(h:Y2 B T w w'){S:List Nat}(hu:Upd S w0 w)(hB:w0.heap.size<=B):Upd S w0 w':=by
 obtain⟨S2,hu2,hS⟩:=h;exact hu.late hu2 (λ k hk=> .inr (Nat.le_trans hB (hS k hk).1))
structure Ae1(g:Sg)(M:Nat->Option Sec)(wA:World)(b7 b8 b10 b12:Nat)(key v:Bs)(X:Array Value)(w:World):Prop where
 sp:B7 w g M
 upd:Upd [g.j.jb] wA w
 c7:w.heap[b7]?=some (.cells (bts key).toArray 35 (0,0))
 c8:w.heap[b8]?=some (.cells (bts v).toArray 115 (0,0))
 c10:w.heap[b10]?=some (.cells (K4 none).toArray 228 (0,0))
 c12:w.heap[b12]?=some (.cells X 220 (0,0))
section
variable {g:Sg} {M:Nat->Option Sec} {wA:World} {b7 b8 b10 b12:Nat} {key v:Bs} {X:Array Value} {w w':World}
theorem Ae1.below(h:Ae1 g M wA b7 b8 b10 b12 key v X w)(hu:Upd [] w w'):Ae1 g M wA b7 b8 b10 b12 key v X w':=
 ⟨h.sp.below hu,h.upd.trans (hu.mono (by simp)),(hu.block _ (A2 h.c7) (by simp)).trans h.c7,(hu.block _ (A2 h.c8) (by simp)).trans h.c8,(hu.block _ (A2 h.c10) (by simp)).trans h.c10,(hu.block _ (A2 h.c12) (by simp)).trans h.c12⟩
theorem Ae1.turn(h:Ae1 g M wA b7 b8 b10 b12 key v X w){B:Nat}{T:TypeId}(ht:Y2 B T w w')(hT:Ty9 T)(h7:b7<B)(h8:b8<B)(h10:b10<B)(h12:T≠220)(hB:wA.heap.size<=B):Ae1 g M wA b7 b8 b10 b12 key v X w':=
 ⟨ht.sp hT h.sp,ht.upd h.upd hB,ht.blk h.c7 (.inr h7),ht.blk h.c8 (.inr h8),ht.blk h.c10 (.inr h10),ht.blk h.c12 (.inl (Ne.symm h12))⟩
end
theorem Az7{g:Sg}{M:Nat->Option Sec}{wA:World}{b7 b8 b10 b12:Nat}{key v:Bs}{X:Array Value}{w w':World}(h:Ae1 g M wA b7 b8 b10 b12 key v X w){n m szk szv:Nat}{ek ev:TypeId}{xk xv:Value}{ks vs:List Value}{Bk Bv:Nat}
  (hk:w.ownsRow Bk ek szk xk n ks) (hv:w.ownsRow Bv ev szv xv m vs) (hu:Upd [b12] w w') (hb:wA.heap.size<=b12) (hne:b10≠b12) (hek:ek≠220) (hev:ev≠220) :
  w'.ownsRow Bk ek szk xk n ks/\w'.ownsRow Bv ev szv xv m vs/\B7 w' g M/\Upd [g.j.jb] wA w'/\w'.heap[b10]?=some (.cells (K4 none).toArray 228 (0,0)):=by
 have ne:∀{e:TypeId},e≠220->∀(k:Nat) (c:Array Value),k∈[b12]->∀B,B<=k->w.heap[k]?≠some (.cells c e (0,0)):=λ he k c hk B _ q=>by
  simp at hk;subst hk;rw[h.c12] at q;simp at q;exact he q.2.symm
 exact⟨B8 hk hu (λ k c hk hB=>ne hek k c hk _ hB),B8 hv hu (λ k c hk hB=>ne hev k c hk _ hB),h.sp.turned9 (λ b hb=>by simp at hb;subst hb;exact⟨_,_,_,h.c12,.inr (.inl rfl)⟩) hu,h.upd.late hu (λ k hk=> .inr (by simp at hk;omega)),(hu.block _ (A2 h.c10) (by simpa using hne)).trans h.c10⟩
theorem G8.turn{w:World}{B:Nat}{e:TypeId}{sz n:Nat}{xs:List Value}{en:Ending}{w':World}(h:G8 w B e sz n xs en w'):∃a c,en=.returned (.slice a (n+1) c)/\w'.ownsRow B e sz (.slice a (n+1) c) (n+1) xs/\Y2 B e w w':=by
 obtain⟨a,c,S,e1,e2,e3,e4⟩:=h;exact⟨a,c,e1,e2,S,e3,e4⟩
theorem Be5{w:World}{B:Nat}{vk:Value}{ks:List Bs}(hK:C3 w B vk ks)(hl:∀x,x∈ks->x.length=32)(hn:ks.length<=100){P:Nat}(hP:P<=ks.length)(hB:B<=w.heap.size){key:Bs}(hkey:key.length=32){vb:Nat}(hv:w.heap[vb]?=some (.cells (bts key).toArray 35 (0,0)))(hne:∀a l c,vk=.slice (some a) l c->vb≠a.block) :
  Calls Tryz.prog 204 #[vk,.int .i64 (P:Int),.slice (some ⟨vb,0,none⟩) 1 1] w λ e w'=>∃a c,e=.returned (.slice a (ks.length+1) c)/\C3 w' B (.slice a (ks.length+1) c) (E6 ks P key)/\Y2 B 35 w w':=by
 refine(Cg2 hK hn hP hB (V6 ks) hne (by rw[A8,hkey]) (G7 key) hv).mono λ e w' hp=>?_;obtain⟨a,c,e1,e2,e3⟩:=hp.turn;refine⟨a,c,e1,?_,e3⟩;unfold C3;rw[Bm8 hl,M8 _ _ _ hP];exact e2
theorem Bz8{w:World}{B:Nat}{vv:Value}{vs:List Bs}(hV:F7 w B vv vs)(hl:∀x,x∈vs->x.length=16)(hn:vs.length<=100){P:Nat}(hP:P<=vs.length)(hB:B<=w.heap.size){v:Bs}(hv0:v.length=16){vb:Nat}(hv:w.heap[vb]?=some (.cells (bts v).toArray 115 (0,0)))(hne:∀a l c,vv=.slice (some a) l c->vb≠a.block) :
  Calls Tryz.prog 205 #[vv,.int .i64 (P:Int),.slice (some ⟨vb,0,none⟩) 1 1] w λ e w'=>∃a c,e=.returned (.slice a (vs.length+1) c)/\F7 w' B (.slice a (vs.length+1) c) (E6 vs P v)/\Y2 B 115 w w':=by
 refine(Cg5 hV hn hP hB (V6 vs) hne (by rw[A8,hv0]) (G7 v) hv).mono λ e w' hp=>?_;obtain⟨a,c,e1,e2,e3⟩:=hp.turn;refine⟨a,c,e1,?_,e3⟩;unfold F7;rw[Bm8 hl,M8 _ _ _ hP];exact e2
theorem Ao7{key:Bs}(hk:key.length=32)(w:World):(Instr.buildSlice 216 1 #[(0,.agg (bts key).toArray)]).run Tryz.prog w=.ok (.slice (some ⟨w.heap.size,0,none⟩) 1 1) (w.alloc (.cells (bts key).toArray 35)):=
 Y8 (e:=35) (sz:=32) Tryz.underlying216 (by kernel_rfl) (by decide) (by decide) (bts key) (by rw[A8,hk]) w
theorem Bw3{v:Bs}(hv:v.length=16)(w:World):(Instr.buildSlice 217 1 #[(0,.agg (bts v).toArray)]).run Tryz.prog w=.ok (.slice (some ⟨w.heap.size,0,none⟩) 1 1) (w.alloc (.cells (bts v).toArray 115)):=
 Y8 (e:=115) (sz:=16) Tryz.underlying217 (by kernel_rfl) (by decide) (by decide) (bts v) (by rw[A8,hv]) w
theorem Aq8(w:World)(c c':Array Value)(T T':TypeId):((w.alloc (.cells c T)).alloc (.cells c' T')).heap[w.heap.size]?=some (.cells c T (0,0)):=(A9 (by simp)).trans (A6 _)
theorem Aq9(w:World)(c c':Array Value)(T T':TypeId):((w.alloc (.cells c T)).alloc (.cells c' T')).heap[w.heap.size+1]?=some (.cells c' T' (0,0)):=by
 have:=A6 (w:=w.alloc (.cells c T)) (.cells c' T');simpa using this
theorem D9{w:World}{b:Nat}{C:Array Value}{T:TypeId}(h:w.heap[b]?=some (.cells C T (0,0)))(i:Nat){v:Value}(hi:i<C.size)(h1:v.oneCell'=true):(storeCells ⟨b,i,none⟩ [v] 0).run Tryz.prog w=.ok () (w.setCell ⟨b,i,none⟩ v):=by
 have hc:w.cell? ⟨b,i,none⟩=some C[i]:=by rw[A4 h];simp[hi]
 have hf:=E4 h i;have:=run_storeCells_cells (P:=Tryz.prog) b i [v] 0 w (by simp[hc]) (by simpa using hf) (by simpa using h1);simpa [World.setCells] using this
section
variable {P:Program} {ops:Array Oper} {Q:Exit->Act->World->Prop} {md:Region.Mode} {S:World->Prop} {St:List Nat}
theorem Bc2{i:Nat}{oi:Oper}{v:Value}(hi:ops[i]?=some oi)(hsel:∀(j:Nat) (o:Oper) cs b,ops[j]?=some o->o.op≠.select cs b)
  (hQ:∀c a w,Q (.panic c) (a.put oi.dst v) w->Q (.panic c) a w) (hw:∀s,s∈St->s≠i) :
  ∀(fuel:Nat) (listed:Array Bool) (a:Act) (w:World),
   (∀j oj,ops[j]?=some oj->j≠i->listed.getD j true=false->(∀e∈oj.after,Region.binds md e=true->e.on≠i)->oi.apart ops oj=true)->
   i∈Region.ready md ops listed->YieldsIf P ops (λ _=>True) oi v a->(Am5 St (listed.setIfInBounds i true)->S w)->
   T9 P md ops Q S St fuel (listed.setIfInBounds i true) (a.put oi.dst v) w->T9 P md ops Q S St (fuel+1) listed a w:=by
 intro fuel;induction fuel with
 | zero=>
  intro listed a w _ hr hy hS H;refine⟨λ h=>(by rw[h] at hr;cases hr),λ j hj=>?_⟩;by_cases hji:j=i
  ·subst hji;exact hy.wpOp hi trivial ⟨hS,H⟩
  ·have:=ready_mono hj hji;rw[H.1] at this;cases this
 | succ fuel ih=>
  intro listed a w hfree hr hy hS H;refine⟨λ h=>(by rw[h] at hr;cases hr),λ j hj=>?_⟩;by_cases hji:j=i
  ·subst hji;exact hy.wpOp hi trivial ⟨hS,H⟩
  ·have h1:=H.2 j (ready_mono hj hji);obtain⟨hjun,oj,hoj,hall⟩:=mem_ready.1 hj;have hiun:=(mem_ready.1 hr).1;have hnot:∀e∈oj.after,Region.binds md e=true->e.on≠i:=λ e he hb heq=>by
    have h1:=hall e he hb;rw[heq] at h1;rcases Nat.lt_or_ge i listed.size with h' | h'
    ·simp[h'] at hiun h1;rw[hiun] at h1;cases h1
    ·simp[Array.getElem?_eq_none h'] at h1
   have h2:=wpOp_putIf hoj (hfree j oj hoj hji hjun hnot) (λ cs b=>hsel i oi cs b hi) (λ cs b=>hsel j oj cs b hoj) hQ hy h1;have hfree':∀k ok,ops[k]?=some ok->k≠i->(listed.setIfInBounds j true).getD k true=false->
     (∀e∈ok.after,Region.binds md e=true->e.on≠i)->oi.apart ops ok=true:=λ k ok hk hki hun hno=>by
    refine hfree k ok hk hki ?_ hno;by_cases hjk:j=k
    ·subst hjk;exact hjun
    ·rw[getD_set_ne true hjk] at hun;exact hun
   refine wpOp_mono (λ a' w' h3=>?_) h2;refine⟨λ hn=>h3.2.1 (λ s hs=>?_),ih (listed.setIfInBounds j true) a' w' hfree' (ready_mono hr (Ne.symm hji)) h3.1 (λ hn=>h3.2.1 ?_) ?_⟩
   ·rw[Array.setIfInBounds_comm _ _ (Ne.symm hji),getD_set_ne false (Ne.symm (hw s hs))];exact hn s hs
   ·rw[Array.setIfInBounds_comm _ _ (Ne.symm hji)];exact hn
   ·rw[Array.setIfInBounds_comm _ _ hji];exact h3.2.2
theorem Ab1{i:Nat}{oi:Oper}{v:Value}{fuel:Nat}{listed:Array Bool}{a:Act}{w:World}(hi:ops[i]?=some oi)
  (hk:(Region.noSelect ops && Region.free md ops listed i && (Region.ready md ops listed).contains i && St.all λ s=> !(s == i))=true)
  (hQ:∀c a w,Q (.panic c) (a.put oi.dst v) w->Q (.panic c) a w) (hS:Am5 St (listed.setIfInBounds i true)->S w) (hy:YieldsIf P ops (λ _=>True) oi v a)
  (h:T9 P md ops Q S St fuel (listed.setIfInBounds i true) (a.put oi.dst v) w):T9 P md ops Q S St (fuel+1) listed a w:=by
 simp only[Bool.and_eq_true] at hk;obtain⟨⟨⟨h1,h2⟩,h3⟩,h4⟩:=hk;refine Bc2 hi (Region.noSelect_spec h1) hQ (λ s hs=>?_) fuel listed a w (Region.free_spec hi h2) (by simpa using h3) hy hS h;have:=(List.all_eq_true.1 h4) s hs;simpa using this
end
theorem B9{St:List Nat}{listed:Array Bool}{p:Prop}(h:(St.any λ s=>listed.getD s false)=true):Am5 St listed->p:=λ hn=>by
 obtain⟨s,hs,he⟩:=List.any_eq_true.1 h;rw[hn s hs] at he;cases he
attribute [-go_sem] loadCells storeCells Instr.build Instr.buildSlice
attribute [local go_sem] Ah2 L6
def Av0(g:Sg)(M:Nat->Option Sec)(root:Bool)(d a:Nat)(l:List B0)(S:List Nat)(key v:Bs)(w:World)(e:Ending)(w':World):Prop:=
 ∃M' o,e=.returned (.tuple #[Az5 o,.int .i64 0])/\U7 g M M' root d a l S key v o/\B7 w' g M'/\Upd g.S w w'
def Cq5(g:Sg)(M:Nat->Option Sec)(wA:World)(b10 b12 n:Nat)(K V:List Bs)(wz:World):Prop:=
 ∃a c a' c',wz.heap[b12]?=some (.cells #[.int .i64 1,.slice a n c,.slice a' n c',.slice none 0 0] 220 (0,0))/\C3 wz wA.heap.size (.slice a n c) K/\F7 wz wA.heap.size (.slice a' n c') V/\B7 wz g M/\Upd [g.j.jb] wA wz/\wz.heap[b10]?=some (.cells (K4 none).toArray 228 (0,0))/\K.length=n/\V.length=n
theorem Bn0(a4 a5:Option Addr)(c4 c5:Nat)(w:World):(Instr.build 220 #[(0,.int .i64 1),(1,.slice a4 6 c4),(2,.slice a5 6 c5)]).run Tryz.prog w=.ok (.agg #[.int .i64 1,.slice a4 6 c4,.slice a5 6 c5,.slice none 0 0]) w:=run_build w _ _ _ (by kernel_rfl)
theorem Bi0{g:Sg}{M:Nat->Option Sec}{wA wz:World}{b10 b12 n P:Nat}{ks vs K V:List Bs}{key v:Bs}{a5 a6:Option Addr}{c5 c6:Nat}(hn:n=ks.length+1)(hvs:vs.length=ks.length)(hK:E6 ks P key=K)(hV:E6 vs P v=V)(hP:P<=ks.length)
  (hb:wz.heap[b12]?=some (.cells #[.int .i64 1,.slice a5 (ks.length+1) c5,.slice a6 (vs.length+1) c6,.slice none 0 0] 220 (0,0)))
  (hp:C3 wz wA.heap.size (.slice a5 (ks.length+1) c5) (E6 ks P key)/\F7 wz wA.heap.size (.slice a6 (vs.length+1) c6) (E6 vs P v)/\B7 wz g M/\Upd [g.j.jb] wA wz/\wz.heap[b10]?=some (.cells (K4 none).toArray 228 (0,0))):Cq5 g M wA b10 b12 n K V wz:=by
 subst hn hK hV;rw[hvs] at hb hp;obtain⟨h1,h2,h3,h4,h5⟩:=hp;exact⟨a5,c5,a6,c6,hb,h1,h2,h3,h4,h5,M8 _ _ _ hP,by rw[M8 _ _ _ (by omega),hvs]⟩
end
end Go.Proofs.YtgfbepakonjbnaaGreat
end
