/-
  The journal's contracts as the laws use them (the power stays); Place and Full.
-/
import Derived.Test.YtgfbepakonjbnaaGreatZ08
import Derived.Test.YtgfbepakonjbnaaGreatZ01
set_option maxRecDepth 100000
set_option maxHeartbeats 16000000
section
namespace Go.Proofs.YtgfbepakonjbnaaGreat
open Go.RowKit
theorem C9.any{w:World}{F:Nat->Prop}{g:DG}{D:Dk}(h:C9 w F g D):C9 w Al3 g D:=h.mono λ _ _=>trivial
theorem D6.any{w:World}{F:Nat->Prop}{j:JG}{J:Jn}{D:Dk}(h:D6 w F j J D):D6 w Al3 j J D:=h.mono λ _ _=>trivial
structure Cq0(w:World)(g:DG)(J:Jn)(D:Dk)(n ring:Nat)(t m:Int)(H:Nat->Sec):Prop where
 disk:C9 w Al3 g D
 held:R9 D J
 arm:D.armed = -1
 n:D.n=n
 ring:J.last.ring=ring
 turn:J.turn=t
 num:J.last.number<=m
 home:J.home D=H
structure V4(w:World)(j:JG)(J:Jn)(D:Dk)(n ring:Nat)(t m:Int)(H:Nat->Sec):Prop where
 at_:D6 w j.F j J D
 live:Ag6 D J
 arm:D.armed = -1
 n:D.n=n
 ring:J.last.ring=ring
 turn:J.turn=t
 num:J.last.number<=m
 home:J.home D=H
 nw:∀k,w.heap.size<=k->j.F k
theorem V4.of{w w':World}{j:JG}{J:Jn}{D:Dk}{n ring:Nat}{t m:Int}{H:Nat->Sec}(h:V4 w j J D n ring t m H)(ha:D6 w' j.F j J D)(hs:w.heap.size<=w'.heap.size):V4 w' j J D n ring t m H:=
 ⟨ha,h.live,h.arm,h.n,h.ring,h.turn,h.num,h.home,λ k hk=>h.nw k (Nat.le_trans hs hk)⟩
theorem D6.gr{w:World}{F:Nat->Prop}{m:Nat}{j:JG}{J:Jn}{D:Dk}(h:D6 w (Gr F m) j J D)(hn:∀k,m<=k->F k):D6 w F j J D:=h.mono λ k hk=>hk.elim id (hn k)
theorem V4.below{w w':World}{j:JG}{J:Jn}{D:Dk}{n ring:Nat}{t m:Int}{H:Nat->Sec}(h:V4 w j J D n ring t m H)(hu:Upd [] w w'):V4 w' j J D n ring t m H:=h.of (h.at_.below hu) hu.size
theorem V4.own{w w':World}{j:JG}{J:Jn}{D:Dk}{n ring:Nat}{t m:Int}{H:Nat->Sec}(h:V4 w j J D n ring t m H){S:List Nat}(hu:Upd S w w')
  (hS:∀k,k∈S->∃c t fr,w.heap[k]?=some (.cells c t fr)/\t≠189/\t≠184/\t≠32/\t≠5):V4 w' j J D n ring t m H:=by
 have hk:∀k,k∈j.all->k∉S:=λ k hk hs=>by
  obtain⟨c,t,fr,e,e1,e2,e3,_⟩:=hS k hs;exact h.at_.kind e e1 e2 e3 hk
 exact h.of (h.at_.world (hu.block _ h.at_.lt.1 (hk _ (by simp[JG.all]))) (hu.block _ h.at_.lt.2 (hk _ (by simp[JG.all]))) (hu.block _ h.at_.disk.lt.1 (hk _ (by simp[JG.all]))) (hu.block _ h.at_.disk.lt.2.1 (hk _ (by simp[JG.all]))) (hu.block _ h.at_.disk.lt.2.2 (hk _ (by simp[JG.all])))
  (λ k c _ e=>hu.block _ (A2 e) (λ q=>by
   obtain⟨c',t,fr,e',_,_,_,e4⟩:=hS k q;rw[e] at e';simp at e';exact e4 e'.2.1.symm))) hu.size
theorem Ck0{w:World}{g:DG}{J:Jn}{D:Dk}{n ring:Nat}{t m:Int}{H:Nat->Sec}(h:Cq0 w g J D n ring t m H)(ht:t<1000000)(hm:m<1000000) :
  Calls Tryz.prog 38 #[.pointer (some ⟨g.db,0,none⟩)] w λ e w'=>∃jb ab,e=.returned (.tuple #[.pointer (some ⟨jb,0,none⟩),.int .i64 0])/\w.heap.size<=jb/\w.heap.size<=ab/\(∃J' D',V4 w' ⟨jb,ab,g,Al3⟩ J' D' n ring t (m+1) H/\J'.used=0)/\Upd [g.db,g.lb,g.mb] w w':=by
 refine(By3 h.disk h.held.calm.off).mono ?_;rintro e w' ⟨D',r,err,ho,hat,hu⟩;have h1:=h.num;have h2:=h.turn;rcases h.held.open ⟨by omega,by omega⟩ ho with⟨rfl,J',rfl,q1,q2,q3,q4,q5,q6,q7,q8⟩ | ⟨_,_,q,_⟩
 ·obtain⟨jb,ab,e1,e2,e3,e4⟩:=hat;exact⟨jb,ab,e1,e2,e3,⟨J',D',⟨e4.any,q1,q8 h.arm,q7.trans h.n,q5.trans h.ring,q4.trans h.turn,by omega,q2.trans h.home,λ _ _=>trivial⟩,q3⟩,hu⟩
 ·exact absurd h.arm q
theorem Br8{w:World}{F:Nat->Prop}{g:DG}{n:Nat}(h:C9 w F g (Dk.new n))(h0:32<=n)(h1:n<=4096)(ring:Nat)(r0:8<=ring)(r1:ring<=1024)(r2:ring+10<=n) :
  Calls Tryz.prog 143 #[.pointer (some ⟨g.db,0,none⟩),.int .i64 (ring:Int)] w λ e w'=>e=.returned (.int .i64 0)/\Cq0 w' g (Jn.fresh ring) ((Dk.new n).fmt ring) n ring 1 1 (λ _=>F9)/\Upd [g.db,g.lb,g.mb] w w':=by
 obtain⟨a1,a2,a3,a4⟩:=Ce0 h0 h1 r0 r1 r2;refine(Co7 h ⟨rfl,rfl⟩ ring r0 r1 r2).mono ?_;rintro e w' ⟨e1,e2,e3⟩;exact⟨e1,⟨e2.any,a1.held,a4,a3,rfl,rfl,by show(1:Int)<=1;omega,a2⟩,e3⟩
def Bj8(n ring:Nat)(l:List Put):Int:=
 if X5 (n-2-ring) [] l≠0 then X5 (n-2-ring) [] l else if 40<l.length∨ring<=l.length then 2 else 0
theorem V4.fits{w:World}{j:JG}{J:Jn}{D:Dk}{n ring:Nat}{t m:Int}{H:Nat->Sec}(h:V4 w j J D n ring t m H)(l:List Put):J.fits D.n l=Bj8 n ring l:=by
 unfold Jn.fits Jn.homes Bj8;rw[h.n,h.ring]
theorem V4.used{w:World}{j:JG}{J:Jn}{D:Dk}{n ring:Nat}{t m:Int}{H:Nat->Sec}(h:V4 w j J D n ring t m H):J.used<=1024:=by
 have:=h.live.held.used;have:=h.live.held.jok.ring1;omega
def Ag4(k:Int)(n:Nat):Nat:=(k % (n:Int)).toNat
theorem Aq2{k:Int}{n:Nat}(h:1<=n):Ag4 k n<n:=by
 unfold Ag4;have:=Int.emod_lt_of_pos k (show(0:Int)<n by omega);have:=Int.emod_nonneg k (show(n:Int)≠0 by omega);omega
theorem Br9{k:Int}{n:Nat}(h:1<=n):((Ag4 k n:Nat):Int)=k % (n:Int):=by
 unfold Ag4;have:=Int.emod_nonneg k (show(n:Int)≠0 by omega);omega
theorem Aw0(k:Int)(n:Nat)(w:World)(hn:1<=n)(hn2:n<=1000000) :
  Calls Tryz.prog 16 #[.int .i64 k,.int .i64 (n:Int)] w λ e w'=>e=.returned (.int .i64 ((Ag4 k n:Nat):Int))/\w=w':=by
 have hdiv:k.tmod (n:Int)=k % (n:Int)-((if 0<=k∨(n:Int) ∣ k then 0 else(n:Int).natAbs:Nat):Int):=Int.tmod_eq_emod ..;have hp:=Br9 (k:=k) hn;have hlt:=Aq2 (k:=k) hn;have habs:(n:Int).natAbs=n:=by omega
 rw[habs,← hp] at hdiv;by_cases hc:k.tmod (n:Int)<0
 ·have HE:Hid (k.tmod (n:Int)+(n:Int)=((Ag4 k n:Nat):Int)):=by
   show _=_
   split at hdiv<;>omega
  have hb:decide (k.tmod (n:Int)<0)=true:=by simpa using hc
  have hlo : -1000000<=k.tmod (n:Int):=by split at hdiv<;>omega
  clear hdiv hp;go_enter Tryz.func16,Tryz.ntmps16
  go_wp2
  go_ret;exact⟨M0 HE.out,rfl⟩
 ·have HE:Hid (k.tmod (n:Int)=((Ag4 k n:Nat):Int)):=by
   show _=_
   split at hdiv<;>omega
  have hb:decide (k.tmod (n:Int)<0)=false:=by simpa using hc
  clear hdiv hp;go_enter Tryz.func16,Tryz.ntmps16
  go_wp2
  go_ret;exact⟨M0 HE.out,rfl⟩
end Go.Proofs.YtgfbepakonjbnaaGreat
namespace Go.Proofs.YtgfbepakonjbnaaGreat
open Go.RowKit
theorem Co5{w:World}{k:Nat}{l:List UInt8}(h:w.heap[k]?=some (.cells (bts l).toArray 5 (0,0))){n:Nat}(hn:l.length=n):Rd w (.slice (some ⟨k,0,none⟩) n n) l:=by
 subst hn;have:Own w 5 (λ _=>True) (.slice (some ⟨k,0,none⟩) l.length l.length) l:=⟨k,[],trivial,rfl,by simpa using h⟩;exact this.rd
theorem Co6(n:Nat)(h0:32<=n)(h1:n<=4096)(w:World) :
  Calls Tryz.prog 142 #[.int .i64 (n:Int)] w λ e w'=>∃g:DG,e=.returned (.pointer (some ⟨g.db,0,none⟩))/\C9 w' (λ _=>False) g (Dk.new n)/\w.heap.size<=g.db/\w.heap.size<=g.lb/\w.heap.size<=g.mb/\Upd [] w w':=by
 refine(Cc6 n h0 h1 w).mono ?_;rintro e w' ⟨e1,e2,e3⟩;exact⟨_,e1,e2,by show w.heap.size<=w.heap.size+2;omega,by show w.heap.size<=w.heap.size;omega,by show w.heap.size<=w.heap.size+1;omega,e3⟩
theorem Aa1.sec{w:World}{F:Nat->Prop}{v:Value}{l:Sec}(h:Aa1 w 5 F v l)(hl:l.length=512):∃k c,v=.slice (some ⟨k,0,none⟩) 512 c/\512<=c/\F k/\∀i (q:i<512),w.cell? ⟨k,i,none⟩=some (bv (l[i]'(by omega))):=by
 obtain⟨k,rest,hF,hv,hb⟩:=h.own (by omega);refine⟨k,l.length+rest.length,by rw[hv,hl],by omega,hF,λ i q=>?_⟩;rw[A4 hb];simp[List.getElem?_append_left,bts,hl,q]
def DG.Late(g:DG)(w:World):Prop:=w.heap.size<=g.db/\w.heap.size<=g.lb/\w.heap.size<=g.mb
def JG.Late(j:JG)(w:World):Prop:=w.heap.size<=j.jb/\w.heap.size<=j.ab/\j.d.Late w
theorem Upd.lateD{a b c:World}{g:DG}(h:Upd [] a b)(k:Upd [g.db,g.lb,g.mb] b c)(hg:g.Late a):Upd [] a c:=
 h.late k λ i hi=>by
  obtain⟨h1,h2,h3⟩:=hg;simp at hi;rcases hi with rfl | rfl | rfl
  ·exact .inr h1
  ·exact .inr h2
  ·exact .inr h3
theorem Upd.lateJ{a b c:World}{j:JG}(h:Upd [] a b)(k:Upd j.all b c)(hj:j.Late a):Upd [] a c:=
 h.late k λ i hi=>by
  obtain⟨h0,h00,h1,h2,h3⟩:=hj;simp[JG.all] at hi;rcases hi with rfl | rfl | rfl | rfl | rfl
  ·exact .inr h0
  ·exact .inr h00
  ·exact .inr h1
  ·exact .inr h2
  ·exact .inr h3
end Go.Proofs.YtgfbepakonjbnaaGreat
namespace Go.Proofs.YtgfbepakonjbnaaGreat
open Go.RowKit
end Go.Proofs.YtgfbepakonjbnaaGreat
namespace Go.Proofs.YtgfbepakonjbnaaGreat
open Go.RowKit
theorem By2{w w0:World}{B:Nat}{v:Value}{l:List Put}(hp:F0 w B Al3 v l)(hl:l.length<=100000)(hB:B<=w.heap.size)(h0:Upd [] w0 w)(hB0:w0.heap.size<=B)(i:Int)(k n c:Nat)(s:List UInt8)(hd:Own w 5 Al3 (.slice (some ⟨k,0,none⟩) n c) s) :
  ∃a b c' w',(∀ty,(Builtin.append_ #[159,159] ty #[v,.slice (some ⟨w.heap.size,0,none⟩) 1 1]).run Tryz.prog (w.alloc (.cells #[.int .i64 i,.slice (some ⟨k,0,none⟩) n c] 165))=.ok (.slice a b c') w')/\F0 w' B Al3 (.slice a b c') (l ++ [(i,s)])/\
   (∀k,k<w.heap.size->(∀c,w.heap[k]?≠some (.cells c 165 (0,0)))->w'.heap[k]?=w.heap[k]?)/\Upd [] w0 w'/\B<=w'.heap.size:=by
 obtain⟨v',w',hrun,hm',hk',hl',hg'⟩:=(F0.keep (w':=w.alloc (.cells #[.int .i64 i,.slice (some ⟨k,0,none⟩) n c] 165)) hp (λ q c hq=>A9 (A2 hq)) (λ q c _ hq=>A9 (A2 hq))).append hl (by simp;omega) w.heap.size i (.slice (some ⟨k,0,none⟩) n c) s (A6 _)
  (hd.world λ q c _ hq=>A9 (A2 hq)) rfl
 obtain⟨a,b,c',rfl⟩:=hm'.shape3;have hsz:=hg'.size;refine⟨a,b,c',w',hrun,hm',λ q hq ht=>?_,(h0.alloc _).low (λ q hq=>hl' q (by omega) (by have:=h0.size;simp;omega)) ⟨hg'.size,hg'.os,hg'.tape,hg'.output⟩,by simp at hsz;omega⟩;rw[hk' q (by simp;omega) (λ c e=>ht c (by rw[A9 hq] at e;exact e)),A9 hq]
theorem Bs0(homes:Nat)(seen:List Int)(i:Int)(b:List UInt8)(l:List Put):X5 homes seen ((i,b) :: l)=if i<0∨(homes:Int)<=i∨i∈seen then 1 else if b.length≠512 then 9 else X5 homes (i :: seen) l:=rfl
end Go.Proofs.YtgfbepakonjbnaaGreat
end
section
namespace Go.Proofs.YtgfbepakonjbnaaGreat
open Go.RowKit Go.MapKept Go.ChangeMaps
structure TG where
 tb:Nat
 wb:Nat
 F:Nat->Prop
structure Q8(w:World)(t:TG)(jb:Nat)(turn:Int)(M:Nat->Option Sec):Prop where
 st:w.heap[t.tb]?=some (.cells #[.pointer (some ⟨jb,0,none⟩),.int .u64 turn,.map (some t.wb)] 153 (0,0))
 wrote:P8 w t.F t.wb M
def Cn2(w:World)(v:Value):Prop:=v=.pointer none∨∃(tb:Nat) (turn:Int),v=.pointer (some ⟨tb,0,none⟩)/\w.heap[tb]?=some (.cells #[.pointer none,.int .u64 turn,.map none] 153 (0,0))
theorem Q8.world{w w':World}{t:TG}{jb:Nat}{turn:Int}{M:Nat->Option Sec}(h:Q8 w t jb turn M)(h0:w'.heap[t.tb]?=w.heap[t.tb]?)(h1:w'.heap[t.wb]?=w.heap[t.wb]?)(ha:∀(k:Nat) (c:Array Value),w.heap[k]?=some (.cells c 5 (0,0))->w'.heap[k]?=w.heap[k]?):Q8 w' t jb turn M:=
 ⟨h0.trans h.st,h.wrote.world h1 λ k c _=>ha k c⟩
theorem Q8.lt{w:World}{t:TG}{jb:Nat}{turn:Int}{M:Nat->Option Sec}(h:Q8 w t jb turn M):t.tb<w.heap.size/\t.wb<w.heap.size:=by
 obtain⟨f,hf,_⟩:=h.wrote;exact⟨A2 h.st,hf.lt⟩
theorem Q8.below{w w':World}{t:TG}{jb:Nat}{turn:Int}{M:Nat->Option Sec}(h:Q8 w t jb turn M)(hu:Upd [] w w'):Q8 w' t jb turn M:=
 h.world (hu.block _ h.lt.1 (by simp)) (hu.block _ h.lt.2 (by simp)) (λ k c e=>hu.block _ (A2 e) (by simp))
theorem Q8.drewN{w:World}{t:TG}{jb:Nat}{turn:Int}{M:Nat->Option Sec}(h:Q8 w t jb turn M)(n:Nat):Q8 (w.drewN n) t jb turn M:=h.below ((Upd.refl _ _).drewN n)
theorem Q8.map{w:World}{t:TG}{jb:Nat}{turn:Int}{M:Nat->Option Sec}(h:Q8 w t jb turn M){c:Array Value}{e:TypeId}{fr:Nat × Nat}:w.heap[t.wb]?≠some (.cells c e fr):=by
 obtain⟨f,hf,_⟩:=h.wrote;exact λ q=>hf.not_cells q rfl
theorem Q8.upd{w w':World}{t:TG}{jb:Nat}{turn:Int}{M:Nat->Option Sec}(h:Q8 w t jb turn M){S:List Nat}(hu:Upd S w w')(h0:t.tb∉S)(h1:t.wb∉S)(ha:∀(k:Nat) (c:Array Value),k∈S->w.heap[k]?≠some (.cells c 5 (0,0))):Q8 w' t jb turn M:=
 h.world (hu.block _ h.lt.1 h0) (hu.block _ h.lt.2 h1) (λ k c e=>hu.block _ (A2 e) (λ q=>ha k c q e))
theorem Q8.jn{w w':World}{t:TG}{jb:Nat}{turn:Int}{M:Nat->Option Sec}(h:Q8 w t jb turn M){F:Nat->Prop}{j:JG}{J:Jn}{D:Dk}(hj:D6 w F j J D)(h1:t.wb∉j.all){S:List Nat}(hu:Upd S w w')(hS:∀k,k∈S->k∈j.all):Q8 w' t jb turn M:=
 h.upd hu (λ q=>hj.kind h.st (by decide) (by decide) (by decide) (hS _ q)) (λ q=>h1 (hS _ q)) (λ k c q e=>hj.kind e (by decide) (by decide) (by decide) (hS _ q))
theorem D6.tx{w w':World}{j:JG}{J:Jn}{D:Dk}{F:Nat->Prop}(hj:D6 w F j J D){t:TG}{jb:Nat}{turn:Int}{M:Nat->Option Sec}(h:Q8 w t jb turn M)(h1:t.wb∉j.all){S:List Nat}(hu:Upd S w w')(hS:∀k,k∈S->k=t.tb∨k=t.wb):D6 w' F j J D:=by
 have hb:∀k,k∈j.all->k∉S:=λ k hk hs=>by
  rcases hS k hs with rfl | rfl
  ·exact hj.kind h.st (by decide) (by decide) (by decide) hk
  ·exact h1 hk
 exact hj.world (hu.block _ hj.lt.1 (hb _ (by simp[JG.all]))) (hu.block _ hj.lt.2 (hb _ (by simp[JG.all]))) (hu.block _ hj.disk.lt.1 (hb _ (by simp[JG.all]))) (hu.block _ hj.disk.lt.2.1 (hb _ (by simp[JG.all]))) (hu.block _ hj.disk.lt.2.2 (hb _ (by simp[JG.all])))
  (λ k c _ e=>hu.block _ (A2 e) (λ q=>by
   rcases hS k q with rfl | rfl
   ·rw[h.st] at e;simp at e
   ·exact h.map e))
def O5(M:Nat->Option Sec)(h:Nat):List Nat:=(List.range h).filter λ i=>(M i).isSome
def F2(M:Nat->Option Sec)(h:Nat):Nat:=(O5 M h).length
def MOk(M:Nat->Option Sec)(h:Nat):Prop:=∀i s,M i=some s->i<h/\s.length=512
theorem U9{M:Nat->Option Sec}{h:Nat}(ho:MOk M h){i:Nat}:i∈O5 M h↔(M i).isSome=true:=by
 unfold O5;rw[List.mem_filter,List.mem_range];refine⟨λ q=>q.2,λ q=>⟨?_,q⟩⟩;obtain⟨s,hs⟩:=Option.isSome_iff_exists.1 q;exact(ho i s hs).1
theorem T8(M:Nat->Option Sec)(h:Nat):(O5 M h).Nodup:=List.Pairwise.filter _ List.nodup_range
theorem MOk.put{M:Nat->Option Sec}{h i:Nat}{s:Sec}(ho:MOk M h)(hi:i<h)(hs:s.length=512):MOk (λ k=>if k=i then some s else M k) h:=by
 intro k x hk;simp only at hk;split at hk
 ·rename_i e;subst e;cases hk;exact⟨hi,hs⟩
 ·exact ho k x hk
theorem MOk.none(h:Nat):MOk (λ _=>none) h:=by intro i s q;simp at q
theorem Ae8(h:Nat):F2 (λ _=>none) h=0:=by unfold F2 O5;simp
theorem Ao2{M:Nat->Option Sec}{h i:Nat}{s:Sec}(ho:MOk M h)(hi:i<h):F2 (λ k=>if k=i then some s else M k) h=if(M i).isSome then F2 M h else F2 M h+1:=by
 have hmem:∀k,k∈O5 (λ k=>if k=i then some s else M k) h↔k=i∨k∈O5 M h:=by
  intro k;unfold O5;simp only[List.mem_filter,List.mem_range];constructor
  ·rintro⟨a,b⟩;by_cases q:k=i
   ·exact .inl q
   ·rw[if_neg q] at b;exact .inr ⟨a,b⟩
  ·rintro(rfl | ⟨a,b⟩)
   ·exact⟨hi,by simp⟩
   ·refine⟨a,?_⟩;by_cases q:k=i
    ·simp[q]
    ·rw[if_neg q];exact b
 by_cases q:(M i).isSome=true
 ·rw[if_pos q];refine((List.perm_ext_iff_of_nodup (T8 _ _) (T8 _ _)).2 λ k=>?_).length_eq;rw[hmem];refine⟨λ r=>?_,.inr⟩;rcases r with rfl | r
  ·exact(U9 ho).2 q
  ·exact r
 ·rw[if_neg q];have hn:i∉O5 M h:=λ r=>q ((U9 ho).1 r);have:(O5 (λ k=>if k=i then some s else M k) h).Perm (i :: O5 M h):=(List.perm_ext_iff_of_nodup (T8 _ _) (List.nodup_cons.2 ⟨hn,T8 _ _⟩)).2 λ k=>by rw[hmem,List.mem_cons]
  unfold F2;rw[this.length_eq];rfl
theorem Bv4(M:Nat->Option Sec)(h:Nat):F2 M h<=h:=by
 unfold F2 O5;refine Nat.le_trans (List.length_filter_le _ _) ?_;rw[List.length_range];exact Nat.le_refl _
theorem P8.len{w:World}{F:Nat->Prop}{mb:Nat}{M:Nat->Option Sec}{h:Nat}(hw:P8 w F mb M)(ho:MOk M h) :
  ∀ty n,(Builtin.len_ #[151] ty #[.map (some mb)]).run Tryz.prog (w.drewN n)=.ok (goInt (F2 M h:Int)) (w.drewN n):=by
 obtain⟨f,hf,hf1,hf2⟩:=hw;intro ty n;have hfn:P6 (w.drewN n) mb f:=hf.world rfl;obtain⟨ks,hnd,hmem,hrun⟩:=hfn.keys (P:=Tryz.prog) (T:=151) Tryz.underlying151 ty;have hp:ks.Perm ((O5 M h).map λ i:Nat=>(i:Int)):=by
  refine(List.perm_ext_iff_of_nodup hnd ?_).2 λ k=>?_
  ·rw[List.Nodup,List.pairwise_map];exact(T8 M h).imp λ hab e=>hab (by omega)
  ·rw[hmem,List.mem_map];constructor
   ·intro q;obtain⟨v,hv⟩:=Option.isSome_iff_exists.1 q;obtain⟨k0,s,hs,_⟩:=hf1 k v hv;exact⟨k.toNat,(U9 ho).2 (by rw[hs];rfl),by omega⟩
   ·rintro⟨i,hi,rfl⟩;obtain⟨s,hs⟩:=Option.isSome_iff_exists.1 ((U9 ho).1 hi);obtain⟨v,hv⟩:=hf2 i s hs;rw[hv];rfl
 have hl:=hp.length_eq;rw[List.length_map] at hl;rw[hrun,hl];rfl
theorem P8.look{w:World}{F:Nat->Prop}{mb:Nat}{M:Nat->Option Sec}(hw:P8 w F mb M)(i:Int) :
  (∃v s,0<=i/\M i.toNat=some s/\Own w 5 F v s/\(∀n,(Instr.lookup 151 (.map (some mb)) (.int .i64 i) true).run Tryz.prog (w.drewN n)=.ok (.tuple #[v,.bool true]) (w.drewN n))/\(∀n,(Instr.lookup 151 (.map (some mb)) (.int .i64 i) false).run Tryz.prog (w.drewN n)=.ok v (w.drewN n)))∨
  ((i<0∨M i.toNat=none)/\(∀n,(Instr.lookup 151 (.map (some mb)) (.int .i64 i) true).run Tryz.prog (w.drewN n)=.ok (.tuple #[.slice none 0 0,.bool false]) (w.drewN n))):=by
 obtain⟨f,hf,hf1,hf2⟩:=hw;cases hv:f i with
 | some v=>
  obtain⟨k0,s,hs,ho⟩:=hf1 i v hv;refine .inl ⟨v,s,k0,hs,ho,λ n=>?_,λ n=>?_⟩
  ·have hfn:P6 (w.drewN n) mb f:=hf.world rfl;have:=hfn.lookup (P:=Tryz.prog) (T:=151) Tryz.underlying151 Tryz.underlying3 (W8 _) i true;rw[hv] at this;exact this
  ·have hfn:P6 (w.drewN n) mb f:=hf.world rfl;have:=hfn.lookup (P:=Tryz.prog) (T:=151) Tryz.underlying151 Tryz.underlying3 (W8 _) i false;rw[hv] at this;exact this
 | none=>
  refine .inr ⟨?_,λ n=>?_⟩
  ·by_cases q:i<0
   ·exact .inl q
   ·refine .inr ?_;cases hs:M i.toNat with
    | none=>rfl
    | some s=>
     obtain⟨v,hv'⟩:=hf2 _ _ hs;rw[Int.toNat_of_nonneg (by omega),hv] at hv';simp at hv'
  ·have hfn:P6 (w.drewN n) mb f:=hf.world rfl;have:=hfn.lookup (P:=Tryz.prog) (T:=151) Tryz.underlying151 Tryz.underlying3 (W8 _) i true;rw[hv] at this;exact this
theorem X8{w:World}{t:TG}{jb:Nat}{turn:Int}{M:Nat->Option Sec}(h:Q8 w t jb turn M) :
  Calls Tryz.prog 85 #[.pointer (some ⟨t.tb,0,none⟩)] w λ e w'=>e=.returned (.bool false)/\∃n,w'=w.drewN n:=by
 have hc:=A4 h.st;clear h;go_enter Tryz.func85,Tryz.ntmps85
 go_wp2
 go_ret;exact⟨rfl,0,rfl⟩
theorem Bg7{w:World}{t:TG}{jb:Nat}{turn:Int}{M:Nat->Option Sec}(h:Q8 w t jb turn M){hm:Nat}(ho:MOk M hm) :
  Calls Tryz.prog 35 #[.pointer (some ⟨t.tb,0,none⟩)] w λ e w'=>e=.returned (.int .i64 (F2 M hm:Int))/\∃n,w'=w.drewN n:=by
 have H:=η h;have hc:=A4 h.st;have hlen:=h.wrote.len ho;clear h;go_enter Tryz.func35,Tryz.ntmps35
 go_wp2_with fail
 refine(X8 H.out).mono ?_;rintro e w' ⟨rfl,n,rfl⟩;go_wp2_with fail
 go_ret;exact⟨rfl,_,rfl⟩
theorem Bl0{w:World}{t:TG}{j:JG}{turn:Int}{M:Nat->Option Sec}(h:Q8 w t j.jb turn M){F:Nat->Prop}{J:Jn}{D:Dk}(hj:D6 w F j J D) :
  Calls Tryz.prog 82 #[.pointer (some ⟨t.tb,0,none⟩)] w λ e w'=>e=.returned (.int .i64 (J.homes D.n:Int))/\∃n,w'=w.drewN n:=by
 have H:=η h;have HJ:=η hj;have hc:=A4 h.st;clear h hj;go_enter Tryz.func82,Tryz.ntmps82
 go_wp2_with fail
 refine(X8 H.out).mono ?_;rintro e w' ⟨rfl,n,rfl⟩;go_wp2_with fail
 refine(Q4 (HJ.out.drewN n)).mono ?_;rintro e w' ⟨rfl,m,rfl⟩;go_wp2_with fail
 go_ret;exact⟨rfl,_,rfl⟩
theorem Aw9{w:World}{t:TG}{jb:Nat}{turn:Int}{M:Nat->Option Sec}(h:Q8 w t jb turn M) :
  Calls Tryz.prog 33 #[.pointer (some ⟨t.tb,0,none⟩)] w λ e w'=>e=.returned (.tuple #[])/\w'.heap[t.tb]?=some (.cells #[.pointer none,.int .u64 turn,.map none] 153 (0,0))/\P8 w' t.F t.wb M/\Upd [t.tb] w w':=by
 have H:=η h;have hc:=A4 h.st;have hf:=E4 h.st;have hR:∀W,W=(w.setCell ⟨t.tb,0,none⟩ (.pointer none)).setCell ⟨t.tb,2,none⟩ (.map none)->W.heap[t.tb]?=some (.cells #[.pointer none,.int .u64 turn,.map none] 153 (0,0))/\P8 W t.F t.wb M/\Upd [t.tb] w W:=by
  rintro W rfl;have hu:Upd [t.tb] w ((w.setCell ⟨t.tb,0,none⟩ (.pointer none)).setCell ⟨t.tb,2,none⟩ (.map none)):=((Upd.refl _ _).set _ (by simp)).set _ (by simp);refine⟨?_,H.out.wrote.world (hu.block _ H.out.lt.2 ?_) (λ k c _ e=>hu.block _ (A2 e) ?_),hu⟩
  ·rw[B3 (B3 H.out.st 0 _) 2 _];simp
  ·simp;intro e;exact H.out.map (by rw[e];exact H.out.st)
  ·simp;rintro rfl;rw[H.out.st] at e;simp at e
 have HR:=η hR;clear h hR;go_enter Tryz.func33,Tryz.ntmps33
 go_wp2_with fail
 go_end0
 exact⟨rfl,HR.out _ rfl⟩
end Go.Proofs.YtgfbepakonjbnaaGreat
namespace Go.Proofs.YtgfbepakonjbnaaGreat
open Go.RowKit Go.MapKept Go.ChangeMaps
theorem L9.nil(w:World):L9 w (.slice none 0 0) []:=⟨[],⟨by simp[M3],.inl ⟨rfl,rfl⟩⟩,rfl,by simp⟩
theorem Bl1{J:Jn}{D:Dk}(hr:8<=J.last.ring)(hm:J.may D=0):J.comD D []=(D,0)/\J.com D []=J:=by
 have hf:J.fits D.n []=0:=by
  unfold Jn.fits;have:X5 (J.homes D.n) [] []=0:=rfl;rw[this,if_neg (by simp),if_neg (by simp;omega)]
 constructor
 ·unfold Jn.comD;rw[if_neg (by simpa using hm),if_neg (by simpa using hf),if_pos rfl]
 ·unfold Jn.com;rw[if_neg (by simpa using hm),if_neg (by simpa using hf),if_pos rfl]
theorem Ce1{w:World}{j:JG}{J:Jn}{D:Dk}{F:Nat->Prop}(h:D6 w F j J D)(hn:∀k,w.heap.size<=k->F k)(hm:J.may D=0)(hus:J.used<=5000) :
  Calls Tryz.prog 18 #[.pointer (some ⟨j.jb,0,none⟩)] w λ e w'=>∃t:TG,e=.returned (.tuple #[.pointer (some ⟨t.tb,0,none⟩),.int .i64 0])/\w.heap.size<=t.tb/\w.heap.size<=t.wb/\Q8 w' t j.jb (J.turn-1) (λ _=>none)/\D6 w' F j J D/\Upd j.all w w'/\t.F=F:=by
 obtain⟨q1,q2⟩:=Bl1 h.ok.ring0 hm;have HC:=η (Bk9 h _ [] (L9.nil w) (by simp) hus);unfold Q0 at HC;rw[q1,q2] at HC;have hmm:=@run_makeMap Tryz.prog;have HN:=η hn;clear h q1 q2 hm hn;go_enter Tryz.func18,Tryz.ntmps18
 go_wp2_with fail
 refine HC.out.mono ?_;rintro e w1 ⟨rfl,hj1,hu1⟩;have HJ1:=η (hj1.gr HN.out);have HU1:=η hu1;have HTU:=η (Bd3 HJ1.out);clear hj1 hu1;go_wp2_with fail
 refine HTU.out.mono ?_;rintro e w' ⟨rfl,rfl⟩;go_wp2_with fail
 go_ret2;have hb1:=A6 (w:=w1.alloc (.map #[] 0)) (.cells #[.pointer (some ⟨j.jb,0,none⟩),.int .u64 (J.turn-1),.map (some w1.heap.size)] 153);rw[World.size_alloc] at hb1;have hb0:((w1.alloc (.map #[] 0)).alloc (.cells #[.pointer (some ⟨j.jb,0,none⟩),.int .u64 (J.turn-1),.map (some w1.heap.size)] 153)).heap[w1.heap.size]?=some (.map #[] 0):=by
  rw[A9 (by simp)];exact A6 _
 have hu2:Upd [] w1 ((w1.alloc (.map #[] 0)).alloc (.cells #[.pointer (some ⟨j.jb,0,none⟩),.int .u64 (J.turn-1),.map (some w1.heap.size)] 153)):=((Upd.refl _ _).alloc _).alloc _;have hs:=HU1.out.size;exact⟨⟨w1.heap.size+1,w1.heap.size,F⟩,rfl,by show w.heap.size<=w1.heap.size+1;omega,hs,⟨hb1,⟨λ _=>none,P6.made hb0,by simp,by simp⟩⟩,HJ1.out.below hu2,HU1.out.trans (hu2.mono (by simp)),rfl⟩
def Ag7(J:Jn)(D:Dk)(M:Nat->Option Sec)(i:Int):List UInt8 × Int × Bool:=
 if 0<=i/\(M i.toNat).isSome then((M i.toNat).getD [],0,J.done) else J.read D i
theorem Bs3{w:World}{t:TG}{j:JG}{turn:Int}{M:Nat->Option Sec}(h:Q8 w t j.jb turn M){J:Jn}{D:Dk}{F:Nat->Prop}(hj:D6 w F j J D)(hne:t.wb∉j.all){hm:Nat}(ho:MOk M hm)(i:Int) :
  Calls Tryz.prog 155 #[.pointer (some ⟨t.tb,0,none⟩),.int .i64 i] w λ e w'=>∃v,e=.returned (.tuple #[v,.int .i64 (Ag7 J D M i).2.1])/\Aa1 w' 5 (λ k=>w.heap.size<=k) v (Ag7 J D M i).1/\D6 w' F j { J with done:=(Ag7 J D M i).2.2 } D/\Q8 w' t j.jb turn M/\Upd [j.jb] w w':=by
 have H:=η h;have HJ:=η hj;have hc:=A4 h.st;have hne2:=η hne;rcases h.wrote.look i with⟨v,s,h0,hs,hown,hl1,_⟩ | ⟨hno,hl1⟩
 ·have HL:=η (ho _ _ hs).2;have hR:Ag7 J D M i=(s,0,J.done):=by unfold Ag7;rw[if_pos ⟨h0,by rw[hs];rfl⟩,hs];rfl
  have HRD:=η hown.rd;have HR:=η hR;clear h hj hne hs hown hR;go_enter Tryz.func155,Tryz.ntmps155
  go_wp2_with fail
  refine(X8 H.out).mono ?_;rintro e w' ⟨rfl,n,rfl⟩;go_wp2_with fail
  refine(V8 v s _ (HRD.out.drewN n) (by rw[HL.out];omega)).mono ?_;rintro e w2 ⟨v',rfl,hu2,ho2⟩;have HU2:=η hu2;have HO2:=η ho2;clear hu2 ho2;go_wp2_with fail
  go_ret2;rw[HR.out];exact⟨_,rfl,HO2.out,(HJ.out.drewN _).below HU2.out,(H.out.drewN _).below HU2.out,(((Upd.refl _ _).drewN _).trans HU2.out).mono (by simp)⟩
 ·have hR:Ag7 J D M i=J.read D i:=by
   unfold Ag7;rw[if_neg];rintro⟨a,b⟩;rcases hno with q | q
   ·omega
   ·rw[q] at b;simp at b
  have HR:=η hR;have HRJ:=λ n=>η (Br6 (hj.drewN n) i);clear h hj hne hno hR;go_enter Tryz.func155,Tryz.ntmps155
  go_wp2_with fail
  refine(X8 H.out).mono ?_;rintro e w' ⟨rfl,n,rfl⟩;go_wp2_with fail
  refine(HRJ n).out.mono ?_;rintro e w2 ⟨v,rfl,ho2,hj2,hu2⟩;have HU2:=η hu2;have HO2:=η ho2;have HJ2:=η hj2;clear hu2 ho2 hj2;go_wp2_with fail
  go_ret2;rw[HR.out];exact⟨_,rfl,HO2.out,HJ2.out,(H.out.drewN n).jn (HJ.out.drewN n) hne2.out HU2.out (by intro k hk;simp at hk;simp[JG.all,hk]),((Upd.refl _ _).drewN n).trans HU2.out⟩
def wrE(M:Nat->Option Sec)(hm:Nat)(i:Int)(len:Nat):Int:=
 if i<0∨(hm:Int)<=i then 1 else if len≠512 then 9 else if M i.toNat=none/\40<=F2 M hm then 2 else 0
def wrM(M:Nat->Option Sec)(hm:Nat)(i:Int)(b:List UInt8):Nat->Option Sec:=
 if wrE M hm i b.length=0 then(λ k=>if k=i.toNat then some b else M k) else M
theorem P8.look2{w:World}{F:Nat->Prop}{mb:Nat}{M:Nat->Option Sec}(hw:P8 w F mb M)(i:Int) :
  ∃(v0:Value) (mine:Bool),(∀n,(Instr.lookup 151 (.map (some mb)) (.int .i64 i) true).run Tryz.prog (w.drewN n)=.ok (.tuple #[v0,.bool mine]) (w.drewN n))/\(mine=true↔0<=i/\(M i.toNat).isSome=true):=by
 rcases hw.look i with⟨v,s,h0,hs,_,h1,_⟩ | ⟨hno,h1⟩
 ·exact⟨v,true,h1,by simp[h0,hs]⟩
 ·refine⟨.slice none 0 0,false,h1,?_⟩;constructor
  ·intro q;simp at q
  ·rintro⟨a,b⟩;rcases hno with q | q
   ·omega
   ·rw[q] at b;simp at b
theorem Ax0{w w2:World}{t:TG}{jb:Nat}{turn:Int}{M:Nat->Option Sec}(h:Q8 w t jb turn M){i:Nat}{b:List UInt8}(hb:0<b.length)(hu:Upd [] w w2){v:Value}{F:Nat->Prop}(ho:Aa1 w2 5 F v b)(hF:∀k,F k->t.F k) :
  ∃o,(Instr.mapUpdate 151 (.map (some t.wb)) (.int .i64 (i:Int)) v).run Tryz.prog w2=.ok () (setBlock w2 t.wb o)/\Q8 (setBlock w2 t.wb o) t jb turn (λ k=>if k=i then some b else M k)/\(setBlock w2 t.wb o).cell? ⟨t.tb,2,none⟩=some (.map (some t.wb))/\Upd [t.wb] w (setBlock w2 t.wb o):=by
 have h2:Q8 w2 t jb turn M:=h.below hu;obtain⟨o,hrun,hmap⟩:=h2.wrote.update (i:Int) (by omega) v b ((ho.own hb).mono hF);rw[Int.toNat_natCast] at hmap;have hne:t.tb≠t.wb:=λ e=>h2.map (by rw[← e];exact h2.st);have hst:(setBlock w2 t.wb o).heap[t.tb]?=_:=(K1 o hne).trans h2.st;refine⟨o,hrun,⟨hst,hmap⟩,?_,(hu.mono (by simp)).setBlock _ (.inl (by simp))⟩;rw[A4 hst];rfl
theorem Bl2{w:World}{t:TG}{j:JG}{turn:Int}{M:Nat->Option Sec}(h:Q8 w t j.jb turn M)(hnw:∀k,w.heap.size<=k->t.F k){J:Jn}{D:Dk}{F:Nat->Prop}(hj:D6 w F j J D)(hne:t.wb∉j.all){hm:Nat}(ho:MOk M hm)(hh:J.homes D.n=hm)(i:Int)(v:Value)(b:List UInt8)(hr:Rd w v b)(hb:b.length<=1000000) :
  Calls Tryz.prog 140 #[.pointer (some ⟨t.tb,0,none⟩),.int .i64 i,v] w λ e w'=>e=.returned (.int .i64 (wrE M hm i b.length))/\Q8 w' t j.jb turn (wrM M hm i b)/\D6 w' F j J D/\Upd [t.wb] w w':=by
 obtain⟨av,cv,rfl,_⟩:=id hr;have H:=η h;have HJ:=η hj;have HR:=η hr;have hc:=A4 h.st;have hne2:=η hne;have HO:=η ho;have HLB:=η hb;have HHM:=λ n=>η (Q4 (hj.drewN n));rw[hh] at HHM;have HLEN:=η (h.wrote.len ho);obtain⟨v0,mine,hl,hmine⟩:=h.wrote.look2 i;have hh1:hm<=5000:=by have:=hj.disk.ok.n1;unfold Jn.homes at hh;omega
 have HNW:=η hnw;clear h hj hr hne ho hb hh hnw;by_cases b1:i<0
 ·have d1:decide (i<0)=true:=by simpa using b1
  have HE:Hid (wrE M hm i b.length=1):=by show _=_;unfold wrE;rw[if_pos (.inl b1)]
  have HM:Hid (wrM M hm i b=M):=by show _=_;unfold wrM;rw[if_neg (by rw[HE.out];decide)]
  clear hmine b1;go_enter Tryz.func140,Tryz.ntmps140
  go_wp2_with fail
  refine(X8 H.out).mono ?_;rintro e w' ⟨rfl,n,rfl⟩;go_wp2_with fail
  go_ret;rw[HE.out,HM.out];exact⟨rfl,H.out.drewN _,HJ.out.drewN _,(Upd.refl _ _).drewN _⟩
 obtain⟨iN,rfl⟩:=Int.eq_ofNat_of_zero_le (show 0<=i by omega);have d1:decide ((iN:Int)<0)=false:=by simp
 by_cases b2:hm<=iN
 ·have d2:decide (hm<=iN)=true:=by simpa using b2
  have HE:Hid (wrE M hm (iN:Int) b.length=1):=by show _=_;unfold wrE;rw[if_pos (.inr (by omega))]
  have HM:Hid (wrM M hm (iN:Int) b=M):=by show _=_;unfold wrM;rw[if_neg (by rw[HE.out];decide)]
  clear hmine b1 b2;go_enter Tryz.func140,Tryz.ntmps140
  go_wp2_with fail
  refine(X8 H.out).mono ?_;rintro e w' ⟨rfl,n,rfl⟩;go_wp2_with fail
  refine(HHM n).out.mono ?_;rintro e w' ⟨rfl,m,rfl⟩;go_wp2_with fail
  go_ret;rw[HE.out,HM.out];exact⟨rfl,H.out.drewN _,HJ.out.drewN _,(Upd.refl _ _).drewN _⟩
 have d2:decide (hm<=iN)=false:=by simpa using b2
 by_cases b3:b.length=512
 ·have d3:((b.length:Int) != 512)=false:=by simp[b3]
  have HLB2:Hid (0<b.length):=by show 0<_;omega
  have hor:(mine=true/\M iN≠none)∨(mine=false/\M iN=none/\40<=F2 M hm)∨(mine=false/\F2 M hm<40):=by
   cases hmi:mine with
   | true=>
    left;refine⟨rfl,λ q=>?_⟩
    have:=(hmine.1 hmi).2;rw[Int.toNat_natCast,q] at this;simp at this
   | false=>
    right
    have hn:M iN=none:=by
     cases hq:M iN with
     | none=>rfl
     | some s=>exact absurd (hmine.2 ⟨by omega,by rw[Int.toNat_natCast,hq];rfl⟩) (by simp[hmi])
    by_cases q:40<=F2 M hm
    ·exact .inl ⟨rfl,hn,q⟩
    ·exact .inr ⟨rfl,by omega⟩
  clear hmine;have hc5:F2 M hm<=5000:=by have:=Bv4 M hm;omega
  rcases hor with⟨rfl,b4⟩ | ⟨rfl,b4,b5⟩ | ⟨rfl,b4⟩
  ·have HE:Hid (wrE M hm (iN:Int) b.length=0):=by show _=_;unfold wrE;rw[if_neg (by omega),if_neg (by simpa using b3),if_neg (λ q=>b4 q.1)]
   have HM:Hid (wrM M hm (iN:Int) b=λ k=>if k=iN then some b else M k):=by show _=_;unfold wrM;rw[if_pos HE.out,Int.toNat_natCast]
   clear b1 b2 b3 b4;go_enter Tryz.func140,Tryz.ntmps140
   go_wp2_with fail
   refine(X8 H.out).mono ?_;rintro e w' ⟨rfl,n,rfl⟩;go_wp2_with fail
   refine HHM n |>.out.mono ?_;rintro e w' ⟨rfl,m,rfl⟩;have q:Qt w ((w.drewN n).drewN m):=(Qt.of_drewN (n:=n) rfl).trans (Qt.of_drewN rfl);have hlen2:∀ty,(Builtin.len_ #[151] ty #[.map (some t.wb)]).run Tryz.prog ((w.drewN n).drewN m)=.ok (goInt (F2 M hm:Int)) ((w.drewN n).drewN m):=λ ty=>by rw[World.drewN_drewN];exact HLEN.out ty _
   generalize (w.drewN n).drewN m=W at q hlen2 ⊢;have HTW:=η (H.out.below q.upd);have HJW:=η (HJ.out.below q.upd);have HRW:=η (HR.out.below q.upd);have cW:=A4 HTW.out.st;have cW2:W.cell? ⟨t.tb,2,none⟩=some (.map (some t.wb)):=by rw[cW];rfl
   have HQ:=η q;clear q cW hl hc;go_wp2_with fail
   clear hlen2;go_region_held3 (λ w'=>w'.cell? ⟨t.tb,2,none⟩=some (.map (some t.wb))) (go_keep)
    (first | (go_at_call 166;(with_reducible refine(V8 _ b _ ?_ ?_).mono ?_);exact HRW.out;exact HLB.out;rintro e w2 ⟨v',rfl,hu2,ho2⟩;obtain⟨o,hrun,hmap,hcell,hus⟩:=Ax0 (i:=iN) (HTW.out.below (Upd.refl _ _).drew) HLB2.out hu2 ho2 (λ k hk=>HNW.out k (Nat.le_trans HQ.out.upd.size hk));have HMAP:=η hmap;have HUS:=η hus;have hc2:w2.cell? ⟨t.tb,2,none⟩=some (.map (some t.wb)):=(World.cell?_of_block (hu2.block _ HTW.out.lt.1 (by simp))).trans cW2;clear hu2 ho2 hmap hus))
   go_wp2_with fail
   go_ret;rw[HE.out,HM.out];exact⟨rfl,HMAP.out,(HJW.out.below (Upd.refl _ _).drew).tx (HTW.out.below (Upd.refl _ _).drew) hne2.out HUS.out (by simp),((HQ.out.upd.drew).mono (by simp)).trans HUS.out⟩
  ·have d5:decide (40<=(F2 M hm:Int))=true:=by simp;omega
   have HE:Hid (wrE M hm (iN:Int) b.length=2):=by show _=_;unfold wrE;rw[if_neg (by omega),if_neg (by simpa using b3),if_pos ⟨by rw[Int.toNat_natCast];exact b4,b5⟩]
   have HM:Hid (wrM M hm (iN:Int) b=M):=by show _=_;unfold wrM;rw[if_neg (by rw[HE.out];decide)]
   have hlen:=HLEN.out;clear b1 b2 b3 b4 b5;go_enter Tryz.func140,Tryz.ntmps140
   go_wp2_with fail
   refine(X8 H.out).mono ?_;rintro e w' ⟨rfl,n,rfl⟩;go_wp2_with fail
   refine(HHM n).out.mono ?_;rintro e w' ⟨rfl,m,rfl⟩;go_wp2_with fail
   go_ret;rw[HE.out,HM.out];exact⟨rfl,H.out.drewN _,HJ.out.drewN _,(Upd.refl _ _).drewN _⟩
  ·have d5:decide (40<=(F2 M hm:Int))=false:=by simp;omega
   have HE:Hid (wrE M hm (iN:Int) b.length=0):=by show _=_;unfold wrE;rw[if_neg (by omega),if_neg (by simpa using b3),if_neg (λ q=>by have:=q.2;omega)]
   have HM:Hid (wrM M hm (iN:Int) b=λ k=>if k=iN then some b else M k):=by show _=_;unfold wrM;rw[if_pos HE.out,Int.toNat_natCast]
   clear b1 b2 b3 b4;go_enter Tryz.func140,Tryz.ntmps140
   go_wp2_with fail
   refine(X8 H.out).mono ?_;rintro e w' ⟨rfl,n,rfl⟩;go_wp2_with fail
   refine HHM n |>.out.mono ?_;rintro e w' ⟨rfl,m,rfl⟩;have q:Qt w ((w.drewN n).drewN m):=(Qt.of_drewN (n:=n) rfl).trans (Qt.of_drewN rfl);have hlen2:∀ty,(Builtin.len_ #[151] ty #[.map (some t.wb)]).run Tryz.prog ((w.drewN n).drewN m)=.ok (goInt (F2 M hm:Int)) ((w.drewN n).drewN m):=λ ty=>by rw[World.drewN_drewN];exact HLEN.out ty _
   generalize (w.drewN n).drewN m=W at q hlen2 ⊢;have HTW:=η (H.out.below q.upd);have HJW:=η (HJ.out.below q.upd);have HRW:=η (HR.out.below q.upd);have cW:=A4 HTW.out.st;have cW2:W.cell? ⟨t.tb,2,none⟩=some (.map (some t.wb)):=by rw[cW];rfl
   have HQ:=η q;clear q cW hl hc;go_wp2_with fail
   clear hlen2;go_region_held3 (λ w'=>w'.cell? ⟨t.tb,2,none⟩=some (.map (some t.wb))) (go_keep)
    (first | (go_at_call 166;(with_reducible refine(V8 _ b _ ?_ ?_).mono ?_);exact HRW.out;exact HLB.out;rintro e w2 ⟨v',rfl,hu2,ho2⟩;obtain⟨o,hrun,hmap,hcell,hus⟩:=Ax0 (i:=iN) (HTW.out.below (Upd.refl _ _).drew) HLB2.out hu2 ho2 (λ k hk=>HNW.out k (Nat.le_trans HQ.out.upd.size hk));have HMAP:=η hmap;have HUS:=η hus;have hc2:w2.cell? ⟨t.tb,2,none⟩=some (.map (some t.wb)):=(World.cell?_of_block (hu2.block _ HTW.out.lt.1 (by simp))).trans cW2;clear hu2 ho2 hmap hus))
   go_wp2_with fail
   go_ret;rw[HE.out,HM.out];exact⟨rfl,HMAP.out,(HJW.out.below (Upd.refl _ _).drew).tx (HTW.out.below (Upd.refl _ _).drew) hne2.out HUS.out (by simp),((HQ.out.upd.drew).mono (by simp)).trans HUS.out⟩
 ·have d3:((b.length:Int) != 512)=true:=by simp;omega
  have HE:Hid (wrE M hm (iN:Int) b.length=9):=by show _=_;unfold wrE;rw[if_neg (by omega),if_pos b3]
  have HM:Hid (wrM M hm (iN:Int) b=M):=by show _=_;unfold wrM;rw[if_neg (by rw[HE.out];decide)]
  clear hmine b1 b2 b3;go_enter Tryz.func140,Tryz.ntmps140
  go_wp2_with fail
  refine(X8 H.out).mono ?_;rintro e w' ⟨rfl,n,rfl⟩;go_wp2_with fail
  refine(HHM n).out.mono ?_;rintro e w' ⟨rfl,m,rfl⟩;go_wp2_with fail
  go_ret;rw[HE.out,HM.out];exact⟨rfl,H.out.drewN _,HJ.out.drewN _,(Upd.refl _ _).drewN _⟩
end Go.Proofs.YtgfbepakonjbnaaGreat
namespace Go.Proofs.YtgfbepakonjbnaaGreat
open Go.RowKit Go.MapKept Go.ChangeMaps
def txL(M:Nat->Option Sec)(hm:Nat):List Put:=(O5 M hm).map fun(i:Nat)=>((i:Int),(M i).getD [])
def Jn.txD(J:Jn)(D:Dk)(turn:Int)(l:List Put):Dk × Int:=if J.turn-1≠turn then(D,10) else J.comD D l
def Jn.txJ(J:Jn)(D:Dk)(turn:Int)(l:List Put):Jn:=if J.turn-1≠turn then J else J.com D l
theorem Am4(M:Nat->Option Sec)(hm:Nat):(txL M hm).length=F2 M hm:=by unfold txL F2;rw[List.length_map]
theorem Ck5(M:Nat->Option Sec)(hm:Nat){k:Nat}(h:k<(O5 M hm).length):(txL M hm).take (k+1)=(txL M hm).take k ++ [((((O5 M hm)[k]:Nat):Int),(M (O5 M hm)[k]).getD [])]:=by
 unfold txL;rw[List.take_succ_eq_append_getElem (by simpa using h),List.getElem_map]
theorem Ck6{M:Nat->Option Sec}{hm:Nat}(ho:MOk M hm){w:World}{F:Nat->Prop}{f:Int->Option Value}(hf1:∀k v,f k=some v->0<=k/\∃s,M k.toNat=some s/\Own w 5 F v s)(hf2:∀i s,M i=some s->∃v,f (i:Int)=some v) :
  Ad2 f hm=O5 M hm/\∀k v,f k=some v->0<=k/\k<(hm:Int):=by
 constructor
 ·unfold Ad2 O5;refine List.filter_congr λ i _=>?_;rw[Bool.eq_iff_iff];constructor
  ·intro q;obtain⟨v,hv⟩:=Option.isSome_iff_exists.1 q;obtain⟨_,s,hs,_⟩:=hf1 _ v hv;rw[Int.toNat_natCast] at hs;rw[hs];rfl
  ·intro q;obtain⟨s,hs⟩:=Option.isSome_iff_exists.1 q;obtain⟨v,hv⟩:=hf2 i s hs;rw[hv];rfl
 ·intro k v hk;obtain⟨k0,s,hs,_⟩:=hf1 k v hk;have:=(ho _ s hs).1;omega
theorem Bg8{w:World}{t:TG}{j:JG}{turn:Int}{M:Nat->Option Sec}(h:Q8 w t j.jb turn M){J:Jn}{D:Dk}{F:Nat->Prop}(hj:D6 w F j J D)(hnw:∀k,w.heap.size<=k->F k)(hne:t.wb∉j.all){hm:Nat}(ho:MOk M hm)(hm1:hm<=5000)(hus:J.used<=5000) :
  Calls Tryz.prog 21 #[.pointer (some ⟨t.tb,0,none⟩)] w λ e w'=>e=.returned (.int .i64 (J.txD D turn (txL M hm)).2)/\Cn2 w' (.pointer (some ⟨t.tb,0,none⟩))/\D6 w' F j (J.txJ D turn (txL M hm)) (J.txD D turn (txL M hm)).1/\Upd (t.tb :: j.all) w w':=by
 have H:=η h;have HJ:=η hj;have hc:=A4 h.st;have hne2:=η hne;have HO:=η ho;have HM1:=η hm1;have HUS:=η hus;have c0:w.cell? ⟨t.tb,0,none⟩=some (.pointer (some ⟨j.jb,0,none⟩)):=by rw[hc];rfl
 have c2:w.cell? ⟨t.tb,2,none⟩=some (.map (some t.wb)):=by rw[hc];rfl
 have hlt:=h.lt.1;have HNW:=η hnw;clear h hj hne ho hm1 hus hc hnw;go_enter Tryz.func21,Tryz.ntmps21
 go_wp2_with fail
 refine(X8 H.out).mono ?_;rintro e w' ⟨rfl,n,rfl⟩;go_wp2_with fail
 go_quiet (fail)
 go_wp2_with fail
 have hwu:Upd [] w (w.drewN (n+nq)):=(Upd.refl _ _).drewN _;generalize w.drewN (n+nq)=w1 at hwu ⊢;have HT1:=η (H.out.below hwu);have HJ1:=η (HJ.out.below hwu);have HU1:=η hwu;clear hwu c0 c2;refine(Aw9 HT1.out).mono ?_;rintro e w2 ⟨rfl,hst2,hwt2,hu2⟩;have HJ2:=η (HJ1.out.tx HT1.out hne2.out hu2 (by simp));have HST2:=η hst2;have HWT2:=η hwt2;have HU2:=η ((HU1.out.mono (by simp)).trans hu2);have c1:w2.cell? ⟨t.tb,1,none⟩=some (.int .u64 turn):=by rw[A4 hst2];rfl
 have hlt2:t.tb<w2.heap.size:=A2 hst2;clear hst2 hwt2 hu2;have HTU:∀m,Hid (Calls Tryz.prog 80 #[.pointer (some ⟨j.jb,0,none⟩)] (w2.drewN m) λ e w'=>e=.returned (.int .u64 (J.turn-1))/\∃k,w'=(w2.drewN m).drewN k):=λ m=>η ((Bd3 (HJ2.out.drewN m)).mono λ e w' ⟨he,hw⟩=>⟨he,0,hw.symm⟩);go_wp2_with fail
 by_cases htu:J.turn-1=turn
 ·have hb:(J.turn-1 != turn)=false:=by simp[htu]
  have HRES:Hid (J.txD D turn (txL M hm)=J.comD D (txL M hm)/\J.txJ D turn (txL M hm)=J.com D (txL M hm)):=by
   show _/\_
   unfold Jn.txD Jn.txJ;rw[if_neg (by simpa using htu),if_neg (by simpa using htu)];exact⟨rfl,rfl⟩
  clear htu;go_quiet ((go_at_call 80;exact Calls.quiet_of (HTU _).out))
  go_wp2_with fail
  have hq3:Upd [] w2 (w2.drewN nq):=(Upd.refl _ _).drewN _;generalize w2.drewN nq=w3 at hq3 ⊢;have HJ3:=η (HJ2.out.below hq3);have HST3:Hid (w3.heap[t.tb]?=_):=(hq3.block _ (A2 HST2.out) (by simp)).trans HST2.out;have HWT3:Hid (P8 w3 t.F t.wb M):=by
   obtain⟨f,hf,_⟩:=id HWT2.out;exact HWT2.out.world (hq3.block _ hf.lt (by simp)) λ k c _ e=>hq3.block _ (A2 e) (by simp)
  have HU3:=η (HU2.out.trans (hq3.mono (by simp)));clear hq3 c1;obtain⟨f,hf,hf1,hf2⟩:=HWT3.out;obtain⟨hk1,hk2⟩:=Ck6 HO.out hf1 hf2;have cS:=As4 hf hm (by have:=HM1.out;omega) hk2;rw[hk1] at cS;have CS:=η cS;have hkl:(O5 M hm).length<=5000:=by have:=Bv4 M hm;unfold F2 at this;have:=HM1.out;omega
  clear hf hf1 hf2 hk1 hk2 cS;go_wp2_with (first | (go_at_call 87;refine(Bc9 _ _).mono ?_;rintro e w' ⟨rfl,rfl⟩) | fail)
  refine CS.out.mono ?_;rintro e w4 ⟨vw,rfl,hrow,hu4⟩;have hrl:RdL w4 [] vw ((O5 M hm).map λ i:Nat=> .int .i64 (i:Int)):=RdL.of_row (by simpa using hrow) (by simp);obtain⟨aw,capw,rfl,hcapw,_⟩:=id hrl;simp only[List.length_map] at hrl hrow ⊢;have HRL:=η hrl;have HJ4:=η (HJ3.out.below hu4);have HST4:Hid (w4.heap[t.tb]?=_):=(hu4.block _ (A2 HST3.out) (by simp)).trans HST3.out;have HWT4:Hid (P8 w4 t.F t.wb M):=by
   obtain⟨f,hf,_⟩:=id HWT3.out;exact HWT3.out.world (hu4.block _ hf.lt (by simp)) λ k c _ e=>hu4.block _ (A2 e) (by simp)
  have HU4:=η (HU3.out.trans (hu4.mono (by simp)));clear hrl hu4 hrow hcapw;go_wp2_with fail
  go_loopw [5,31] (λ m i wr=>∃k:Nat,k<=(O5 M hm).length/\i=.int .i64 (k:Int)/\F0 wr w4.heap.size Al3 m ((txL M hm).take k)/\Upd [] w4 wr) (λ _ i _=>(O5 M hm).length-(intOf i).toNat)
  case atStart=>exact⟨0,Nat.zero_le _,rfl,⟨[],⟨by simp[M3],.inl ⟨rfl,rfl⟩⟩,by simp,by simp⟩,Upd.refl _ _⟩
  case round=>
   obtain⟨k,hk,rfl,hm',hu⟩:=hrel;obtain⟨am,nm,cm,rfl⟩:=hm'.shape3;by_cases hltk:k<(O5 M hm).length
   ·have hlt':decide ((k:Int)<((O5 M hm).length:Int))=true:=by simpa using hltk
    obtain⟨aw',capw',e,_,hh⟩:=HRL.out.upd hu (λ _ h=>h);simp only[List.length_map,Value.slice.injEq] at e hh;obtain⟨rfl,_,rfl⟩:=e;obtain⟨wb,woff,_,rfl,hcw⟩:=hh (by omega);have hcell:=hcw k hltk;rw[List.getElem_map] at hcell;have HTL:=η (Ck5 M hm hltk);have hsm:=(U9 HO.out).1 (List.getElem_mem hltk);obtain⟨i,hi⟩:∃i,i=(O5 M hm)[k]:=⟨_,rfl⟩;rw[← hi] at hcell HTL hsm;obtain⟨s,hs⟩:=Option.isSome_iff_exists.1 hsm;rw[hs] at HTL;have hwr:P8 wr t.F t.wb M:=by
     obtain⟨f,hf,_⟩:=id HWT4.out;exact HWT4.out.world (hu.block _ hf.lt (by simp)) λ k c _ e=>hu.block _ (A2 e) (by simp)
    rcases hwr.look (i:Int) with⟨v,s',_,hs',ho,_,hl2⟩ | ⟨hno,_⟩;rotate_left
    ·rcases hno with q | q
     ·omega
     ·rw[Int.toNat_natCast,hs] at q;simp at q
    rw[Int.toNat_natCast,hs] at hs';obtain rfl:s=s':=by simpa using hs'
    obtain⟨kx,rest,hFx,rfl,hbx⟩:=ho;have hl2':(Instr.lookup 151 (.map (some t.wb)) (.int .i64 (i:Int)) false).run Tryz.prog wr=.ok (.slice (some ⟨kx,0,none⟩) s.length (s.length+rest.length)) wr:=hl2 0;have hi0:(0:Int)<=(k:Int):=by omega
    have hi1:(k:Int)<((O5 M hm).length:Int):=by omega
    obtain⟨a',b',c',w5,hrun,hm5,_,hu5,_⟩:=By2 hm' (by rw[List.length_take];omega) hu.size hu (Nat.le_refl _) (i:Int) kx s.length (s.length+rest.length) s ⟨kx,rest,trivial,rfl,hbx⟩;rw[show(some s).getD []=s from rfl] at HTL;rw[← HTL.out] at hm5;have HM5:=η hm5;have HU5:=η hu5;clear hm' hu hcw hh hsm hi hs hwr hs' hFx hbx hl2 hm5 hu5;go_wp2_with (at_builtin;refine B4 rfl _ _ _ rfl rfl rfl hrun ?_)
    exact⟨⟨k+1,by omega,by go_num,HM5.out,HU5.out⟩,by simp[intOf];omega⟩
   ·obtain rfl:k=(O5 M hm).length:=by omega
    have hlt':decide (((O5 M hm).length:Int)<((O5 M hm).length:Int))=false:=by simp
    have htk:(txL M hm).take (O5 M hm).length=txL M hm:=List.take_of_length_le (by unfold txL;rw[List.length_map];exact Nat.le_refl _);rw[htk] at hm';have HJ5:=η (HJ4.out.below hu);have HC:=η (Bk9 (HJ4.out.below hu) _ (txL M hm) hm'.own.at (by unfold txL;rw[List.length_map];omega) HUS.out);have HST5:Hid (wr.heap[t.tb]?=_):=(hu.block _ (A2 HST4.out) (by simp)).trans HST4.out;have HU5:=η (HU4.out.trans (hu.mono (by simp)));clear hm' hu htk;go_wp2_with fail
    refine HC.out.mono ?_;rintro e w6 ⟨rfl,hj6,hu6⟩;have HJ6:=η (hj6.gr λ k hk=>HNW.out k (Nat.le_trans HU5.out.size hk));have HST6:Hid (w6.heap[t.tb]?=_):=(hu6.block _ (A2 HST5.out) (HJ5.out.kind HST5.out (by decide) (by decide) (by decide))).trans HST5.out;have HU6:=η ((HU5.out.mono (T:=t.tb :: j.all) (by simp)).trans (hu6.mono (by intro q hq;simp[hq])));clear hj6 hu6;go_wp2_with fail
    go_ret;rw[HRES.out.1,HRES.out.2];exact⟨rfl,.inr ⟨_,_,rfl,HST6.out⟩,HJ6.out,HU6.out⟩
 ·have hb:(J.turn-1 != turn)=true:=by simpa using htu
  have HRES:Hid (J.txD D turn (txL M hm)=(D,10)/\J.txJ D turn (txL M hm)=J):=by
   show _/\_
   unfold Jn.txD Jn.txJ;rw[if_pos htu,if_pos htu];exact⟨rfl,rfl⟩
  clear htu;go_quiet ((go_at_call 80;exact Calls.quiet_of (HTU _).out))
  go_wp2_with fail
  go_ret;rw[HRES.out.1,HRES.out.2];exact⟨rfl,.inr ⟨_,_,rfl,HST2.out⟩,HJ2.out.drewN _,(HU2.out.mono (by simp)).drewN _⟩
end Go.Proofs.YtgfbepakonjbnaaGreat
namespace Go.Proofs.YtgfbepakonjbnaaGreat
open Go.RowKit Go.MapKept Go.ChangeMaps
theorem Ax1{homes:Nat}:∀{l:List Put} {seen:List Int},(∀p∈l,0<=p.1/\p.1<(homes:Int)/\p.2.length=512/\p.1∉seen)->(l.map (·.1)).Nodup->X5 homes seen l=0
 | [],_,_,_=>rfl
 | (i,b) :: l,seen,h,hn=>by
  obtain⟨a1,a2,a3,a4⟩:=h (i,b) (by simp);rw[List.map_cons,List.nodup_cons] at hn;rw[Bs0,if_neg (by simp only[not_or];exact⟨by show ¬i<0;simp at a1;omega,by simp at a2;omega,a4⟩),if_neg (by simpa using a3)];refine Ax1 (λ p hp=>?_) hn.2;obtain⟨b1,b2,b3,b4⟩:=h p (by simp[hp]);refine⟨b1,b2,b3,λ q=>?_⟩;rcases List.mem_cons.1 q with q | q
  ·exact hn.1 (by show i∈_;rw[← q];exact List.mem_map_of_mem hp)
  ·exact b4 q
theorem Ax2(g:Nat->Sec):∀(ks:List Nat) (H:Nat->Sec) (i:Nat),Ac5 H (ks.map fun(k:Nat)=>((k:Int),g k)) i=if i∈ks then g i else H i
 | [],H,i=>by simp[Ac5]
 | k :: ks,H,i=>by
  show Ac5 (λ x=>if x=((k:Int),g k).1.toNat then((k:Int),g k).2 else H x) (ks.map fun(k:Nat)=>((k:Int),g k)) i=_
  rw[Ax2 g ks];simp only[Int.toNat_natCast,List.mem_cons];by_cases h1:i∈ks
  ·rw[if_pos h1,if_pos (.inr h1)]
  ·rw[if_neg h1];by_cases h2:i=k
   ·rw[if_pos h2,if_pos (.inl h2),h2]
   ·rw[if_neg h2,if_neg (by rintro(q | q);exact h2 q;exact h1 q)]
theorem Ce2{M:Nat->Option Sec}{hm:Nat}(ho:MOk M hm)(H:Nat->Sec):Ac5 H (txL M hm)=λ i=>(M i).getD (H i):=by
 funext i
 unfold txL;rw[Ax2 λ k=>(M k).getD []];by_cases h:(M i).isSome=true
 ·rw[if_pos ((U9 ho).2 h)];obtain⟨s,hs⟩:=Option.isSome_iff_exists.1 h;rw[hs];rfl
 ·rw[if_neg λ q=>h ((U9 ho).1 q)];have:M i=none:=by simpa using h
  rw[this];rfl
theorem Ck7{M:Nat->Option Sec}{n ring:Nat}(ho:MOk M (n-2-ring))(h1:F2 M (n-2-ring)<=40)(h2:F2 M (n-2-ring)<ring):Bj8 n ring (txL M (n-2-ring))=0:=by
 have e:X5 (n-2-ring) [] (txL M (n-2-ring))=0:=Ax1 (λ p hp=>by
  unfold txL at hp;obtain⟨i,hi,rfl⟩:=List.mem_map.1 hp;obtain⟨s,hs⟩:=Option.isSome_iff_exists.1 ((U9 ho).1 hi);obtain⟨q1,q2⟩:=ho i s hs;refine⟨by show(0:Int)<=(i:Int);omega,by show(i:Int)<_;omega,?_,by simp⟩;show((M i).getD []).length=512
  rw[hs];exact q2) (by
   unfold txL;rw[List.map_map];rw[List.Nodup,List.pairwise_map];refine(T8 M (n-2-ring)).imp λ hab q=>hab ?_;have:((_:Nat):Int)=((_:Nat):Int):=q;omega)
 unfold Bj8;rw[e,if_neg (by simp),Am4,if_neg (by omega)]
theorem Ck8{M:Nat->Option Sec}{hm:Nat}(h:F2 M hm=0):txL M hm=[]:=List.eq_nil_of_length_eq_zero (by rw[Am4];exact h)
theorem Co9{M:Nat->Option Sec}{hm:Nat}(h:0<F2 M hm):txL M hm≠[]:=by
 intro q;have:=congrArg List.length q;rw[Am4] at this;simp at this;omega
theorem D6.late{w:World}{F:Nat->Prop}{j:JG}{J:Jn}{D:Dk}(h:D6 w F j J D){k:Nat}(hk:w.heap.size<=k):k∉j.all:=by
 have h1:=h.lt;have h2:=h.disk.lt;simp only[JG.all,List.mem_cons,List.not_mem_nil,or_false,not_or];omega
theorem Ax3{w:World}{j:JG}{J:Jn}{D:Dk}{n ring:Nat}{t m:Int}{H:Nat->Sec}(h:V4 w j J D n ring t m H) :
  Calls Tryz.prog 18 #[.pointer (some ⟨j.jb,0,none⟩)] w λ e w'=>∃x:TG,e=.returned (.tuple #[.pointer (some ⟨x.tb,0,none⟩),.int .i64 0])/\w.heap.size<=x.tb/\w.heap.size<=x.wb/\Q8 w' x j.jb (t-1) (λ _=>none)/\V4 w' j J D n ring t m H/\Upd j.all w w'/\x.F=j.F:=by
 refine(Ce1 h.at_ h.nw h.live.held.may (by have:=h.used;omega)).mono ?_;rintro e w' ⟨x,e1,e2,e3,e4,e5,e6,e7⟩;exact⟨x,e1,e2,e3,by rw[← h.turn];exact e4,h.of e5 e6.size,e6,e7⟩
theorem V4.homes{w:World}{j:JG}{J:Jn}{D:Dk}{n ring:Nat}{t m:Int}{H:Nat->Sec}(h:V4 w j J D n ring t m H):J.homes D.n=n-2-ring:=by unfold Jn.homes;rw[h.n,h.ring]
theorem Ce3{w:World}{x:TG}{turn:Int}{M:Nat->Option Sec}{j:JG}{J:Jn}{D:Dk}{n ring:Nat}{t m:Int}{H:Nat->Sec}(h:V4 w j J D n ring t m H)(hx:Q8 w x j.jb turn M)(hfx:x.F=j.F)(hne:x.wb∉j.all)(ho:MOk M (n-2-ring))(i:Int)(v:Value)(b:List UInt8)(hr:Rd w v b)(hb:b.length<=1000000) :
  Calls Tryz.prog 140 #[.pointer (some ⟨x.tb,0,none⟩),.int .i64 i,v] w λ e w'=>e=.returned (.int .i64 (wrE M (n-2-ring) i b.length))/\Q8 w' x j.jb turn (wrM M (n-2-ring) i b)/\V4 w' j J D n ring t m H/\Upd [x.wb] w w':=by
 refine(Bl2 hx (by rw[hfx];exact h.nw) h.at_ hne ho h.homes i v b hr hb).mono ?_;rintro e w' ⟨e1,e2,e3,e4⟩;exact⟨e1,e2,h.of e3 e4.size,e4⟩
theorem Ce4{w:World}{x:TG}{turn:Int}{M:Nat->Option Sec}{j:JG}{J:Jn}{D:Dk}{n ring:Nat}{t m:Int}{H:Nat->Sec}(h:V4 w j J D n ring t m H)(hx:Q8 w x j.jb turn M)(hne:x.wb∉j.all)(ho:MOk M (n-2-ring))(i:Nat)(hi:i+2+ring<n) :
  Calls Tryz.prog 155 #[.pointer (some ⟨x.tb,0,none⟩),.int .i64 (i:Int)] w λ e w'=>∃v,e=.returned (.tuple #[v,.int .i64 0])/\Aa1 w' 5 (λ k=>w.heap.size<=k) v ((M i).getD (H i))/\V4 w' j J D n ring t m H/\Q8 w' x j.jb turn M/\Upd [j.jb] w w':=by
 refine(Bs3 hx h.at_ hne ho (i:Int)).mono ?_;rintro e w' ⟨v,e1,e2,e3,e4,e5⟩;have hd:=h.live.held.done;have hr:Ag7 J D M (i:Int)=((M i).getD (H i),0,false):=by
  unfold Ag7;rw[Int.toNat_natCast];by_cases q:(M i).isSome=true
  ·rw[if_pos ⟨by omega,q⟩];obtain⟨s,hs⟩:=Option.isSome_iff_exists.1 q;rw[hs,hd];rfl
  ·rw[if_neg λ r=>q r.2];have hn:M i=none:=by simpa using q
   rw[hn];unfold Jn.read;have hm:=h.live.held.may;have h1:=h.n;have h2:=h.ring;rw[if_neg (by rw[hm];decide),if_neg (by unfold Jn.homes;omega)];have hh:J.home D (i:Int).toNat=H i:=by rw[h.home];rfl
   split
   ·rw[hh,hd];rfl
   ·rw[if_neg (by rw[h.live.held.calm.off];decide),hh];rfl
 rw[hr] at e1 e2 e3;have:({ J with done:=false }:Jn)=J:=by rw[← hd]
 exact⟨v,e1,e2,h.of (by rw[← this];exact e3) e5.size,e4,e5⟩
theorem V4.comm{w w':World}{j:JG}{J:Jn}{D:Dk}{n ring:Nat}{t m:Int}{H:Nat->Sec}(h:V4 w j J D n ring t m H){l:List Put}(hf:Bj8 n ring l=0)(ht:t<1000000)(hm:m<1000000)(hj:D6 w' j.F j (J.com D l) (J.comD D l).1)(hsz:w.heap.size<=w'.heap.size) :
  (J.comD D l).2=0/\∃J' D' t',V4 w' j J' D' n ring t' (m+1) (Ac5 H l)/\(t'=if l=[] then t else t+1):=by
 have hu:=h.used;have h1:=h.num;have h2:=h.turn;by_cases h0:l=[]
 ·obtain⟨q1,q2⟩:=h.live.comNo (l:=l) (.inr h0);rw[q1] at hj ⊢;rw[q2] at hj;refine⟨by rw[h.fits];exact hf,J,D,t,?_,by rw[if_pos h0]⟩;rw[h0];exact⟨hj,h.live,h.arm,h.n,h.ring,h.turn,by omega,h.home,λ k hk=>h.nw k (Nat.le_trans hsz hk)⟩
 ·rcases h.live.com ⟨by omega,by omega⟩ (by omega) ((h.fits l).trans hf) h0 with⟨q1,q2,q3,q4,q5,q6,q7,q8,q9⟩ | ⟨_,q,_⟩
  ·exact⟨q1,_,_,t+1,⟨hj,q2,q8 h.arm,q7.trans h.n,q5.trans h.ring,by omega,by omega,by rw[q3,h.home],λ k hk=>h.nw k (Nat.le_trans hsz hk)⟩,by rw[if_neg h0]⟩
  ·exact absurd h.arm q
theorem Bd7{w:World}{x:TG}{M:Nat->Option Sec}{j:JG}{J:Jn}{D:Dk}{n ring:Nat}{t m:Int}{H:Nat->Sec}(h:V4 w j J D n ring t m H)(hx:Q8 w x j.jb (t-1) M)(hne:x.wb∉j.all)(ho:MOk M (n-2-ring))(hn:n<=5000)(h1:F2 M (n-2-ring)<=40)(h2:F2 M (n-2-ring)<ring)(ht:t<1000000)(hm:m<1000000) :
  Calls Tryz.prog 21 #[.pointer (some ⟨x.tb,0,none⟩)] w λ e w'=>e=.returned (.int .i64 0)/\Cn2 w' (.pointer (some ⟨x.tb,0,none⟩))/\(∃J' D' t',V4 w' j J' D' n ring t' (m+1) (λ i=>(M i).getD (H i))/\(t'=if F2 M (n-2-ring)=0 then t else t+1))/\Upd (x.tb :: j.all) w w':=by
 refine(Bg8 hx h.at_ h.nw hne ho (by omega) (by have:=h.used;omega)).mono ?_;rintro e w' ⟨e1,e2,e3,e4⟩;have r1:J.txD D (t-1) (txL M (n-2-ring))=J.comD D (txL M (n-2-ring)):=by unfold Jn.txD;rw[if_neg (by rw[h.turn];simp)]
 have r2:J.txJ D (t-1) (txL M (n-2-ring))=J.com D (txL M (n-2-ring)):=by unfold Jn.txJ;rw[if_neg (by rw[h.turn];simp)]
 rw[r1] at e1 e3;rw[r2] at e3;obtain⟨q1,J',D',t',q2,q3⟩:=h.comm (Ck7 ho h1 h2) ht hm e3 e4.size;rw[q1] at e1;rw[Ce2 ho] at q2;refine⟨e1,e2,⟨J',D',t',q2,?_⟩,e4⟩;rw[q3];by_cases h0:F2 M (n-2-ring)=0
 ·rw[if_pos h0,if_pos (Ck8 h0)]
 ·rw[if_neg h0,if_neg (Co9 (by omega))]
theorem Ck9(n ring:Nat)(h0:32<=n)(h1:n<=4096)(r0:8<=ring)(r1:ring<=1024)(r2:ring+10<=n)(w:World) :
  Calls Tryz.prog 69 #[.int .i64 (n:Int),.int .i64 (ring:Int)] w λ e w'=>∃j:JG,e=.returned (.tuple #[.pointer (some ⟨j.d.db,0,none⟩),.pointer (some ⟨j.jb,0,none⟩)])/\JG.Late j w/\(∃J D,V4 w' j J D n ring 1 2 (λ _=>F9)/\J.used=0)/\Upd [] w w':=by
 have HN:=η (Co6 n h0 h1 w);have hn:=h0;have hn1:=h1;have hr0:=r0;have hr1:=r1;have hr2:=r2;go_enter Tryz.func69,Tryz.ntmps69
 go_wp2_with fail
 refine HN.out.mono ?_;rintro e w1 ⟨g,rfl,hd1,hg1,hg2,hg3,hu1⟩;have HG:Hid (g.Late w):=⟨hg1,hg2,hg3⟩;have HF:=η (Br8 hd1 (by omega) (by omega) ring (by omega) (by omega) (by omega));have HU1:=η hu1;clear hd1 hg1 hg2 hg3 hu1;go_wp2_with fail
 refine HF.out.mono ?_;rintro e w2 ⟨rfl,hd2,hu2⟩;have HO:=η (Ck0 hd2 (by omega) (by omega));have HU2:=η (HU1.out.lateD hu2 HG.out);clear hd2 hu2;go_wp2_with fail
 refine HO.out.mono ?_;rintro e w3 ⟨jb,ab,rfl,hj1,hj2,⟨J3,D3,hr3,hus3⟩,hu3⟩;have HJ:Hid (JG.Late ⟨jb,ab,g,Al3⟩ w):=⟨Nat.le_trans HU2.out.size hj1,Nat.le_trans HU2.out.size hj2,HG.out⟩;have HU3:=η (HU2.out.lateD hu3 HG.out);have HR3:=η hr3;have HUS:=η hus3;clear hj1 hj2 hr3 hu3 hus3;go_wp2_with fail
 go_ret2;exact⟨⟨jb,ab,g,Al3⟩,rfl,HJ.out,⟨J3,D3,HR3.out,HUS.out⟩,HU3.out⟩
end Go.Proofs.YtgfbepakonjbnaaGreat
end
section
namespace Go.Proofs.YtgfbepakonjbnaaGreat
open Go.RowKit Go.MapKept Go.ChangeMaps
structure Sg where
 x:TG
 j:JG
 J:Jn
 D:Dk
 n:Nat
 ring:Nat
 turn:Int
 t:Int
 m:Int
 H:Nat->Sec
def Sg.S(g:Sg):List Nat:=g.x.wb :: g.j.all
def Sg.h(g:Sg):Nat:=g.n-2-g.ring
def Sg.cur(g:Sg)(M:Nat->Option Sec)(i:Nat):Sec:=(M i).getD (g.H i)
structure B7(w:World)(g:Sg)(M:Nat->Option Sec):Prop where
 jr:V4 w g.j g.J g.D g.n g.ring g.t g.m g.H
 tx:Q8 w g.x g.j.jb g.turn M
 ne:g.x.wb∉g.j.all
 ok:MOk M g.h
 len:∀i,(g.H i).length=512
 fx:g.x.F=g.j.F
theorem B7.below{w w':World}{g:Sg}{M:Nat->Option Sec}(h:B7 w g M)(hu:Upd [] w w'):B7 w' g M:=⟨h.jr.below hu,h.tx.below hu,h.ne,h.ok,h.len,h.fx⟩
theorem B7.cur_len{w:World}{g:Sg}{M:Nat->Option Sec}(h:B7 w g M)(i:Nat):(g.cur M i).length=512:=by
 unfold Sg.cur;cases hq:M i with
 | none=>exact h.len i
 | some s=>exact(h.ok i s hq).2
theorem Sg.mem(g:Sg):∀k,k∈[g.j.jb]->k∈g.S:=by intro k hk;simp at hk;simp[Sg.S,JG.all,hk]
theorem Sg.memw(g:Sg):∀k,k∈[g.x.wb]->k∈g.S:=by intro k hk;simp at hk;simp[Sg.S,hk]
theorem B7.late{w w1 w2:World}{g:Sg}{M:Nat->Option Sec}(h:B7 w g M)(h1:B7 w1 g M)(hu:Upd [g.j.jb] w w1){S:List Nat}(hu2:Upd S w1 w2)(hS:∀k,k∈S->w.heap.size<=k):B7 w2 g M:=by
 have hj:D6 w (λ k=>g.j.F k/\k<w.heap.size) g.j g.J g.D:=h.jr.at_.tight;have hb:∀k,k∈g.j.all->k<w.heap.size:=λ k hk=>by
  have h1:=hj.lt;have h2:=hj.disk.lt;simp[JG.all] at hk;rcases hk with rfl | rfl | rfl | rfl | rfl
  ·exact h1.1
  ·exact h1.2
  ·exact h2.1
  ·exact h2.2.1
  ·exact h2.2.2
 obtain⟨⟨fv,a1,_⟩,⟨lv,b1,_⟩,⟨f,hf,_⟩,_⟩:=id hj.disk;obtain⟨f2,hf2,_⟩:=id hj.away;have nb:∀{k:Nat} {c:Array Value} {T:TypeId} {fr:Nat × Nat},w.heap[k]?=some (.cells c T fr)->T≠189->k≠g.j.jb:=by
  intro k c T fr e ht q;subst q;rw[hj.st] at e;simp at e;exact ht e.2.1.symm
 have hj1:D6 w1 (λ k=>g.j.F k/\k<w.heap.size) g.j g.J g.D:=
  ⟨hj.disk.world (hu.block _ hj.disk.lt.1 (by simpa using nb a1 (by decide))) (hu.block _ hj.disk.lt.2.1 (by simpa using nb b1 (by decide))) (hu.block _ hj.disk.lt.2.2 (by simp;intro q;exact hf.not_cells hj.st q.symm)) (λ k c hk e=>hu.block _ hk.2 (by simpa using nb e (by decide))),
   h1.jr.at_.st,hj.away.world (hu.block _ hj.lt.2 (by simp;intro q;exact hf2.not_cells hj.st q.symm)) (λ k c hk e=>hu.block _ hk.2 (by simpa using nb e (by decide))),hj.ne,hj.ok⟩
 have hj2:D6 w2 (λ k=>g.j.F k/\k<w.heap.size) g.j g.J g.D:=hj1.upd hu2 (λ k hk q=>by have:=hb k q;have:=hS k hk;omega) (λ k hk q=>by have:=q.2;have:=hS k hk;omega);have ht:P8 w (λ k=>g.x.F k/\k<w.heap.size) g.x.wb M:=h.tx.wrote.tight;have hl:=h.tx.lt;have keep:∀k,k<w.heap.size->k≠g.j.jb->w2.heap[k]?=w.heap[k]?:=λ k hk hne=>(hu2.block k (Nat.lt_of_lt_of_le hk hu.size) (λ q=>by have:=hS k q;omega)).trans (hu.block k hk (by simpa using hne));refine⟨h.jr.of (hj2.mono λ _ h=>h.1) (Nat.le_trans hu.size hu2.size),⟨(keep _ hl.1 (nb h.tx.st (by decide))).trans h.tx.st,?_⟩,h.ne,h.ok,h.len,h.fx⟩;exact(ht.world (keep _ hl.2 (λ q=>h.ne (by simp[JG.all,q]))) (λ k c hk e=>keep _ hk.2 (nb e (by decide)))).mono λ _ h=>h.1
theorem Bl9{w:World}{g:Sg}{M:Nat->Option Sec}(h:B7 w g M)(i:Nat)(hi:i<g.h) :
  Calls Tryz.prog 155 #[.pointer (some ⟨g.x.tb,0,none⟩),.int .i64 (i:Int)] w λ e w'=>∃v,e=.returned (.tuple #[v,.int .i64 0])/\Aa1 w' 5 (λ k=>w.heap.size<=k) v (g.cur M i)/\B7 w' g M/\Upd [g.j.jb] w w':=by
 unfold Sg.h at hi;refine(Ce4 h.jr h.tx h.ne h.ok i (by omega)).mono ?_;rintro e w' ⟨v,e1,e2,e3,e4,e5⟩;exact⟨v,e1,e2,⟨e3,e4,h.ne,h.ok,h.len,h.fx⟩,e5⟩
theorem Ax9{w:World}{g:Sg}{M:Nat->Option Sec}(h:B7 w g M)(i:Nat)(hi:i<g.h)(v:Value)(b:List UInt8)(hr:Rd w v b)(hb:b.length=512)(hc:(M i).isSome=true∨F2 M g.h<40) :
  Calls Tryz.prog 140 #[.pointer (some ⟨g.x.tb,0,none⟩),.int .i64 (i:Int),v] w λ e w'=>e=.returned (.int .i64 0)/\B7 w' g (λ k=>if k=i then some b else M k)/\Upd [g.x.wb] w w':=by
 have hE:wrE M g.h (i:Int) b.length=0:=by
  unfold wrE;rw[if_neg (by omega),if_neg (by omega),if_neg];rintro⟨a,q⟩;rw[Int.toNat_natCast] at a;rcases hc with r | r
  ·rw[a] at r;simp at r
  ·omega
 have hM:wrM M g.h (i:Int) b=λ k=>if k=i then some b else M k:=by unfold wrM;rw[if_pos hE,Int.toNat_natCast]
 refine(Ce3 h.jr h.tx h.fx h.ne h.ok (i:Int) v b hr (by omega)).mono ?_;rintro e w' ⟨e1,e2,e3,e4⟩;replace e1:e=.returned (.int .i64 (wrE M g.h (i:Int) b.length)):=e1;replace e2:Q8 w' g.x g.j.jb g.turn (wrM M g.h (i:Int) b):=e2;rw[hE] at e1;rw[hM] at e2;exact⟨e1,⟨e3,e2,h.ne,h.ok.put hi hb,h.len,h.fx⟩,e4⟩
theorem T3{w:World}{g:Sg}{M:Nat->Option Sec}(h:B7 w g M) :
  Calls Tryz.prog 82 #[.pointer (some ⟨g.x.tb,0,none⟩)] w λ e w'=>e=.returned (.int .i64 (g.h:Int))/\∃n,w'=w.drewN n:=by
 have:=Bl0 h.tx h.jr.at_;rw[h.jr.homes] at this;exact this
end Go.Proofs.YtgfbepakonjbnaaGreat
end
