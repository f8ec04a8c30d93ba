/-
  pack's pieces: the iterator.
-/
import Derived.Test.YtgfbepakonjbnaaGreatX11
import Derived.Test.YtgfbepakonjbnaaGreatX10
import Derived.RangeFuncCalls
set_option maxRecDepth 100000
set_option maxHeartbeats 16000000
section
set_option linter.unusedSimpArgs false
set_option linter.unusedVariables false
namespace Go.Proofs.YtgfbepakonjbnaaGreat
open Go.RowKit Go.MapKept Go.ChangeMaps
section
attribute [local go_sem] Oper.semAt_some
def pcs(s:Nat):Nat->Nat->Nat->List (Nat × Nat × Nat)
 | 0,_,_=>[]
 | fuel+1,a,n=>if n=0 then [] else(s+a / 512,a % 512,a % 512+min (512-a % 512) n) :: pcs s fuel (a+min (512-a % 512) n) (n-min (512-a % 512) n)
def Ci7(x:Nat × Nat × Nat):Array Value:=#[.agg #[.int .i64 (x.1:Int),.int .i64 (x.2.1:Int),.int .i64 (x.2.2:Int)]]
theorem Ar9{w:World}{b1 b2 b3:Nat}{a n s:Nat}{u v:Value}(h1:w.heap[b1]?=some (.cells #[.int .i64 (a:Int)] 3 (0,0)))(h2:w.heap[b2]?=some (.cells #[.int .i64 (n:Int)] 3 (0,0)))
  (h3:w.heap[b3]?=some (.cells #[.int .i64 (s:Int),u,v] 200 (0,0))) (hne2:b1≠b2) (hne3:b1≠b3) (ha:a+n<=100000) (hs:s<=100000) (m:Nat) :
  Cy9 Fence.wide m Tryz.prog 255 #[.pointer (some ⟨b1,0,none⟩),.pointer (some ⟨b2,0,none⟩),.pointer (some ⟨b3,0,none⟩)] Ci7 (pcs s n a n) [b1,b2,b3] b1 w:=by
 intro l J W hbs hJs hY h0;have g1:=(hbs b1 (by simp)).trans h1;have g2:=(hbs b2 (by simp)).trans h2;have g3:=(hbs b3 (by simp)).trans h3;refine callsIn_of_wp Tryz.func255 rfl trivial ?_ rfl;simp only[Tryz.ntmps255,List.size_toArray,List.length_cons,List.length_nil,Nat.reduceAdd,Nat.reduceSub,Array.replicate_succ,Array.replicate_zero,List.push_toArray,List.append_toArray,List.nil_append,List.cons_append];have m1:W.cell? ⟨b1,0,none⟩=some (.int .i64 (a:Int)):=by rw[A2 g1];rfl
 have m2:W.cell? ⟨b2,0,none⟩=some (.int .i64 (n:Int)):=by rw[A2 g2];rfl
 obtain⟨E,hE⟩:∃E,E=a+n:=⟨_,rfl⟩;have eE:IntKind.i64.wrap ((a:Int)+(n:Int))=(E:Int):=by rw[IntKind.wrap_i64];omega
 have HG1:=η g1;have HG2:=η g2;have HG3:=η g3;have HE:=η hE;clear g1 g2 g3 hE;gi_wp2
 gi_loopw [] (λ wr=>∃q a' n' f:Nat,n'<=f/\a'+n'=E/\q<=(pcs s n a n).length/\(pcs s n a n).drop q=pcs s f a' n'/\wr.heap[b1]?=some (.cells #[.int .i64 (a':Int)] 3 (0,0))/\wr.heap[b3]?=some (.cells #[.int .i64 (s:Int),u,v] 200 (0,0))/\J q wr)
  (λ wr=>match wr.cell? ⟨b1,0,none⟩ with | some (.int _ x)=>E-x.toNat | _=>0)
 case atStart=>exact⟨0,a,n,n,Nat.le_refl _,HE.out.symm,by omega,rfl,HG1.out,HG3.out,h0⟩
 case round=>
  obtain⟨q,a',n',f,hf,hE',hq,hd,k1,k3,hJ⟩:=hrel;have c1:wr.cell? ⟨b1,0,none⟩=some (.int .i64 (a':Int)):=by rw[A2 k1];rfl
  have c3:wr.cell? ⟨b3,0,none⟩=some (.int .i64 (s:Int)):=by rw[A2 k3];rfl
  rcases Nat.eq_zero_or_pos n' with h0' | hpos
  ·have hlt:decide ((a':Int)<(E:Int))=false:=decide_eq_false (by omega);have hlt2:decide (a'<E)=false:=decide_eq_false (by omega);have hql:q=(pcs s n a n).length:=by
    have h9:(pcs s n a n).drop q=[]:=by
     rw[hd,h0'];cases f<;>simp[pcs]
    have:=List.drop_eq_nil_iff.1 h9;omega
   rw[hql] at hJ;gi_wp2
   go_end0
   exact⟨⟨_,rfl⟩,hJ⟩
  ·have hlt:decide ((a':Int)<(E:Int))=true:=decide_eq_true (by omega);have hlt2:decide (a'<E)=true:=decide_eq_true (by omega);obtain⟨f',rfl⟩:∃f',f=f'+1:=⟨f-1,by omega⟩;obtain⟨r,hr⟩:∃r,r=a' % 512:=⟨_,rfl⟩;obtain⟨k,hk⟩:∃k,k=min (512-r) n':=⟨_,rfl⟩;obtain⟨d,hdv⟩:∃d,d=a' / 512:=⟨_,rfl⟩;have hx:(pcs s n a n)[q]?=some (s+d,r,r+k):=by
    have:((pcs s n a n).drop q)[0]?=some (s+d,r,r+k):=by
     rw[hd,pcs,if_neg (by omega),← hr,← hk,← hdv];rfl
    rw[List.getElem?_drop] at this;simpa using this
   have hdn:(pcs s n a n).drop (q+1)=pcs s f' (a'+k) (n'-k):=by
    have:(pcs s n a n).drop (q+1)=((pcs s n a n).drop q).drop 1:=by rw[List.drop_drop]
    rw[this,hd,pcs,if_neg (by omega),← hr,← hk];rfl
   have hqlt:q+1<=(pcs s n a n).length:=(List.getElem?_eq_some_iff.1 hx).1;obtain⟨fn,tmps,assign,body,hy,hR⟩:=hY q _ wr hx hJ;obtain⟨sd,hsd⟩:∃x,x=s+d:=⟨_,rfl⟩;obtain⟨rk,hrk⟩:∃x,x=r+k:=⟨_,rfl⟩;obtain⟨w5,hw5⟩:∃x,x=512-r:=⟨_,rfl⟩;obtain⟨ak,hak⟩:∃x,x=a'+k:=⟨_,rfl⟩;rw[← hsd,← hrk] at hy;unfold Ci7 at hy;dsimp only at hy;have hEb:E<=100000:=by have:=HE.out;omega
   have W1:Hid (wrap64 (d:Int)=(d:Int)):=η (by unfold wrap64;omega);have W2:Hid (wrap64 ((s:Int)+(d:Int))=(sd:Int)):=η (by unfold wrap64;omega);have e1:(a':Int) % 512=(r:Int):=by omega
   have e1t:Int.tmod (a':Int) 512=(r:Int):=by rw[Int.tmod_eq_emod_of_nonneg (by omega)];omega
   have e2:IntKind.i64.wrap (512-(r:Int))=(w5:Int):=by rw[IntKind.wrap_i64];omega
   have e3:IntKind.i64.wrap ((E:Int)-(a':Int))=(n':Int):=by rw[IntKind.wrap_i64];omega
   have e4:(a':Int) / 512=(d:Int):=by omega
   have e4t:Int.tdiv (a':Int) 512=(d:Int):=by rw[Int.tdiv_eq_ediv_of_nonneg (by omega)];omega
   have e5:IntKind.i64.wrap ((s:Int)+(d:Int))=(sd:Int):=by rw[IntKind.wrap_i64];omega
   have e6:IntKind.i64.wrap ((r:Int)+(k:Int))=(rk:Int):=by rw[IntKind.wrap_i64];omega
   have e7:IntKind.i64.wrap ((a':Int)+(k:Int))=(ak:Int):=by rw[IntKind.wrap_i64];omega
   have e8:min (w5:Int) (n':Int)=(k:Int):=by omega
   have HY:=η hY;have HR:=η hr;have HK:=η hk;have HD:=η hdn;have HQL:=η hqlt;have HAK:=η hak;have HW5:=η hw5;have HEE:=η hE';have HF:=η hf;have HPOS:=η hpos;have HK1:=η k1;have HK3:=η k3;clear hY hr hk hd hx hdn hqlt hsd hrk hak hw5 hE' hf hpos hdv k1 k3 hq hJ;have w1:=W1.out;have w2:=W2.out;clear hEb;gi_wp2
   refine⟨λ h=>(by cases h),hR.mono ?_⟩;rintro e W' ⟨rfl,hJ',hkeep⟩;have k1:=(hkeep b1 (by simp)).trans HK1.out;have k3:=(hkeep b3 (by simp)).trans HK3.out;have c1':W'.cell? ⟨b1,0,none⟩=some (.int .i64 (a':Int)):=by rw[A2 k1];rfl
   have cf:W'.frozen? ⟨b1,0,none⟩=false:=B6 k1 0;have hset:(W'.setCell ⟨b1,0,none⟩ (.int .i64 (ak:Int))).heap[b1]?=some (.cells #[.int .i64 (ak:Int)] 3 (0,0)):=by rw[A8 k1];rfl
   have hs3:(W'.setCell ⟨b1,0,none⟩ (.int .i64 (ak:Int))).heap[b3]?=some (.cells #[.int .i64 (s:Int),u,v] 200 (0,0)):=by rw[C5 0 _ (Ne.symm hne3)];exact k3
   have cn:(W'.setCell ⟨b1,0,none⟩ (.int .i64 (ak:Int))).cell? ⟨b1,0,none⟩=some (.int .i64 (ak:Int)):=by rw[A2 hset];rfl
   have hJ2:=hJs (q+1) W' (.int .i64 (ak:Int)) hJ';have HSET:=η hset;have HS3:=η hs3;have HCN:=η cn;have HJ2:=η hJ2;have HC1:=η c1;clear hset hs3 cn hJ2 hJ' hkeep k1 k3 c1 c3;gi_wp2
   clear w1 w2 e1 e1t e2 e3 e4 e4t e5 e6 e7 e8 eE;go_roundw
   case rel=>
    have e1:=HK.out;have e2:=HAK.out;have e3:=HEE.out;have e4:=HF.out;have e5:=HD.out;have e6:=HPOS.out;have e7:=HR.out;rw[← e2] at e5;exact⟨q+1,ak,n'-k,f',by omega,by omega,HQL.out,e5,HSET.out,HS3.out,HJ2.out⟩
   case measure=>
    rw[HCN.out,HC1.out];have e1:=HK.out;have e2:=HAK.out;have e3:=HEE.out;have e4:=HPOS.out;have e5:=HR.out;show E-(ak:Int).toNat<E-(a':Int).toNat
    omega
end
section
attribute [local go_sem] Oper.semAt_some
theorem Bt8{s n0 a0 q f' a' n':Nat}{x:Nat × Nat × Nat}(hf:n'<=f')(hd:(pcs s n0 a0 n0).drop q=pcs s f' a' n')(hx:(pcs s n0 a0 n0)[q]?=some x) :
  0<n'/\x=(s+a' / 512,a' % 512,a' % 512+min (512-a' % 512) n')/\∃f2,f'=f2+1/\(pcs s n0 a0 n0).drop (q+1)=pcs s f2 (a'+min (512-a' % 512) n') (n'-min (512-a' % 512) n'):=by
 have h0:((pcs s n0 a0 n0).drop q)[0]?=some x:=by rw[List.getElem?_drop];exact hx
 rw[hd] at h0;rcases Nat.eq_zero_or_pos n' with h1 | h1
 ·rw[h1] at h0;cases f'<;>simp[pcs] at h0
 ·obtain⟨f2,rfl⟩:∃f2,f'=f2+1:=⟨f'-1,by omega⟩;rw[pcs,if_neg (by omega)] at h0;refine⟨h1,by simpa using h0.symm,f2,rfl,?_⟩;have:(pcs s n0 a0 n0).drop (q+1)=((pcs s n0 a0 n0).drop q).drop 1:=by rw[List.drop_drop]
  rw[this,hd,pcs,if_neg (by omega)];rfl
theorem Bt9{s n0 a0 f' a' n':Nat}(hf:n'<=f')(hd:(pcs s n0 a0 n0).drop (pcs s n0 a0 n0).length=pcs s f' a' n'):n'=0:=by
 rw[List.drop_length] at hd;rcases Nat.eq_zero_or_pos n' with h1 | h1
 ·exact h1
 ·obtain⟨f2,rfl⟩:∃f2,f'=f2+1:=⟨f'-1,by omega⟩;rw[pcs,if_neg (by omega)] at hd;cases hd
def RdS(w:World)(m:Nat)(v:Value)(l:List UInt8):Prop:=Rd w v l/\∀b off n c,0<l.length->v=.slice (some ⟨b,off,none⟩) n c->b<m
theorem RdS.of{w:World}{v:Value}{l:List UInt8}(h:Rd w v l):RdS w w.heap.size v l:=⟨h,λ b off n c h0 e=>by
 obtain⟨ao,cp,rfl,hc,hh⟩:=h;obtain⟨b',o',rfl,hcell⟩:=hh h0;have:=block_lt_of_cell (hcell 0 h0);cases e
 exact this⟩
theorem RdS.keep{w w':World}{m:Nat}{v:Value}{l:List UInt8}(h:RdS w m v l){S:List Nat}(hu:Upd S w w')(hS:∀b,b∈S->b<m->∀o c,w.cell? ⟨b,o,none⟩≠some (bv c)):RdS w' m v l:=by
 refine⟨?_,h.2⟩;obtain⟨ao,cp,rfl,hc,hh⟩:=h.1;refine⟨ao,cp,rfl,hc,λ h0=>?_⟩;obtain⟨b,o,rfl,hcell⟩:=hh h0;have hlt:=h.2 b o _ _ h0 rfl;refine⟨b,o,rfl,λ i hi=>?_⟩;have hb:b<w.heap.size:=block_lt_of_cell (hcell 0 h0);rw[World.cell?_of_block (w:=w) (hu.block _ hb (λ q=>hS b q hlt _ _ (hcell 0 h0)))];exact hcell i hi
theorem Bu0{w:World}{b o:Nat}{v:Value}(h:w.cell? ⟨b,o,none⟩=some v):∃cs T fr,w.heap[b]?=some (.cells cs T fr):=by
 unfold World.cell? at h;cases hb:w.heap[b]? with
 | none=>simp[hb] at h
 | some ob=>
  cases ob with
  | cells cs T fr=>exact⟨_,_,_,rfl⟩
  | _=>simp[hb] at h
theorem B7.nobyte{w:World}{g:Sg}{M:Nat->Option Sec}(h:B7 w g M){b:Nat}(hb:b∈g.S)(o:Nat)(c:UInt8):w.cell? ⟨b,o,none⟩≠some (bv c):=by
 intro hc;simp only[Sg.S,List.mem_cons] at hb;rcases hb with rfl | hb
 ·obtain⟨cs,T,fr,e⟩:=Bu0 hc;exact h.tx.map e
 ·exact h.jr.at_.cellB hc hb
theorem RdS.sp{w w':World}{g:Sg}{M:Nat->Option Sec}(h:B7 w g M){m:Nat}{v:Value}{l:List UInt8}(hr:RdS w m v l){S:List Nat}(hu:Upd S w w')(hS:∀k,k∈S->k∈g.S):RdS w' m v l:=
 hr.keep hu λ b hb _ o c=>h.nobyte (hS b hb) o c
theorem RdS.drop{w:World}{m:Nat}{b off n cap:Nat}{l:List UInt8}(h:RdS w m (.slice (some ⟨b,off,none⟩) n cap) l)(a:Nat):RdS w m (.slice (some ⟨b,off+a,none⟩) (n-a) (cap-a)) (l.drop a):=
 ⟨h.1.drop a,λ b' o' n' c' h0 e=>by
  cases e
  exact h.2 b off n cap (by rw[List.length_drop] at h0;omega) rfl⟩
theorem Ay0(s u v a n:Int)(w:World):Calls Tryz.prog 225 #[.agg #[.int .i64 s,.int .i64 u,.int .i64 v],.int .i64 a,.int .i64 n] w λ e w'=>
  e=.returned (.func (.func 255) #[] #[.pointer (some ⟨w.heap.size+1,0,none⟩),.pointer (some ⟨w.heap.size+1+1,0,none⟩),.pointer (some ⟨w.heap.size,0,none⟩)])/\
  w'=((w.alloc (.cells #[.int .i64 s,.int .i64 u,.int .i64 v] 200)).alloc (.cells #[.int .i64 a] 3)).alloc (.cells #[.int .i64 n] 3):=by
 go_enter Tryz.func225,Tryz.ntmps225
 go_wp2_with fail
 go_ret;exact⟨rfl,rfl⟩
theorem M9(w:World)(o:Obj)(k:Nat):(w.alloc o).heap[k]?=if k=w.heap.size then some o else w.heap[k]?:=by
 by_cases h:k=w.heap.size
 ·subst h;rw[if_pos rfl];exact World.alloc_heap_new w o
 ·rw[if_neg h];by_cases h2:k<w.heap.size
  ·exact Below.heap_alloc _ _ k h2
  ·rw[Array.getElem?_eq_none (by rw[World.size_alloc];omega),Array.getElem?_eq_none (by omega)]
theorem Bu1{L x:List UInt8}{rest:List Value}{o:Nat}(h:o+x.length<=L.length):splice (bts L++rest) o (bts x)=bts (Av4 L o x)++rest:=by
 have e1:(bts L++rest).take o=bts (L.take o):=by
  rw[List.take_append_of_le_length (by rw[A5];omega)];simp[bts,List.map_take]
 have e2:(bts L++rest).drop (o+x.length)=bts (L.drop (o+x.length))++rest:=by
  rw[List.drop_append_of_le_length (by rw[A5];omega)];simp[bts,List.map_drop]
 unfold splice Av4 G8;rw[A5,e1,e2];simp[bts,List.append_assoc]
def wrV(fb fo n1 vc bk cp pb fr tt k:Nat)(nva:Option Addr):List (Nat × Nat × Value):=[(0,29,.slice (some ⟨fb,fo,none⟩) n1 vc),(1,30,.slice (some ⟨bk,0,none⟩) 512 cp),(2,31,.pointer (some ⟨pb,1,none⟩)),(3,32,.int .i64 (fr:Int)),(4,33,.pointer (some ⟨pb,2,none⟩)),(5,34,.int .i64 (tt:Int)),(6,35,.slice (some ⟨bk,fr,none⟩) (tt-fr) (cp-fr)),(7,36,.slice (some ⟨fb,fo,none⟩) n1 vc),(8,37,.int .i64 (k:Int)),(9,38,.slice nva (n1-k) (vc-k))]
structure WrJ(w W:World)(g:Sg)(M:Nat->Option Sec)(s a0 E:Nat)(d f:List UInt8)(q a' n' f':Nat)(M':Nat->Option Sec)(vf:Value):Prop where
 le:n'<=f'
 sum:a'+n'=E
 from_:a0<=a'
 drop:(pcs s f.length a0 f.length).drop q=pcs s f' a' n'
 sp:B7 W g M'
 keepM:∀i,¬(s<=i/\i<s+16)->M' i=M i
 some_:∀i,(M i).isSome=true->(M' i).isSome=true
 pkd:PkD (g.cur M') s (d++f.take (a'-a0))
 b1:W.heap[w.heap.size+1]?=some (.cells #[.pointer (some ⟨g.x.tb,0,none⟩)] 28 (0,0))
 b2:W.heap[w.heap.size+1+1]?=some (.cells #[vf] 32 (0,0))
 rd:RdS W w.heap.size vf (f.drop (a'-a0))
 b3:W.heap[w.heap.size+1+1+1]?=some (.cells #[.int .i64 0] 29 (0,0))
 b5:∃v,W.heap[w.heap.size+1+1+1+1+1]?=some (.cells #[v] 3 (0,0))
 upd:Upd g.S w W
def WrI(w W:World)(g:Sg)(M:Nat->Option Sec)(s a0 E:Nat)(d f:List UInt8)(q:Nat):Prop:=∃a' n' f' M' vf,WrJ w W g M s a0 E d f q a' n' f' M' vf
theorem WrJ.keep{w W W':World}{g:Sg}{M:Nat->Option Sec}{s a0 E:Nat}{d f:List UInt8}{q a' n' f':Nat}{M':Nat->Option Sec}{vf:Value}(h:WrJ w W g M s a0 E d f q a' n' f' M' vf)(h0:∀k,k∈g.S->k<w.heap.size)(htb:g.x.tb<w.heap.size){S:List Nat}(hu:Upd S W W')
  (hS:∀k,k∈S->w.heap.size<=k/\k≠w.heap.size+1/\k≠w.heap.size+1+1/\k≠w.heap.size+1+1+1/\∀c,W.heap[k]?≠some (.cells c 5 (0,0)))
  (h5:∃v,W'.heap[w.heap.size+1+1+1+1+1]?=some (.cells #[v] 3 (0,0))):WrJ w W' g M s a0 E d f q a' n' f' M' vf:=by
 refine⟨h.le,h.sum,h.from_,h.drop,h.sp.turnedR hu (λ k hk=>?_) (λ k hk c=>(hS k hk).2.2.2.2 c),h.keepM,h.some_,h.pkd,?_,?_,h.rd.keep hu (λ b hb hlt=>by have:=(hS b hb).1;omega),?_,h5,?_⟩
 ·have:=(hS k hk).1;exact⟨λ q=>by have:=h0 k q;omega,by omega⟩
 ·exact(hu.block _ (A3 h.b1) (λ q=>(hS _ q).2.1 rfl)).trans h.b1
 ·exact(hu.block _ (A3 h.b2) (λ q=>(hS _ q).2.2.1 rfl)).trans h.b2
 ·exact(hu.block _ (A3 h.b3) (λ q=>(hS _ q).2.2.2.1 rfl)).trans h.b3
 ·exact h.upd.late hu (λ i hi=> .inr (hS i hi).1)
theorem Bu2{w:World}{g:Sg}{M:Nat->Option Sec}(h:B7 w g M)(hh2:g.h<=4096)(s u v a0:Nat)(f d:List UInt8)(vf:Value)(hr:Rd w vf f)(hs:4<=s)(hs2:s+16<=g.h)(ha:a0+f.length<=8192)
  (hd:PkD (g.cur M) s d) (hdl:d.length=a0) (hc:E1 M g.h+17<=40∨∀i,s<=i->i<s+16->(M i).isSome=true) :
  Calls Tryz.prog 187 #[stV (s,u,v),.pointer (some ⟨g.x.tb,0,none⟩),.int .i64 (a0:Int),vf] w λ e w'=>∃M',e=.returned (.int .i64 0)/\B7 w' g M'/\PkD (g.cur M') s (d++f)/\(∀i,¬(s<=i/\i<s+16)->M' i=M i)/\(∀i,(M i).isSome=true->(M' i).isSome=true)/\Upd g.S w w':=by
 obtain⟨vfa,vfc,rfl,hvc⟩:∃a c,vf=.slice a f.length c/\f.length<=c:=by obtain⟨a,c,e,hc,_⟩:=hr;exact⟨a,c,e,hc⟩
 have hlt:=h.lt;obtain⟨w4,hw4⟩:∃w4,w4=(((w.alloc (.cells #[.int .i64 (s:Int),.int .i64 (u:Int),.int .i64 (v:Int)] 200)).alloc (.cells #[.pointer (some ⟨g.x.tb,0,none⟩)] 28)).alloc (.cells #[.slice vfa f.length vfc] 32)).alloc (.cells #[.int .i64 0] 29):=⟨_,rfl⟩;unfold stV;refine(callsIn_wide (n:=5)).1 ?_;refine callsIn_of_wp_marks Tryz.func187 rfl trivial ?_ rfl;simp only[Tryz.ntmps187,List.size_toArray,List.length_cons,List.length_nil,Nat.reduceAdd,Nat.reduceSub,Array.replicate_succ,Array.replicate_zero,List.push_toArray,List.append_toArray,List.nil_append,List.cons_append];gi_wp2_with fail
 refine⟨trivial,(callsIn_wide.2 (Ay0 _ _ _ _ _ _)).mono ?_⟩;rintro e w7 ⟨rfl,hw7⟩;rw[← hw4] at hw7;have e4:w4.heap.size=w.heap.size+1+1+1+1:=by rw[hw4];simp
 have e7:w7.heap.size=w.heap.size+1+1+1+1+1+1+1:=by rw[hw7];simp[e4]
 rw[← hw4,e4];have hu4:Upd [] w w4:=by rw[hw4];exact((((Upd.refl _ _).alloc _).alloc _).alloc _).alloc _
 have hu7:Upd [] w w7:=by rw[hw7];exact((hu4.alloc _).alloc _).alloc _
 have hB1:w7.heap[w.heap.size+1]?=some (.cells #[.pointer (some ⟨g.x.tb,0,none⟩)] 28 (0,0)):=by rw[hw7,hw4];simp only[M9,World.size_alloc];repeat (first | rw[if_pos trivial] | rw[if_pos rfl] | rw[if_neg (by omega)])
 have hB2:w7.heap[w.heap.size+1+1]?=some (.cells #[.slice vfa f.length vfc] 32 (0,0)):=by rw[hw7,hw4];simp only[M9,World.size_alloc];repeat (first | rw[if_pos trivial] | rw[if_pos rfl] | rw[if_neg (by omega)])
 have hB3:w7.heap[w.heap.size+1+1+1]?=some (.cells #[.int .i64 0] 29 (0,0)):=by rw[hw7,hw4];simp only[M9,World.size_alloc];repeat (first | rw[if_pos trivial] | rw[if_pos rfl] | rw[if_neg (by omega)])
 have hB4:w7.heap[w.heap.size+1+1+1+1]?=some (.cells #[.int .i64 (s:Int),.int .i64 (u:Int),.int .i64 (v:Int)] 200 (0,0)):=by rw[hw7,hw4];simp only[M9,World.size_alloc];repeat (first | rw[if_pos trivial] | rw[if_pos rfl] | rw[if_neg (by omega)])
 have hB5:w7.heap[w.heap.size+1+1+1+1+1]?=some (.cells #[.int .i64 (a0:Int)] 3 (0,0)):=by rw[hw7,hw4];simp only[M9,World.size_alloc];repeat (first | rw[if_pos trivial] | rw[if_pos rfl] | rw[if_neg (by omega)])
 have hB6:w7.heap[w.heap.size+1+1+1+1+1+1]?=some (.cells #[.int .i64 (f.length:Int)] 3 (0,0)):=by rw[hw7,hw4];simp only[M9,World.size_alloc];repeat (first | rw[if_pos trivial] | rw[if_pos rfl] | rw[if_neg (by omega)])
 clear hw4 hw7;gi_wp2_with fail
 refine Ab2 rfl (by omega) (gf:=255) (encs:=Ci7) (L:=pcs s f.length a0 f.length) (bs:=[w.heap.size+1+1+1+1+1,w.heap.size+1+1+1+1+1+1,w.heap.size+1+1+1+1]) (b1:=w.heap.size+1+1+1+1+1) (lb:=#[.pointer (some ⟨w.heap.size+1+1+1+1+1,0,none⟩),.pointer (some ⟨w.heap.size+1+1+1+1+1+1,0,none⟩),.pointer (some ⟨w.heap.size+1+1+1+1,0,none⟩)]) rfl trivial
  (enters_of Tryz.func255 (by kernel_rfl) rfl) (Ar9 hB5 hB6 hB4 (by omega) (by omega) (by omega) (by omega) _) (λ b hb=>?_) (by omega) (λ _=>rfl)
  (λ q W=>WrI w W g M s a0 (a0+f.length) d f q) ?_ ?_ ?_ ?_ ?_
 ·simp at hb;omega
 ·intro q W W' hI hu hn;obtain⟨a1,n1,f1,M1,v1,hJ⟩:=hI;obtain⟨v5,b5⟩:=hJ.b5;refine⟨a1,n1,f1,M1,v1,hJ.keep hlt.1 hlt.2 hu (λ k hk=>?_) ⟨v5,(hu.block _ (A3 b5) (by simp;omega)).trans b5⟩⟩;have hk':=hk;simp at hk';refine⟨by omega,by omega,by omega,by omega,λ c e=>hn k hk _ e⟩
 ·intro q W v' hI;obtain⟨a1,n1,f1,M1,v1,hJ⟩:=hI;obtain⟨v5,b5⟩:=hJ.b5;refine⟨a1,n1,f1,M1,v1,hJ.keep hlt.1 hlt.2 (S:=[w.heap.size+1+1+1+1+1]) ((Upd.refl _ _).set _ (by simp)) (λ k hk=>?_) ⟨v',by rw[A8 b5];rfl⟩⟩;simp at hk;subst hk;refine⟨by omega,by omega,by omega,by omega,λ c e=>?_⟩;rw[b5] at e;injection e with e;injection e with _ q2;exact absurd q2 (by decide)
 ·exact⟨a0,f.length,f.length,M,_,⟨Nat.le_refl _,rfl,Nat.le_refl _,rfl,h.below hu7,λ _ _=>rfl,λ _ q=>q,by rw[Nat.sub_self,List.take_zero,List.append_nil];exact hd,hB1,hB2,by rw[Nat.sub_self,List.drop_zero];exact(RdS.of hr).keep hu7 (by simp),hB3,⟨_,hB5⟩,hu7.mono (by simp)⟩⟩
 ·intro l q x W hl hx hI hlW;obtain⟨a',n',f',M',vf,hJ⟩:=hI;obtain⟨hpos,rfl,f2,hf2,hdn⟩:=Bt8 hJ.le hJ.drop hx;obtain⟨v5,b5⟩:=hJ.b5;obtain⟨fr,hfr⟩:∃fr,fr=a' % 512:=⟨_,rfl⟩;obtain⟨k,hk⟩:∃k,k=min (512-fr) n':=⟨_,rfl⟩;obtain⟨se,hse⟩:∃se,se=s+a' / 512:=⟨_,rfl⟩;obtain⟨tt,htt⟩:∃tt,tt=fr+k:=⟨_,rfl⟩;rw[← hfr,← hk] at hdn;rw[← hfr,← hk,← hse,← htt];unfold Ci7;dsimp only;obtain⟨pb,hpb⟩:∃pb,pb=W.heap.size:=⟨_,rfl⟩;obtain⟨W1,hW1⟩:∃W1,W1=W.alloc (.cells #[.int .i64 (se:Int),.int .i64 (fr:Int),.int .i64 (tt:Int)] 317):=⟨_,rfl⟩;have hB1:W1.heap[pb]?=some (.cells #[.int .i64 (se:Int),.int .i64 (fr:Int),.int .i64 (tt:Int)] 317 (0,0)):=by rw[hW1,hpb];exact A4 _
  have hU1:Upd [] W W1:=by rw[hW1];exact(Upd.refl _ _).alloc _
  have HFR:=η hfr;have HKK:=η hk;have HSE:=η hse;have HTT:=η htt;have HPB:=η hpb;have HW1:=η hW1;have HE7:=η e7;have HL:=η hl;clear hW1 hfr hk hse htt hpb e7 e4 hl;gi_wp2_with fail
  have hpb:=HPB.out;have hW1:=HW1.out;rw[← hW1];clear hW1 hpb;have hwl:w7.heap.size<=W.heap.size:=by have:=HL.out;omega
  have hJ1:WrJ w W1 g M s a0 (a0+f.length) d f q a' n' f' M' vf:=hJ.keep hlt.1 hlt.2 (S:=[]) hU1 (by simp) ⟨v5,(hU1.block _ (A3 b5) (by simp)).trans b5⟩;refine⟨λ b hb=>hU1.block _ (by have:=HL.out;simp at hb;omega) (by simp),λ W2 hu2 ho2=>?_⟩;have hJ2:WrJ w W2 g M s a0 (a0+f.length) d f q a' n' f' M' vf:=hJ1.keep hlt.1 hlt.2 hu2 (λ k hk=>by
   have e7:=HE7.out;have hl:=HL.out;simp at hk;subst hk;refine⟨by omega,by omega,by omega,by omega,λ c e=>?_⟩;obtain⟨o,ho,hn⟩:=ho2;rw[e] at ho;cases ho
   exact hn) (by
   have e7:=HE7.out;have hl:=HL.out;have b5':=(hU1.block _ (A3 b5) (by simp)).trans b5;exact⟨v5,(hu2.block _ (A3 b5') (by simp;omega)).trans b5'⟩)
  have hB2':W2.heap[pb]?=some (.cells #[.int .i64 (se:Int),.int .i64 (fr:Int),.int .i64 (tt:Int)] 317 (0,0)):=(hu2.block _ (A3 hB1) (by
   have e7:=HE7.out;have hl:=HL.out;have hpb:=HPB.out;simp;omega)).trans hB1
  have c1:W2.cell? ⟨w.heap.size+1,0,none⟩=some (.pointer (some ⟨g.x.tb,0,none⟩)):=by rw[A2 hJ2.b1];rfl
  have p0:W2.cell? ⟨W.heap.size,0,none⟩=some (.int .i64 (se:Int)):=by rw[← HPB.out,A2 hB2'];rfl
  have hJh:=hJ.sum;have HRD:=η (As6 hJ2.sp se (by
   have h1:=HSE.out;have h2:=hJ.sum;have h3:=hpos;omega))
  have HJ:=η hJ;have HJ2:=η hJ2;have HB2:=η hB2';have HU2:=η hu2;have HU1W:=η hU1;have HDN:=η hdn;have HF2:=η hf2;clear hJ hJ1 hJ2 hB2' hu2 ho2 hU1 hB1 hdn hf2 hx b5 hJh;gi_wp2_with fail
  refine⟨trivial,(CallsIn.inRound l (callsIn_wide.2 HRD.out)).mono ?_⟩;rintro e W3 ⟨bv0,rfl,ho,h3,hu3⟩;have hLl:=HJ2.out.sp.cur_len se;obtain⟨L,hL⟩:∃L,L=g.cur M' se:=⟨_,rfl⟩;rw[← hL] at ho hLl;obtain⟨bk,bc,rfl,hbc,hbk,-⟩:=ho.sec hLl;obtain⟨bk',rest,hbk',ebk,hrow⟩:=ho.own (by omega);obtain⟨rfl,rfl⟩:bk=bk'/\L.length+rest.length=bc:=by
   injection ebk with e1 e2 e3;injection e1 with e1;injection e1 with e1;exact⟨e1,e3.symm⟩
  have hlt3:∀k,k∈[g.j.jb]->k<w.heap.size:=λ k hk=>hlt.1 k (g.mem k hk);have hne3:∀k,w.heap.size<=k->k∉[g.j.jb]:=λ k hk q=>by have:=hlt3 k q;omega
  have b1:=(hu3.block _ (A3 HJ2.out.b1) (hne3 _ (by omega))).trans HJ2.out.b1;have b2:=(hu3.block _ (A3 HJ2.out.b2) (hne3 _ (by omega))).trans HJ2.out.b2;have b3:=(hu3.block _ (A3 HJ2.out.b3) (hne3 _ (by omega))).trans HJ2.out.b3;have bp:=(hu3.block _ (A3 HB2.out) (hne3 _ (by have:=HPB.out;have:=HE7.out;omega))).trans HB2.out;have rd3:=HJ2.out.rd.sp HJ2.out.sp hu3 g.mem;obtain⟨va,vc,evf,hvc2⟩:∃a c,vf=.slice a n' c/\n'<=c:=by
   obtain⟨a,c,e,hc,_⟩:=rd3.1;have h1:=HJ2.out.sum;have h2:=HJ2.out.from_;rw[List.length_drop] at e hc;have e3:f.length-(a'-a0)=n':=by omega
   rw[e3] at e hc;exact⟨a,c,e,hc⟩
  subst evf;obtain⟨fb,fo,rfl⟩:∃fb fo,va=some ⟨fb,fo,none⟩:=by
   obtain⟨ao,cp,e,hc,hh⟩:=rd3.1;have h1:=HJ2.out.sum;have h2:=HJ2.out.from_;obtain⟨b',o',e2,_⟩:=hh (by rw[List.length_drop];omega);injection e with q1 q2 q3;exact⟨b',o',q1.trans e2⟩
  obtain⟨fd,hfd⟩:∃fd,fd=f.drop (a'-a0):=⟨_,rfl⟩;rw[← hfd] at rd3;have hfdl:fd.length=n':=by
   have h1:=HJ2.out.sum;have h2:=HJ2.out.from_;rw[hfd,List.length_drop];omega
  have hfr512:fr<512:=by have:=HFR.out;omega
  have hkl:k<=n'/\fr+k<=512/\1<=k:=by have:=HKK.out;omega
  have htt:=HTT.out;have hx1:(fd.take k).length=k:=by rw[List.length_take];omega
  obtain⟨W4,hW4⟩:∃W4,W4=W3.drew.setRow bk (bts (Av4 L fr (fd.take k))++rest).toArray:=⟨_,rfl⟩;have hcp:∀ty,(Builtin.copy_ #[32,32] ty #[.slice (some ⟨bk,fr,none⟩) (tt-fr) (512+rest.length-fr),.slice (some ⟨fb,fo,none⟩) n' vc]).run Tryz.prog W3.drew=.ok (.int .i64 (k:Int)) W4:=λ ty=>by
   rw[← hLl];have:=X5 (P:=Tryz.prog) (w:=W3.drew) (dT:=32) (sT:=32) (ty:=ty) (u8:=5) Tryz.underlying32 Ao8 bk fr (tt-fr) (L.length+rest.length-fr) (bts L++rest) hrow (by rw[List.length_append,A5];omega) (rd3.1.below ((Upd.refl _ _).drew));have e1:tt-fr=k:=by omega
   rw[e1,Bu1 (by omega),← hW4,hfdl,show min n' k=k by omega] at this;rw[e1];exact this
  have hW4b:W4.heap[bk]?=some (.cells (bts (Av4 L fr (fd.take k))++rest).toArray 5 (0,0)):=by rw[hW4];exact setRow_heap _ _ _ _ _ _ hrow
  have hu4':Upd [bk] W3 W4:=by rw[hW4];exact⟨rfl,rfl,rfl,by simp,λ q _ hq=>by rw[setRow_other _ _ _ _ (by simpa using hq)];rfl⟩
  have HU3:=η hu3;have HU4:=η hu4';have HW4B:=η hW4b;have HFD:=η hfd;have HL2:=η hL;have HSP3:=η h3;have HRD3:=η rd3;have hbkW:w.heap.size<=W2.heap.size:=HJ2.out.upd.size;have hp7:W2.heap.size<=bk:=hbk;have m2:W3.cell? ⟨w.heap.size+1+1,0,none⟩=some (.slice (some ⟨fb,fo,none⟩) n' vc):=by rw[A2 b2];rfl
  have m1:W3.cell? ⟨w.heap.size+1,0,none⟩=some (.pointer (some ⟨g.x.tb,0,none⟩)):=by rw[A2 b1];rfl
  have q0:W3.cell? ⟨W.heap.size,0,none⟩=some (.int .i64 (se:Int)):=by rw[← HPB.out,A2 bp];rfl
  have q1:W3.cell? ⟨W.heap.size,1,none⟩=some (.int .i64 (fr:Int)):=by rw[← HPB.out,A2 bp];rfl
  have q2:W3.cell? ⟨W.heap.size,2,none⟩=some (.int .i64 (tt:Int)):=by rw[← HPB.out,A2 bp];rfl
  have hpW:W.heap.size<W2.heap.size:=by have:=A3 HB2.out;have:=HPB.out;omega
  have n2:=K8 m2 hu4' (by simp;have:=A3 HJ2.out.b2;omega);have n1:=K8 m1 hu4' (by simp;have:=A3 HJ2.out.b1;omega);have n0:=K8 q0 hu4' (by simp;omega);have b2':=(hu4'.block _ (A3 b2) (by simp;have:=A3 HJ2.out.b2;omega)).trans b2;have fz:=B6 b2' 0;have HB2C:=η b2';have HB1C:=η ((hu4'.block _ (A3 b1) (by simp;have:=A3 HJ2.out.b1;omega)).trans b1);have HB3C:=η ((hu4'.block _ (A3 b3) (by simp;have:=A3 HJ2.out.b3;omega)).trans b3);have i0:(0:Int)<=(fr:Int):=by omega
  have i1:(fr:Int)<=(tt:Int):=by omega
  have i2:(tt:Int)<=512+(rest.length:Int):=by omega
  have i6:fr<=tt:=by omega
  have i8:k<=n':=hkl.1;have i9:n'<=vc:=by omega
  have i3:¬(512+rest.length=fr):=by omega
  have i4:(k:Int)<=(n':Int):=by omega
  have i5:(n':Int)<=(vc:Int):=by omega
  have m2_:W3.drew.cell? ⟨w.heap.size+1+1,0,none⟩=some (.slice (some ⟨fb,fo,none⟩) n' vc):=m2;have q1_:W3.drew.cell? ⟨W.heap.size,1,none⟩=some (.int .i64 (fr:Int)):=q1;have q2_:W3.drew.cell? ⟨W.heap.size,2,none⟩=some (.int .i64 (tt:Int)):=q2;have n2_:=n2;have fz_:=fz;obtain⟨nva,hnv⟩:∃nva,nva=(if vc=k then some (⟨fb,fo,none⟩:Addr) else some ⟨fb,fo+k,none⟩):=⟨_,rfl⟩;obtain⟨W5,hW5⟩:∃W5,W5=W4.setCell ⟨w.heap.size+1+1,0,none⟩ (.slice nva (n'-k) (vc-k)):=⟨_,rfl⟩;have HNV:=η hnv;have HW5:=η hW5;clear hnv hW5 m2 n2 q1 q2 fz;clear hW4 hW4b hu4' hu3 h3 ho rd3 b1 b2 b3 bp b2' hrow hL hfd hbk' ebk htt hbk hfdl hx1 hr hd c1 p0;gi_wp2_with fail
  --REG6
  refine Ao2 (λ L=>(if L 8=true then(if L 10=true then W5 else W4) else W3.drew)) (wrV fb fo n' vc bk (512+rest.length) W.heap.size fr tt k nva) (by kernel_rfl) (by kernel_rfl) 47 rfl rfl rfl ?_ ?_
  ·intro i o L tmps w' ho hI hL hd hcl;have hi:i<11:=(Array.getElem?_eq_some_iff.1 ho).1;have t7:tmps[7]?.getD undef=.pointer (some ⟨w.heap.size+1+1,0,none⟩):=(hI.old 7 (by rfl)).trans rfl;have t9:tmps[9]?.getD undef=.pointer (some ⟨W.heap.size,0,none⟩):=(hI.old 9 (by rfl)).trans rfl;have t10:tmps[10]?.getD undef=.slice (some ⟨bk,0,none⟩) 512 (512+rest.length):=(hI.old 10 (by rfl)).trans rfl;obtain rfl | rfl | rfl | rfl | rfl | rfl | rfl | rfl | rfl | rfl | rfl:i=0∨i=1∨i=2∨i=3∨i=4∨i=5∨i=6∨i=7∨i=8∨i=9∨i=10:=by omega
   ·cases ho
    have g10:L 10=false:=hcl.not_up (i:=0) (s:=10) 11 (by kernel_rfl) hL;cases g8:L 8 with
    | false=>
     have g10:L 10=false:=hcl.not_up (i:=8) (s:=10) 11 (by kernel_rfl) g8;have hw0:w'=W3.drew:=by rw[hI.wd];simp[g8,g10]
     have m2:w'.cell? ⟨w.heap.size+1+1,0,none⟩=some (.slice (some ⟨fb,fo,none⟩) n' vc):=by rw[hw0];exact m2_
     have q1:w'.cell? ⟨W.heap.size,1,none⟩=some (.int .i64 (fr:Int)):=by rw[hw0];exact q1_
     have q2:w'.cell? ⟨W.heap.size,2,none⟩=some (.int .i64 (tt:Int)):=by rw[hw0];exact q2_
     have HW0:=η hw0;clear hw0;refine wpOpIn_step rfl (λ K hK=>?_);go_simp;exact hK _ _ (hI.val_step 0 29 (.slice (some ⟨fb,fo,none⟩) n' vc) (by decide) (by rw[hI.wd];rfl) (by simp[wrV]) (by kernel_rfl))
    | true=>
     have hw0:w'=W4:=by rw[hI.wd];simp[g8,g10]
     have m2:w'.cell? ⟨w.heap.size+1+1,0,none⟩=some (.slice (some ⟨fb,fo,none⟩) n' vc):=by rw[hw0];exact n2_
     have fz:w'.frozen? ⟨w.heap.size+1+1,0,none⟩=false:=by rw[hw0];exact fz_
     have HW0:=η hw0;clear hw0;refine wpOpIn_step rfl (λ K hK=>?_);go_simp;exact hK _ _ (hI.val_step 0 29 (.slice (some ⟨fb,fo,none⟩) n' vc) (by decide) (by rw[hI.wd];rfl) (by simp[wrV]) (by kernel_rfl))
   ·cases ho
    have g8:L 8=false:=hcl.not_up (i:=1) (s:=8) 11 (by kernel_rfl) hL;have g10:L 10=false:=hcl.not_up (i:=1) (s:=10) 11 (by kernel_rfl) hL;have hw0:w'=W3.drew:=by rw[hI.wd];simp[g8,g10]
    have m2:w'.cell? ⟨w.heap.size+1+1,0,none⟩=some (.slice (some ⟨fb,fo,none⟩) n' vc):=by rw[hw0];exact m2_
    have q1:w'.cell? ⟨W.heap.size,1,none⟩=some (.int .i64 (fr:Int)):=by rw[hw0];exact q1_
    have q2:w'.cell? ⟨W.heap.size,2,none⟩=some (.int .i64 (tt:Int)):=by rw[hw0];exact q2_
    have HW0:=η hw0;clear hw0;refine wpOpIn_step rfl (λ K hK=>?_);go_simp;exact hK _ _ (hI.val_step 1 30 (.slice (some ⟨bk,0,none⟩) 512 (512+rest.length)) (by decide) (by rw[hI.wd];rfl) (by simp[wrV]) (by kernel_rfl))
   ·cases ho
    have g8:L 8=false:=hcl.not_up (i:=2) (s:=8) 11 (by kernel_rfl) hL;have g10:L 10=false:=hcl.not_up (i:=2) (s:=10) 11 (by kernel_rfl) hL;have hw0:w'=W3.drew:=by rw[hI.wd];simp[g8,g10]
    have m2:w'.cell? ⟨w.heap.size+1+1,0,none⟩=some (.slice (some ⟨fb,fo,none⟩) n' vc):=by rw[hw0];exact m2_
    have q1:w'.cell? ⟨W.heap.size,1,none⟩=some (.int .i64 (fr:Int)):=by rw[hw0];exact q1_
    have q2:w'.cell? ⟨W.heap.size,2,none⟩=some (.int .i64 (tt:Int)):=by rw[hw0];exact q2_
    have HW0:=η hw0;clear hw0;refine wpOpIn_step rfl (λ K hK=>?_);go_simp;exact hK _ _ (hI.val_step 2 31 (.pointer (some ⟨W.heap.size,1,none⟩)) (by decide) (by rw[hI.wd];rfl) (by simp[wrV]) (by kernel_rfl))
   ·cases ho
    have t31:tmps[31]?.getD undef=.pointer (some ⟨W.heap.size,1,none⟩):=hI.val (2,31,_) (by simp[wrV]) (hd ⟨2,.data⟩ (by simp) rfl);have g8:L 8=false:=hcl.not_up (i:=3) (s:=8) 11 (by kernel_rfl) hL;have g10:L 10=false:=hcl.not_up (i:=3) (s:=10) 11 (by kernel_rfl) hL;have hw0:w'=W3.drew:=by rw[hI.wd];simp[g8,g10]
    have m2:w'.cell? ⟨w.heap.size+1+1,0,none⟩=some (.slice (some ⟨fb,fo,none⟩) n' vc):=by rw[hw0];exact m2_
    have q1:w'.cell? ⟨W.heap.size,1,none⟩=some (.int .i64 (fr:Int)):=by rw[hw0];exact q1_
    have q2:w'.cell? ⟨W.heap.size,2,none⟩=some (.int .i64 (tt:Int)):=by rw[hw0];exact q2_
    have HW0:=η hw0;clear hw0;refine wpOpIn_step rfl (λ K hK=>?_);go_simp;exact hK _ _ (hI.val_step 3 32 (.int .i64 (fr:Int)) (by decide) (by rw[hI.wd];rfl) (by simp[wrV]) (by kernel_rfl))
   ·cases ho
    have g8:L 8=false:=hcl.not_up (i:=4) (s:=8) 11 (by kernel_rfl) hL;have g10:L 10=false:=hcl.not_up (i:=4) (s:=10) 11 (by kernel_rfl) hL;have hw0:w'=W3.drew:=by rw[hI.wd];simp[g8,g10]
    have m2:w'.cell? ⟨w.heap.size+1+1,0,none⟩=some (.slice (some ⟨fb,fo,none⟩) n' vc):=by rw[hw0];exact m2_
    have q1:w'.cell? ⟨W.heap.size,1,none⟩=some (.int .i64 (fr:Int)):=by rw[hw0];exact q1_
    have q2:w'.cell? ⟨W.heap.size,2,none⟩=some (.int .i64 (tt:Int)):=by rw[hw0];exact q2_
    have HW0:=η hw0;clear hw0;refine wpOpIn_step rfl (λ K hK=>?_);go_simp;exact hK _ _ (hI.val_step 4 33 (.pointer (some ⟨W.heap.size,2,none⟩)) (by decide) (by rw[hI.wd];rfl) (by simp[wrV]) (by kernel_rfl))
   ·cases ho
    have t33:tmps[33]?.getD undef=.pointer (some ⟨W.heap.size,2,none⟩):=hI.val (4,33,_) (by simp[wrV]) (hd ⟨4,.data⟩ (by simp) rfl);have g8:L 8=false:=hcl.not_up (i:=5) (s:=8) 11 (by kernel_rfl) hL;have g10:L 10=false:=hcl.not_up (i:=5) (s:=10) 11 (by kernel_rfl) hL;have hw0:w'=W3.drew:=by rw[hI.wd];simp[g8,g10]
    have m2:w'.cell? ⟨w.heap.size+1+1,0,none⟩=some (.slice (some ⟨fb,fo,none⟩) n' vc):=by rw[hw0];exact m2_
    have q1:w'.cell? ⟨W.heap.size,1,none⟩=some (.int .i64 (fr:Int)):=by rw[hw0];exact q1_
    have q2:w'.cell? ⟨W.heap.size,2,none⟩=some (.int .i64 (tt:Int)):=by rw[hw0];exact q2_
    have HW0:=η hw0;clear hw0;refine wpOpIn_step rfl (λ K hK=>?_);go_simp;exact hK _ _ (hI.val_step 5 34 (.int .i64 (tt:Int)) (by decide) (by rw[hI.wd];rfl) (by simp[wrV]) (by kernel_rfl))
   ·cases ho
    have t30:tmps[30]?.getD undef=.slice (some ⟨bk,0,none⟩) 512 (512+rest.length):=hI.val (1,30,_) (by simp[wrV]) (hd ⟨1,.data⟩ (by simp) rfl);have t32:tmps[32]?.getD undef=.int .i64 (fr:Int):=hI.val (3,32,_) (by simp[wrV]) (hd ⟨3,.data⟩ (by simp) rfl);have t34:tmps[34]?.getD undef=.int .i64 (tt:Int):=hI.val (5,34,_) (by simp[wrV]) (hd ⟨5,.data⟩ (by simp) rfl);have g8:L 8=false:=hcl.not_up (i:=6) (s:=8) 11 (by kernel_rfl) hL;have g10:L 10=false:=hcl.not_up (i:=6) (s:=10) 11 (by kernel_rfl) hL;have hw0:w'=W3.drew:=by rw[hI.wd];simp[g8,g10]
    have m2:w'.cell? ⟨w.heap.size+1+1,0,none⟩=some (.slice (some ⟨fb,fo,none⟩) n' vc):=by rw[hw0];exact m2_
    have q1:w'.cell? ⟨W.heap.size,1,none⟩=some (.int .i64 (fr:Int)):=by rw[hw0];exact q1_
    have q2:w'.cell? ⟨W.heap.size,2,none⟩=some (.int .i64 (tt:Int)):=by rw[hw0];exact q2_
    have HW0:=η hw0;clear hw0;refine wpOpIn_step rfl (λ K hK=>?_);go_simp;exact hK _ _ (hI.val_step 6 35 (.slice (some ⟨bk,fr,none⟩) (tt-fr) (512+rest.length-fr)) (by decide) (by rw[hI.wd];rfl) (by simp[wrV]) (by kernel_rfl))
   ·cases ho
    have g8:L 8=false:=hcl.not_up (i:=7) (s:=8) 11 (by kernel_rfl) hL;have g10:L 10=false:=hcl.not_up (i:=7) (s:=10) 11 (by kernel_rfl) hL;have hw0:w'=W3.drew:=by rw[hI.wd];simp[g8,g10]
    have m2:w'.cell? ⟨w.heap.size+1+1,0,none⟩=some (.slice (some ⟨fb,fo,none⟩) n' vc):=by rw[hw0];exact m2_
    have q1:w'.cell? ⟨W.heap.size,1,none⟩=some (.int .i64 (fr:Int)):=by rw[hw0];exact q1_
    have q2:w'.cell? ⟨W.heap.size,2,none⟩=some (.int .i64 (tt:Int)):=by rw[hw0];exact q2_
    have HW0:=η hw0;clear hw0;refine wpOpIn_step rfl (λ K hK=>?_);go_simp;exact hK _ _ (hI.val_step 7 36 (.slice (some ⟨fb,fo,none⟩) n' vc) (by decide) (by rw[hI.wd];rfl) (by simp[wrV]) (by kernel_rfl))
   ·cases ho
    have t35:tmps[35]?.getD undef=.slice (some ⟨bk,fr,none⟩) (tt-fr) (512+rest.length-fr):=hI.val (6,35,_) (by simp[wrV]) (hd ⟨6,.data⟩ (by simp) rfl);have t36:tmps[36]?.getD undef=.slice (some ⟨fb,fo,none⟩) n' vc:=hI.val (7,36,_) (by simp[wrV]) (hd ⟨7,.data⟩ (by simp) rfl);have g8:L 8=false:=hcl.not_up (i:=8) (s:=8) 11 (by kernel_rfl) hL;have g10:L 10=false:=hcl.not_up (i:=8) (s:=10) 11 (by kernel_rfl) hL;have hw0:w'=W3.drew:=by rw[hI.wd];simp[g8,g10]
    have m2:w'.cell? ⟨w.heap.size+1+1,0,none⟩=some (.slice (some ⟨fb,fo,none⟩) n' vc):=by rw[hw0];exact m2_
    have q1:w'.cell? ⟨W.heap.size,1,none⟩=some (.int .i64 (fr:Int)):=by rw[hw0];exact q1_
    have q2:w'.cell? ⟨W.heap.size,2,none⟩=some (.int .i64 (tt:Int)):=by rw[hw0];exact q2_
    have HW0:=η hw0;clear hw0;have hcp':=hcp 3;rw[← HW0.out] at hcp';refine wpOpIn_step rfl (λ K hK=>?_);go_simp;exact hK _ _ (hI.val_step 8 37 (.int .i64 (k:Int)) (by decide) (by simp[upL,g8,g10]) (by simp[wrV]) (by kernel_rfl))
   ·cases ho
    have t29:tmps[29]?.getD undef=.slice (some ⟨fb,fo,none⟩) n' vc:=hI.val (0,29,_) (by simp[wrV]) (hd ⟨0,.data⟩ (by simp) rfl);have t37:tmps[37]?.getD undef=.int .i64 (k:Int):=hI.val (8,37,_) (by simp[wrV]) (hd ⟨8,.data⟩ (by simp) rfl);have g8:L 8=true:=hcl.dep_up (i:=9) (s:=8) rfl hd 11 (by kernel_rfl) (by decide);have g10:L 10=false:=hcl.not_up (i:=9) (s:=10) 11 (by kernel_rfl) hL;have hw0:w'=W4:=by rw[hI.wd];simp[g8,g10]
    have m2:w'.cell? ⟨w.heap.size+1+1,0,none⟩=some (.slice (some ⟨fb,fo,none⟩) n' vc):=by rw[hw0];exact n2_
    have fz:w'.frozen? ⟨w.heap.size+1+1,0,none⟩=false:=by rw[hw0];exact fz_
    have HW0:=η hw0;clear hw0;refine wpOpIn_step rfl (λ K hK=>?_);go_simp;rw[← HNV.out];exact hK _ _ (hI.val_step 9 38 (.slice nva (n'-k) (vc-k)) (by decide) (by rw[hI.wd];rfl) (by simp[wrV]) (by kernel_rfl))
   ·cases ho
    have t38:tmps[38]?.getD undef=.slice nva (n'-k) (vc-k):=hI.val (9,38,_) (by simp[wrV]) (hd ⟨9,.data⟩ (by simp) rfl);have g8:L 8=true:=hcl.dep_up (i:=10) (s:=8) rfl hd 11 (by kernel_rfl) (by decide);have g10:L 10=false:=hcl.not_up (i:=10) (s:=10) 11 (by kernel_rfl) hL;have hw0:w'=W4:=by rw[hI.wd];simp[g8,g10]
    have m2:w'.cell? ⟨w.heap.size+1+1,0,none⟩=some (.slice (some ⟨fb,fo,none⟩) n' vc):=by rw[hw0];exact n2_
    have fz:w'.frozen? ⟨w.heap.size+1+1,0,none⟩=false:=by rw[hw0];exact fz_
    have HW0:=η hw0;clear hw0;refine wpOpIn_step rfl (λ K hK=>?_);go_simp;rw[HW0.out,← HW5.out];exact hK _ _ (hI.none_step 10 (by simp[upL,g8,g10]) (by kernel_rfl))
  ·intro Lu tmps w9 hI hall;have hat:=hI.fin rfl (λ t ht=>hall _ (by have h9:=List.all_eq_true.1 (show((wrV fb fo n' vc bk (512+rest.length) W.heap.size fr tt k nva).all λ t=>decide (t.1<11))=true from rfl) t ht;simpa using h9));have hw9:w9=W5:=by rw[hI.wd];simp[hall 8 (by decide),hall 10 (by decide)]
   clear hI hall;simp only[wrV,List.map_cons,List.map_nil,Af6,αs,αz,αc] at hat;rw[hat];clear hat tmps;rw[hw9];clear hw9;have b2c:=HB2C.out;have b1c:=HB1C.out;have b3c:=HB3C.out;have hw5:=HW5.out;have bb2:W5.heap[w.heap.size+1+1]?=some (.cells #[.slice nva (n'-k) (vc-k)] 32 (0,0)):=by rw[hw5,A8 b2c];rfl
   have bb1:W5.heap[w.heap.size+1]?=some (.cells #[.pointer (some ⟨g.x.tb,0,none⟩)] 28 (0,0)):=by rw[hw5,C5 0 _ (by omega)];exact b1c
   have bb3:W5.heap[w.heap.size+1+1+1]?=some (.cells #[.int .i64 0] 29 (0,0)):=by rw[hw5,C5 0 _ (by omega)];exact b3c
   have hu5:Upd [w.heap.size+1+1] W4 W5:=by rw[hw5];exact(Upd.refl _ _).set _ (by simp)
   have r1:W5.cell? ⟨w.heap.size+1,0,none⟩=some (.pointer (some ⟨g.x.tb,0,none⟩)):=by rw[A2 bb1];rfl
   have r0:=K8 n0 hu5 (by simp;have:=HPB.out;have:=HE7.out;omega);have hsp5:B7 W5 g M':=by
    have a1:B7 W4 g M':=HJ2.out.sp.late HSP3.out HU3.out HU4.out (λ i hi=>by simp at hi;omega);refine a1.turnedR hu5 (λ i hi=>?_) (λ i hi c e=>?_)
    ·simp at hi;exact⟨λ q=>by have:=hlt.1 i q;omega,by omega⟩
    ·simp at hi;subst hi;rw[b2c] at e;injection e with e;injection e with _ q2;exact absurd q2 (by decide)
   have hrow5:=(hu5.block _ (A3 HW4B.out) (by simp;have:=A3 HJ2.out.b2;omega)).trans HW4B.out;have hown:Rd W5 (.slice (some ⟨bk,0,none⟩) 512 (512+rest.length)) (Av4 L fr (fd.take k)):=by
    have hlen:(Av4 L fr (fd.take k)).length=512:=by rw[Ay1 (by rw[List.length_take];omega)];exact hLl
    have:Own W5 5 Ak1 (.slice (some ⟨bk,0,none⟩) (Av4 L fr (fd.take k)).length ((Av4 L fr (fd.take k)).length+rest.length)) (Av4 L fr (fd.take k)):=⟨bk,rest,trivial,rfl,hrow5⟩;rw[hlen] at this;exact this.rd
   have hcnt:(M' se).isSome=true∨E1 M' g.h<40:=by
    rcases hc with hc | hc
    ·right
     have ht:Ag7 M M' (List.range' s 16):=λ i hi=>by
      by_cases hq:s<=i/\i<s+16
      ·right;rw[List.mem_range'_1];omega
      ·rw[HJ2.out.keepM i hq] at hi;exact .inl hi
     have:=ht.cnt h.ok HSP3.out.ok;rw[List.length_range'] at this;omega
    ·left
     have h1:=HSE.out;have h2:=HJ2.out.sum;exact HJ2.out.some_ se (hc se (by omega) (by omega))
   have HWR:=η (Ai9 hsp5 se (by
    have h1:=HSE.out;have h2:=HJ2.out.sum;omega) _ _ hown (by rw[Ay1 (by rw[List.length_take];omega)];exact hLl) hcnt)
   have HBB1:=η bb1;have HBB2:=η bb2;have HBB3:=η bb3;have HU5:=η hu5;have HSP5:=η hsp5;clear hw5 bb1 bb2 bb3 hu5 hsp5 hown hrow5 b2c b1c b3c n0 n1 m1 q0 m2_ q1_ q2_ n2_ fz_ hcp hcnt;gi_wp2_with fail
   refine⟨trivial,(CallsIn.inRound l (callsIn_wide.2 HWR.out)).mono ?_⟩;rintro e W6 ⟨rfl,h6,hu6⟩;gi_wp2_with fail
   have hfr:=HFR.out;have hk:=HKK.out;have hse:=HSE.out;have e7:=HE7.out;have hll:=HL.out;have hfd:=HFD.out;have hf2:=HF2.out;have J:=HJ2.out;have h1:=J.sum;have h2:=J.from_;have hA:Upd ((w.heap.size+1+1) :: g.S) W2 W6:=by
    have a1:Upd ((w.heap.size+1+1) :: g.S) W2 W3:=HU3.out.mono (λ i hi=>List.mem_cons_of_mem _ (g.mem i hi));have a2:=a1.late HU4.out (λ i hi=> .inr (by simp at hi;omega));exact(a2.trans (HU5.out.mono (by simp))).trans (hu6.mono (λ i hi=>List.mem_cons_of_mem _ (g.memw i hi)))
   have hnS:∀i,w.heap.size<=i->i≠w.heap.size+1+1->i∉(w.heap.size+1+1) :: g.S:=λ i hi hne q=>by
    rcases List.mem_cons.1 q with q | q
    ·exact hne q
    ·have:=hlt.1 i q;omega
   have hnw:∀i,w.heap.size<=i->i∉[g.x.wb]:=λ i hi q=>by have:=hlt.1 i (g.memw i q);omega
   refine⟨λ b hb=>hA.block _ (by have:=HU2.out.size;have:=HU1W.out.size;simp at hb;omega) (hnS b (by simp at hb;omega) (by simp at hb;omega)),?_,λ b hb=>?_⟩
   ·have hf1:(fd.drop k)=f.drop (a'+k-a0):=by rw[hfd,List.drop_drop];congr 1;omega
    have hf3:f.take (a'-a0)++fd.take k=f.take (a'+k-a0):=by
     rw[hfd,show a'+k-a0=(a'-a0)+k by omega,List.take_add]
    refine⟨a'+k,n'-k,f2,wr1 M' se (Av4 L fr (fd.take k)),.slice nva (n'-k) (vc-k),?_,?_,?_,HDN.out,h6,?_,?_,?_,?_,?_,?_,?_,?_,?_⟩
    ·have:=J.le;omega
    ·omega
    ·omega
    ·intro i hi;rw[Ak9 (by omega)];exact J.keepM i hi
    ·intro i hi;by_cases e:i=se
     ·subst e;rw[Db4];rfl
     ·rw[Ak9 e];exact J.some_ i hi
    ·rw[← hf3,← List.append_assoc];have hft:(f.take (a'-a0)).length=a'-a0:=by rw[List.length_take];omega
     have hkt:(fd.take k).length<=k:=by rw[List.length_take];omega
     refine J.pkd.lay (j:=a' / 512) (o:=fr) (by rw[← hse,← HL2.out];omega) ?_ (by omega) ?_ (λ i hi=>?_)
     ·rw[List.length_append,hft,hdl];omega
     ·rw[Y5,← hse,if_pos rfl,← HL2.out]
     ·rw[Y5,if_neg (by omega)]
    ·exact(hu6.block _ (A3 HBB1.out) (hnw _ (by omega))).trans HBB1.out
    ·exact(hu6.block _ (A3 HBB2.out) (hnw _ (by omega))).trans HBB2.out
    ·rw[← hf1];have r4:RdS W4 w.heap.size (.slice (some ⟨fb,fo,none⟩) n' vc) fd:=HRD3.out.keep HU4.out (λ b hb hlt=>by simp at hb;omega);have r5:RdS W5 w.heap.size (.slice (some ⟨fb,fo,none⟩) n' vc) fd:=r4.keep HU5.out (λ b hb hlt=>by simp at hb;omega);have r6:RdS W6 w.heap.size (.slice (some ⟨fb,fo,none⟩) n' vc) fd:=r5.sp HSP5.out hu6 g.memw;have hfl:fd.length=n':=by rw[hfd,List.length_drop];omega
     by_cases hvk:vc=k
     ·have hn0:fd.drop k=[]:=List.drop_eq_nil_of_le (by omega);rw[hn0];refine⟨⟨nva,vc-k,by rw[show n'-k=0 by omega];rfl,by simp,λ h=>by simp at h⟩,λ b off n c h=>by simp at h⟩
     ·have hnv:=HNV.out;rw[if_neg hvk] at hnv;rw[hnv];exact r6.drop k
    ·exact(hu6.block _ (A3 HBB3.out) (hnw _ (by omega))).trans HBB3.out
    ·obtain⟨v5,b5⟩:=J.b5;exact⟨v5,(hA.block _ (A3 b5) (hnS _ (by omega) (by omega))).trans b5⟩
    ·exact(J.upd.late hA (λ i hi=>by
      rcases List.mem_cons.1 hi with q | q
      ·right;omega
      ·exact .inl q))
   ·have hb':w.heap.size<=b/\b≠w.heap.size+1+1/\b<w7.heap.size:=by simp at hb;omega
    have b1:=HU1W.out.block b (by omega) (by simp);have b2:=HU2.out.block b (by have:=HU1W.out.size;omega) (by simp;omega);have b3:=hA.block b (by have:=HU1W.out.size;have:=HU2.out.size;omega) (hnS b hb'.1 hb'.2.1);exact b3.trans (b2.trans b1)
  --END6
 ·intro W hI hK;obtain⟨a',n',f',M',vf',hJ⟩:=hI;have hn0:=Bt9 hJ.le hJ.drop;have hae:a'-a0=f.length:=by have:=hJ.sum;omega
  have hp:=hJ.pkd;rw[hae,List.take_length] at hp;have b3:=hJ.b3;have m3:W.cell? ⟨w.heap.size+1+1+1,0,none⟩=some (.int .i64 0):=by rw[A2 b3];rfl
  have f3:=B6 b3 0;have HJ:=η hJ;have HP:=η hp;have HK:=η hK;have HB3:=η b3;clear hJ hp hK b3;gi_wp2_with fail
  have J:=HJ.out;obtain⟨Wf,hWf⟩:∃Wf,Wf=W.setCell ⟨w.heap.size+1+1+1,0,none⟩ (.int .i64 0):=⟨_,rfl⟩;rw[← hWf];have hbf:Wf.heap[w.heap.size+1+1+1]?=some (.cells #[.int .i64 0] 29 (0,0)):=by rw[hWf,A8 HB3.out];rfl
  have huf:Upd [w.heap.size+1+1+1,w7.heap.size] W Wf:=by rw[hWf];exact(Upd.refl _ _).set _ (by simp)
  have hKf:Wf.heap[w7.heap.size]?=some (.deferred (some [])):=by rw[hWf,C5 0 _ (by omega)];exact HK.out
  clear hWf;refine⟨by simp,.inl ⟨_,_,rfl,run_takeDeferred hKf,?_⟩⟩;obtain⟨Wg,hWg⟩:∃Wg,Wg=Wf.putObj w7.heap.size (.deferred none):=⟨_,rfl⟩;rw[← hWg];have hbg:Wg.heap[w.heap.size+1+1+1]?=some (.cells #[.int .i64 0] 29 (0,0)):=by rw[hWg,World.putObj_heap_other (by omega)];exact hbf
  have hug:Upd [w.heap.size+1+1+1,w7.heap.size] W Wg:=huf.trans (by
   rw[hWg];exact⟨rfl,rfl,rfl,by simp,λ k hk hs=>World.putObj_heap_other (by simp at hs;omega)⟩)
  have cg:Wg.cell? ⟨w.heap.size+1+1+1,0,none⟩=some (.int .i64 0):=by rw[A2 hbg];rfl
  clear hWg;have hspg:B7 Wg g M':=J.sp.turnedR hug (λ k hk=>by
   simp at hk;exact⟨λ q=>by have:=hlt.1 k q;omega,by have:=hlt.2;omega⟩) (λ k hk c e=>by
   simp at hk;rcases hk with rfl | rfl
   ·rw[HB3.out] at e;injection e with e;injection e with _ q2;exact absurd q2 (by decide)
   ·rw[HK.out] at e;cases e)
  refine⟨.int .i64 0,?_,M',rfl,hspg,HP.out,J.keepM,J.some_,J.upd.late hug (λ i hi=> .inr (by simp at hi;omega))⟩;simp[results,Tryz.f187,go_sem,cg]
end
end Go.Proofs.YtgfbepakonjbnaaGreat
end
