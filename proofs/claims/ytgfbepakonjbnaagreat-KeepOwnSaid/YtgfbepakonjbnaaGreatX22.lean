/-
  Lists of strings: homes, alike.
-/
import Derived.Test.YtgfbepakonjbnaaGreatX09
import Derived.Lib.SlBytesRow
import Derived.Test.YtgfbepakonjbnaaGreatX21
import Derived.Deep.Slices
import Derived.Deep.Strs
import Derived.Test.YtgfbepakonjbnaaGreatX14
import Derived.Test.YtgfbepakonjbnaaGreatX12
set_option maxRecDepth 100000
set_option maxHeartbeats 16000000
section
namespace Go.Proofs.YtgfbepakonjbnaaGreat
open Go.RowKit
def str(l:List UInt8):ByteArray:=⟨l.toArray⟩
theorem Cv9(bs:ByteArray):∀(m i:Nat) (r:List UInt8),bs.size-i=m->ByteArray.toList.loop bs i r=r.reverse++bs.data.toList.drop i:=by
 intro m;induction m with
 | zero=>
  intro i r h;rw[ByteArray.toList.loop];have hi:¬i<bs.size:=by omega
  rw[if_neg hi,List.drop_eq_nil_of_le (by simp;omega)];simp
 | succ m ih=>
  intro i r h;rw[ByteArray.toList.loop];have hi:i<bs.size:=by omega
  rw[if_pos hi,ih (i+1) _ (by omega)];have hl:i<bs.data.toList.length:=by simpa using hi
  rw[List.drop_eq_getElem_cons hl];have e:bs.get! i=bs.data.toList[i]:=by simp[ByteArray.get!,hi]
  rw[e];simp
theorem Ai4(l:List UInt8):(str l).toList=l:=by
 unfold ByteArray.toList;rw[Cv9 _ (str l).size 0 [] (by omega)];simp[str]
theorem Da3{a b:List UInt8}(h:a=b):((str a).toList == (str b).toList)=true:=by rw[Ai4,Ai4,h];simp
theorem Da4{a b:List UInt8}(h:a≠b):((str a).toList == (str b).toList)=false:=by rw[Ai4,Ai4];simpa using h
theorem Ba1{w:World}{v:Value}{l:List UInt8}(h:Rd w v l)(hl:0<l.length):(convert 32 9 v).run Tryz.prog w=.ok (.string (str l)) w:=by
 obtain⟨ao,cap,rfl,hc,hh⟩:=h;obtain⟨b,off,rfl,hcell⟩:=hh hl;have hsz:(str l).size=l.length:=by simp[str,ByteArray.size]
 have:=Lib.run_convert_whole (P:=Tryz.prog) w 32 5 9 Tryz.underlying32 Tryz.underlying5 Tryz.underlying9 b off (str l) (λ i hi=>by
  rw[hsz] at hi;rw[hcell i hi];rfl) cap
 rw[hsz] at this;exact this
def hl(H:Nat->Sec)(k:Nat):List (List UInt8):=(List.range k).map H
end Go.Proofs.YtgfbepakonjbnaaGreat
namespace Go.Proofs.YtgfbepakonjbnaaGreat
open Go.RowKit
theorem Br8(v:Value)(l:List UInt8)(w:World)(hr:Rd w v l)(hl:l.length<=10000) :
  Calls Tryz.prog 28 #[v] w λ e w'=>∃k,e=.returned (.slice (some ⟨k,0,none⟩) l.length (l.length+3))/\(∃r:List Value,r.length=3/\w'.heap[k]?=some (.cells (bts l++r).toArray 5 (0,0)))/\w.heap.size<=k/\Upd [] w w':=by
 obtain⟨ao,cap,rfl,hcap,hh⟩:=hr;have hr:Rd w (.slice ao l.length cap) l:=⟨ao,cap,rfl,hcap,hh⟩;have hmk:(Instr.makeSlice 32 (.int .i64 ((l.length:Int)+3)) (.int .i64 ((l.length:Int)+3))).run Tryz.prog w=.ok (.slice (some ⟨w.heap.size,0,none⟩) (l.length+3) (l.length+3)) (w.alloc (.cells (bts (List.replicate (l.length+3) 0)).toArray 5)):=by
  have:=Aw5 (l.length+3) (by omega) w;rw[show((l.length+3:Nat):Int)=(l.length:Int)+3 from by omega] at this;exact this
 have hcp:∀ty,(Builtin.copy_ #[32,32] ty #[.slice (some ⟨w.heap.size,0,none⟩) (l.length+3) (l.length+3),.slice ao l.length cap]).run Tryz.prog (w.alloc (.cells (bts (List.replicate (l.length+3) 0)).toArray 5))=.ok (goInt ((min l.length (l.length+3):Nat):Int)) (w.alloc (.cells (bts (l ++ [0,0,0])).toArray 5)):=by
  intro ty;rw[X5 (u8:=5) Tryz.underlying32 Ao8 w.heap.size 0 (l.length+3) (l.length+3) (bts (List.replicate (l.length+3) 0)) (A4 _) (by rw[A5];simp) (hr.alloc _),V0];have e:splice (bts (List.replicate (l.length+3) 0)) 0 (bts (l.take (l.length+3)))=bts (l ++ [0,0,0]):=by
   rw[Aw4,A5,List.take_of_length_le (by omega),Ao6];congr 1
   show(List.map bv _).drop _=_
   rw[← List.map_drop,List.drop_replicate,show l.length+3-l.length=3 from by omega];rfl
  rw[e]
 clear hr hh;obtain⟨w1,hw1⟩:∃w1,w1=w.alloc (.cells (bts (List.replicate (l.length+3) 0)).toArray 5):=⟨_,rfl⟩;obtain⟨w2,hw2⟩:∃w2,w2=w.alloc (.cells (bts (l ++ [0,0,0])).toArray 5):=⟨_,rfl⟩;rw[← hw1] at hmk;rw[← hw1,← hw2] at hcp;have HU2:Hid (Upd [] w w2):=by show Upd _ _ _;rw[hw2];exact(Upd.refl _ _).alloc _
 have HB2:Hid (w2.heap[w.heap.size]?=some (.cells (bts l++bts [0,0,0]).toArray 5 (0,0))):=by show _=_;rw[hw2,← Ao6];exact A4 _
 clear hw1 hw2;obtain⟨n,hn⟩:∃n,n=l.length:=⟨_,rfl⟩;rw[← hn] at hmk hcp hl ⊢;have HN:=η hn;clear hn hcap;go_enter Tryz.func28,Tryz.ntmps28
 go_wp2_with fail
 go_loopw [4] (λ i wr=>∃k:Nat,k<=3/\i=.int .i64 ((n+k:Nat):Int)/\(∃r:List Value,r.length=3/\wr.heap[w.heap.size]?=some (.cells (bts l++r).toArray 5 (0,0)))/\Upd [] w wr) (λ i _=>n+3-(intOf i).toNat)
 case atStart=>exact⟨0,by omega,rfl,⟨bts [0,0,0],rfl,HB2.out⟩,HU2.out⟩
 case round=>
  obtain⟨k,hk,rfl,⟨r,hr3,hb⟩,hu⟩:=hrel;by_cases hlt:k<3
  ·have hlt':decide (((n+k:Nat):Int)<(n:Int)+3)=true:=by simp;omega
   obtain⟨x0,hx0⟩:∃x,(bts l++r).toArray[n+k]?=some x:=by
    have:n+k<(bts l++r).toArray.size:=by have:=HN.out;simp;omega
    exact⟨_,Array.getElem?_eq_getElem this⟩
   have hc:wr.cell? ⟨w.heap.size,n+k,none⟩=some x0:=(A2 hb _).trans hx0;have hf:=B6 hb (n+k);have HB:=η hb;have HU:=η hu;have i0:(0:Int)<=((n+k:Nat):Int):=by omega
   have i1:((n+k:Nat):Int)<((n+3:Nat):Int):=by omega
   clear hb hu hx0;go_wp2_with fail
   refine⟨⟨k+1,by omega,by rw[show((n+(k+1):Nat):Int)=(n:Int)+(k:Int)+1 from by omega],⟨r.set k (.int .u8 229),by simp[hr3],?_⟩,HU.out.set _ (.inr (Nat.le_refl _))⟩,by simp[intOf];omega⟩;rw[A8 HB.out];congr 2
   rw[αs,HN.out];congr 1
   rw[List.set_append_right _ _ (by simp),A5,Nat.add_sub_cancel_left]
  ·obtain rfl:k=3:=by omega
   have hlt':decide (((n+3:Nat):Int)<(n:Int)+3)=false:=by simp
   have HB:=η hb;have HU:=η hu;clear hb hu;go_wp2_with fail
   go_ret;exact⟨w.heap.size,rfl,⟨r,hr3,HB.out⟩,Nat.le_refl _,HU.out⟩
end Go.Proofs.YtgfbepakonjbnaaGreat
namespace Go.Proofs.YtgfbepakonjbnaaGreat
open Go.ChangeShapes Go.WideShapes Go.ChangeAt Go.RowKit Go.Deep
section
variable {H:Type} {enc:TypeId × Value->H} {W:World}
theorem Cd7{α:Type}{p:Nat->α->Prop}:∀n,(∀i,i<n->∃a,p i a)->∃l:List α,l.length=n/\∀i (h:i<l.length),p i l[i]
 | 0,_=>⟨[],rfl,λ i h=>by simp at h⟩
 | n+1,h=>by
  obtain⟨l,hl,hp⟩:=Cd7 n (λ i hi=>h i (by omega));obtain⟨a,ha⟩:=h n (by omega);refine⟨l ++ [a],by simp[hl],λ i hi=>?_⟩;by_cases q:i<l.length
  ·rw[List.getElem_append_left q];exact hp i q
  ·have:i=l.length:=by simp at hi;omega
   subst this;rw[List.getElem_append_right (Nat.le_refl _)];simp only[Nat.sub_self,List.getElem_cons_zero];rw[hl];exact ha
theorem Cw0{n:Int}(h:(Lit.int .u8 n).wf=true):∃c:UInt8,bv c=.int .u8 n:=by
 simp[Lit.wf] at h;have h0:(0:Int)<=n:=h.1;have h1:n<=255:=h.2;refine⟨UInt8.ofNat n.toNat,?_⟩;unfold bv;congr 1
 have:(UInt8.ofNat n.toNat).toNat=n.toNat % 256:=by simp
 rw[this];omega
theorem Ch2{t e:TypeId}{fuel:Nat}{v:Value}{x:DataW H × List MemPlace}(ht:Tryz.prog.underlying t=some (.slice e))(hc:Tryz.prog.cellsOf e=1)(h:DataW.trod enc Tryz.prog W 0 (λ _=>true) true fuel t [v]=some x) :
  ∃ao len cap,v=.slice ao len cap/\len<=cap/\(0<len->∃b off,ao=some ⟨b,off,none⟩/\∀i,i<len->∃u n y,W.cell? ⟨b,off+i,none⟩=some u/\DataW.trod enc Tryz.prog W 0 (λ _=>true) true n e [u]=some y):=by
 rcases open_slice1 ht hc h with⟨e,_⟩ | ⟨a,len,cap,m,n,V,D,Pl,e,_,hl,_,hm,_,hx⟩
 ·cases e;exact⟨none,0,0,rfl,Nat.le_refl _,λ q=>by omega⟩
 ·cases e
  simp only[if_true] at hm;subst hm;refine⟨some a,len,m,rfl,hl,λ hp=>?_⟩;have h0:=(hx 0 (by omega)).1;have hsp:a.spot=none:=by
   have:=World.cell?_spot h0;cases a;simpa [Addr.add] using this
  obtain⟨b,off,spot⟩:=a;simp at hsp;subst hsp;refine⟨b,off,rfl,λ i hi=>?_⟩;obtain⟨c1,c2⟩:=hx i (by omega);rw[P9] at c1;exact⟨V i,n,_,c1,c2⟩
theorem Ch3{fuel:Nat}{v:Value}{x:DataW H × List MemPlace}(h:DataW.trod enc Tryz.prog W 0 (λ _=>true) true fuel 32 [v]=some x):∃l,Rd W v l:=by
 obtain⟨ao,len,cap,rfl,hl,hh⟩:=Ch2 Tryz.underlying32 (by kernel_rfl) h;by_cases hp:0<len
 ·obtain⟨b,off,rfl,hc⟩:=hh hp;obtain⟨l,hlen,hl2⟩:=Cd7 (p:=λ i c=>W.cell? ⟨b,off+i,none⟩=some (bv c)) len (λ i hi=>by
   obtain⟨u,n,y,c1,c2⟩:=hc i hi;obtain⟨k,e,_,hw⟩:=DataW.trod_int Tryz.underlying5 c2;cases e
   obtain⟨c,hc'⟩:=Cw0 hw;exact⟨c,by rw[hc'];exact c1⟩)
  exact⟨l,_,cap,by rw[hlen],by omega,λ _=>⟨b,off,rfl,hl2⟩⟩
 ·obtain rfl:len=0:=by omega
  exact⟨[],ao,cap,rfl,by simp,λ q=>by simp at q⟩
theorem Br9{r:Reach}{b0:Nat}{t e:TypeId}{v:Value}{d:DataW H}{ps:List MemPlace}(ht:Tryz.prog.underlying t=some (.slice e))(hval:Value.okWide Tryz.prog W r b0 t v)(hd:DataW.Trod enc Tryz.prog W 0 (λ _=>true) true t v d ps):∃fuel,DataW.trod enc Tryz.prog W 0 (λ _=>true) true fuel t [v]=some (d,ps):=by
 obtain⟨a,len,cap,rfl⟩:=okWide_slice ht hval;obtain⟨fuel,hf⟩:=hd;exact⟨fuel,hf⟩
theorem Bs0{r:Reach}{b0:Nat}{v:Value}{d:DataW H}{ps:List MemPlace}(hval:Value.okWide Tryz.prog W r b0 32 v)(hd:DataW.Trod enc Tryz.prog W 0 (λ _=>true) true 32 v d ps):∃l,Rd W v l:=by
 obtain⟨fuel,h⟩:=Br9 Tryz.underlying32 hval hd;exact Ch3 h
end
end Go.Proofs.YtgfbepakonjbnaaGreat
end
section
set_option linter.unusedSimpArgs false
set_option linter.unusedVariables false
namespace Go.Proofs.YtgfbepakonjbnaaGreat
open Go.RowKit Go.MapKept Go.ChangeMaps
section
attribute [-go_sem] loadCells storeCells Instr.build
theorem Bx8{w:World}{va vb:Value}{a b:List UInt8}(ha:Rd w va a)(hb:Rd w vb b)(ha0:0<a.length)(hb0:0<b.length) :
  Calls Tryz.prog 226 #[va,vb] w λ e w'=>e=.returned (.bool (decide (a=b)))/\w=w':=by
 have c1:=Ba1 ha ha0;have c2:=Ba1 hb hb0;obtain⟨aa,ca,rfl,_⟩:=ha;obtain⟨ab,cb,rfl,_⟩:=hb;go_enter Tryz.func226,Tryz.ntmps226
 go_wp2_with fail
 go_ret;refine⟨?_,rfl⟩;by_cases h:a=b
 ·rw[Da3 h,decide_eq_true h];rfl
 ·rw[Da4 h,decide_eq_false h];rfl
theorem Rd.sub{w:World}{bk off cap:Nat}{f:List UInt8}(h:Rd w (.slice (some ⟨bk,off,none⟩) f.length cap) f)(i n c:Nat)(hi:i+n<=f.length)(hc:n<=c):Rd w (.slice (some ⟨bk,off+i,none⟩) n c) ((f.drop i).take n):=by
 obtain⟨ao,cp,e,hcp,hh⟩:=h;cases e
 have hl:((f.drop i).take n).length=n:=by rw[List.length_take,List.length_drop];omega
 refine⟨_,_,by rw[hl],by rw[hl];exact hc,λ hp=>?_⟩;rw[hl] at hp;obtain⟨b,o,e,hcell⟩:=hh (by omega);cases e
 refine⟨_,_,rfl,λ k hk=>?_⟩;rw[hl] at hk;have:=hcell (i+k) (by omega);rw[List.getElem_take,List.getElem_drop,Nat.add_assoc];exact this
theorem Bm1{key b rest:List UInt8}(hk:key.length=32)(hb:b.length<4294967296) :
  (D8 key b++rest)[0]?=some 199/\(D8 key b++rest)[1]?=some 70/\num (D8 key b++rest) 2 4=b.length/\(((D8 key b++rest).drop 14).take 32)=key/\(((D8 key b++rest).drop 46).take b.length)=b/\(((D8 key b++rest).drop 6).take 8)=chk key b:=by
 have e:D8 key b++rest=[199,70]++(be 4 b.length++(chk key b++(key++(b++rest)))):=by unfold D8;simp only[List.append_assoc]
 have h4:=E5 4 b.length;have h8:=P4 key b;rw[e];refine⟨rfl,rfl,?_,?_,?_,?_⟩
 ·unfold num;rw[show([199,70]++(be 4 b.length++(chk key b++(key++(b++rest)))):List UInt8).drop 2=be 4 b.length++(chk key b++(key++(b++rest))) from rfl,List.take_append_of_le_length (by omega),List.take_of_length_le (by omega),Bz7];exact Nat.mod_eq_of_lt (by omega)
 ·rw[show(14:Nat)=2+(4+(8+0)) by rfl,← List.append_assoc,← List.append_assoc,List.drop_append_of_le_length (by simp;omega),List.drop_eq_nil_of_le (by simp;omega),List.nil_append,List.take_append_of_le_length (by omega),List.take_of_length_le (by omega)]
 ·rw[← List.append_assoc,← List.append_assoc,← List.append_assoc,List.drop_append_of_le_length (by simp;omega),List.drop_eq_nil_of_le (by simp;omega),List.nil_append,List.take_append_of_le_length (by omega),List.take_of_length_le (by omega)]
 ·rw[← List.append_assoc,List.drop_append_of_le_length (by simp;omega),List.drop_eq_nil_of_le (by simp;omega),List.nil_append,List.take_append_of_le_length (by omega),List.take_of_length_le (by omega)]
theorem I7.other{w w':World}{B:Nat}{v:Value}{l:List UInt8}(h:I7 w B v l)(hk:∀(k:Nat) (c:Array Value),w.heap[k]?=some (.cells c 5 (0,0))->w'.heap[k]?=w.heap[k]?):I7 w' B v l:=by
 refine⟨h.1,?_⟩;rcases h.2 with h | ⟨g,cap,cur,hv,hb,hg,r⟩
 ·exact .inl h
 ·exact .inr ⟨g,cap,cur,hv,hb,(hk g cur hg).trans hg,r⟩
theorem Au2{fn:Func}{p u v x:Tmp}{ty:TypeId}(h:fn.results=#[.cell p ty,.tmp u,.tmp v,.tmp x])(tmps:Array Value)(w:World)(g:Nat)(cs:Array Value)
  (hp:tmps.getD p undef=.pointer (some ⟨g,0,none⟩)) (hl:(loadVar ty ⟨g,0,none⟩).run Tryz.prog w=.ok (.agg cs) w) :
  (results fn tmps).run Tryz.prog w=.ok (.tuple #[.agg cs,tmps.getD u undef,tmps.getD v undef,tmps.getD x undef]) w:=by
 have hp':tmps[p]?.getD undef=.pointer (some ⟨g,0,none⟩):=by simpa using hp
 simp[results,h,hp',asAddr,hl]
theorem Bx9(a:Option Addr)(c:Nat)(w:World):(Instr.arrayAt 35 (.slice a 32 c)).run Tryz.prog w=.ok (.pointer a) w:=by
 simp[Instr.arrayAt,run_underlying Tryz.underlying35]
attribute [local go_sem] Bx9
theorem By0{w:World}{v:Value}{key b rest:List UInt8}(hr:Rd w v (D8 key b++rest))(hk:key.length=32)(hb:b.length<=4200)(hrest:rest.length<=100000) :
  Calls Tryz.prog 177 #[v] w λ e w'=>∃x,e=.returned (.tuple #[.agg (bts key).toArray,x,.int .i64 ((46+b.length:Nat):Int),.int .i64 0])/\I7 w' w.heap.size x b/\Upd [] w w':=by
 obtain⟨p0,p1,p2,p3,p4,p5⟩:=Bm1 (rest:=rest) hk (show b.length<4294967296 by omega);obtain⟨f,hf⟩:∃f,f=D8 key b++rest:=⟨_,rfl⟩;have hfl:f.length=46+b.length+rest.length:=by rw[hf,List.length_append,V3 hk]
 rw[← hf] at hr p0 p1 p2 p3 p4 p5;obtain⟨av,cap,rfl,hcap,hh⟩:=id hr;obtain⟨bk,off,rfl,hcell⟩:=hh (by omega);obtain⟨w1,hw1⟩:∃w1,w1=w.alloc (.cells (bts As5).toArray 35):=⟨_,rfl⟩;obtain⟨b2,hb2⟩:∃b2,b2=w.heap.size:=⟨_,rfl⟩;have hc2:w1.heap[b2]?=some (.cells (bts As5).toArray 35 (0,0)):=by rw[hw1,hb2];exact A4 _
 have hu1:Upd [] w w1:=by rw[hw1];exact(Upd.refl _ _).alloc _
 have hr1:=hr.below hu1;have cell1:∀i x,f[i]?=some x->w1.cell? ⟨bk,off+i,none⟩=some (bv x):=λ i x hx=>by
  obtain⟨hi,rfl⟩:=List.getElem?_eq_some_iff.1 hx;exact Am9 (hcell i hi) hu1 (by simp)
 have m0:w1.cell? ⟨bk,off,none⟩=some (.int .u8 199):=cell1 0 199 p0;have m1:w1.cell? ⟨bk,off+1,none⟩=some (.int .u8 70):=cell1 1 70 p1;have hat:=Am2 _ f 2 4 w1 hr1 (by omega) (by omega) (by omega) (by omega);rw[p2] at hat;have hkey:=hr1.sub 14 32 32 (by omega) (by omega);rw[p3] at hkey;have hdat:=hr1.sub 46 b.length b.length (by omega) (by omega);rw[p4] at hdat;have hsum:=hr1.sub 6 8 (cap-6) (by omega) (by omega);rw[p5] at hsum;obtain⟨N,hN⟩:∃N,N=f.length:=⟨_,rfl⟩;obtain⟨n,hn⟩:∃n,n=b.length:=⟨_,rfl⟩;obtain⟨E,hE⟩:∃E,E=46+n:=⟨_,rfl⟩;rw[← hn] at hat hdat ⊢;rw[← hN] at hat ⊢;rw[show((4:Nat):Int)=4 from rfl,show((2:Nat):Int)=2 from rfl] at hat;rw[← hE];have t0:decide ((N:Int)<46)=false:=decide_eq_false (by omega);have t1:decide ((4200:Int)<(n:Int))=false:=decide_eq_false (by omega);have t2:decide ((N:Int)<(E:Int))=false:=decide_eq_false (by omega);have t3:decide (N<E)=false:=decide_eq_false (by omega);have e1:IntKind.i64.wrap (46+(n:Int))=(E:Int):=by rw[IntKind.wrap_i64];omega
 have e2:IntKind.i64.wrap (n:Int)=(n:Int):=by rw[IntKind.wrap_i64];omega
 have g0:(0:Int)<N:=by omega
 have g1:(1:Int)<N:=by omega
 have g2:(46:Int)<=N:=by omega
 have g3:(46:Int)<=cap:=by omega
 have g4:(46:Int)<=E:=by omega
 have g5:(E:Int)<=cap:=by omega
 have g6:(14:Int)<=cap:=by omega
 have g7:¬cap=6:=by omega
 have g8:¬cap=14:=by omega
 have HAT:=η hat;have HKEY:=η hkey;have HDAT:=η hdat;have HSUM:=η hsum;have HC2:=η hc2;have HU1:=η hu1;have HW1:=η hw1;have HB2:=η hb2;have HNN:=η hn;have HE:=η hE;have HN:=η hN;clear hr hh hcell hc2 hu1 hr1 cell1 hat hkey hdat hsum hw1 hb2 hn hE hN p0 p1 p2 p3 p4 p5 hf hfl hcap;go_enter Tryz.func177,Tryz.ntmps177
 go_upto_region 1 with(fail)
 have hw1:=HW1.out;have hb2:=HB2.out;rw[Ah0,← hw1,← hb2];clear hw1 hb2;go_wp2_with fail
 refine HAT.out.mono ?_;rintro e w' ⟨rfl,rfl⟩;go_wp2_with fail
 go_quiet (fail)
 obtain⟨dv,hdv⟩:∃dv,dv=Value.slice (if E=46 then some ⟨bk,off,none⟩ else some ⟨bk,off+46,none⟩) (E-46) (E-46):=⟨_,rfl⟩;obtain⟨wq,hwq⟩:∃wq,wq=w1.drewN nq:=⟨_,rfl⟩;rw[← hdv,← hwq];have huq:Upd [] w1 wq:=by rw[hwq];exact(Upd.refl _ _).drewN _
 have hdat:Rd w1 dv b:=by
  have e1:=HE.out;have e2:=HNN.out;have hd:=HDAT.out;rw[hdv,show E-46=n by omega];by_cases h0:E=46
  ·rw[if_pos h0];have hn0:b.length=0:=by omega
   obtain rfl:b=[]:=List.length_eq_zero_iff.1 hn0;exact⟨_,_,by rw[e2],by simp,λ q=>by simp at q⟩
  ·rw[if_neg h0];exact hd
 have HCK:∀w',Upd [] w1 w'->Calls Tryz.prog 186 #[.slice (some ⟨bk,off+14,none⟩) 32 32,dv] w' λ e w''=>∃g,e=.returned (.slice (some ⟨g,0,none⟩) 8 8)/\w'.heap.size<=g/\Rd w'' (.slice (some ⟨g,0,none⟩) 8 8) (chk key b)/\Upd [] w' w'':=λ w' hu=>Bb4 (HKEY.out.below hu) (hdat.below hu) (by omega);have HEQ:∀(w':World) g,Upd [] w1 w'->Rd w' (.slice (some ⟨g,0,none⟩) 8 8) (chk key b)->Calls Tryz.prog 226 #[.slice (some ⟨g,0,none⟩) 8 8,.slice (some ⟨bk,off+6,none⟩) 8 (cap-6)] w' λ e w''=>e=.returned (.bool true)/\w'=w'':=λ w' g hu hg=>by
  have:=Bx8 hg (HSUM.out.below hu) (by rw[P4];omega) (by rw[P4];omega);rw[decide_eq_true rfl] at this;exact this
 have HDA:=η hdat;have HUQ:=η huq;have HDV:=η hdv;clear hdv hwq huq hdat;go_upto_region 12 with(fail)
 go_cut [54] (λ s54 wx=>s54=.bool false/\Upd [] w1 wx)
 case first=>
  go_region_law (first | (go_simp;go_at_call 186;(with_reducible refine(HCK _ ?_).mono ?_);(first | exact HUQ.out.drew | exact HUQ.out);rintro e w' ⟨g,rfl,hg1,hg2,hg3⟩;dsimp only) | (go_simp;go_at_call 226;(with_reducible refine(HEQ _ _ ?_ hg2).mono ?_);(first | exact HUQ.out.drew.trans hg3);rintro e w2 ⟨rfl,rfl⟩;dsimp only))
  all_goals
   go_wp2_with fail
   go_meet
   exact⟨rfl,by first | exact(HUQ.out.drew.trans hg3) | exact(HUQ.out.drew.trans hg3).drew⟩
 case rest=>
  rename World=>wx
  obtain⟨rfl,hux⟩:=hcut;have hkr:∀w':World,Upd [] w1 w'->(loadCells ⟨bk,off+14,none⟩ 32).run Tryz.prog w'=.ok (bts key).toArray w':=λ w' hu=>by
   have hr:=HKEY.out.below hu;obtain⟨ao,cp,e,_,hh⟩:=hr;obtain⟨b',o',e2,hcell⟩:=hh (by omega);injection e with q1 q2 q3;rw[← q1] at e2;cases e2
   have:=run_loadCells_list (P:=Tryz.prog) w' ⟨bk,off+14,none⟩ (bts key) (λ j v hv=>by
    rw[Ah6] at hv;obtain⟨c,hc,rfl⟩:=Option.map_eq_some_iff.1 hv;obtain⟨hj,rfl⟩:=List.getElem?_eq_some_iff.1 hc;rw[P9];exact hcell j hj)
   rwa [A5,hk] at this
  have hxd:Upd [] w1 wx.drew:=hux.drew;have hxa:Upd [] w1 (wx.alloc (.cells #[] 5)).drew:=(hux.alloc _).drew;have hrow:I7 (wx.alloc (.cells #[] 5)).drew wx.heap.size (.slice (some ⟨wx.heap.size,0,none⟩) 0 0) []:=
   ⟨by simp,.inr ⟨wx.heap.size,0,_,rfl,Nat.le_refl _,A4 (w:=wx) _,by simp,by unfold maxLen;omega,by simp,by simp⟩⟩
  obtain⟨a,c,w',hrun,hown,hu'⟩:=Ac1 hrow (HDA.out.below hxa) (by simp;omega) (by simp);rw[List.length_nil,Nat.zero_add] at hrun hown;rw[List.nil_append] at hown;have hxw:Upd [] w1 w':=by
   have h0:Upd [] w1 w1:=Upd.refl _ _;exact hu' w1 hux.size hxa
  have ld0:=hkr _ hxd;have ld1:=hkr _ hxa;have ld2:=hkr _ hxw;have hc2':=(hxw.block _ (A3 HC2.out) (by simp)).trans HC2.out;have st:=N5 hc2' (l:=bts key) (by rw[List.size_toArray,A5,A5,hk];rfl) (G5 _);have hkl:(bts key).length=32:=by rw[A5,hk]
  have hik:(Tryz.prog.info? 35).map (·.size)=some (bts key).toArray.size:=by rw[List.size_toArray,A5,hk];exact Bo5
  have HX:Hid (w.heap.size<=wx.heap.size):=η (Nat.le_trans HU1.out.size hux.size);have HOW:=η hown;have HC2W:=η hc2';have HFU:Hid (Upd [] w (w'.setRow b2 (bts key).toArray)):=η (V7 (HU1.out.trans hxw) _ (.inr (by have:=HB2.out;omega)));clear hkr hxd hxa hrow hown hu' hxw hc2' hux;go_wp2_with fail
  go_region_law (first | (refine L8 (by rfl) _ _ _ (by rfl) (by rfl) (by rfl) hrun ?_))
  all_goals
   go_wp2_with fail
   have hbe:=setRow_heap _ _ _ (bts key).toArray _ _ HC2W.out;refine bodyPost_ret (Au2 (p:=2) (u:=3) (v:=4) (x:=5) (ty:=35) (by rfl) _ _ b2 _ (by rfl) (run_loadVar_row _ b2 _ _ _ _ _ hbe Tryz.underlying35 rfl hik)) (by rfl) ?_;refine⟨_,by rw[HE.out,HNN.out];rfl,?_,HFU.out⟩;refine(HOW.out.low HX.out).other (λ k c e=>setRow_other _ _ _ _ ?_);rintro rfl;rw[HC2W.out] at e;injection e with e;injection e with q1 q2;exact absurd q2 (by decide)
end
section
attribute [local go_sem] Oper.semAt_some
theorem Cb0{w:World}{B:Nat}{v x:Value}{l lx:List UInt8}(hp:I7 w B v l)(hx:Rd w x lx)(hx0:0<lx.length)(hln:l.length+lx.length<=100000)(hB:B<=w.heap.size) :
  ∃a c w' S,(∀ty,(Builtin.append_ #[32,32] ty #[v,x]).run Tryz.prog w=.ok (.slice a (l.length+lx.length) c) w')/\I7 w' B (.slice a (l.length+lx.length) c) (l++lx)/\
   Upd S w w'/\∀k,k∈S->B<=k/\∃c,w.heap[k]?=some (.cells c 5 (0,0)):=by
 obtain⟨ao,cap,rfl,hcx,hh⟩:=hx.cells;obtain⟨i0,hi0,hz0,hz1,hz2⟩:=info_parts Ao7;obtain⟨ad,rfl,hcell⟩:=hh hx0;obtain⟨v',w',hrun,hown,hg,_⟩:=run_append_own (P:=Tryz.prog) w B 32 0 5 i0 (.int .u8 0) 1 1 Tryz.underlying32 hi0 hz0 hz1 hz2 rfl (by decide) v l.length _ hp ad lx.length cap (bts lx) (by rw[A5,Nat.mul_one])
  (λ k u hj=>hcell k u hj) (G5 _) (by unfold maxLen;omega) (by omega) hB
 have hsh:∃a c,v'=.slice a (l.length+lx.length) c:=by
  rcases hown.2 with⟨h,h0⟩ | ⟨g,cap,cur,h,_⟩
  ·exact⟨none,0,by rw[h,h0]⟩
  ·exact⟨_,_,h⟩
 obtain⟨a,c',rfl⟩:=hsh;have hbr:I7 w' B (.slice a (l.length+lx.length) c') (l++lx):=by
  unfold I7;rw[List.length_append,show bts (l++lx)=bts l++bts lx by simp[bts]];exact hown
 rcases hp.2 with⟨rfl,_⟩ | ⟨g,cap,cur,rfl,hb,hgb,_⟩
 ·exact⟨a,c',w',[],λ _=>hrun,hbr,⟨hg.os,hg.tape,hg.output,hg.size,λ k hk _=>hg.block k hk (by simp[Value.ownBlock])⟩,by simp⟩
 ·refine⟨a,c',w',[g],λ _=>hrun,hbr,⟨hg.os,hg.tape,hg.output,hg.size,λ k hk hs=>hg.block k hk (by simp[Value.ownBlock];simp at hs;exact λ e=>hs e)⟩,?_⟩;intro k hk;simp at hk;subst hk;exact⟨hb,_,hgb⟩
def rdV(av:Option Addr)(nv cv bk cp pb fr tt:Nat)(ao:Option Addr)(no co:Nat):List (Nat × Nat × Value):=[(0,29,.slice av nv cv),(1,30,.slice (some ⟨bk,0,none⟩) 512 cp),(2,31,.pointer (some ⟨pb,1,none⟩)),(3,32,.int .i64 (fr:Int)),(4,33,.pointer (some ⟨pb,2,none⟩)),(5,34,.int .i64 (tt:Int)),(6,35,.slice (some ⟨bk,fr,none⟩) (tt-fr) (cp-fr)),(7,36,.slice ao no co)]
structure RdJ(w W:World)(g:Sg)(M:Nat->Option Sec)(s a0 n0:Nat)(d:List UInt8)(q a' n' f':Nat)(vo:Value):Prop where
 le:n'<=f'
 sum:a'+n'=a0+n0
 from_:a0<=a'
 drop:(pcs s n0 a0 n0).drop q=pcs s f' a' n'
 sp:B7 W g M
 b1:W.heap[w.heap.size+1]?=some (.cells #[.pointer (some ⟨g.x.tb,0,none⟩)] 28 (0,0))
 b2:W.heap[w.heap.size+1+1]?=some (.cells #[.slice none 0 0] 32 (0,0))
 b3:W.heap[w.heap.size+1+1+1]?=some (.cells #[.int .i64 0] 29 (0,0))
 b4:W.heap[w.heap.size+1+1+1+1]?=some (.cells #[vo] 32 (0,0))
 row:I7 W (w.heap.size+10) vo ((d.drop a0).take (a'-a0))
 b5:∃v,W.heap[w.heap.size+1+1+1+1+1+1]?=some (.cells #[v] 3 (0,0))
 upd:Upd [g.j.jb] w W
def RdI(w W:World)(g:Sg)(M:Nat->Option Sec)(s a0 n0:Nat)(d:List UInt8)(q:Nat):Prop:=∃a' n' f' vo,RdJ w W g M s a0 n0 d q a' n' f' vo
theorem RdJ.keep{w W W':World}{g:Sg}{M:Nat->Option Sec}{s a0 n0:Nat}{d:List UInt8}{q a' n' f':Nat}{vo:Value}(h:RdJ w W g M s a0 n0 d q a' n' f' vo)(h0:B7 w g M){S:List Nat}(hu:Upd S W W')
  (hS:∀k,k∈S->w.heap.size<=k/\k≠w.heap.size+1/\k≠w.heap.size+1+1/\k≠w.heap.size+1+1+1/\k≠w.heap.size+1+1+1+1/\∀c,W.heap[k]?≠some (.cells c 5 (0,0)))
  (h5:∃v,W'.heap[w.heap.size+1+1+1+1+1+1]?=some (.cells #[v] 3 (0,0))):RdJ w W' g M s a0 n0 d q a' n' f' vo:=by
 refine⟨h.le,h.sum,h.from_,h.drop,h0.late h.sp h.upd hu (λ k hk=>(hS k hk).1),?_,?_,?_,?_,?_,h5,?_⟩
 ·exact(hu.block _ (A3 h.b1) (λ q=>(hS _ q).2.1 rfl)).trans h.b1
 ·exact(hu.block _ (A3 h.b2) (λ q=>(hS _ q).2.2.1 rfl)).trans h.b2
 ·exact(hu.block _ (A3 h.b3) (λ q=>(hS _ q).2.2.2.1 rfl)).trans h.b3
 ·exact(hu.block _ (A3 h.b4) (λ q=>(hS _ q).2.2.2.2.1 rfl)).trans h.b4
 ·exact h.row.other λ k c e=>hu.block _ (A3 e) (λ q=>(hS _ q).2.2.2.2.2 c e)
 ·exact h.upd.late hu (λ i hi=> .inr (hS i hi).1)
theorem Cb1{w:World}{g:Sg}{M:Nat->Option Sec}(h:B7 w g M)(hh2:g.h<=4096)(s u v a0 n0:Nat)(d:List UInt8)(hs2:s+16<=g.h)(ha:a0+n0<=d.length)(hdl:d.length<=8192)
  (hd:PkD (g.cur M) s d) :
  Calls Tryz.prog 176 #[stV (s,u,v),.pointer (some ⟨g.x.tb,0,none⟩),.int .i64 (a0:Int),.int .i64 (n0:Int)] w λ e w'=>∃x,e=.returned (.tuple #[x,.int .i64 0])/\I7 w' w.heap.size x ((d.drop a0).take n0)/\B7 w' g M/\Upd [g.j.jb] w w':=by
 have hlt:=h.lt;obtain⟨w4,hw4⟩:∃w4,w4=((((w.alloc (.cells #[.int .i64 (s:Int),.int .i64 (u:Int),.int .i64 (v:Int)] 200)).alloc (.cells #[.pointer (some ⟨g.x.tb,0,none⟩)] 28)).alloc (.cells #[.slice none 0 0] 32)).alloc (.cells #[.int .i64 0] 29)).alloc (.cells #[.slice none 0 0] 32):=⟨_,rfl⟩;unfold stV;refine(callsIn_wide (n:=5)).1 ?_;refine callsIn_of_wp_marks Tryz.func176 rfl trivial ?_ rfl;simp only[Tryz.ntmps176,List.size_toArray,List.length_cons,List.length_nil,Nat.reduceAdd,Nat.reduceSub,Array.replicate_succ,Array.replicate_zero,List.push_toArray,List.append_toArray,List.nil_append,List.cons_append];gi_wp2_with fail
 refine⟨trivial,(callsIn_wide.2 (Ay0 _ _ _ _ _ _)).mono ?_⟩;rintro e w7 ⟨rfl,hw7⟩;rw[← hw4] at hw7;have e4:w4.heap.size=w.heap.size+1+1+1+1+1:=by rw[hw4];simp
 have e7:w7.heap.size=w.heap.size+1+1+1+1+1+1+1+1:=by rw[hw7];simp[e4]
 rw[← hw4,e4];have hu4:Upd [] w w4:=by rw[hw4];exact(((((Upd.refl _ _).alloc _).alloc _).alloc _).alloc _).alloc _
 have hu7:Upd [] w w7:=by rw[hw7];exact((hu4.alloc _).alloc _).alloc _
 have hB1:w7.heap[w.heap.size+1]?=some (.cells #[.pointer (some ⟨g.x.tb,0,none⟩)] 28 (0,0)):=by rw[hw7,hw4];simp only[M9,World.size_alloc];repeat (first | rw[if_pos trivial] | rw[if_pos rfl] | rw[if_neg (by omega)])
 have hB2:w7.heap[w.heap.size+1+1]?=some (.cells #[.slice none 0 0] 32 (0,0)):=by rw[hw7,hw4];simp only[M9,World.size_alloc];repeat (first | rw[if_pos trivial] | rw[if_pos rfl] | rw[if_neg (by omega)])
 have hB3:w7.heap[w.heap.size+1+1+1]?=some (.cells #[.int .i64 0] 29 (0,0)):=by rw[hw7,hw4];simp only[M9,World.size_alloc];repeat (first | rw[if_pos trivial] | rw[if_pos rfl] | rw[if_neg (by omega)])
 have hB4:w7.heap[w.heap.size+1+1+1+1]?=some (.cells #[.slice none 0 0] 32 (0,0)):=by rw[hw7,hw4];simp only[M9,World.size_alloc];repeat (first | rw[if_pos trivial] | rw[if_pos rfl] | rw[if_neg (by omega)])
 have hB5:w7.heap[w.heap.size+1+1+1+1+1]?=some (.cells #[.int .i64 (s:Int),.int .i64 (u:Int),.int .i64 (v:Int)] 200 (0,0)):=by rw[hw7,hw4];simp only[M9,World.size_alloc];repeat (first | rw[if_pos trivial] | rw[if_pos rfl] | rw[if_neg (by omega)])
 have hB6:w7.heap[w.heap.size+1+1+1+1+1+1]?=some (.cells #[.int .i64 (a0:Int)] 3 (0,0)):=by rw[hw7,hw4];simp only[M9,World.size_alloc];repeat (first | rw[if_pos trivial] | rw[if_pos rfl] | rw[if_neg (by omega)])
 have hB7:w7.heap[w.heap.size+1+1+1+1+1+1+1]?=some (.cells #[.int .i64 (n0:Int)] 3 (0,0)):=by rw[hw7,hw4];simp only[M9,World.size_alloc];repeat (first | rw[if_pos trivial] | rw[if_pos rfl] | rw[if_neg (by omega)])
 clear hw4 hw7;gi_wp2_with fail
 refine Ab2 rfl (by omega) (gf:=255) (encs:=Ci7) (L:=pcs s n0 a0 n0) (bs:=[w.heap.size+1+1+1+1+1+1,w.heap.size+1+1+1+1+1+1+1,w.heap.size+1+1+1+1+1]) (b1:=w.heap.size+1+1+1+1+1+1) (lb:=#[.pointer (some ⟨w.heap.size+1+1+1+1+1+1,0,none⟩),.pointer (some ⟨w.heap.size+1+1+1+1+1+1+1,0,none⟩),.pointer (some ⟨w.heap.size+1+1+1+1+1,0,none⟩)]) rfl trivial
  (enters_of Tryz.func255 (by kernel_rfl) rfl) (Ar9 hB6 hB7 hB5 (by omega) (by omega) (by omega) (by omega) _) (λ b hb=>?_) (by omega) (λ _=>rfl)
  (λ q W=>RdI w W g M s a0 n0 d q) ?_ ?_ ?_ ?_ ?_
 ·simp at hb;omega
 ·intro q W W' hI hu hn;obtain⟨a1,n1,f1,v1,hJ⟩:=hI;obtain⟨v5,b5⟩:=hJ.b5;refine⟨a1,n1,f1,v1,hJ.keep h hu (λ k hk=>?_) ⟨v5,(hu.block _ (A3 b5) (by simp;omega)).trans b5⟩⟩;have hk':=hk;simp at hk';refine⟨by omega,by omega,by omega,by omega,by omega,λ c e=>hn k hk _ e⟩
 ·intro q W v' hI;obtain⟨a1,n1,f1,v1,hJ⟩:=hI;obtain⟨v5,b5⟩:=hJ.b5;refine⟨a1,n1,f1,v1,hJ.keep h (S:=[w.heap.size+1+1+1+1+1+1]) ((Upd.refl _ _).set _ (by simp)) (λ k hk=>?_) ⟨v',by rw[A8 b5];rfl⟩⟩;simp at hk;subst hk;refine⟨by omega,by omega,by omega,by omega,by omega,λ c e=>?_⟩;rw[b5] at e;injection e with e;injection e with _ q2;exact absurd q2 (by decide)
 ·exact⟨a0,n0,n0,_,⟨Nat.le_refl _,rfl,Nat.le_refl _,rfl,h.below hu7,hB1,hB2,hB3,hB4,by rw[Nat.sub_self,List.take_zero];exact I7.nil _ _,⟨_,hB6⟩,hu7.mono (by simp)⟩⟩
 ·intro l q x W hl hx hI hlW;obtain⟨a',n',f',vo,hJ⟩:=hI;obtain⟨hpos,rfl,f2,hf2,hdn⟩:=Bt8 hJ.le hJ.drop hx;obtain⟨v5,b5⟩:=hJ.b5;obtain⟨fr,hfr⟩:∃fr,fr=a' % 512:=⟨_,rfl⟩;obtain⟨k,hk⟩:∃k,k=min (512-fr) n':=⟨_,rfl⟩;obtain⟨se,hse⟩:∃se,se=s+a' / 512:=⟨_,rfl⟩;obtain⟨tt,htt⟩:∃tt,tt=fr+k:=⟨_,rfl⟩;rw[← hfr,← hk] at hdn;rw[← hfr,← hk,← hse,← htt];unfold Ci7;dsimp only;obtain⟨pb,hpb⟩:∃pb,pb=W.heap.size:=⟨_,rfl⟩;obtain⟨W1,hW1⟩:∃W1,W1=W.alloc (.cells #[.int .i64 (se:Int),.int .i64 (fr:Int),.int .i64 (tt:Int)] 317):=⟨_,rfl⟩;have hB1':W1.heap[pb]?=some (.cells #[.int .i64 (se:Int),.int .i64 (fr:Int),.int .i64 (tt:Int)] 317 (0,0)):=by rw[hW1,hpb];exact A4 _
  have hU1:Upd [] W W1:=by rw[hW1];exact(Upd.refl _ _).alloc _
  have HFR:=η hfr;have HKK:=η hk;have HSE:=η hse;have HTT:=η htt;have HPB:=η hpb;have HW1:=η hW1;have HE7:=η e7;have HL:=η hl;clear hW1 hfr hk hse htt hpb e7 e4 hl;gi_wp2_with fail
  have hpb:=HPB.out;have hW1:=HW1.out;rw[← hW1];clear hW1 hpb;have hwl:w7.heap.size<=W.heap.size:=by have:=HL.out;omega
  have hJ1:RdJ w W1 g M s a0 n0 d q a' n' f' vo:=hJ.keep h (S:=[]) hU1 (by simp) ⟨v5,(hU1.block _ (A3 b5) (by simp)).trans b5⟩;refine⟨λ b hb=>hU1.block _ (by have:=HL.out;simp at hb;omega) (by simp),λ W2 hu2 ho2=>?_⟩;have hJ2:RdJ w W2 g M s a0 n0 d q a' n' f' vo:=hJ1.keep h hu2 (λ k hk=>by
   have e7:=HE7.out;have hl:=HL.out;simp at hk;subst hk;refine⟨by omega,by omega,by omega,by omega,by omega,λ c e=>?_⟩;obtain⟨o,ho,hn⟩:=ho2;rw[e] at ho;cases ho
   exact hn) (by
   have e7:=HE7.out;have hl:=HL.out;have b5':=(hU1.block _ (A3 b5) (by simp)).trans b5;exact⟨v5,(hu2.block _ (A3 b5') (by simp;omega)).trans b5'⟩)
  have hB2':W2.heap[pb]?=some (.cells #[.int .i64 (se:Int),.int .i64 (fr:Int),.int .i64 (tt:Int)] 317 (0,0)):=(hu2.block _ (A3 hB1') (by
   have e7:=HE7.out;have hl:=HL.out;have hpb:=HPB.out;simp;omega)).trans hB1'
  have c1:W2.cell? ⟨w.heap.size+1,0,none⟩=some (.pointer (some ⟨g.x.tb,0,none⟩)):=by rw[A2 hJ2.b1];rfl
  have p0:W2.cell? ⟨W.heap.size,0,none⟩=some (.int .i64 (se:Int)):=by rw[← HPB.out,A2 hB2'];rfl
  have HRD:=η (As6 hJ2.sp se (by
   have h1:=HSE.out;have h2:=hJ.sum;have h3:=hpos;omega))
  have HJ:=η hJ;have HJ2:=η hJ2;have HB2:=η hB2';have HU2:=η hu2;have HU1W:=η hU1;have HDN:=η hdn;have HF2:=η hf2;clear hJ hJ1 hJ2 hB2' hu2 ho2 hU1 hB1' hdn hf2 hx b5;gi_wp2_with fail
  refine⟨trivial,(CallsIn.inRound l (callsIn_wide.2 HRD.out)).mono ?_⟩;rintro e W3 ⟨bv0,rfl,ho,h3,hu3⟩;have hLl:=HJ2.out.sp.cur_len se;obtain⟨L,hL⟩:∃L,L=g.cur M se:=⟨_,rfl⟩;rw[← hL] at ho hLl;obtain⟨bk,bc,rfl,hbc,hbk,-⟩:=ho.sec hLl;obtain⟨bk',rest,hbk',ebk,hrow⟩:=ho.own (by omega);obtain⟨rfl,rfl⟩:bk=bk'/\L.length+rest.length=bc:=by
   injection ebk with e1 e2 e3;injection e1 with e1;injection e1 with e1;exact⟨e1,e3.symm⟩
  have hlt3:∀k,k∈[g.j.jb]->k<w.heap.size:=λ k hk=>hlt.1 k (g.mem k hk);have hne3:∀k,w.heap.size<=k->k∉[g.j.jb]:=λ k hk q=>by have:=hlt3 k q;omega
  have b1:=(hu3.block _ (A3 HJ2.out.b1) (hne3 _ (by omega))).trans HJ2.out.b1;have b2:=(hu3.block _ (A3 HJ2.out.b2) (hne3 _ (by omega))).trans HJ2.out.b2;have b3:=(hu3.block _ (A3 HJ2.out.b3) (hne3 _ (by omega))).trans HJ2.out.b3;have b4:=(hu3.block _ (A3 HJ2.out.b4) (hne3 _ (by omega))).trans HJ2.out.b4;have bp:=(hu3.block _ (A3 HB2.out) (hne3 _ (by have:=HPB.out;have:=HE7.out;omega))).trans HB2.out;have row3:I7 W3 (w.heap.size+10) vo ((d.drop a0).take (a'-a0)):=HJ2.out.row.other λ k c e=>hu3.block _ (A3 e) (λ q=>by
   simp at q;subst q;have:=HJ2.out.sp.jr.at_.st;rw[this] at e;injection e with e;injection e with _ q2;exact absurd q2 (by decide))
  have hsum:=HJ2.out.sum;have hfrm:=HJ2.out.from_;have hpl:((d.drop a0).take (a'-a0)).length=a'-a0:=by rw[List.length_take,List.length_drop];omega
  obtain⟨av,cv,rfl,_,_⟩:=row3.shape;rw[hpl] at row3 b4;have hfr512:fr<512:=by have:=HFR.out;omega
  have hkl:k<=n'/\fr+k<=512/\1<=k:=by have:=HKK.out;omega
  have htt:=HTT.out;have hpart:(L.drop fr).take k=(d.drop a').take k:=by
   have:=hd.part (a:=a') (k:=k) (by have:=HFR.out;omega) (by omega) (by rw[← HSE.out,← hL];exact hLl);rw[← HFR.out,← HSE.out,← hL] at this;exact this
  have hrs:Rd W3.drew (.slice (some ⟨bk,fr,none⟩) (tt-fr) (L.length+rest.length-fr)) ((d.drop a').take k):=by
   have h0:Rd W3 (.slice (some ⟨bk,0,none⟩) L.length (L.length+rest.length)) L:=by
    have:=(ho.own (by omega)).rd;rw[hLl] at *;exact this
   have:=h0.sub fr k (L.length+rest.length-fr) (by omega) (by omega);rw[hpart,Nat.zero_add,show k=tt-fr by omega] at this;rw[show k=tt-fr by omega];exact this.below ((Upd.refl _ _).drew)
  have hsl:((d.drop a').take k).length=k:=by rw[List.length_take,List.length_drop];omega
  obtain⟨ao,co,W4,S4,hcp0,hrow4,hu4',hS4⟩:=Cb0 (B:=w.heap.size+10) (row3.keep ((Upd.refl [] W3).drew)) hrs (by omega) (by rw[hpl];omega) (by
   have h1:=HE7.out;have h2:=HL.out;have h3:=HU1W.out.size;have h4:=HU2.out.size;have h5:=hu3.size;show _<=W3.heap.size
   omega)
  rw[hpl,hsl] at hcp0 hrow4;obtain⟨no,hno⟩:∃no,no=a'-a0+k:=⟨_,rfl⟩;obtain⟨nv,hnv⟩:∃nv,nv=a'-a0:=⟨_,rfl⟩;rw[hpl] at *;rw[← hno,← hnv] at hcp0;rw[← hno] at hrow4;rw[← hnv] at b4;have hcp:∀ty,(Builtin.append_ #[32,32] ty #[.slice av nv cv,.slice (some ⟨bk,fr,none⟩) (tt-fr) (512+rest.length-fr)]).run Tryz.prog W3.drew=.ok (.slice ao no co) W4:=by
   rw[← hLl];exact hcp0
  have hu4w:Upd S4 W3 W4:=((Upd.refl _ _).drew).trans hu4';have hS4':∀k,k∈S4->w.heap.size+10<=k/\∃c,W3.heap[k]?=some (.cells c 5 (0,0)):=hS4;have hno4:∀(k:Nat) (c:Array Value) (T:TypeId) (fr:Nat × Nat),W3.heap[k]?=some (.cells c T fr)->T≠5->k∉S4:=λ k c T fr e hT q=>by
   obtain⟨_,c2,e2⟩:=hS4' k q;rw[e] at e2;injection e2 with e2;injection e2 with _ q2;exact hT q2
  have HU3:=η hu3;have HU4:=η hu4w;have HL2:=η hL;have HSP3:=η h3;have HROW:=η hrow4;have HS4:=η hS4';have HNO:=η hno;have HNV:=η hnv;have m2:W3.cell? ⟨w.heap.size+1+1+1+1,0,none⟩=some (.slice av nv cv):=by rw[A2 b4];rfl
  have q1:W3.cell? ⟨W.heap.size,1,none⟩=some (.int .i64 (fr:Int)):=by rw[← HPB.out,A2 bp];rfl
  have q2:W3.cell? ⟨W.heap.size,2,none⟩=some (.int .i64 (tt:Int)):=by rw[← HPB.out,A2 bp];rfl
  have b1':=(hu4w.block _ (A3 b1) (hno4 _ _ _ _ b1 (by decide))).trans b1;have b2':=(hu4w.block _ (A3 b2) (hno4 _ _ _ _ b2 (by decide))).trans b2;have b3':=(hu4w.block _ (A3 b3) (hno4 _ _ _ _ b3 (by decide))).trans b3;have b4':=(hu4w.block _ (A3 b4) (hno4 _ _ _ _ b4 (by decide))).trans b4;have m2_:W3.drew.cell? ⟨w.heap.size+1+1+1+1,0,none⟩=some (.slice av nv cv):=m2;have q1_:W3.drew.cell? ⟨W.heap.size,1,none⟩=some (.int .i64 (fr:Int)):=q1;have q2_:W3.drew.cell? ⟨W.heap.size,2,none⟩=some (.int .i64 (tt:Int)):=q2;have n2_:W4.cell? ⟨w.heap.size+1+1+1+1,0,none⟩=some (.slice av nv cv):=by rw[A2 b4'];rfl
  have fz_:=B6 b4' 0;obtain⟨W5,hW5⟩:∃W5,W5=W4.setCell ⟨w.heap.size+1+1+1+1,0,none⟩ (.slice ao no co):=⟨_,rfl⟩;have HW5:=η hW5;have HB1C:=η b1';have HB2C:=η b2';have HB3C:=η b3';have HB4C:=η b4';have i0:(0:Int)<=(fr:Int):=by omega
  have i1:(fr:Int)<=(tt:Int):=by omega
  have i2:(tt:Int)<=512+(rest.length:Int):=by omega
  have i6:fr<=tt:=by omega
  have i3:¬(512+rest.length=fr):=by omega
  clear hW5 m2 q1 q2 b1' b2' b3' b4' hu4' hu4w hu3 h3 ho row3 b1 b2 b3 b4 bp hrow hL hbk' ebk htt hbk hrs hsl hpl hcp0 hrow4 hS4 hS4' hno hnv hpart c1 p0 hno4;gi_wp2_with fail
  --REG
  refine Ao2 (λ L=>(if L 7=true then(if L 8=true then W5 else W4) else W3.drew)) (rdV av nv cv bk (512+rest.length) W.heap.size fr tt ao no co) (by kernel_rfl) (by kernel_rfl) 38 rfl rfl rfl ?_ ?_
  ·intro i o L tmps w' ho hI hL hd hcl;have hi:i<9:=(Array.getElem?_eq_some_iff.1 ho).1;have t10:tmps[10]?.getD undef=.pointer (some ⟨w.heap.size+1+1+1+1,0,none⟩):=(hI.old 10 (by rfl)).trans rfl;have t11:tmps[11]?.getD undef=.pointer (some ⟨W.heap.size,0,none⟩):=(hI.old 11 (by rfl)).trans rfl;have t12:tmps[12]?.getD undef=.slice (some ⟨bk,0,none⟩) 512 (512+rest.length):=(hI.old 12 (by rfl)).trans rfl;obtain rfl | rfl | rfl | rfl | rfl | rfl | rfl | rfl | rfl:i=0∨i=1∨i=2∨i=3∨i=4∨i=5∨i=6∨i=7∨i=8:=by omega
   ·cases ho
    have g7:L 7=false:=hcl.not_up (i:=0) (s:=7) 9 (by kernel_rfl) hL;have g8:L 8=false:=hcl.not_up (i:=0) (s:=8) 9 (by kernel_rfl) hL;have hw0:w'=W3.drew:=by rw[hI.wd];simp[g7,g8]
    have m2:w'.cell? ⟨w.heap.size+1+1+1+1,0,none⟩=some (.slice av nv cv):=by rw[hw0];exact m2_
    have q1:w'.cell? ⟨W.heap.size,1,none⟩=some (.int .i64 (fr:Int)):=by rw[hw0];exact q1_
    have q2:w'.cell? ⟨W.heap.size,2,none⟩=some (.int .i64 (tt:Int)):=by rw[hw0];exact q2_
    have HW0:=η hw0;clear hw0;refine wpOpIn_step rfl (λ K hK=>?_);go_simp;exact hK _ _ (hI.val_step 0 29 (.slice av nv cv) (by decide) (by rw[hI.wd];rfl) (by simp[rdV]) (by kernel_rfl))
   ·cases ho
    have g7:L 7=false:=hcl.not_up (i:=1) (s:=7) 9 (by kernel_rfl) hL;have g8:L 8=false:=hcl.not_up (i:=1) (s:=8) 9 (by kernel_rfl) hL;have hw0:w'=W3.drew:=by rw[hI.wd];simp[g7,g8]
    have m2:w'.cell? ⟨w.heap.size+1+1+1+1,0,none⟩=some (.slice av nv cv):=by rw[hw0];exact m2_
    have q1:w'.cell? ⟨W.heap.size,1,none⟩=some (.int .i64 (fr:Int)):=by rw[hw0];exact q1_
    have q2:w'.cell? ⟨W.heap.size,2,none⟩=some (.int .i64 (tt:Int)):=by rw[hw0];exact q2_
    have HW0:=η hw0;clear hw0;refine wpOpIn_step rfl (λ K hK=>?_);go_simp;exact hK _ _ (hI.val_step 1 30 (.slice (some ⟨bk,0,none⟩) 512 (512+rest.length)) (by decide) (by rw[hI.wd];rfl) (by simp[rdV]) (by kernel_rfl))
   ·cases ho
    have g7:L 7=false:=hcl.not_up (i:=2) (s:=7) 9 (by kernel_rfl) hL;have g8:L 8=false:=hcl.not_up (i:=2) (s:=8) 9 (by kernel_rfl) hL;have hw0:w'=W3.drew:=by rw[hI.wd];simp[g7,g8]
    have m2:w'.cell? ⟨w.heap.size+1+1+1+1,0,none⟩=some (.slice av nv cv):=by rw[hw0];exact m2_
    have q1:w'.cell? ⟨W.heap.size,1,none⟩=some (.int .i64 (fr:Int)):=by rw[hw0];exact q1_
    have q2:w'.cell? ⟨W.heap.size,2,none⟩=some (.int .i64 (tt:Int)):=by rw[hw0];exact q2_
    have HW0:=η hw0;clear hw0;refine wpOpIn_step rfl (λ K hK=>?_);go_simp;exact hK _ _ (hI.val_step 2 31 (.pointer (some ⟨W.heap.size,1,none⟩)) (by decide) (by rw[hI.wd];rfl) (by simp[rdV]) (by kernel_rfl))
   ·cases ho
    have t31:tmps[31]?.getD undef=.pointer (some ⟨W.heap.size,1,none⟩):=hI.val (2,31,_) (by simp[rdV]) (hd ⟨2,.data⟩ (by simp) rfl);have g7:L 7=false:=hcl.not_up (i:=3) (s:=7) 9 (by kernel_rfl) hL;have g8:L 8=false:=hcl.not_up (i:=3) (s:=8) 9 (by kernel_rfl) hL;have hw0:w'=W3.drew:=by rw[hI.wd];simp[g7,g8]
    have m2:w'.cell? ⟨w.heap.size+1+1+1+1,0,none⟩=some (.slice av nv cv):=by rw[hw0];exact m2_
    have q1:w'.cell? ⟨W.heap.size,1,none⟩=some (.int .i64 (fr:Int)):=by rw[hw0];exact q1_
    have q2:w'.cell? ⟨W.heap.size,2,none⟩=some (.int .i64 (tt:Int)):=by rw[hw0];exact q2_
    have HW0:=η hw0;clear hw0;refine wpOpIn_step rfl (λ K hK=>?_);go_simp;exact hK _ _ (hI.val_step 3 32 (.int .i64 (fr:Int)) (by decide) (by rw[hI.wd];rfl) (by simp[rdV]) (by kernel_rfl))
   ·cases ho
    have g7:L 7=false:=hcl.not_up (i:=4) (s:=7) 9 (by kernel_rfl) hL;have g8:L 8=false:=hcl.not_up (i:=4) (s:=8) 9 (by kernel_rfl) hL;have hw0:w'=W3.drew:=by rw[hI.wd];simp[g7,g8]
    have m2:w'.cell? ⟨w.heap.size+1+1+1+1,0,none⟩=some (.slice av nv cv):=by rw[hw0];exact m2_
    have q1:w'.cell? ⟨W.heap.size,1,none⟩=some (.int .i64 (fr:Int)):=by rw[hw0];exact q1_
    have q2:w'.cell? ⟨W.heap.size,2,none⟩=some (.int .i64 (tt:Int)):=by rw[hw0];exact q2_
    have HW0:=η hw0;clear hw0;refine wpOpIn_step rfl (λ K hK=>?_);go_simp;exact hK _ _ (hI.val_step 4 33 (.pointer (some ⟨W.heap.size,2,none⟩)) (by decide) (by rw[hI.wd];rfl) (by simp[rdV]) (by kernel_rfl))
   ·cases ho
    have t33:tmps[33]?.getD undef=.pointer (some ⟨W.heap.size,2,none⟩):=hI.val (4,33,_) (by simp[rdV]) (hd ⟨4,.data⟩ (by simp) rfl);have g7:L 7=false:=hcl.not_up (i:=5) (s:=7) 9 (by kernel_rfl) hL;have g8:L 8=false:=hcl.not_up (i:=5) (s:=8) 9 (by kernel_rfl) hL;have hw0:w'=W3.drew:=by rw[hI.wd];simp[g7,g8]
    have m2:w'.cell? ⟨w.heap.size+1+1+1+1,0,none⟩=some (.slice av nv cv):=by rw[hw0];exact m2_
    have q1:w'.cell? ⟨W.heap.size,1,none⟩=some (.int .i64 (fr:Int)):=by rw[hw0];exact q1_
    have q2:w'.cell? ⟨W.heap.size,2,none⟩=some (.int .i64 (tt:Int)):=by rw[hw0];exact q2_
    have HW0:=η hw0;clear hw0;refine wpOpIn_step rfl (λ K hK=>?_);go_simp;exact hK _ _ (hI.val_step 5 34 (.int .i64 (tt:Int)) (by decide) (by rw[hI.wd];rfl) (by simp[rdV]) (by kernel_rfl))
   ·cases ho
    have t30:tmps[30]?.getD undef=.slice (some ⟨bk,0,none⟩) 512 (512+rest.length):=hI.val (1,30,_) (by simp[rdV]) (hd ⟨1,.data⟩ (by simp) rfl);have t32:tmps[32]?.getD undef=.int .i64 (fr:Int):=hI.val (3,32,_) (by simp[rdV]) (hd ⟨3,.data⟩ (by simp) rfl);have t34:tmps[34]?.getD undef=.int .i64 (tt:Int):=hI.val (5,34,_) (by simp[rdV]) (hd ⟨5,.data⟩ (by simp) rfl);have g7:L 7=false:=hcl.not_up (i:=6) (s:=7) 9 (by kernel_rfl) hL;have g8:L 8=false:=hcl.not_up (i:=6) (s:=8) 9 (by kernel_rfl) hL;have hw0:w'=W3.drew:=by rw[hI.wd];simp[g7,g8]
    have m2:w'.cell? ⟨w.heap.size+1+1+1+1,0,none⟩=some (.slice av nv cv):=by rw[hw0];exact m2_
    have q1:w'.cell? ⟨W.heap.size,1,none⟩=some (.int .i64 (fr:Int)):=by rw[hw0];exact q1_
    have q2:w'.cell? ⟨W.heap.size,2,none⟩=some (.int .i64 (tt:Int)):=by rw[hw0];exact q2_
    have HW0:=η hw0;clear hw0;refine wpOpIn_step rfl (λ K hK=>?_);go_simp;exact hK _ _ (hI.val_step 6 35 (.slice (some ⟨bk,fr,none⟩) (tt-fr) (512+rest.length-fr)) (by decide) (by rw[hI.wd];rfl) (by simp[rdV]) (by kernel_rfl))
   ·cases ho
    have t29:tmps[29]?.getD undef=.slice av nv cv:=hI.val (0,29,_) (by simp[rdV]) (hd ⟨0,.data⟩ (by simp) rfl);have t35:tmps[35]?.getD undef=.slice (some ⟨bk,fr,none⟩) (tt-fr) (512+rest.length-fr):=hI.val (6,35,_) (by simp[rdV]) (hd ⟨6,.data⟩ (by simp) rfl);have g7:L 7=false:=hcl.not_up (i:=7) (s:=7) 9 (by kernel_rfl) hL;have g8:L 8=false:=hcl.not_up (i:=7) (s:=8) 9 (by kernel_rfl) hL;have hw0:w'=W3.drew:=by rw[hI.wd];simp[g7,g8]
    have m2:w'.cell? ⟨w.heap.size+1+1+1+1,0,none⟩=some (.slice av nv cv):=by rw[hw0];exact m2_
    have q1:w'.cell? ⟨W.heap.size,1,none⟩=some (.int .i64 (fr:Int)):=by rw[hw0];exact q1_
    have q2:w'.cell? ⟨W.heap.size,2,none⟩=some (.int .i64 (tt:Int)):=by rw[hw0];exact q2_
    have HW0:=η hw0;clear hw0;have hcp':=hcp;rw[← HW0.out] at hcp';refine wpOpIn_step rfl (λ K hK=>?_);rw[if_pos (by rfl)];refine Av1 (.tmp 29) (.tmp 35) _ _ rfl (by simpa [Act.eval] using t29) (by simpa [Act.eval] using t35) hcp' ?_;exact hK _ _ (hI.val_step 7 36 (.slice ao no co) (by decide) (by simp[upL,g7,g8]) (by simp[rdV]) (by kernel_rfl))
   ·cases ho
    have t36:tmps[36]?.getD undef=.slice ao no co:=hI.val (7,36,_) (by simp[rdV]) (hd ⟨7,.data⟩ (by simp) rfl);have g7:L 7=true:=hcl.dep_up (i:=8) (s:=7) rfl hd 9 (by kernel_rfl) (by decide);have g8:L 8=false:=hcl.not_up (i:=8) (s:=8) 9 (by kernel_rfl) hL;have hw0:w'=W4:=by rw[hI.wd];simp[g7,g8]
    have m2:w'.cell? ⟨w.heap.size+1+1+1+1,0,none⟩=some (.slice av nv cv):=by rw[hw0];exact n2_
    have fz:w'.frozen? ⟨w.heap.size+1+1+1+1,0,none⟩=false:=by rw[hw0];exact fz_
    have HW0:=η hw0;clear hw0;refine wpOpIn_step rfl (λ K hK=>?_);go_simp;rw[HW0.out,← HW5.out];exact hK _ _ (hI.none_step 8 (by simp[upL,g7,g8]) (by kernel_rfl))
  ·intro Lu tmps w9 hI hall;have hat:=hI.fin rfl (λ t ht=>hall _ (by have h9:=List.all_eq_true.1 (show((rdV av nv cv bk (512+rest.length) W.heap.size fr tt ao no co).all λ t=>decide (t.1<9))=true from rfl) t ht;simpa using h9));have hw9:w9=W5:=by rw[hI.wd];simp[hall 7 (by decide),hall 8 (by decide)]
   clear hI hall;simp only[rdV,List.map_cons,List.map_nil,Af6,αs,αz,αc] at hat;rw[hat];clear hat tmps;rw[hw9];clear hw9;gi_wp2_with fail
   have hfr:=HFR.out;have hk:=HKK.out;have hse:=HSE.out;have e7:=HE7.out;have hll:=HL.out;have hf2:=HF2.out;have J:=HJ2.out;have h1:=J.sum;have h2:=J.from_;have hw5:=HW5.out;have hu5:Upd [w.heap.size+1+1+1+1] W4 W5:=by rw[hw5];exact(Upd.refl _ _).set _ (by simp)
   have hz1:=HU1W.out.size;have hz2:=HU2.out.size;have hz3:=HU3.out.size;have hA:∀i,w.heap.size<=i->i<w.heap.size+10->i≠w.heap.size+1+1+1+1->W5.heap[i]?=W2.heap[i]?:=λ i hi hi2 hne=>by
    have a1:=HU3.out.block i (by omega) (λ q=>by have:=hlt.1 i (g.mem i q);omega);have a2:=HU4.out.block i (by omega) (λ q=>by have:=(HS4.out i q).1;omega);have a3:=hu5.block i (by have:=HU4.out.size;omega) (by simpa using hne);exact a3.trans (a2.trans a1)
   refine⟨λ b hb=>hA _ (by simp at hb;omega) (by simp at hb;omega) (by simp at hb;omega),?_,λ b hb=>?_⟩
   ·have b4':W5.heap[w.heap.size+1+1+1+1]?=some (.cells #[.slice ao no co] 32 (0,0)):=by rw[hw5,A8 HB4C.out];rfl
    have hcat:(d.drop a0).take (a'-a0)++(d.drop a').take k=(d.drop a0).take (a'+k-a0):=by
     rw[Nat.sub_add_comm h2,List.take_add,List.drop_drop,Nat.add_sub_of_le h2]
    have hrow:=HROW.out;rw[hcat] at hrow;have hue:Upd [g.j.jb] w W5:=by
     have a1:Upd [g.j.jb] w W3:=J.upd.trans HU3.out;have a2:=a1.late HU4.out (λ i hi=> .inr (by have:=(HS4.out i hi).1;omega));exact a2.late hu5 (λ i hi=> .inr (by simp at hi;omega))
    refine⟨a'+k,n'-k,f2,.slice ao no co,?_,?_,?_,HDN.out,?_,?_,?_,?_,b4',?_,?_,hue⟩
    ·have:=J.le;omega
    ·omega
    ·omega
    ·have a1:Upd [g.j.jb] w W3:=J.upd.trans HU3.out;have s4:B7 W4 g M:=h.late HSP3.out a1 HU4.out (λ i hi=>by have:=(HS4.out i hi).1;omega);have a2:=a1.late HU4.out (λ i hi=> .inr (by have:=(HS4.out i hi).1;omega));exact h.late s4 a2 hu5 (λ i hi=>by simp at hi;omega)
    ·rw[hw5,C5 0 _ (by omega)];exact HB1C.out
    ·rw[hw5,C5 0 _ (by omega)];exact HB2C.out
    ·rw[hw5,C5 0 _ (by omega)];exact HB3C.out
    ·exact hrow.other λ k c e=>hu5.block _ (A3 e) (λ q=>by
      simp at q;subst q;rw[HB4C.out] at e;injection e with e;injection e with _ q2;exact absurd q2 (by decide))
    ·obtain⟨v5,b5⟩:=J.b5;exact⟨v5,(hA _ (by omega) (by omega) (by omega)).trans b5⟩
   ·have hb':w.heap.size<=b/\b≠w.heap.size+1+1+1+1/\b<w7.heap.size:=by simp at hb;omega
    have b1:=HU1W.out.block b (by omega) (by simp);have b2:=HU2.out.block b (by omega) (by simp;omega);have b3:=hA b hb'.1 (by omega) hb'.2.1;exact b3.trans (b2.trans b1)
  --END
 ·intro W hI hK;obtain⟨a',n',f',vo,hJ⟩:=hI;have hn0:=Bt9 hJ.le hJ.drop;have hae:a'-a0=n0:=by have:=hJ.sum;omega
  have hrow:=hJ.row;rw[hae] at hrow;have b2:=hJ.b2;have b3:=hJ.b3;have b4:=hJ.b4;have hvo:∃a n c,vo=.slice a n c:=by
   obtain⟨a,c,e,_⟩:=hrow.shape;exact⟨a,_,c,e⟩
  obtain⟨va,vn,vc,rfl⟩:=hvo;have m2:W.cell? ⟨w.heap.size+1+1,0,none⟩=some (.slice none 0 0):=by rw[A2 b2];rfl
  have m3:W.cell? ⟨w.heap.size+1+1+1,0,none⟩=some (.int .i64 0):=by rw[A2 b3];rfl
  have m4:W.cell? ⟨w.heap.size+1+1+1+1,0,none⟩=some (.slice va vn vc):=by rw[A2 b4];rfl
  have f2:=B6 b2 0;have f3:=B6 b3 0;have HJ:=η hJ;have HR:=η hrow;have HK:=η hK;have HB2:=η b2;have HB3:=η b3;clear hJ hrow hK b2 b3 b4;gi_wp2_with fail
  have J:=HJ.out;obtain⟨Wf,hWf⟩:∃Wf,Wf=(W.setCell ⟨w.heap.size+1+1,0,none⟩ (.slice va vn vc)).setCell ⟨w.heap.size+1+1+1,0,none⟩ (.int .i64 0):=⟨_,rfl⟩;rw[← hWf];have hbf2:Wf.heap[w.heap.size+1+1]?=some (.cells #[.slice va vn vc] 32 (0,0)):=by rw[hWf,C5 0 _ (by omega),A8 HB2.out];rfl
  have hbf:Wf.heap[w.heap.size+1+1+1]?=some (.cells #[.int .i64 0] 29 (0,0)):=by
   rw[hWf];have h0:(W.setCell ⟨w.heap.size+1+1,0,none⟩ (.slice va vn vc)).heap[w.heap.size+1+1+1]?=some (.cells #[.int .i64 0] 29 (0,0)):=by rw[C5 0 _ (by omega)];exact HB3.out
   rw[A8 h0];rfl
  have huf:Upd [w.heap.size+1+1,w.heap.size+1+1+1,w7.heap.size] W Wf:=by rw[hWf];exact((Upd.refl _ _).set _ (by simp)).set _ (by simp)
  have hKf:Wf.heap[w7.heap.size]?=some (.deferred (some [])):=by rw[hWf,C5 0 _ (by omega),C5 0 _ (by omega)];exact HK.out
  clear hWf;refine⟨by simp,.inl ⟨_,_,rfl,run_takeDeferred hKf,?_⟩⟩;obtain⟨Wg,hWg⟩:∃Wg,Wg=Wf.putObj w7.heap.size (.deferred none):=⟨_,rfl⟩;rw[← hWg];have hbg:Wg.heap[w.heap.size+1+1+1]?=some (.cells #[.int .i64 0] 29 (0,0)):=by rw[hWg,World.putObj_heap_other (by omega)];exact hbf
  have hbg2:Wg.heap[w.heap.size+1+1]?=some (.cells #[.slice va vn vc] 32 (0,0)):=by rw[hWg,World.putObj_heap_other (by omega)];exact hbf2
  have hug:Upd [w.heap.size+1+1,w.heap.size+1+1+1,w7.heap.size] W Wg:=huf.trans (by
   rw[hWg];exact⟨rfl,rfl,rfl,by simp,λ k hk hs=>World.putObj_heap_other (by simp at hs;omega)⟩)
  have cg:Wg.cell? ⟨w.heap.size+1+1+1,0,none⟩=some (.int .i64 0):=by rw[A2 hbg];rfl
  have cg2:Wg.cell? ⟨w.heap.size+1+1,0,none⟩=some (.slice va vn vc):=by rw[A2 hbg2];rfl
  clear hWg;have hge:∀k,k∈[w.heap.size+1+1,w.heap.size+1+1+1,w7.heap.size]->w.heap.size<=k:=λ k hk=>by simp at hk;omega
  have hrg:I7 Wg w.heap.size (.slice va vn vc) ((d.drop a0).take n0):=(HR.out.low (by omega)).other λ k c e=>hug.block _ (A3 e) (λ q=>by
   simp at q;rcases q with rfl | rfl | rfl
   ·rw[HB2.out] at e;injection e with e;injection e with _ q2;exact absurd q2 (by decide)
   ·rw[HB3.out] at e;injection e with e;injection e with _ q2;exact absurd q2 (by decide)
   ·rw[HK.out] at e;cases e)
  refine⟨.tuple #[.slice va vn vc,.int .i64 0],?_,_,rfl,hrg,h.late J.sp J.upd hug hge,J.upd.late hug (λ i hi=> .inr (hge i hi))⟩;simp[results,Tryz.f176,go_sem,cg,cg2]
end
end Go.Proofs.YtgfbepakonjbnaaGreat
end
