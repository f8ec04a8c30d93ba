/-
  Lists of strings: homes, alike.
-/
import Derived.Test.YtgfbepakonjbnaaGreatY09
import Derived.Lib.SlBytesRow
import Derived.Test.YtgfbepakonjbnaaGreatY22
import Derived.Deep.Slices
import Derived.Deep.Strs
import Derived.Test.YtgfbepakonjbnaaGreatY18
import Derived.Test.YtgfbepakonjbnaaGreatY10
import Derived.OrdersIn
import Derived.OwnWalkIn
import Derived.Test.YtgfbepakonjbnaaGreatY15
set_option maxRecDepth 100000
set_option maxHeartbeats 16000000
section
namespace Go.Proofs.YtgfbepakonjbnaaGreat
open Go.RowKit
def str(l:List UInt8):ByteArray:=⟨l.toArray⟩
theorem Cd2(bs:ByteArray):∀(m i:Nat) (r:List UInt8),bs.size-i=m->ByteArray.toList.loop bs i r=r.reverse++bs.data.toList.drop i:=by
 intro m;induction m with
 | zero=>
  intro i r h;rw[ByteArray.toList.loop];have hi:¬i<bs.size:=by omega
  rw[if_neg hi,List.drop_eq_nil_of_le (by simp;omega)];simp
 | succ m ih=>
  intro i r h;rw[ByteArray.toList.loop];have hi:i<bs.size:=by omega
  rw[if_pos hi,ih (i+1) _ (by omega)];have hl:i<bs.data.toList.length:=by simpa using hi
  rw[List.drop_eq_getElem_cons hl];have e:bs.get! i=bs.data.toList[i]:=by simp[ByteArray.get!,hi]
  rw[e];simp
theorem Au2(l:List UInt8):(str l).toList=l:=by
 unfold ByteArray.toList;rw[Cd2 _ (str l).size 0 [] (by omega)];simp[str]
theorem Cd3{w:World}{v:Value}{l:List UInt8}(h:Rd w v l)(hl:0<l.length):(convert 32 9 v).run Tryz.prog w=.ok (.string (str l)) w:=by
 obtain⟨ao,cap,rfl,hc,hh⟩:=h;obtain⟨b,off,rfl,hcell⟩:=hh hl;have hsz:(str l).size=l.length:=by simp[str,ByteArray.size]
 have:=Lib.run_convert_whole (P:=Tryz.prog) w 32 5 9 Tryz.underlying32 Tryz.underlying5 Tryz.underlying9 b off (str l) (λ i hi=>by
  rw[hsz] at hi;rw[hcell i hi];rfl) cap
 rw[hsz] at this;exact this
def hl(H:Nat->Sec)(k:Nat):List (List UInt8):=(List.range k).map H
theorem RdL.shape{w:World}{S:List Nat}{v:Value}{cs:List Value}(h:RdL w S v cs):∃a c,v=.slice a cs.length c/\cs.length<=c:=by
 obtain⟨ao,cap,e,hc,_⟩:=h;exact⟨ao,cap,e,hc⟩
end Go.Proofs.YtgfbepakonjbnaaGreat
namespace Go.Proofs.YtgfbepakonjbnaaGreat
open Go.RowKit
end Go.Proofs.YtgfbepakonjbnaaGreat
namespace Go.Proofs.YtgfbepakonjbnaaGreat
open Go.ChangeShapes Go.WideShapes Go.ChangeAt Go.RowKit Go.Deep
section
variable {H:Type} {enc:TypeId × Value->H} {W:World}
theorem Bd1{α:Type}{p:Nat->α->Prop}:∀n,(∀i,i<n->∃a,p i a)->∃l:List α,l.length=n/\∀i (h:i<l.length),p i l[i]
 | 0,_=>⟨[],rfl,λ i h=>by simp at h⟩
 | n+1,h=>by
  obtain⟨l,hl,hp⟩:=Bd1 n (λ i hi=>h i (by omega));obtain⟨a,ha⟩:=h n (by omega);refine⟨l ++ [a],by simp[hl],λ i hi=>?_⟩;by_cases q:i<l.length
  ·rw[List.getElem_append_left q];exact hp i q
  ·have:i=l.length:=by simp at hi;omega
   subst this;rw[List.getElem_append_right (Nat.le_refl _)];simp only[Nat.sub_self,List.getElem_cons_zero];rw[hl];exact ha
theorem Cd4{n:Int}(h:(Lit.int .u8 n).wf=true):∃c:UInt8,bv c=.int .u8 n:=by
 simp[Lit.wf] at h;have h0:(0:Int)<=n:=h.1;have h1:n<=255:=h.2;refine⟨UInt8.ofNat n.toNat,?_⟩;unfold bv;congr 1
 have:(UInt8.ofNat n.toNat).toNat=n.toNat % 256:=by simp
 rw[this];omega
theorem Ba0{t e:TypeId}{fuel:Nat}{v:Value}{x:DataW H × List MemPlace}(ht:Tryz.prog.underlying t=some (.slice e))(hc:Tryz.prog.cellsOf e=1)(h:DataW.trod enc Tryz.prog W 0 (λ _=>true) true fuel t [v]=some x) :
  ∃ao len cap,v=.slice ao len cap/\len<=cap/\(0<len->∃b off,ao=some ⟨b,off,none⟩/\∀i,i<len->∃u n y,W.cell? ⟨b,off+i,none⟩=some u/\DataW.trod enc Tryz.prog W 0 (λ _=>true) true n e [u]=some y):=by
 rcases open_slice1 ht hc h with⟨e,_⟩ | ⟨a,len,cap,m,n,V,D,Pl,e,_,hl,_,hm,_,hx⟩
 ·cases e;exact⟨none,0,0,rfl,Nat.le_refl _,λ q=>by omega⟩
 ·cases e
  simp only[if_true] at hm;subst hm;refine⟨some a,len,m,rfl,hl,λ hp=>?_⟩;have h0:=(hx 0 (by omega)).1;have hsp:a.spot=none:=by
   have:=World.cell?_spot h0;cases a;simpa [Addr.add] using this
  obtain⟨b,off,spot⟩:=a;simp at hsp;subst hsp;refine⟨b,off,rfl,λ i hi=>?_⟩;obtain⟨c1,c2⟩:=hx i (by omega);rw[I5] at c1;exact⟨V i,n,_,c1,c2⟩
theorem Ch3{fuel:Nat}{v:Value}{x:DataW H × List MemPlace}(h:DataW.trod enc Tryz.prog W 0 (λ _=>true) true fuel 32 [v]=some x):∃l,Rd W v l:=by
 obtain⟨ao,len,cap,rfl,hl,hh⟩:=Ba0 Tryz.underlying32 (by kernel_rfl) h;by_cases hp:0<len
 ·obtain⟨b,off,rfl,hc⟩:=hh hp;obtain⟨l,hlen,hl2⟩:=Bd1 (p:=λ i c=>W.cell? ⟨b,off+i,none⟩=some (bv c)) len (λ i hi=>by
   obtain⟨u,n,y,c1,c2⟩:=hc i hi;obtain⟨k,e,_,hw⟩:=DataW.trod_int Tryz.underlying5 c2;cases e
   obtain⟨c,hc'⟩:=Cd4 hw;exact⟨c,by rw[hc'];exact c1⟩)
  exact⟨l,_,cap,by rw[hlen],by omega,λ _=>⟨b,off,rfl,hl2⟩⟩
 ·obtain rfl:len=0:=by omega
  exact⟨[],ao,cap,rfl,by simp,λ q=>by simp at q⟩
theorem Bx6{fuel:Nat}{v:Value}{x:DataW H × List MemPlace}(h:DataW.trod enc Tryz.prog W 0 (λ _=>true) true fuel 43 [v]=some x):∃l:List Int,RdL W [] v (l.map λ i=> .int .i64 i):=by
 obtain⟨ao,len,cap,rfl,hl,hh⟩:=Ba0 Tryz.underlying43 (by kernel_rfl) h;by_cases hp:0<len
 ·obtain⟨b,off,rfl,hc⟩:=hh hp;obtain⟨l,hlen,hl2⟩:=Bd1 (p:=λ i (c:Int)=>W.cell? ⟨b,off+i,none⟩=some (.int .i64 c)) len (λ i hi=>by
   obtain⟨u,n,y,c1,c2⟩:=hc i hi;obtain⟨k,e,_,_⟩:=DataW.trod_int Tryz.underlying3 c2;cases e
   exact⟨k,c1⟩)
  exact⟨l,_,cap,by rw[List.length_map,hlen],by rw[List.length_map];omega,λ _=>⟨b,off,by simp,rfl,λ i hi=>by rw[List.getElem_map];exact hl2 i (by simpa using hi)⟩⟩
 ·obtain rfl:len=0:=by omega
  exact⟨[],ao,cap,rfl,by simp,λ q=>by simp at q⟩
theorem Bh0{r:Reach}{b0:Nat}{t e:TypeId}{v:Value}{d:DataW H}{ps:List MemPlace}(ht:Tryz.prog.underlying t=some (.slice e))(hval:Value.okWide Tryz.prog W r b0 t v)(hd:DataW.Trod enc Tryz.prog W 0 (λ _=>true) true t v d ps):∃fuel,DataW.trod enc Tryz.prog W 0 (λ _=>true) true fuel t [v]=some (d,ps):=by
 obtain⟨a,len,cap,rfl⟩:=okWide_slice ht hval;obtain⟨fuel,hf⟩:=hd;exact⟨fuel,hf⟩
theorem Bq0{r:Reach}{b0:Nat}{v:Value}{d:DataW H}{ps:List MemPlace}(hval:Value.okWide Tryz.prog W r b0 43 v)(hd:DataW.Trod enc Tryz.prog W 0 (λ _=>true) true 43 v d ps):∃l:List Int,RdL W [] v (l.map λ i=> .int .i64 i):=by
 obtain⟨fuel,h⟩:=Bh0 Tryz.underlying43 hval hd;exact Bx6 h
end
end Go.Proofs.YtgfbepakonjbnaaGreat
end
section
set_option linter.unusedSimpArgs false
set_option linter.unusedVariables false
namespace Go.Proofs.YtgfbepakonjbnaaGreat
open Go.RowKit Go.MapKept Go.ChangeMaps
section
def Ah2(w:World)(j:JG)(n ring r:Nat)(l:List B0)(S:List Nat)(b:Int):Prop:=
 ∃(J:Jn) (D:Dk) (t m:Int) (H:Nat->Sec),U9 w j J D n ring t m H/\(∀i,(H i).length=512)/\Q3 H (n-2-ring) r l S/\t<=b/\m<=b+1
structure TxG(w0:World)(j:JG)(n ring:Nat)(b:Int)(g:Sg):Prop where
 j:g.j=j
 n:g.n=n
 ring:g.ring=ring
 turn:g.turn=g.t-1
 t:g.t<=b
 m:g.m<=b+1
 tb:w0.heap.size<=g.x.tb
 wb:w0.heap.size<=g.x.wb
theorem TxG.h{w0:World}{j:JG}{n ring:Nat}{b:Int}{g:Sg}(h:TxG w0 j n ring b g):g.h=n-2-ring:=by unfold Sg.h;rw[h.n,h.ring]
theorem TxG.S{w0:World}{j:JG}{n ring:Nat}{b:Int}{g:Sg}(h:TxG w0 j n ring b g):∀k,k∈g.S->k∈j.all∨w0.heap.size<=k:=by
 intro k hk;rw[Sg.S,h.j] at hk;rcases List.mem_cons.1 hk with rfl | q
 ·exact .inr h.wb
 ·exact .inl q
theorem Ax1{w:World}{j:JG}{n ring r:Nat}{l:List B0}{S:List Nat}{b:Int}(h:Ah2 w j n ring r l S b) :
  Calls Tryz.prog 18 #[.pointer (some ⟨j.jb,0,none⟩)] w λ e w'=>∃g:Sg,e=.returned (.tuple #[.pointer (some ⟨g.x.tb,0,none⟩),.int .i64 0])/\TxG w j n ring b g/\B8 w' g (λ _=>none)/\Q3 (g.cur λ _=>none) g.h r l S/\Upd j.all w w':=by
 obtain⟨J,D,t,m,H,h1,h2,h3,h4,h5⟩:=h;refine(Au1 h1).mono ?_;rintro e w' ⟨x,rfl,hx1,hx2,hx,hr,hu,hfx⟩;exact⟨⟨x,j,J,D,n,ring,t-1,t,m,H⟩,rfl,⟨rfl,rfl,rfl,rfl,h4,h5,hx1,hx2⟩,⟨hr,hx,h1.at_.late hx2,MOk.none _,h2,hfx⟩,h3,hu⟩
theorem Ao3{w0 w:World}{j:JG}{n ring r:Nat}{l:List B0}{S:List Nat}{b:Int}{g:Sg}{M:Nat->Option Sec}(hg:TxG w0 j n ring b g)(h:B8 w g M)(ht:Q3 (g.cur M) g.h r l S)(hn:n<=5000)(hb:b<900000)(h1:F3 M g.h<=40)(h2:F3 M g.h<ring) :
  Calls Tryz.prog 21 #[.pointer (some ⟨g.x.tb,0,none⟩)] w λ e w'=>e=.returned (.int .i64 0)/\Ah2 w' j n ring r l S (b+1)/\Upd (g.x.tb :: j.all) w w':=by
 have hx:=h.tx;rw[hg.turn] at hx;refine(Az9 h.jr hx h.ne h.ok (by rw[hg.n];exact hn) h1 (by rw[hg.ring];exact h2:F3 M g.h<g.ring) (by have:=hg.t;omega) (by have:=hg.m;omega)).mono ?_;rintro e w' ⟨rfl,_,⟨J',D',t',hr,ht'⟩,hu⟩;have e1:=hg.j;have e2:=hg.n;have e3:=hg.ring;refine⟨rfl,⟨J',D',t',g.m+1,g.cur M,?_,λ i=>h.cur_len i,?_,?_,?_⟩,by rw[← e1];exact hu⟩
 ·rw[← e1,← e2,← e3];exact hr
 ·rw[← e2,← e3];exact ht
 ·have:=hg.t;rw[ht'];split<;>omega
 ·have:=hg.m;omega
theorem Aj5(x:Int)(w:World):(Instr.build 115 #[(0,.int .u8 (x % 256))]).run Tryz.prog w=.ok (.agg (bts (Z5 x)).toArray) w:=by
 have e:(bts (Z5 x))=(bts z16).set 0 (.int .u8 (x % 256)):=by rw[Br4,Bq5 _ _ (Ca2 x)];rfl
 rw[e];exact run_build w _ _ _ (by kernel_rfl)
theorem RdL.cellS{w:World}{S:List Nat}{a:Option Addr}{n c:Nat}{cs:List Value}(h:RdL w S (.slice a n c) cs){i:Nat}{x:Value}(hi:cs[i]?=some x):∃b off,b∉S/\a=some ⟨b,off,none⟩/\w.cell? ⟨b,off+i,none⟩=some x:=by
 obtain⟨ao,cap,e,hc,hh⟩:=h;obtain⟨hlt,hx⟩:=List.getElem?_eq_some_iff.1 hi;obtain⟨b,off,hb,hab,hcell⟩:=hh (by omega);cases e
 exact⟨b,off,hb,hab,by rw[hcell i hlt,hx]⟩
attribute [-go_sem] loadCells storeCells Instr.build Instr.buildSlice
theorem Bo5(w:World){j:JG}{n ring:Nat}{b:Int}(hG:Ah2 w j n ring 0 [] [] b)(hn:n<=4096)(hr:10<=ring)(hh:120<=n-2-ring)(hb:b<1000){v:Value}(ks:List Int)(hv:RdL w j.all v (ks.map λ i=> .int .i64 i))(hk:ks.length<=200) :
  Calls Tryz.prog 55 #[.pointer (some ⟨j.jb,0,none⟩),v] w λ e w'=>∃(r:Nat) (S:List Nat),e=.returned (.tuple #[.int .u32 (r:Int),.bool true])/\Ah2 w' j n ring r (P8 [] ks) S (b+ks.length)/\Upd j.all w w':=by
 obtain⟨av,cv,rfl,hcv⟩:=hv.shape;rw[List.length_map] at hcv ⊢;have HG:=η hG;have HV:=η hv;clear hG hv;go_enter Tryz.func55,Tryz.ntmps55
 go_wp2_with fail
 go_loopw [7,6] (λ i ro wr=>∃(q r:Nat) (S:List Nat),q<=ks.length/\i=.int .i64 (q:Int)/\ro=.int .u32 (r:Int)/\Ah2 wr j n ring r (P8 [] (ks.take q)) S (b+q)/\Upd j.all w wr) (λ i _ _=>ks.length-(intOf i).toNat)
 case atStart=>exact⟨0,0,[],by omega,rfl,rfl,by have:=HG.out;simpa [P8] using this,Upd.refl _ _⟩
 case round=>
  obtain⟨q,r,S,hq,rfl,rfl,hgr,hu⟩:=hrel;rcases Nat.lt_or_ge q ks.length with hlt | hge
  ·have hqi:(q:Int)<(ks.length:Int):=by omega
   have hqb:decide ((q:Int)<(ks.length:Int))=true:=decide_eq_true hqi;obtain⟨kq,hkq⟩:∃kq,ks[q]?=some kq:=⟨_,List.getElem?_eq_getElem hlt⟩;obtain⟨vb,off,hnb,rfl,hc0⟩:=(HV.out.upd hu (λ _ x=>x)).cellS (i:=q) (x:=.int .i64 kq) (by rw[List.getElem?_map,hkq];rfl);have HGR:=η hgr;have HB:=η (Ax1 hgr);have HU:=η hu;have HKQ:=η hkq;have HNB:=η hnb;have HKY:Hid (∀w',Calls Tryz.prog 20 #[.int .i64 kq] w' λ e w''=>e=.returned (.agg (bts (Q2 kq)).toArray)/\Upd [] w' w''):=by
    show ∀w',_
    exact λ w'=>Am4 kq w'
   have bw:∀w',(Instr.build 115 #[(0,.int .u8 (IntKind.u8.wrap kq))]).run Tryz.prog w'=.ok (.agg (bts (Z5 kq)).toArray) w':=λ w'=>by rw[IntKind.wrap_u8];exact Aj5 kq w'
   clear hgr hu hkq hnb;go_wp2_with fail
   refine HB.out.mono ?_;rintro e w1 ⟨g,rfl,hg,h1,ht,hu1⟩;have hgh:=hg.h;have hc1:=C8 hc0 hu1 HNB.out;have hgS:=hg.S;have hvlt:vb<wr.heap.size:=block_lt_of_cell hc0;have hnS:vb∉g.S:=λ q=>by rcases hgS vb q with x | x;exact HNB.out x;omega
   have hsz:4*S.length<=(P8 [] (ks.take q)).length+3:=ht.at_.size;have hln:=Ai7 (ks.take q) [];rw[List.length_take] at hln;simp only[List.length_nil] at hln;have hlf:=ht.left;have hPT:∀w',B8 w' g (λ _=>none)->Calls Tryz.prog 58 #[.pointer (some ⟨g.x.tb,0,none⟩),.int .u32 (r:Int),.agg (bts (Q2 kq)).toArray,.agg (bts (Z5 kq)).toArray] w' (λ e w''=>∃M' r',e=.returned (.tuple #[.int .u32 ((r':Nat):Int),.int .i64 0])/\Af2 g (λ _=>none) M' r r' (P8 [] (ks.take q)) S (Q2 kq) (Z5 kq) 7/\B8 w'' g M'/\Upd g.S w' w''):=
    λ w' h'=>Br5 h' (by omega) (by omega) ht (by omega) (Q2 kq) (Z5 kq) (Q5 _) (Ac3 _) (by rw[W8];show 0+1+7<=40;omega) (by omega)
   have HPT:=η hPT;have HTR:=η ht;have HTX:=η hg;have H1:=η h1;have HU1:=η hu1;have HNS:=η hnS;clear hg h1 ht hu1 hgS hnS hPT hc0 hsz hln hlf hvlt hgh;go_wp2_with fail
   go_region_held3 (λ w'=>w'.cell? ⟨vb,off+q,none⟩=some (.int .i64 kq)) (first | assumption | (exact C8 (by assumption) ((Upd.refl [] _).drew) (by simp)))
    (first
     | (go_at_call 20;(with_reducible refine(HKY.out _).mono ?_);rintro e w2 ⟨rfl,hu2⟩;have hc2:=C8 hc1 ((Upd.refl [] _).drew.trans hu2) (by simp);have HU2:=η ((Upd.refl [] w1).drew.trans hu2);clear hu2)
     | (go_at_call 58;(with_reducible refine(HPT.out _ (H1.out.below HU2.out)).mono ?_);rintro e w4 ⟨M',r',rfl,hpt,h4,hu4⟩;have hc4:=C8 hc2 hu4 HNS.out;have HPU:=η hpt;have H4:=η h4;have HU4:=η hu4;clear hpt h4 hu4))
   all_goals
    obtain⟨S',hT',hGn⟩:=HTR.out.put HPU.out;have hcn:=hGn.cnt;rw[W8] at hcn;have hc1M:c1M (λ _=>none)=1:=rfl;rw[hc1M] at hcn;have HCM:=η (Ao3 HTX.out H4.out hT' (by omega) (by omega) (by omega) (by omega));clear hT' hGn hcn hc1M;go_wp2_with fail
    refine HCM.out.mono ?_;rintro e w5 ⟨rfl,hgr5,hu5⟩;have HGR5:=η hgr5;have HU5:Hid (Upd j.all w w5):=by
     show Upd _ _ _
     have a1:Upd j.all wr w2:=HU1.out.trans (HU2.out.mono (by simp));have a2:Upd j.all wr w4:=a1.late HU4.out HTX.out.S;exact HU.out.trans (a2.late hu5 (λ k hk=>by
      rcases List.mem_cons.1 hk with rfl | q
      ·exact .inr HTX.out.tb
      ·exact .inl q))
    clear hgr5 hu5;go_wp2_with fail
    refine⟨⟨q+1,r',S',by omega,by go_num,rfl,?_,HU5.out⟩,by simp[intOf];omega⟩;rw[List.take_add_one,HKQ.out];show Ah2 w5 j n ring r' (P8 [] (ks.take q ++ [kq])) S' (b+((q+1:Nat):Int))
    rw[Ax0,show b+((q+1:Nat):Int)=b+q+1 by omega];exact HGR5.out
  ·obtain rfl:q=ks.length:=by omega
   have hqb:decide ((ks.length:Int)<(ks.length:Int))=false:=decide_eq_false (by omega);rw[List.take_length] at hgr;have HGR:=η hgr;have HU:=η hu;clear hgr hu;go_wp2_with fail
   go_ret2;exact⟨r,S,rfl,HGR.out,HU.out⟩
end
section
theorem Bb7:∀(d:Nat) {w:World} {g:Sg} {M:Nat->Option Sec} (_:B8 w g M) {root:Bool} {a:Nat} {l:List B0} {S:List Nat} (_:E6 (g.cur M) root d a l S) (_:K5 g M S) (_:1<g.h) (_:g.h<=4096) (key:Bs) (_:key.length=32) (deep:Int) (_:(d:Int)<deep) (_:deep<=16) (_:F3 M g.h+c1M M+(3*d+1)<=40),
  Calls Tryz.prog 125 #[.pointer (some ⟨g.x.tb,0,none⟩),.int .u32 (a:Int),arr key,.int .i64 deep] w (U7 g M root d a l S key w)
 | 0,w,g,M,h,root,a,l,S,hs,hh,h1,h2,key,hk,deep,hd,hd2,hc=>Bv3 h h1 a (hh.low a hs.mem.1).2 hs.mem.2 hs hh key hk deep (by rw[beq_eq_false_iff_ne];omega) (by omega)
 | d+1,w,g,M,h,root,a,l,S,hs,hh,h1,h2,key,hk,deep,hd,hd2,hc=>by
  obtain⟨ks,ds,kid,lc,Sc,hK⟩:=hs.dropKid (key:=key) hh;exact Bo9 h h1 h2 a (hh.low a hs.mem.1).2 hs.mem.2 key hk hK deep (by omega) hd2 (by omega) (λ w' h'=>Bb7 d h' hK.shape hK.held h1 h2 key hk (deep-1) (by omega) (by omega) (by omega))
def Be8(g:Sg)(M:Nat->Option Sec)(l:List B0)(S:List Nat)(key:Bs)(w:World)(e:Ending)(w':World):Prop:=
 (J9 l key=none/\e=.returned (.tuple #[.int .u32 0,.int .i64 5])/\B8 w' g M/\Upd g.S w w')∨
 (J9 l key≠none/\∃(M':Nat->Option Sec) (r':Nat),e=.returned (.tuple #[.int .u32 (r':Int),.int .i64 0])/\Ai8 g M M' r' l S key 8/\B8 w' g M'/\Upd g.S w w')
attribute [-go_sem] loadCells storeCells Instr.build Instr.buildSlice
attribute [local go_sem] M8
theorem Bv4{w:World}{g:Sg}{M:Nat->Option Sec}(h:B8 w g M)(hh1:1<g.h)(key:Bs)(hkey:key.length=32) :
  Calls Tryz.prog 56 #[.pointer (some ⟨g.x.tb,0,none⟩),.int .u32 0,arr key] w λ e w'=>e=.returned (.tuple #[.int .u32 0,.int .i64 5])/\B8 w' g M/\Upd g.S w w':=by
 have hb:((g.h:Int) == 0)=false:=by rw[beq_eq_false_iff_ne];omega
 obtain⟨wA,hwA⟩:∃wA,wA=w.alloc (.cells (bts key).toArray 35):=⟨_,rfl⟩;have huA:Upd [] w wA:=by rw[hwA];exact(Upd.refl _ _).alloc _
 have HO:=η (Y7 (h.below huA));have HA:=η (h.below huA);have HUA:=η huA;have HW:=η hwA;clear h huA hwA;unfold arr;go_enter Tryz.func56,Tryz.ntmps56
 go_wp2_with fail
 rw[← HW.out];refine HO.out.mono ?_;rintro e w1 ⟨rfl,n1,hn1⟩;have HU1:Hid (Upd [] wA w1):=by show Upd _ _ _;rw[hn1];exact(Upd.refl _ _).drewN _
 clear hn1;go_wp2_with fail
 go_ret2;exact⟨rfl,HA.out.below HU1.out,(HUA.out.trans HU1.out).mono (by simp)⟩
theorem Bl2{w:World}{g:Sg}{M:Nat->Option Sec}(h:B8 w g M)(hh1:1<g.h)(hh2:g.h<=4096){r:Nat}{l:List B0}{S:List Nat}(ht:Y8 (g.cur M) r l S)(hh:K5 g M S)(hl:l.length<490)(key:Bs)(hkey:key.length=32)(hres:F3 M g.h+c1M M+8<=40) :
  Calls Tryz.prog 56 #[.pointer (some ⟨g.x.tb,0,none⟩),.int .u32 (r:Int),arr key] w (Be8 g M l S key w):=by
 rcases ht with⟨rfl,rfl,rfl⟩ | ⟨hr,d,hs⟩
 ·exact(Bv4 h hh1 key hkey).mono λ e w' hp=> .inl ⟨rfl,hp⟩
 have hd2:=hs.flat hl;have hrm:=hs.mem;have hrl:=hh.low r hrm.1;have hb:((g.h:Int) == 0)=false:=by rw[beq_eq_false_iff_ne];omega
 have hb2:((r:Int) == 0)=false:=by rw[beq_eq_false_iff_ne];omega
 obtain⟨wA,hwA⟩:∃wA,wA=w.alloc (.cells (bts key).toArray 35):=⟨_,rfl⟩;have huA:Upd [] w wA:=by rw[hwA];exact(Upd.refl _ _).alloc _
 obtain⟨b5,hb5⟩:∃b,b=w.heap.size:=⟨_,rfl⟩;have h5:wA.heap[b5]?=some (.cells (bts key).toArray 35 (0,0)):=by rw[hwA,hb5];exact A6 _
 have H5:=η h5;have HO:=η (Y7 (h.below huA));have HA:=η (h.below huA);have HUA:=η huA;have HW:=η hwA;have HB:=η hb5;have HSH:=η (And.intro hs hh);have HRES:=η hres;have HRL:=η (And.intro hrl hrm.2);clear h huA hwA hb5 h5 hs hh hres hrm hrl hr hl;unfold arr;go_enter Tryz.func56,Tryz.ntmps56
 go_wp2_with fail
 rw[← HW.out,← HB.out];refine HO.out.mono ?_;rintro e w1 ⟨rfl,n1,hn1⟩;have hu1:Upd [] wA w1:=by rw[hn1];exact(Upd.refl _ _).drewN _
 have HA1:=η (HA.out.below hu1);have l5:=A7 (n:=32) ((hu1.block _ (A4 H5.out) (by simp)).trans H5.out) (by rw[A9,hkey]);have hDR:=Bb7 d HA1.out HSH.out.1 HSH.out.2 hh1 hh2 key hkey 16 (by omega) (by omega) (by have:=HRES.out;omega);unfold arr at hDR;have HDR:=η hDR;have HU1:=η (HUA.out.trans hu1);clear hn1 hu1 hDR;go_wp2_with fail
 refine HDR.out.mono ?_;rintro e w4 hp;obtain⟨er,kd,a1,n1,c1,a2,n2,c2,a3,n3,c3,rfl,hu4,hp4⟩:=hp.both;have HU4:=η ((HU1.out.mono (by simp)).trans hu4:Upd g.S w w4);have HSZ:=η (HU1.out.size);clear hp hu4 l5;rcases hp4 with⟨rfl,e2,e3⟩ | ⟨rfl,e2,M1,ks,vs,ds,e3,e4,e5,e6⟩
 ·have HE:=η (And.intro e2 e3);clear e2 e3;go_wp2_with fail
  go_ret2;exact .inl ⟨HE.out.1,rfl,HE.out.2.below ((Upd.refl _ _).alloc _),HU4.out.alloc _⟩
 ·obtain⟨w5,hw5⟩:∃x,x=w4.alloc (.cells #[.int .i64 kd,.slice a1 n1 c1,.slice a2 n2 c2,.slice a3 n3 c3] 220):=⟨_,rfl⟩;obtain⟨b8,hb8⟩:∃x,x=w4.heap.size:=⟨_,rfl⟩;have hc8:=A6 (w:=w4) (.cells #[.int .i64 kd,.slice a1 n1 c1,.slice a2 n2 c2,.slice a3 n3 c3] 220);rw[← hw5,← hb8] at hc8;have hu45:Upd [] w4 w5:=by rw[hw5];exact(Upd.refl _ _).alloc _
  have HA5:=η (e6.below hu45);have HN5:=η (e4.below hu45);have HU5:=η (HU4.out.trans (hu45.mono (by simp)));have HD5:=η e5;have HLK:=η e2;have HN1:=η e3;have H8:=η hc8;obtain⟨hkd,hle⟩:=HN5.out.kd;have HKD:=η (And.intro hkd hle);have HCN:Hid (F3 M1 g.h+c1M M1+1<=40):=by
   show _<=_
   obtain⟨S',_,_,_,_,hS⟩:=HD5.out;have:=hS.cnt;have:=HRES.out;omega
  have m81:=A3 hc8 1;have m80:=A3 hc8 0;have HW5:=η (And.intro hw5 hb8);rw[hw5,hb8] at m81 m80;have l8:=A7 (n:=4) (cs:=[.int .i64 kd,.slice a1 n1 c1,.slice a2 n2 c2,.slice a3 n3 c3]) hc8 rfl;rw[hw5,hb8] at l8;have HSM:=η (Ak7 hkd a1 a2 a3 n1 c1 n2 c2 n3 c3 w5);clear hw5 hb8 hc8 hu45 e2 e3 e4 e5 e6 hkd hle;rcases Nat.lt_or_ge 0 n1 with hpos | hzero
  ·have dp:decide (0<(n1:Int))=true:=decide_eq_true (by omega);have HP:=η hpos;go_wp2_with fail
   rw[← HW5.out.1,← HW5.out.2];refine HSM.out.mono ?_;rintro e w6 ⟨rfl,hu6⟩;have HA6:=η (HA5.out.below hu6);have HN6:=η (HN5.out.below hu6);have HU6:=η (HU5.out.trans (hu6.mono (by simp)));have l86:=A7 (n:=4) (cs:=[.int .i64 kd,.slice a1 n1 c1,.slice a2 n2 c2,.slice a3 n3 c3]) ((hu6.block _ (A4 H8.out) (by simp)).trans H8.out) rfl;clear hu6 l8 m81 m80 dp hpos;cases hsm:decide (n1<O0 kd)
   ·have hbig:N3 d<=ks.length:=by have:=of_decide_eq_false hsm;have:=HKD.out.2;have:=HN1.out;omega
    have HT:=η (Bk7 HD5.out HSH.out.2 HRL.out.2 hbig);clear hsm hbig;go_wp2_with fail
    refine(V3 _ _).mono ?_;rintro e w7 ⟨rfl,hu7⟩;have HA7:=η (HA6.out.below hu7);have HU7:=η (HU6.out.trans (hu7.mono (by simp)));clear hu7 l86;go_wp2_with fail
    go_ret2;obtain⟨S',t1,t2⟩:=HT.out;exact .inr ⟨HLK.out,M1,r,rfl,⟨S',t1,t2.mono (by omega)⟩,HA7.out,HU7.out⟩
   ·obtain⟨S',ho,hm9,hlo,hce,hSh⟩:=HD5.out;have HENC:Hid (L4 g.S w6 kd (.slice a1 n1 c1) (.slice a2 n2 c2) (.slice a3 n3 c3) (Ah3 d ks vs ds)):=by
     show L4 _ _ _ _ _ _ _
     obtain⟨x1,x2,x3,x4⟩:=ho.len;rcases HN6.out with⟨rfl,rfl,q3,rfl,hk,hv⟩ | ⟨h0,rfl,q3,rfl,hk,hv⟩
     ·simp at x4;rw[q3];exact Cb2 HA6.out hk hv ⟨x1,x2,x4,hm9⟩
     ·cases d with
      | zero=>omega
      | succ d=>
       simp at x4;rw[q3];exact Bb5 HA6.out hk hv ⟨x1,x3,x4,hm9⟩
    have HT:=η (Ay9 HD5.out HSH.out.2 HRL.out.2 (by have:=HN1.out;have:=HP.out;omega) HA6.out.ok);have HWR:=η (M9 HA6.out HENC.out r HRL.out.1.2 HRL.out.2 (.inr (by have:=HCN.out;omega)));clear hsm ho hm9 hlo hce hSh;go_wp2_with fail
    refine HWR.out.mono ?_;rintro e w7 ⟨rfl,h7,hu7⟩;have HA7:=η h7;have HU7:=η (HU6.out.trans (hu7.mono g.memw));clear h7 hu7 l86;go_wp2_with fail
    refine(V3 _ _).mono ?_;rintro e w8 ⟨rfl,hu8⟩;have HA8:=η (HA7.out.below hu8);have HU8:=η (HU7.out.trans (hu8.mono (by simp)));clear hu8;go_wp2_with fail
    go_ret2;obtain⟨S',t1,t2⟩:=HT.out;exact .inr ⟨HLK.out,_,r,rfl,⟨S',t1,t2.mono (by omega)⟩,HA8.out,HU8.out⟩
  ·obtain rfl:n1=0:=by omega
   have dp:decide (0<(0:Int))=false:=rfl;have hks:ks=[]:=List.length_eq_zero_iff.1 HN1.out;have HWF:=η (Ah5 (s:=r) HRL.out.2);have hT1:g.T M1 r=true:=by
    obtain⟨S',_,_,_,_,hS⟩:=HD5.out;exact(hS.held HSH.out.2).T r (by simp)
   have HFR:=η (λ w' (h':B8 w' g M1)=>Ax7 h' hh1 hh2 (.inr (by have:=HCN.out;omega)) r HRL.out.1.1 HRL.out.1.2 hT1);rcases HN5.out with⟨rfl,rfl,q3,rfl,hk,hv⟩ | ⟨h0,rfl,q3,rfl,hk,hv⟩
   ·have hD:=HD5.out;rw[hks] at hD;have HT:=η (Be6 hD HSH.out.2 HA5.out.ok (HA5.out.cur_len 1) hh1 hh2);clear hks hT1 q3 hk hv hzero hD dp;obtain⟨wf1,wf2⟩:=HWF.out;go_wp2_with fail
    rw[← HW5.out.1];clear wf1 wf2;refine(HFR.out _ HA5.out).mono ?_;rintro e w6 ⟨rfl,h6,hu6⟩;have HA6:=η h6;have HU6:=η (HU5.out.trans hu6);clear h6 hu6 l8 m81 m80;go_wp2_with fail
    go_ret2;obtain⟨S',t1,t2⟩:=HT.out;exact .inr ⟨HLK.out,_,0,rfl,⟨S',t1,t2.mono (by omega)⟩,HA6.out,HU6.out⟩
   ·obtain⟨d,rfl⟩:∃q,d=q+1:=⟨d-1,by omega⟩;have hD:=HD5.out;rw[hks] at hD;obtain⟨c,hdc,hcl,hT⟩:=Az0 hD HSH.out.2 HA5.out.ok (HA5.out.cur_len 1) hh1 hh2;have HT:=η hT;subst hdc;injection q3 with q31 q32 q33;subst q31 q32 q33;obtain⟨x,y,exy⟩:=D7 hv;injection exy with exy1 exy2 exy3;simp only[List.length_cons,List.length_nil,Nat.zero_add] at exy2;subst exy1 exy2 exy3;obtain⟨gd,rfl⟩:=R9 hv (by simp);have HDV:Hid (D8 w5 w1.heap.size (.slice (some ⟨gd,0,none⟩) 1 c3) [c]):=η hv;have HGD:=η (G5 HA5.out hv (.inr (.inr (.inr (.inr rfl)))) _ _ _ rfl);have HG8:=η (HA5.out.other9 H8.out (.inr (.inl rfl)));clear hks hT1 hk hv hzero hD dp hT h0;go_wp2_with fail
    rw[← HW5.out.1,← HW5.out.2];clear l8 m81 m80;refine B9 (λ w'=>w'.heap[b8]?=some (.cells #[.int .i64 2,.slice a1 0 c1,.slice none 0 0,.slice (some ⟨gd,0,none⟩) 1 c3] 220 (0,0))/\w'.cell? ⟨gd,0,none⟩=some (.int .u32 (c:Int))) [8] (by kernel_rfl) ⟨H8.out,R4 (i:=0) HDV.out rfl⟩ (λ hHeld=>?_);have HDW:Hid (Upd [] w5 w5.drew):=η (Upd.refl [] _).drew;refine A0 (i:=0) (v:=?_) rfl (by kernel_rfl) (λ _ _ _ h=>h) hHeld (Or.inl ⟨by rfl,?_⟩) ?_;rotate_left
    ·(intro w hSw;go_simp<;>with_reducible rfl)
    try simp only[Act.put,αs,αz,αc]
    refine A0 (i:=4) (v:=?_) rfl (by kernel_rfl) (λ _ _ _ h=>h) hHeld (Or.inl ⟨by rfl,?_⟩) ?_;rotate_left
    ·(intro w hSw;go_simp<;>with_reducible rfl)
    try simp only[Act.put,αs,αz,αc]
    refine A0 (i:=5) (v:=?_) rfl (by kernel_rfl) (λ _ _ _ h=>h) hHeld (Or.inl ⟨by rfl,?_⟩) ?_;rotate_left
    ·(intro w hSw;go_simp<;>with_reducible rfl)
    try simp only[Act.put,αs,αz,αc]
    refine A0 (i:=1) (v:=?_) rfl (by kernel_rfl) (λ _ _ _ h=>h) hHeld (Or.inl ⟨by rfl,?_⟩) ?_;rotate_left
    ·(intro w hSw;have mm:=A3 hSw.1 3;go_simp<;>with_reducible rfl)
    try simp only[Act.put,αs,αz,αc]
    refine A0 (i:=2) (v:=?_) rfl (by kernel_rfl) (λ _ _ _ h=>h) hHeld (Or.inl ⟨by rfl,?_⟩) ?_;rotate_left
    ·(intro w hSw;go_simp<;>with_reducible rfl)
    try simp only[Act.put,αs,αz,αc]
    refine A0 (i:=3) (v:=?_) rfl (by kernel_rfl) (λ _ _ _ h=>h) hHeld (Or.inl ⟨by rfl,?_⟩) ?_;rotate_left
    ·(intro w hSw;have mm:=hSw.2;go_simp<;>with_reducible rfl)
    try simp only[Act.put,αs,αz,αc]
    refine A0 (i:=6) (v:=?_) rfl (by kernel_rfl) (λ _ _ _ h=>h) hHeld (Or.inl ⟨by rfl,?_⟩) ?_;rotate_left
    ·(intro w hSw;obtain⟨wf1,wf2⟩:=HWF.out;go_simp<;>with_reducible rfl)
    try simp only[Act.put,αs,αz,αc]
    refine A2 (rs:=[7]) (by kernel_rfl) (by simp) (A5.one rfl (λ K hK=>?_));go_simp;go_at_call 129
    (with_reducible refine(HFR.out _ (HA5.out.below HDW.out)).mono ?_)
    rintro e w6 ⟨rfl,h6,hu6⟩;have h86:=(hu6.block _ (A4 hHeld.1) HG8.out).trans hHeld.1;have hc6:=C8 hHeld.2 hu6 HGD.out;have HA6:=η h6;have HU6:=η (HU5.out.trans ((HDW.out.mono (by simp)).trans hu6));clear h6 hu6;go_wp2_with fail
    refine hK.out _ _ (λ _=>⟨h86,hc6⟩) ?_;clear hK K;try simp only[Act.put,αs,αz,αc]
    refine A2 (rs:=[8]) (by kernel_rfl) (by simp) (A5.one rfl (λ K hK=>?_));go_simp;go_at_call 128
    (with_reducible refine(V3 _ _).mono ?_)
    rintro e w7 ⟨rfl,hu7⟩;have HA7:=η (HA6.out.below hu7);have HU7:=η (HU6.out.trans (hu7.mono (by simp)));clear hu7;go_wp2_with fail
    refine hK.out _ _ (B5 (by kernel_rfl)) ?_;clear hK K;try simp only[Act.put,αs,αz,αc]
    refine D9 (by kernel_rfl) ?_;refine A0 (i:=9) (v:=?_) rfl (by kernel_rfl) (λ _ _ _ h=>h) trivial (Or.inl ⟨by rfl,?_⟩) ?_;rotate_left
    ·(intro w hSw;go_simp<;>with_reducible rfl)
    try simp only[Act.put,αs,αz,αc]
    refine A0 (i:=10) (v:=?_) rfl (by kernel_rfl) (λ _ _ _ h=>h) trivial (Or.inl ⟨by rfl,?_⟩) ?_;rotate_left
    ·(intro w hSw;go_simp<;>with_reducible rfl)
    try simp only[Act.put,αs,αz,αc]
    refine A2 (rs:=[11]) (by kernel_rfl) (by simp) (A5.one rfl (λ K hK=>?_));go_simp;refine hK.out _ _ (λ _=>trivial) ?_;clear hK K;try simp only[Act.put,αs,αz,αc]
    refine A2 (rs:=[12]) (by kernel_rfl) (by simp) (A5.one rfl (λ K hK=>?_));go_simp;refine hK.out _ _ (λ _=>trivial) ?_;clear hK K;try simp only[Act.put,αs,αz,αc]
    refine B1 (by kernel_rfl) ?_ _;go_wp2_with fail
    go_ret2;obtain⟨S',t1,t2⟩:=HT.out;exact .inr ⟨HLK.out,_,c,rfl,⟨S',t1,t2.mono (by omega)⟩,HA7.out,HU7.out⟩
end

section
section
variable {P:Program} {ops:Array Oper} {Q:Exit->Act->World->Prop} {md:Region.Mode}
end
end
end Go.Proofs.YtgfbepakonjbnaaGreat
end
section
section
set_option linter.unusedSimpArgs false
set_option linter.unusedVariables false
namespace Go.Proofs.YtgfbepakonjbnaaGreat
open Go.RowKit Go.MapKept Go.ChangeMaps
end Go.Proofs.YtgfbepakonjbnaaGreat
end
section
set_option linter.unusedSimpArgs false
set_option linter.unusedVariables false
namespace Go.Proofs.YtgfbepakonjbnaaGreat
open Go.RowKit Go.MapKept Go.ChangeMaps
section
variable {F:Fence} {m:Nat} {P:Program} {ops:Array Oper} {Q:Exit->Act->World->Prop} {md:Region.Mode}
end
end Go.Proofs.YtgfbepakonjbnaaGreat
end
section
set_option linter.unusedSimpArgs false
set_option linter.unusedVariables false
namespace Go.Proofs.YtgfbepakonjbnaaGreat
open Go.RowKit Go.MapKept Go.ChangeMaps
end Go.Proofs.YtgfbepakonjbnaaGreat
end
section
set_option linter.unusedSimpArgs false
set_option linter.unusedVariables false
namespace Go.Proofs.YtgfbepakonjbnaaGreat
open Go.RowKit Go.MapKept Go.ChangeMaps
end Go.Proofs.YtgfbepakonjbnaaGreat
end
section
set_option linter.unusedSimpArgs false
set_option linter.unusedVariables false
namespace Go.Proofs.YtgfbepakonjbnaaGreat
open Go.RowKit Go.MapKept Go.ChangeMaps
end Go.Proofs.YtgfbepakonjbnaaGreat
end
end
section
set_option linter.unusedSimpArgs false
set_option linter.unusedVariables false
namespace Go.Proofs.YtgfbepakonjbnaaGreat
open Go.RowKit Go.MapKept Go.ChangeMaps


end Go.Proofs.YtgfbepakonjbnaaGreat
end
section
set_option linter.unusedSimpArgs false
set_option linter.unusedVariables false
namespace Go.Proofs.YtgfbepakonjbnaaGreat
open Go.RowKit
theorem By1(x c:Nat)(hx:x*256+255<18446744073709551616)(hc:c<256):IntKind.u64.wrap (IntKind.u64.wrap ((x:Int)*256)+IntKind.u64.wrap (c:Int))=((x*256+c:Nat):Int):=by
 rw[G6 ((x:Int)*256) (by omega) (by omega),G6 (c:Int) (by omega) (by omega),G6 _ (by omega) (by omega)];omega
theorem By2(v:Value)(b:List UInt8)(a n:Nat)(w:World)(hr:Rd w v b)(h1:1<=n)(h8:n<=8)(hl:a+n<=b.length)(hb:b.length<=1000000) :
  Calls Tryz.prog 217 #[v,.int .i64 (a:Int),.int .i64 (n:Int)] w λ e w'=>e=.returned (.tuple #[.int .u64 (num b a n:Int),.int .i64 0])/\w=w':=by
 obtain⟨ao,cap,rfl,hc,hh⟩:=hr;obtain⟨bk,off,rfl,hcell⟩:=hh (by omega);clear hh;have hcell':∀i,i<n->w.cell? ⟨bk,off+(a+i),none⟩=some (.int .u8 ((b[a+i]?.getD 0).toNat:Int)):=by
  intro i hi;have:=hcell (a+i) (by omega);rw[this];simp[bv,List.getElem?_eq_getElem (show a+i<b.length by omega)]
 have HC:=η hcell';clear hcell hcell';go_enter Tryz.func217,Tryz.ntmps217
 go_wp2
 go_loop [8,9] (λ x i=>∃k:Nat,k<=n/\i=.int .i64 (k:Int)/\x=.int .u64 (beN ((b.drop a).take k):Int)) (λ _ i=>n-(intOf i).toNat)
 case atStart=>exact⟨0,by omega,rfl,rfl⟩
 case round=>
  obtain⟨k,hk,rfl,rfl⟩:=hrel;by_cases hlt:k<n
  ·have hck:=HC.out k hlt;have hx:=Bc4 ((b.drop a).take k);have hlen:((b.drop a).take k).length=k:=by simp;omega
   rw[hlen] at hx;have hx7:beN ((b.drop a).take k)<256 ^ 7:=Nat.lt_of_lt_of_le hx (Nat.pow_le_pow_right (by omega) (by omega));have hstep:beN ((b.drop a).take (k+1))=beN ((b.drop a).take k)*256+(b[a+k]?.getD 0).toNat:=by
    have hkl:k<(b.drop a).length:=by simp;omega
    rw[List.take_succ_eq_append_getElem hkl,Ac8];simp[List.getElem?_eq_getElem (show a+k<b.length by omega)]
   have hor:=By1 (beN ((b.drop a).take k)) (b[a+k]?.getD 0).toNat (by omega) (UInt8.toNat_lt _);rw[← hstep] at hor;have HOR:=η hor;clear hor hstep hx hx7 hlen;go_wp2
   go_round
   case rel=>exact⟨k+1,by omega,by go_num,congrArg (Value.int IntKind.u64) HOR.out⟩
   case measure=>simp[intOf];omega
  ·obtain rfl:k=n:=by omega
   go_wp2
   go_ret2;exact⟨rfl,rfl⟩
end Go.Proofs.YtgfbepakonjbnaaGreat
end
section
set_option linter.unusedSimpArgs false
set_option linter.unusedVariables false
namespace Go.Proofs.YtgfbepakonjbnaaGreat
open Go.RowKit Go.MapKept Go.ChangeMaps
section
theorem Am8{kd n i:Nat}(h:2<=i)(h2:i<512):(hdN kd n)[i]?=some 0:=by
 unfold hdN;rw[List.getElem?_set_ne (by omega),List.getElem?_set_ne (by omega)];exact Bg2 h2
theorem Ax8{ks vs:List Bs}(h:K7 ks vs){i:Nat}(hi2:i<512):∀{k:Nat},k<=ks.length->8+48*k<=i->(Ad2 ks vs k)[i]?=some 0
 | 0,_,hi=>Am8 (by omega) hi2
 | k+1,hk,hi=>by
  have ih:=Ax8 h hi2 (k:=k) (by omega) (by omega);have hl:=K4 h (k:=k) (by omega);have h1:=Q1 h.k (k:=k) (by omega);have h2:=Q1 h.v (k:=k) (by rw[h.n];omega);have:=h.most;show(M6 (M6 _ _ _) _ _)[i]?=_
  rw[V8 (by rw[P3 (by omega)];omega),if_neg (by omega),V8 (by omega),if_neg (by omega)];exact ih
theorem Ar0{ks:List Bs}{ds:List Nat}(h:F6 ks ds){i:Nat}(hi2:i<512):∀{k:Nat},k<=ks.length->12+36*k<=i->(W0 ks ds k)[i]?=some 0
 | 0,_,hi=>by
  show(put _ _ _ _)[i]?=_
  rw[X8 _ (by rw[V0];omega),if_neg (by omega)];exact Am8 (by omega) hi2
 | k+1,hk,hi=>by
  have ih:=Ar0 h hi2 (k:=k) (by omega) (by omega);have hl:=G9 h (k:=k) (by omega);have h1:=Q1 h.k (k:=k) (by omega);have:=h.most;show(put (M6 _ _ _) _ _ _)[i]?=_
  rw[X8 _ (by rw[P3 (by omega)];omega),if_neg (by omega),V8 (by omega),if_neg (by omega)];exact ih
theorem I7.split{P:Nat->List B0->List Nat->Prop}{ks:List Bs}{ds:List Nat}{l:List B0}{S:List Nat}(h:I7 P ks ds l S):∃L:List (List B0),L.length=ds.length/\L.flatten=l/\
  ∀k c,ds[k]?=some c->∃lc Sc,L[k]?=some lc/\P c lc Sc/\(∀s,s∈Sc->s∈S)/\(∀p,p∈lc->p∈l)/\(∀x,ks[k]?=some x->∀p,p∈lc->ltB p.1 x=true)/\(∀x,0<k->ks[k-1]?=some x->∀p,p∈lc->ltB p.1 x=false):=by
 induction h with
 | @one c l S h=>
  refine⟨[l],rfl,by simp,λ k c' hc=>?_⟩;cases k with
  | zero=>simp at hc;subst hc;exact⟨l,S,rfl,h,λ _ q=>q,λ _ q=>q,by simp,by simp⟩
  | succ k=>simp at hc
 | @more c l S x ks ds l2 S2 h h1 h2 hk ih=>
  obtain⟨L,e1,e2,e3⟩:=ih;refine⟨l :: L,by simp[e1],by simp[e2],λ k c' hc=>?_⟩;cases k with
  | zero=>
   simp at hc;subst hc;exact⟨l,S,rfl,h,λ s q=>by simp[q],λ p q=>by simp[q],λ y hy=>by simp at hy;subst hy;exact h1,by simp⟩
  | succ k=>
   obtain⟨lc,Sc,f1,f2,f3,f4,f5,f6⟩:=e3 k c' (by simpa using hc);refine⟨lc,Sc,by simpa using f1,f2,λ s q=>by simp[f3 s q],λ p q=>by simp[f4 p q],λ y hy=>f5 y (by simpa using hy),λ y _ hy p hp=>?_⟩;cases k with
   | zero=>simp at hy;subst hy;exact h2 p (f4 p hp)
   | succ k=>exact f6 y (by omega) (by simpa using hy) p hp
theorem Bl3:∀a b:Bs,Op.bytesLess a b=ltB a b
 | [],[]=>rfl
 | [],_ :: _=>rfl
 | _ :: _,[]=>rfl
 | x :: a,y :: b=>by
  have ih:=Bl3 a b;show(decide (x<y) || (x == y && Op.bytesLess a b))=(if x.toNat<y.toNat then true else if y.toNat<x.toNat then false else ltB a b)
  rw[ih];by_cases h1:x.toNat<y.toNat
  ·rw[if_pos h1,decide_eq_true (by simpa [UInt8.lt_iff_toNat_lt] using h1)];rfl
  ·rw[if_neg h1,decide_eq_false (by simpa [UInt8.lt_iff_toNat_lt] using h1)];by_cases h2:y.toNat<x.toNat
   ·rw[if_pos h2];have:(x == y)=false:=by rw[beq_eq_false_iff_ne];rintro rfl;omega
    rw[this];rfl
   ·rw[if_neg h2];have:x=y:=UInt8.toNat_inj.1 (by omega);rw[this];simp
theorem Af5{w:World}{v:Value}{b:Bs}(hr:Rd w v b)(hb:b.length=512)(i j:Nat)(hij:i<=j)(hj:j<=512)(hz:∀k,i<=k->k<j->b[k]?=some 0) :
  Calls Tryz.prog 201 #[v,.int .i64 (i:Int),.int .i64 (j:Int)] w λ e w'=>e=.returned (.bool true)/\w=w':=by
 obtain⟨ao,cap,rfl,hc,hh⟩:=hr;obtain⟨bk,off,rfl,hcell⟩:=hh (by omega);have HC:Hid (∀k,i<=k->k<j->w.cell? ⟨bk,off+k,none⟩=some (.int .u8 0)):=by
  show ∀k,_
  intro k h1 h2;have h3:=hz k h1 h2;rw[hcell k (by omega)];rw[List.getElem?_eq_getElem (by omega)] at h3;injection h3 with h3;rw[h3];rfl
 rw[hb] at hc ⊢;clear hh hcell hz hb;go_enter Tryz.func201,Tryz.ntmps201
 go_wp2_with fail
 go_loopw [7] (λ x wr=>∃k:Nat,i<=k/\k<=j/\x=.int .i64 (k:Int)/\w=wr) (λ x _=>j-(intOf x).toNat)
 case atStart=>exact⟨i,Nat.le_refl _,hij,rfl,rfl⟩
 case round=>
  obtain⟨k,hk1,hk2,rfl,rfl⟩:=hrel;rcases Nat.lt_or_ge k j with hlt | hge
  ·have hm:=HC.out k hk1 hlt;have d1:decide ((k:Int)<(j:Int))=true:=decide_eq_true (by omega);have d2:decide (k<j)=true:=decide_eq_true hlt;have d3:(k:Int)<512:=by omega
   have d4:(0:Int)<=(k:Int):=by omega
   have d5:k<512:=by omega
   go_wp2_with fail
   exact⟨⟨k+1,by omega,by omega,by go_num,trivial⟩,by simp[intOf];omega⟩
  ·obtain rfl:k=j:=by omega
   have d1:decide ((k:Int)<(k:Int))=false:=decide_eq_false (by omega);go_wp2_with fail
   go_ret;exact⟨rfl,rfl⟩
theorem Ce7(b:Bs)(a:Nat):num b a 4<4294967296:=by
 have h1:=Bc4 ((b.drop a).take 4);have h2:((b.drop a).take 4).length<=4:=by rw[List.length_take];omega
 have h3:=Nat.pow_le_pow_right (show 0<256 by omega) h2;unfold num;omega
theorem P4{w:World}{v:Value}{b:Bs}(hr:Rd w v b)(hb:b.length=512)(a:Nat)(ha:a+4<=512) :
  Calls Tryz.prog 203 #[v,.int .i64 (a:Int),.int .i64 4] w λ e w'=>e=.returned (.int .i64 (num b a 4:Int))/\w=w':=by
 have hn:=Ce7 b a;have HR:=η (By2 v b a 4 w hr (by omega) (by omega) (by omega) (by omega));have hw:=(Ah5 hn);obtain⟨hw1,hw2⟩:=hw;generalize num b a 4=n at HR hn hw1 hw2 ⊢;clear hr hn;go_enter Tryz.func203,Tryz.ntmps203
 go_wp2_with fail
 refine HR.out.mono ?_;rintro e w' ⟨rfl,rfl⟩;go_wp2_with fail
 go_ret;exact⟨rfl,rfl⟩
theorem Bb8{w:World}{b:Nat}{l:Bs}{T:TypeId}{fr:Nat × Nat}(h:w.heap[b]?=some (.cells (bts l).toArray T fr))(hl:l.length=32):(convert 32 9 (.slice (some ⟨b,0,none⟩) 32 32)).run Tryz.prog w=.ok (.string (str l)) w:=Cd3 (Av5 h hl) (by omega)
attribute [-go_sem] loadCells storeCells Instr.build Instr.buildSlice
theorem Bp0(a b:Bs)(ha:a.length=32)(hb:b.length=32)(w:World) :
  Calls Tryz.prog 202 #[arr a,arr b] w λ e w'=>e=.returned (.bool (ltB a b))/\Upd [] w w':=by
 obtain⟨wA,hwA⟩:∃wA,wA=(w.alloc (.cells (bts a).toArray 35)).alloc (.cells (bts b).toArray 35):=⟨_,rfl⟩;have hu:Upd [] w wA:=by rw[hwA];exact((Upd.refl _ _).alloc _).alloc _
 obtain⟨b2,hb2⟩:∃x,x=w.heap.size:=⟨_,rfl⟩;obtain⟨b3,hb3⟩:∃x,x=w.heap.size+1:=⟨_,rfl⟩;obtain⟨h2,h3⟩:=Ai9 w (bts a).toArray (bts b).toArray 35 35;rw[← hwA,← hb2] at h2;rw[← hwA,← hb3] at h3;have H2:=η h2;have H3:=η h3;have HU:=η hu;have HW:=η hwA;have HB:=η (And.intro hb2 hb3);have HL:Hid (Op.bytesLess (str a).toList (str b).toList=ltB a b):=by show _=_;rw[Au2,Au2];exact Bl3 a b
 clear hu h2 h3 hwA hb2 hb3;unfold arr;go_enter Tryz.func202,Tryz.ntmps202
 go_wp2_with fail
 rw[← HW.out,← HB.out.2,← HB.out.1];refine B9 (λ w'=>w'.heap[b2]?=some (.cells (bts a).toArray 35 (0,0))/\w'.heap[b3]?=some (.cells (bts b).toArray 35 (0,0))) [] (by kernel_rfl) ⟨H2.out,H3.out⟩ (λ hHeld=>?_);refine A0 (i:=0) (v:=?_) rfl (by kernel_rfl) (λ _ _ _ h=>h) hHeld (Or.inl ⟨by rfl,?_⟩) ?_;rotate_left
 ·(intro w hSw;go_simp<;>with_reducible rfl)
 try simp only[Act.put,αs,αz,αc]
 refine A0 (i:=2) (v:=?_) rfl (by kernel_rfl) (λ _ _ _ h=>h) hHeld (Or.inl ⟨by rfl,?_⟩) ?_;rotate_left
 ·(intro w hSw;go_simp<;>with_reducible rfl)
 try simp only[Act.put,αs,αz,αc]
 refine A0 (i:=1) (v:=?_) rfl (by kernel_rfl) (λ _ _ _ h=>h) hHeld (Or.inl ⟨by rfl,?_⟩) ?_;rotate_left
 ·(intro w hSw;have hs:=Bb8 hSw.1 ha;go_simp<;>with_reducible rfl)
 try simp only[Act.put,αs,αz,αc]
 refine A0 (i:=3) (v:=?_) rfl (by kernel_rfl) (λ _ _ _ h=>h) hHeld (Or.inl ⟨by rfl,?_⟩) ?_;rotate_left
 ·(intro w hSw;have hs:=Bb8 hSw.2 hb;go_simp<;>with_reducible rfl)
 try simp only[Act.put,αs,αz,αc]
 refine A0 (i:=4) (v:=?_) rfl (by kernel_rfl) (λ _ _ _ h=>h) hHeld (Or.inl ⟨by rfl,?_⟩) ?_;rotate_left
 ·(intro w hSw;have hl:=HL.out;go_simp<;>with_reducible rfl)
 try simp only[Act.put,αs,αz,αc]
 refine A2 (rs:=[5]) (by kernel_rfl) (by simp) (A5.one rfl (λ K hK=>?_));go_simp;refine hK.out _ _ (λ _=>hHeld) ?_;clear hK K;try simp only[Act.put,αs,αz,αc]
 refine B1 (by kernel_rfl) ?_ _;go_wp2_with fail
 go_ret;exact⟨rfl,HU.out.drew⟩
end
end Go.Proofs.YtgfbepakonjbnaaGreat
end
section
section
namespace Go.Proofs.YtgfbepakonjbnaaGreat
open Go.RowKit
section
variable {U:List Nat} {B:Nat} {T:TypeId} {a b c:World}
end
end Go.Proofs.YtgfbepakonjbnaaGreat
end
section
namespace Go.Proofs.YtgfbepakonjbnaaGreat
open Go.RowKit Go.MapKept Go.ChangeMaps
abbrev TP:TypeId:=169
attribute [-go_sem] loadCells storeCells
end Go.Proofs.YtgfbepakonjbnaaGreat
end
end
section
set_option linter.unusedSimpArgs false
set_option linter.unusedVariables false
namespace Go.Proofs.YtgfbepakonjbnaaGreat
open Go.RowKit Go.MapKept Go.ChangeMaps
section
theorem I7.all{P:Nat->List B0->List Nat->Prop}{Q:B0->Prop}(hP:∀k l S,P k l S->∀p,p∈l->Q p){ks:List Bs}{ds:List Nat}{l:List B0}{S:List Nat}(h:I7 P ks ds l S):∀p,p∈l->Q p:=by
 induction h with
 | one h=>exact hP _ _ _ h
 | more h _ _ _ ih=>exact λ p hp=>(List.mem_append.1 hp).elim (hP _ _ _ h p) (ih p)
theorem E6.pairs{C:Nat->Sec}:∀{d:Nat} {root:Bool} {a:Nat} {l:List B0} {S:List Nat},E6 C root d a l S->∀p,p∈l->p.1.length=32/\p.2.length=16
 | 0,_,_,_,_,h=>h.2.2.1.pairs
 | d+1,_,_,_,_,h=>by
  obtain⟨_,ks,ds,S',_,_,_,_,_,hk⟩:=h;exact hk.all λ k l S h=>E6.pairs (d:=d) h
attribute [-go_sem] loadCells storeCells
attribute [-go_sem] Instr.build
end
section
def pc(p:B0):List Value:=bts p.1++bts p.2
def K1(w:World)(B:Nat)(v:Value)(l:List B0):Prop:=w.ownsRow B TP 48 v l.length (l.map pc).flatten
theorem Ao4:(Tryz.prog.info? 169).map (λ i=>(i.zero,i.size,i.bytes))=some (some (.agg ((List.replicate 48 (Value.int .u8 0)).toArray)),48,48):=by kernel_rfl
theorem R6{p:B0}(h1:p.1.length=32)(h2:p.2.length=16):(pc p).length=48:=by unfold pc;rw[List.length_append,A9,A9,h1,h2]
theorem Ak6(p:B0):∀u∈pc p,u.oneCell'=true:=λ u hu=>(List.mem_append.1 hu).elim (I9 _ u) (I9 _ u)
theorem Bo7{k v:Bs}(hk:k.length=32)(hv:v.length=16)(w:World):(Instr.build 169 #[(0,.agg (bts k).toArray),(1,.agg (bts v).toArray)]).run Tryz.prog w=.ok (.agg (pc (k,v)).toArray) w:=by
 match k,hk,v,hv with
 | [x0,x1,x2,x3,x4,x5,x6,x7,x8,x9,x10,x11,x12,x13,x14,x15,x16,x17,x18,x19,x20,x21,x22,x23,x24,x25,x26,x27,x28,x29,x30,x31],_,[y0,y1,y2,y3,y4,y5,y6,y7,y8,y9,y10,y11,y12,y13,y14,y15],_=>exact run_build w _ _ _ (by kernel_rfl)
theorem Ce5{p:B0}(h1:p.1.length=32)(h2:p.2.length=16)(w:World):(Instr.buildSlice 110 1 #[(0,.agg (pc p).toArray)]).run Tryz.prog w=.ok (.slice (some ⟨w.heap.size,0,none⟩) 1 1) (w.alloc (.cells (pc p).toArray 169)):=
 X3 (e:=169) (sz:=48) Tryz.underlying110 (by kernel_rfl) (by decide) (by decide) (pc p) (R6 h1 h2) w
theorem K1.shape{w:World}{B:Nat}{v:Value}{l:List B0}(h:K1 w B v l):∃a c,v=.slice a l.length c:=by
 rcases h.2 with⟨e,h0⟩ | ⟨g,cap,cur,e,_⟩
 ·exact⟨none,0,by rw[e,h0]⟩
 ·exact⟨_,_,e⟩
def TyS(T:TypeId):Prop:=T=TP∨T=110
theorem B8.turnedS{w w':World}{g:Sg}{M:Nat->Option Sec}(h:B8 w g M){S:List Nat}(hb:∀b,b∈S->∃c T fr,w.heap[b]?=some (.cells c T fr)/\TyS T)(hu:Upd S w w'):B8 w' g M:=by
 refine⟨h.jr.own hu (λ k hk=>?_),h.tx.upd hu (λ hk=>?_) (λ hk=>?_) (λ k c hk e=>?_),h.ne,h.ok,h.len,h.fx⟩
 ·obtain⟨c,T,fr,hb,t⟩:=hb k hk;rcases t with rfl | rfl;all_goals exact⟨_,_,_,hb,by decide,by decide,by decide,by decide⟩
 ·obtain⟨c,T,fr,hb,t⟩:=hb _ hk;have:=h.tx.st;rw[hb] at this;rcases t with rfl | rfl;all_goals simp[TP] at this
 ·obtain⟨c,T,fr,hb,t⟩:=hb _ hk;exact h.tx.map hb
 ·obtain⟨c2,T,fr,hb,t⟩:=hb _ hk;rcases t with rfl | rfl;all_goals rw[hb] at e;simp[TP] at e
attribute [-go_sem] loadCells storeCells Instr.build Instr.buildSlice
end
section
attribute [-go_sem] loadCells storeCells Instr.build Instr.buildSlice
end
end Go.Proofs.YtgfbepakonjbnaaGreat
end
