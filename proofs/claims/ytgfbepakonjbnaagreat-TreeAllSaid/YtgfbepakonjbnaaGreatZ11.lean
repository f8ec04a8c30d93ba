/-
  A node is written. Rows of arrays that are one's own, and what is put behind them.
-/
import Derived.Test.YtgfbepakonjbnaaGreatZ10
import Derived.Great.BuildSlice
import Derived.Laws.ResultCell
set_option maxRecDepth 100000
set_option maxHeartbeats 16000000
section
section
namespace Go.Proofs.YtgfbepakonjbnaaGreat
open Go.RowKit Go.MapKept Go.ChangeMaps
attribute [-go_sem] loadCells
theorem K3(w:World){l:List UInt8}(hl:l.length=32):(storeCells ⟨w.heap.size,0,none⟩ (bts l) 0).run Tryz.prog (w.alloc (.cells #[.int .u8 0,.int .u8 0,.int .u8 0,.int .u8 0,.int .u8 0,.int .u8 0,.int .u8 0,.int .u8 0,.int .u8 0,.int .u8 0,.int .u8 0,.int .u8 0,.int .u8 0,.int .u8 0,.int .u8 0,.int .u8 0,.int .u8 0,.int .u8 0,.int .u8 0,.int .u8 0,.int .u8 0,.int .u8 0,.int .u8 0,.int .u8 0,.int .u8 0,.int .u8 0,.int .u8 0,.int .u8 0,.int .u8 0,.int .u8 0,.int .u8 0,.int .u8 0] 35))=.ok () (w.alloc (.cells (bts l).toArray 35)):=by
 have:=run_storeCells_from (P:=Tryz.prog) w.heap.size 35 (bts l) 0 #[.int .u8 0,.int .u8 0,.int .u8 0,.int .u8 0,.int .u8 0,.int .u8 0,.int .u8 0,.int .u8 0,.int .u8 0,.int .u8 0,.int .u8 0,.int .u8 0,.int .u8 0,.int .u8 0,.int .u8 0,.int .u8 0,.int .u8 0,.int .u8 0,.int .u8 0,.int .u8 0,.int .u8 0,.int .u8 0,.int .u8 0,.int .u8 0,.int .u8 0,.int .u8 0,.int .u8 0,.int .u8 0,.int .u8 0,.int .u8 0,.int .u8 0,.int .u8 0] _ (A6 _) (by rw[A8,hl];rfl) (G7 l);rw[this,N8];congr 3
theorem Bs4{W:World}{kb I N C n:Nat}{l x:List UInt8}{v:Value}(hb:W.heap[kb]?=some (.cells (bts l).toArray 5 (0,0)))(hr:Rd W v x)(hI:I+N<=l.length)(hx:x.length<=N)(hn:n=x.length) :
  ∃W9,(∀ty,(Builtin.copy_ #[32,32] ty #[.slice (some ⟨kb,I,none⟩) N C,v]).run Tryz.prog W=.ok (.int .i64 (n:Int)) W9)/\W9.heap[kb]?=some (.cells (bts (N4 l I x)).toArray 5 (0,0))/\Upd [kb] W W9:=by
 have hrun:=λ ty=>Ad1 (P:=Tryz.prog) (dT:=32) (sT:=32) (ty:=ty) (u8:=5) Tryz.underlying32 Bf8 kb I N C (bts l) hb (by rw[A8];omega) hr;rw[Nat.min_eq_left hx,List.take_of_length_le hx,← hn] at hrun;refine⟨_,hrun,?_,?_⟩
 ·rw[setRow_heap _ _ _ _ _ _ hb];congr 2
  unfold N4 splice;simp[bts,List.map_drop,List.map_take]
 ·exact⟨rfl,rfl,rfl,by simp,λ q _ hq=>by rw[setRow_other _ _ _ _ (by simpa using hq)]⟩
def F1(M:Nat->Option Sec)(i:Nat)(s:Sec):Nat->Option Sec:=λ k=>if k=i then some s else M k
theorem Cg0{w:World}{b o n:Nat}{l:List UInt8}(h:w.rangeAt b o (bts l))(hl:l.length=n):Rd w (.slice (some ⟨b,o,none⟩) n n) l:=by
 subst hl;refine⟨_,_,rfl,Nat.le_refl _,λ hp=>⟨b,o,rfl,λ i hi=>h i _ ?_⟩⟩;simp[bts,hi]
def KRd(w:World)(v:Value)(ds:List Nat):Prop:=
 ∃ao cap,v=.slice ao ds.length cap/\ds.length<=cap/\(0<ds.length->∃b off,ao=some ⟨b,off,none⟩/\∀(i d:Nat),ds[i]?=some d->w.cell? ⟨b,off+i,none⟩=some (.int .u32 (d:Int)))
theorem KRd.keep{w w':World}{v:Value}{ds:List Nat}(h:KRd w v ds){S:List Nat}(hu:Upd S w w')(hS:∀a l c,v=.slice (some a) l c->a.block∉S):KRd w' v ds:=by
 obtain⟨ao,cap,rfl,hc,hh⟩:=h;refine⟨ao,cap,rfl,hc,λ hp=>?_⟩;obtain⟨b,off,rfl,hr⟩:=hh hp;exact⟨b,off,rfl,λ i e he=>D7 (hr i e he) hu (hS ⟨b,off,none⟩ _ _ rfl)⟩
theorem KRd.shape{w:World}{v:Value}{ds:List Nat}(h:KRd w v ds):∃a c,v=.slice a ds.length c:=by
 obtain⟨ao,cap,rfl,_⟩:=h;exact⟨_,_,rfl⟩
theorem P4{w:World}{b:Nat}{x0 x1 x2 x3:Value}{T:TypeId}{fr:Nat × Nat}(h:w.heap[b]?=some (.cells #[x0,x1,x2,x3] T fr)):w.cell? ⟨b,0,none⟩=some x0/\w.cell? ⟨b,1,none⟩=some x1/\w.cell? ⟨b,2,none⟩=some x2/\w.cell? ⟨b,3,none⟩=some x3:=by
 refine⟨?_,?_,?_,?_⟩<;>(rw[A4 h];rfl)
theorem Ah0{w:World}{g:Sg}{M:Nat->Option Sec}(h:B7 w g M){vk vv vd:Value}{ks vs:List Bs}(hk:RRd w vk 32 (ks.map bts))(hv:RRd w vv 16 (vs.map bts))(hok:K5 ks vs)(at_:Nat)(hat:at_<g.h)(hat2:at_<4294967296)(hc:(M at_).isSome=true∨F2 M g.h<40) :
  Calls Tryz.prog 127 #[.agg #[.int .i64 1,vk,vv,vd],.pointer (some ⟨g.x.tb,0,none⟩),.int .u32 (at_:Int)] w λ e w'=>e=.returned (.int .i64 0)/\B7 w' g (F1 M at_ (C8 ks vs))/\Upd [g.x.wb] w w':=by
 obtain⟨ak,ck,rfl⟩:=hk.shape;obtain⟨av,cv,rfl⟩:=hv.shape;simp only[List.length_map] at hk hv ⊢;have hmk:=P7;obtain⟨wA,hwA⟩:∃wA,wA=(w.alloc (.cells #[.int .i64 1,.slice ak ks.length ck,.slice av vs.length cv,vd] 220)).alloc (.cells (bts F9).toArray 5):=⟨_,rfl⟩;have hu:Upd [] w wA:=by rw[hwA];exact((Upd.refl _ _).alloc _).alloc _
 obtain⟨b3,hb3⟩:∃b,b=w.heap.size:=⟨_,rfl⟩;obtain⟨kb,hkb⟩:∃b,b=w.heap.size+1:=⟨_,rfl⟩;have h1:wA.heap[b3]?=some (.cells #[.int .i64 1,.slice ak ks.length ck,.slice av vs.length cv,vd] 220 (0,0)):=by
  rw[hwA,hb3,A9 (by simp)];exact A6 _
 have h2:wA.heap[kb]?=some (.cells (bts F9).toArray 5 (0,0)):=by
  rw[hwA,hkb];have:=A6 (w:=w.alloc (.cells #[.int .i64 1,.slice ak ks.length ck,.slice av vs.length cv,vd] 220)) (.cells (bts F9).toArray 5);simpa using this
 have hw1:(w.alloc (.cells #[.int .i64 1,.slice ak ks.length ck,.slice av vs.length cv,vd] 220)).heap.size=kb:=by rw[hkb];simp
 have HW:=η hwA;have HB3:=η hb3;have HKB:=η hkb;have HH:=η h;have HK:=η hk;have HV:=η hv;have HOK:=η hok;have HC:=η hc;have HU:=η hu;have H1:=η h1;have H2:=η h2;have hn:=hok.most;clear h hk hv hok hc hu h1 h2 hwA hb3 hkb;go_enter Tryz.func127,Tryz.ntmps127
 go_upto_region 2 with(fail)
 have hwA:=HW.out;have hb3:=HB3.out;have hkb:=HKB.out;try rw[← hwA]
 try rw[← hkb]
 try rw[← hb3]
 clear hwA hkb hb3 hmk hw1;have n0:wA.cell? ⟨b3,0,none⟩=some (.int .i64 1):=by rw[A4 H1.out];rfl
 have n1:wA.cell? ⟨b3,1,none⟩=some (.slice ak ks.length ck):=by rw[A4 H1.out];rfl
 obtain⟨z0,f0⟩:=Ay7 H2.out (i:=0) (by rw[C0];omega);obtain⟨z1,f1⟩:=Ay7 H2.out (i:=1) (by rw[C0];omega);have hwn:IntKind.u8.wrap (ks.length:Int)=(ks.length:Int):=by rw[IntKind.wrap_u8];omega
 have hne:b3≠kb:=by have:=HB3.out;have:=HKB.out;omega
 go_cut [] (λ wy=>wy.heap[kb]?=some (.cells (bts (hdN 1 ks.length)).toArray 5 (0,0))/\Upd [kb] wA wy)
 case first=>
  go_region
  all_goals
   go_wp2_with fail
   go_meet
   have o2:=Y6 (Y6 H2.out 0 (y:=1) (by omega)) 1 (y:=ks.length) (by omega);exact⟨o2,(((Upd.refl _ _).set _ (.inl (by simp))).set _ (.inl (by simp))).drew⟩
 case rest=>
  rename World=>wy
  obtain⟨hy,huy⟩:=hcut;have m0:=D7 n0 huy (by simpa using hne);have m1:=D7 n1 huy (by simpa using hne);have HY:=η hy;have HUY:=η huy;have hkw:w.heap.size<=kb:=by have:=HKB.out;omega
  clear hy huy n0 n1 z0 f0 z1 f1 hwn;go_wp2_with fail
  go_loopw [34] (λ i wr=>∃q:Nat,q<=ks.length/\i=.int .i64 (q:Int)/\wr.heap[kb]?=some (.cells (bts (Af3 ks vs q)).toArray 5 (0,0))/\Upd [kb] wA wr) (λ i _=>ks.length-(intOf i).toNat)
  case atStart=>exact⟨0,Nat.zero_le _,rfl,HY.out,HUY.out⟩
  case round=>
   obtain⟨q,hq,rfl,hb,hu⟩:=hrel;have hB3:=(hu.block _ (A2 H1.out) (by simpa using hne)).trans H1.out;have huw:=HU.out.late hu (λ k hk=>by simp at hk;subst hk;exact .inr hkw);have HB:=η hb;have HUr:=η hu;have HUw:=η huw;have HB3r:=η hB3;clear hb hu huw hB3 m0 m1;by_cases hlt:q<ks.length
   ·have hlt':decide ((q:Int)<(ks.length:Int))=true:=decide_eq_true (by omega);have hlt2:decide (q<ks.length)=true:=decide_eq_true hlt;obtain⟨n0,n1,n2,-⟩:=P4 HB3r.out;obtain⟨ao,cap,he,_,hh⟩:=HK.out;simp only[List.length_map] at he hh;cases he
    obtain⟨bk,off,rfl,hr⟩:=hh (by omega);have hkq:ks[q]?=some ks[q]:=List.getElem?_eq_getElem hlt;have rk:=E9 (hr q (bts ks[q]) (by rw[List.getElem?_map,hkq];rfl)) HUw.out (by simp);clear hh hr;obtain⟨ao,cap,he,_,hh⟩:=HV.out;simp only[List.length_map] at he hh;cases he
    have hnv:=HOK.out.n;obtain⟨bvv,offv,rfl,hr⟩:=hh (by omega);have hvq:vs[q]?=some vs[q]:=List.getElem?_eq_getElem (by omega);have rv:=hr q (bts vs[q]) (by rw[List.getElem?_map,hvq];rfl);have hlk:=HOK.out.k _ (List.getElem_mem hlt);have hlv:=HOK.out.v _ (List.getElem_mem (show q<vs.length by omega));have hgk:ks.getD q []=ks[q]:=by rw[List.getD_eq_getElem?_getD,hkq];rfl
    have hgv:vs.getD q []=vs[q]:=by rw[List.getD_eq_getElem?_getD,hvq];rfl
    clear hh hr;generalize ks[q]=kq at *;generalize vs[q]=vq at *;have hll:=K6 HOK.out (k:=q) (by omega);obtain⟨I1,hI1⟩:∃I,I=8+48*q:=⟨_,rfl⟩;obtain⟨I2,hI2⟩:∃I,I=I1+32:=⟨_,rfl⟩;have hi1:8+48*(q:Int)=(I1:Int):=by omega
    have hi2:(I1:Int)+32=(I2:Int):=by omega
    have hi3:I2<=512:=by omega
    obtain⟨wB,hwB⟩:∃wB,wB=wr.alloc (.cells (bts kq).toArray 35):=⟨_,rfl⟩;obtain⟨b9,hb9⟩:∃b,b=wr.heap.size:=⟨_,rfl⟩;have uB:Upd [kb] wr wB:=by rw[hwB];exact(Upd.refl _ _).alloc _
    have hbB:wB.drew.heap[kb]?=some (.cells (bts (Af3 ks vs q)).toArray 5 (0,0)):=by
     show wB.heap[kb]?=_
     rw[hwB,A9 (A2 HB.out)];exact HB.out
    have hb9B:wB.drew.heap[b9]?=some (.cells (bts kq).toArray 35 (0,0)):=by
     show wB.heap[b9]?=_
     rw[hwB,hb9];exact A6 _
    obtain⟨w9,hrun9,h9,hu9⟩:=Bs4 (I:=I1) (N:=512-I1) (C:=512-I1) (n:=32) hbB (Ay6 hb9B hlk) (by omega) (by omega) hlk.symm;have hld:=B2 rk hlk;have HWB:=η hwB;have HB9:=η hb9;have HU9:=η hu9;have H9:=η h9;have HGK:=η hgk;have HGV:=η hgv;have HI1:=η hI1;have HI2:=η hI2;have i0:(0:Int)<=(q:Int):=by omega
    have i1:(q:Int)<(ks.length:Int):=by omega
    have j0:(0:Int)<=(I1:Int):=by omega
    have j1:(I1:Int)<=512:=by omega
    have UB:=η uB;have RV:=η rv;clear hwB hb9 hu9 h9 hgk hgv hI1 hI2 uB rv hbB hb9B;have hst:=K3 wr hlk;have n0':(wr.alloc (.cells (bts kq).toArray 35)).cell? ⟨b3,0,none⟩=some (.int .i64 1):=D7 n0 ((Upd.refl [] _).alloc _) (by simp);go_wp2_with fail
    have hwB:=HWB.out;have hb9:=HB9.out;rw[← hwB,← hb9];clear hwB hb9;go_region
    all_goals
     have u9:=((HUr.out.trans UB.out).drew).trans HU9.out;have m2:w9.cell? ⟨b3,2,none⟩=some (.slice (some ⟨bvv,offv,none⟩) vs.length cv):=by
      rw[A4 ((u9.block _ (A2 H1.out) (by simpa using hne)).trans H1.out)];rfl
     have hb9d:w9.drew.heap[kb]?=some (.cells (bts (N4 (Af3 ks vs q) I1 kq)).toArray 5 (0,0)):=H9.out;have rv9:w9.drew.rangeAt bvv (offv+q*16) (bts vq):=E9 RV.out (HU.out.late u9 (λ k hk=>by simp at hk;subst hk;exact .inr hkw)).drew (by simp);have hI2:=HI2.out;obtain⟨w10,hrun10,h10,hu10⟩:=Bs4 (I:=I2) (N:=512-I2) (C:=512-I2) (n:=16) hb9d (Cg0 rv9 hlv) (by rw[Q1 (by omega)];omega) (by omega) hlv.symm;have HU10:=η (u9.drew.trans hu10);have H10:=η h10;have j2:(0:Int)<=(I2:Int):=by omega
     have j3:(I2:Int)<=512:=by omega
     have i3:(q:Int)<(vs.length:Int):=by have:=HOK.out.n;omega
     clear u9 hb9d rv9 h10 hu10 hrun9 hI2;go_wp2_with fail
     go_region
     all_goals
      go_wp2_with fail
      refine⟨⟨q+1,by omega,by go_num,?_,HU10.out⟩,by simp[intOf];omega⟩;show w10.heap[kb]?=some (.cells (bts (N4 (N4 (Af3 ks vs q) (8+48*q) (ks.getD q [])) (8+48*q+32) (vs.getD q []))).toArray 5 (0,0))
      rw[HGK.out,HGV.out,← HI1.out,← HI2.out];exact H10.out
   ·obtain rfl:q=ks.length:=by omega
    have hlt':decide ((ks.length:Int)<(ks.length:Int))=false:=by simp
    have hll:=K6 HOK.out (k:=ks.length) (Nat.le_refl _);have HWR:=η (Ax9 (HH.out.below HUw.out) at_ hat (.slice (some ⟨kb,0,none⟩) 512 512) (C8 ks vs) (K9 HB.out hll) hll HC.out);clear hll;go_wp2_with fail
    refine HWR.out.mono ?_;rintro e w' ⟨rfl,h',hu'⟩;have H':=η h';have HU':=η ((HUw.out.mono (by simp)).trans hu');clear h' hu';go_wp2_with fail
    go_ret;exact⟨rfl,H'.out,HU'.out⟩
theorem Aj0{w:World}{g:Sg}{M:Nat->Option Sec}(h:B7 w g M){vk vv vd:Value}{ks:List Bs}{ds:List Nat}(hk:RRd w vk 32 (ks.map bts))(hv:KRd w vd ds)(hok:G0 ks ds)(at_:Nat)(hat:at_<g.h)(hat2:at_<4294967296)(hc:(M at_).isSome=true∨F2 M g.h<40) :
  Calls Tryz.prog 127 #[.agg #[.int .i64 2,vk,vv,vd],.pointer (some ⟨g.x.tb,0,none⟩),.int .u32 (at_:Int)] w λ e w'=>e=.returned (.int .i64 0)/\B7 w' g (F1 M at_ (B5 ks ds))/\Upd [g.x.wb] w w':=by
 obtain⟨ak,ck,rfl⟩:=hk.shape;obtain⟨av,cv,rfl⟩:=hv.shape;simp only[List.length_map] at hk ⊢;have hmk:=P7;obtain⟨wA,hwA⟩:∃wA,wA=(w.alloc (.cells #[.int .i64 2,.slice ak ks.length ck,vv,.slice av ds.length cv] 220)).alloc (.cells (bts F9).toArray 5):=⟨_,rfl⟩;have hu:Upd [] w wA:=by rw[hwA];exact((Upd.refl _ _).alloc _).alloc _
 obtain⟨b3,hb3⟩:∃b,b=w.heap.size:=⟨_,rfl⟩;obtain⟨kb,hkb⟩:∃b,b=w.heap.size+1:=⟨_,rfl⟩;have h1:wA.heap[b3]?=some (.cells #[.int .i64 2,.slice ak ks.length ck,vv,.slice av ds.length cv] 220 (0,0)):=by
  rw[hwA,hb3,A9 (by simp)];exact A6 _
 have h2:wA.heap[kb]?=some (.cells (bts F9).toArray 5 (0,0)):=by
  rw[hwA,hkb];have:=A6 (w:=w.alloc (.cells #[.int .i64 2,.slice ak ks.length ck,vv,.slice av ds.length cv] 220)) (.cells (bts F9).toArray 5);simpa using this
 have hw1:(w.alloc (.cells #[.int .i64 2,.slice ak ks.length ck,vv,.slice av ds.length cv] 220)).heap.size=kb:=by rw[hkb];simp
 have HW:=η hwA;have HB3:=η hb3;have HKB:=η hkb;have HH:=η h;have HK:=η hk;have HV:=η hv;have HOK:=η hok;have HC:=η hc;have HU:=η hu;have H1:=η h1;have H2:=η h2;have hn:=hok.most;clear h hk hv hok hc hu h1 h2 hwA hb3 hkb;go_enter Tryz.func127,Tryz.ntmps127
 go_upto_region 2 with(fail)
 have hwA:=HW.out;have hb3:=HB3.out;have hkb:=HKB.out;try rw[← hwA]
 try rw[← hkb]
 try rw[← hb3]
 clear hwA hkb hb3 hmk hw1;have n0:wA.cell? ⟨b3,0,none⟩=some (.int .i64 2):=by rw[A4 H1.out];rfl
 have n1:wA.cell? ⟨b3,1,none⟩=some (.slice ak ks.length ck):=by rw[A4 H1.out];rfl
 obtain⟨z0,f0⟩:=Ay7 H2.out (i:=0) (by rw[C0];omega);obtain⟨z1,f1⟩:=Ay7 H2.out (i:=1) (by rw[C0];omega);have hwn:IntKind.u8.wrap (ks.length:Int)=(ks.length:Int):=by rw[IntKind.wrap_u8];omega
 have hne:b3≠kb:=by have:=HB3.out;have:=HKB.out;omega
 go_cut [] (λ wy=>wy.heap[kb]?=some (.cells (bts (hdN 2 ks.length)).toArray 5 (0,0))/\Upd [kb] wA wy)
 case first=>
  go_region
  all_goals
   go_wp2_with fail
   go_meet
   have o2:=Y6 (Y6 H2.out 0 (y:=2) (by omega)) 1 (y:=ks.length) (by omega);exact⟨o2,(((Upd.refl _ _).set _ (.inl (by simp))).set _ (.inl (by simp))).drew⟩
 case rest=>
  rename World=>wy
  obtain⟨hy,huy⟩:=hcut;have m0:=D7 n0 huy (by simpa using hne);have m1:=D7 n1 huy (by simpa using hne);have hkw:w.heap.size<=kb:=by have:=HKB.out;omega
  have m3:wy.cell? ⟨b3,3,none⟩=some (.slice av ds.length cv):=by rw[A4 ((huy.block _ (A2 H1.out) (by simpa using hne)).trans H1.out)];rfl
  obtain⟨ao,cap,he,_,hh⟩:=HV.out;cases he
  have hnd:=HOK.out.n;obtain⟨bd,offd,rfl,hr⟩:=hh (by omega);obtain⟨d0,hd0⟩:∃d,ds[0]?=some d:=⟨_,List.getElem?_eq_getElem (by omega)⟩;have hgd:ds.getD 0 0=d0:=by rw[List.getD_eq_getElem?_getD,hd0];rfl
  have k0:=D7 (hr 0 d0 hd0) (HU.out.late huy (λ k hk=>by simp at hk;subst hk;exact .inr hkw)) (by simp);rw[Nat.add_zero] at k0;have HRD:Hid (∀(i d:Nat),ds[i]?=some d->w.cell? ⟨bd,offd+i,none⟩=some (.int .u32 (d:Int))):=by show ∀(i d:Nat),_;exact hr
  have HLAY:=η (Be2 hy (V9 _ _) 512 8 8 rfl (by omega) d0);have i9:(0:Int)<(ds.length:Int):=by omega
  have HGD:=η hgd;have HUY:=η huy;clear hy huy n0 n1 z0 f0 z1 f1 hwn hnd hh hr hd0 hgd;go_wp2_with fail
  refine HLAY.out.mono ?_;rintro e wz ⟨rfl,hz,huz⟩;have HZ:Hid (wz.heap[kb]?=some (.cells (bts (X9 ks ds 0)).toArray 5 (0,0))):=by
   show wz.heap[kb]?=some (.cells (bts (put (hdN 2 ks.length) 8 4 (ds.getD 0 0))).toArray 5 (0,0))
   rw[HGD.out];exact hz
  have m0':=D7 m0 huz (by simpa using hne);have m1':=D7 m1 huz (by simpa using hne);have HUZ:=η (HUY.out.trans huz);clear hz huz m0 m1 m3 k0;go_wp2_with fail
  go_loopw [34] (λ i wr=>∃q:Nat,q<=ks.length/\i=.int .i64 (q:Int)/\wr.heap[kb]?=some (.cells (bts (X9 ks ds q)).toArray 5 (0,0))/\Upd [kb] wA wr) (λ i _=>ks.length-(intOf i).toNat)
  case atStart=>exact⟨0,Nat.zero_le _,rfl,HZ.out,HUZ.out⟩
  case round=>
   obtain⟨q,hq,rfl,hb,hu⟩:=hrel;have hB3:=(hu.block _ (A2 H1.out) (by simpa using hne)).trans H1.out;have huw:=HU.out.late hu (λ k hk=>by simp at hk;subst hk;exact .inr hkw);have HB:=η hb;have HUr:=η hu;have HUw:=η huw;have HB3r:=η hB3;clear hb hu huw hB3 m0' m1';by_cases hlt:q<ks.length
   ·have hlt':decide ((q:Int)<(ks.length:Int))=true:=decide_eq_true (by omega);have hlt2:decide (q<ks.length)=true:=decide_eq_true hlt;obtain⟨n0,n1,-,n3⟩:=P4 HB3r.out;obtain⟨ao,cap,he,_,hh⟩:=HK.out;simp only[List.length_map] at he hh;cases he
    obtain⟨bk,off,rfl,hr⟩:=hh (by omega);have hkq:ks[q]?=some ks[q]:=List.getElem?_eq_getElem hlt;have rk:=E9 (hr q (bts ks[q]) (by rw[List.getElem?_map,hkq];rfl)) HUw.out (by simp);clear hh hr;have hnd:=HOK.out.n;obtain⟨dq,hdq⟩:∃d,ds[q+1]?=some d:=⟨_,List.getElem?_eq_getElem (by omega)⟩;have kd:=HRD.out _ _ hdq;have hgv:ds.getD (q+1) 0=dq:=by rw[List.getD_eq_getElem?_getD,hdq];rfl
    have hlk:=HOK.out.k _ (List.getElem_mem hlt);have hgk:ks.getD q []=ks[q]:=by rw[List.getD_eq_getElem?_getD,hkq];rfl
    clear hdq hnd;generalize ks[q]=kq at *;have hll:=J6 HOK.out (k:=q) (by omega);obtain⟨I1,hI1⟩:∃I,I=12+36*q:=⟨_,rfl⟩;obtain⟨I2,hI2⟩:∃I,I=I1+32:=⟨_,rfl⟩;have hi1:12+36*(q:Int)=(I1:Int):=by omega
    have hi2:(I1:Int)+32=(I2:Int):=by omega
    have hi3:I2+4<=512:=by omega
    obtain⟨wB,hwB⟩:∃wB,wB=wr.alloc (.cells (bts kq).toArray 35):=⟨_,rfl⟩;obtain⟨b9,hb9⟩:∃b,b=wr.heap.size:=⟨_,rfl⟩;have uB:Upd [kb] wr wB:=by rw[hwB];exact(Upd.refl _ _).alloc _
    have hbB:wB.drew.heap[kb]?=some (.cells (bts (X9 ks ds q)).toArray 5 (0,0)):=by
     show wB.heap[kb]?=_
     rw[hwB,A9 (A2 HB.out)];exact HB.out
    have hb9B:wB.drew.heap[b9]?=some (.cells (bts kq).toArray 35 (0,0)):=by
     show wB.heap[b9]?=_
     rw[hwB,hb9];exact A6 _
    obtain⟨w9,hrun9,h9,hu9⟩:=Bs4 (I:=I1) (N:=512-I1) (C:=512-I1) (n:=32) hbB (Ay6 hb9B hlk) (by omega) (by omega) hlk.symm;have hld:=B2 rk hlk;have HWB:=η hwB;have HB9:=η hb9;have HU9:=η hu9;have H9:=η h9;have HGK:=η hgk;have HGV:=η hgv;have HI1:=η hI1;have HI2:=η hI2;have i0:(0:Int)<=(q:Int):=by omega
    have i1:(q:Int)<(ks.length:Int):=by omega
    have j0:(0:Int)<=(I1:Int):=by omega
    have j1:(I1:Int)<=512:=by omega
    have UB:=η uB;have KD:=η kd;clear hwB hb9 hu9 h9 hgk hgv hI1 hI2 uB kd hbB hb9B;have hst:=K3 wr hlk;have n0':(wr.alloc (.cells (bts kq).toArray 35)).cell? ⟨b3,0,none⟩=some (.int .i64 2):=D7 n0 ((Upd.refl [] _).alloc _) (by simp);go_wp2_with fail
    have hwB:=HWB.out;have hb9:=HB9.out;rw[← hwB,← hb9];clear hwB hb9;go_region
    all_goals
     have u9:=((HUr.out.trans UB.out).drew).trans HU9.out;have m3:w9.cell? ⟨b3,3,none⟩=some (.slice (some ⟨bd,offd,none⟩) ds.length cv):=by
      rw[A4 ((u9.block _ (A2 H1.out) (by simpa using hne)).trans H1.out)];rfl
     have kd9:w9.cell? ⟨bd,offd+(q+1),none⟩=some (.int .u32 (dq:Int)):=D7 KD.out (HU.out.late u9 (λ k hk=>by simp at hk;subst hk;exact .inr hkw)) (by simp);have hI2:=HI2.out;have HL9:=η (Be2 H9.out (by rw[Q1 (by omega)];exact hll) 512 I2 (I2:Int) rfl (by omega) dq);have HU9A:=η u9;have i3:(q:Int)+1<(ds.length:Int):=by have:=HOK.out.n;omega
     have i4:(0:Int)<=(q:Int)+1:=by omega
     clear u9 hrun9 hI2;go_wp2_with fail
     refine HL9.out.mono ?_;rintro e w10 ⟨rfl,h10,hu10⟩;have H10:=η h10;have HU10:=η (HU9A.out.trans hu10);clear h10 hu10;go_wp2_with fail
     refine⟨⟨q+1,by omega,by go_num,?_,HU10.out⟩,by simp[intOf];omega⟩;show w10.heap[kb]?=some (.cells (bts (put (N4 (X9 ks ds q) (12+36*q) (ks.getD q [])) (12+36*q+32) 4 (ds.getD (q+1) 0))).toArray 5 (0,0))
     rw[HGK.out,HGV.out,← HI1.out,← HI2.out];exact H10.out
   ·obtain rfl:q=ks.length:=by omega
    have hlt':decide ((ks.length:Int)<(ks.length:Int))=false:=by simp
    have hll:=J6 HOK.out (k:=ks.length) (Nat.le_refl _);have HWR:=η (Ax9 (HH.out.below HUw.out) at_ hat (.slice (some ⟨kb,0,none⟩) 512 512) (B5 ks ds) (K9 HB.out hll) hll HC.out);clear hll;go_wp2_with fail
    refine HWR.out.mono ?_;rintro e w' ⟨rfl,h',hu'⟩;have H':=η h';have HU':=η ((HUw.out.mono (by simp)).trans hu');clear h' hu';go_wp2_with fail
    go_ret;exact⟨rfl,H'.out,HU'.out⟩
end Go.Proofs.YtgfbepakonjbnaaGreat
end
section
namespace Go.Proofs.YtgfbepakonjbnaaGreat
open Go.RowKit Go.MapKept Go.ChangeMaps
theorem Y8{T e:TypeId}{sz:Nat}(hu:Tryz.prog.underlying T=some (.slice e))(hi:((Tryz.prog.info? e).map λ i=>(i.zero.isSome,i.size))=some (true,sz))(h0:0<sz)(h1:sz<=1000)(cs:List Value)(hc:cs.length=sz)(w:World) :
  (Instr.buildSlice T 1 #[(0,.agg cs.toArray)]).run Tryz.prog w=.ok (.slice (some ⟨w.heap.size,0,none⟩) 1 1) (w.alloc (.cells cs.toArray e)):=by
 cases hq:Tryz.prog.info? e with
 | none=>rw[hq] at hi;simp at hi
 | some i=>
  rw[hq] at hi;simp at hi;obtain⟨hz,hs⟩:=hi;obtain⟨z,hz⟩:=Option.isSome_iff_exists.1 hz;have hd:=Great.fill_dense (s:=sz) h0 [.agg cs.toArray] 0 ((Array.range (1*i.size)).map (z.cells[· % z.cells.size]!)) (λ v hv=>by simp at hv;subst hv;simp[Value.cells,hc]) (by simp[hs]);obtain⟨r,hr,hrs,hrk⟩:=hd;have he:r=cs.toArray:=by
   apply Array.ext_getElem?;intro k;rw[hrk k];by_cases hk:k<sz
   ·rw[if_pos ⟨by omega,by simpa using hk⟩,Nat.div_eq_of_lt hk,Nat.mod_eq_of_lt hk];simp[Value.cells]
   ·rw[if_neg (by simp;omega),Array.getElem?_eq_none (by simp[hs];omega),Array.getElem?_eq_none (by simp;omega)]
  rw[he] at hr;refine run_buildSlice w T e 1 _ cs.toArray i z hu hq hz (by omega) (by omega) ?_;rw[hs];rw[hs] at hr;exact hr
theorem Af4{T e:TypeId}{sz bytes:Nat}{z:Value}(hu:Tryz.prog.underlying T=some (.slice e))(hi:(Tryz.prog.info? e).map (λ i=>(i.zero,i.size,i.bytes))=some (some z,sz,bytes))(hzs:z.cells.size=sz)(h0:0<sz)(hby:bytes<=1000)
  {w:World} {B n:Nat} {v:Value} {xs:List Value} (hp:w.ownsRow B e sz v n xs) (hl:n<=1000) (hB:B<=w.heap.size) (cs:List Value) (hc:cs.length=sz) (h1:∀u∈cs,u.oneCell'=true) :
  ∃a b c' w' S,(∀ty,(Builtin.append_ #[T,T] ty #[v,.slice (some ⟨w.heap.size,0,none⟩) 1 1]).run Tryz.prog (w.alloc (.cells cs.toArray e))=.ok (.slice a b c') w')/\w'.ownsRow B e sz (.slice a b c') (n+1) (xs++cs)/\
   Upd S w w'/\(∀k,k∈S->B<=k/\∃c,w.heap[k]?=some (.cells c e (0,0))):=by
 obtain⟨i0,hi0,hz0,hz1,hz2⟩:=info_parts hi;have hp1:(w.alloc (.cells cs.toArray e)).ownsRow B e sz v n xs:=by
  refine⟨hp.1,?_⟩;rcases hp.2 with h | ⟨g,cap,cur,hv,hb,hg,r⟩
  ·exact .inl h
  ·exact .inr ⟨g,cap,cur,hv,hb,(A9 (A2 hg)).trans hg,r⟩
 have hmul:(n+1)*bytes<=140737488355328:=Nat.le_trans (Nat.mul_le_mul (show n+1<=1001 by omega) hby) (by decide);obtain⟨v',w',hrun,hown,hg,_⟩:=run_append_own (P:=Tryz.prog) (w.alloc (.cells cs.toArray e)) B T 0 e i0 z sz bytes hu hi0 hz0 hz1 hz2 hzs h0 v n xs hp1 ⟨w.heap.size,0,none⟩ 1 1 cs (by rw[hc,Nat.one_mul])
  (λ k u hj=>by rw[I5,A4 (A6 _),List.getElem?_toArray,Nat.zero_add];exact hj) h1 (by unfold maxLen;omega) hmul (by simp;omega)
 have hs:∃a c',v'=.slice a (n+1) c':=by
  rcases hown.2 with⟨_,h⟩ | ⟨g,cap,cur,h,_⟩
  ·omega
  ·exact⟨_,_,h⟩
 obtain⟨a,c',rfl⟩:=hs;have hsz:=hg.size;have hos:w'.os=w.os/\w'.tape=w.tape/\w'.output=w.output:=⟨hg.os,hg.tape,hg.output⟩;have hsz':w.heap.size<=w'.heap.size:=by simp at hsz;omega
 rcases hp.2 with⟨rfl,_⟩ | ⟨g,cap,cur,rfl,hb,hgb,_⟩
 ·refine⟨a,_,c',w',[],λ _=>hrun,hown,⟨hos.1,hos.2.1,hos.2.2,hsz',λ k hk _=>?_⟩,by simp⟩;rw[hg.block k (by simp;omega) (by simp[Value.ownBlock]),A9 hk]
 ·refine⟨a,_,c',w',[g],λ _=>hrun,hown,⟨hos.1,hos.2.1,hos.2.2,hsz',λ k hk hS=>?_⟩,by simp;exact⟨hb,_,hgb⟩⟩;rw[hg.block k (by simp;omega) (by simp[Value.ownBlock];rintro rfl;exact hS (by simp)),A9 hk]
theorem Bm3{w w':World}{B n sz:Nat}{e:TypeId}{v:Value}{xs:List Value}(h:w.ownsRow B e sz v n xs)(hk:∀(k:Nat) (c:Array Value),B<=k->w.heap[k]?=some (.cells c e (0,0))->w'.heap[k]?=w.heap[k]?):w'.ownsRow B e sz v n xs:=by
 refine⟨h.1,?_⟩;rcases h.2 with h | ⟨g,cap,cur,hv,hb,hg,r⟩
 ·exact .inl h
 ·exact .inr ⟨g,cap,cur,hv,hb,(hk g cur hb hg).trans hg,r⟩
theorem B8{w w':World}{B n sz:Nat}{e:TypeId}{v:Value}{xs:List Value}(h:w.ownsRow B e sz v n xs){S:List Nat}(hu:Upd S w w')(hS:∀(k:Nat) (c:Array Value),k∈S->B<=k->w.heap[k]?≠some (.cells c e (0,0))):w'.ownsRow B e sz v n xs:=
 Bm3 h λ k c hb e=>hu.block _ (A2 e) λ q=>hS k c q hb e
theorem C4{w:World}{B n sz:Nat}{e:TypeId}{v:Value}{xs:List Value}(h:w.ownsRow B e sz v n xs):∃a c,v=.slice a n c:=by
 rcases h.2 with⟨h,h0⟩ | ⟨g,cap,cur,h,_⟩
 ·exact⟨none,0,by rw[h,h0]⟩
 ·exact⟨_,_,h⟩
theorem Ao5{sz:Nat}:∀{es:List (List Value)},(∀e,e∈es->e.length=sz)->∀{i j:Nat} {e:List Value},es[i]?=some e->j<sz->es.flatten[i*sz+j]?=e[j]?
 | [],_,i,j,e,h,_=>by simp at h
 | x :: es,hl,0,j,e,h,hj=>by
  simp at h;subst h;rw[List.flatten_cons,List.getElem?_append_left (by rw[hl x (by simp)];omega)];congr 1;omega
 | x :: es,hl,i+1,j,e,h,hj=>by
  have:=Ao5 (es:=es) (λ e he=>hl e (by simp[he])) (i:=i) (j:=j) (by simpa using h) hj;rw[List.flatten_cons,List.getElem?_append_right (by rw[hl x (by simp),Nat.add_mul];omega),hl x (by simp),← this];congr 1
  rw[Nat.add_mul];omega
theorem Au9{w:World}{B n sz:Nat}{e:TypeId}{v:Value}{es:List (List Value)}(h:w.ownsRow B e sz v n es.flatten)(hn:n=es.length)(hl:∀e,e∈es->e.length=sz):RRd w v sz es:=by
 subst hn;rcases h.2 with⟨rfl,h0⟩ | ⟨g,cap,cur,rfl,hb,hg,hc,_,hs,ht⟩
 ·exact⟨none,0,by rw[h0],by omega,λ q=>by omega⟩
 ·refine⟨_,cap,rfl,hc,λ hp=>⟨g,0,rfl,λ i e he j v hv=>?_⟩⟩;have hel:=hl e (List.mem_of_getElem? he);have hj:j<sz:=by rw[← hel];exact(List.getElem?_eq_some_iff.1 hv).1
  have hi:i<es.length:=(List.getElem?_eq_some_iff.1 he).1;have hlt:i*sz+j<es.length*sz:=by
   have:=Nat.mul_le_mul_right sz (show i+1<=es.length by omega);rw[Nat.add_mul] at this;omega
  have hf:=Ao5 hl he hj;rw[hv,← ht,List.getElem?_take_of_lt hlt] at hf;rw[A4 hg,Nat.zero_add];simpa using hf
theorem Aa8:(Tryz.prog.info? 35).map (λ i=>(i.zero,i.size,i.bytes))=some (some (.agg (bts (List.replicate 32 0)).toArray),32,32):=by kernel_rfl
theorem Aa9:(Tryz.prog.info? 115).map (λ i=>(i.zero,i.size,i.bytes))=some (some (.agg (bts (List.replicate 16 0)).toArray),16,16):=by kernel_rfl
theorem Ab0:(Tryz.prog.info? 79).map (λ i=>(i.zero,i.size,i.bytes))=some (some (.int .u32 0),1,4):=by kernel_rfl
def C3(w:World)(B:Nat)(v:Value)(ks:List Bs):Prop:=w.ownsRow B 35 32 v ks.length (ks.map bts).flatten
def F7(w:World)(B:Nat)(v:Value)(vs:List Bs):Prop:=w.ownsRow B 115 16 v vs.length (vs.map bts).flatten
def D8(w:World)(B:Nat)(v:Value)(ds:List Nat):Prop:=w.ownsRow B 79 1 v ds.length (ds.map λ d:Nat=>Value.int .u32 (d:Int))
theorem C3.rd{w:World}{B:Nat}{v:Value}{ks:List Bs}(h:C3 w B v ks)(hl:∀k,k∈ks->k.length=32):RRd w v 32 (ks.map bts):=Au9 h (by simp) (λ e he=>by obtain⟨k,hk,rfl⟩:=List.mem_map.1 he;rw[A8];exact hl k hk)
theorem F7.rd{w:World}{B:Nat}{v:Value}{vs:List Bs}(h:F7 w B v vs)(hl:∀k,k∈vs->k.length=16):RRd w v 16 (vs.map bts):=Au9 h (by simp) (λ e he=>by obtain⟨k,hk,rfl⟩:=List.mem_map.1 he;rw[A8];exact hl k hk)
theorem D8.rd{w:World}{B:Nat}{v:Value}{ds:List Nat}(h:D8 w B v ds):KRd w v ds:=by
 rcases h.2 with⟨rfl,h0⟩ | ⟨g,cap,cur,rfl,hb,hg,hc,_,hs,ht⟩
 ·exact⟨none,0,by rw[h0],by omega,λ q=>by omega⟩
 ·refine⟨_,cap,rfl,hc,λ hp=>⟨g,0,rfl,λ i d hd=>?_⟩⟩;have hi:i<ds.length:=(List.getElem?_eq_some_iff.1 hd).1;have hf:(ds.map λ d:Nat=>Value.int .u32 (d:Int))[i]?=some (.int .u32 (d:Int)):=by rw[List.getElem?_map,hd];rfl
  rw[← ht,List.getElem?_take_of_lt (by omega)] at hf;rw[A4 hg,Nat.zero_add];simpa using hf
end Go.Proofs.YtgfbepakonjbnaaGreat
end
end
section
namespace Go.Proofs.YtgfbepakonjbnaaGreat
open Go.RowKit Go.MapKept Go.ChangeMaps
section
attribute [-go_sem] loadCells Instr.buildSlice
theorem Ad5(a:Option Addr)(c:Nat)(w:World):(Instr.arrayAt 35 (.slice a 32 c)).run Tryz.prog w=.ok (.pointer a) w:=by
 simp[Instr.arrayAt,run_underlying Tryz.underlying35]
theorem At3(a:Option Addr)(c:Nat)(w:World):(Instr.arrayAt 115 (.slice a 16 c)).run Tryz.prog w=.ok (.pointer a) w:=by
 simp[Instr.arrayAt,run_underlying Tryz.underlying115]
attribute [local go_sem] Ad5 At3
theorem U6{w:World}{b o:Nat}{l:List UInt8}(h:w.rangeAt b o (bts l))(hl:l.length=16):(loadCells ⟨b,o,none⟩ 16).run Tryz.prog w=.ok (bts l).toArray w:=by
 have:=run_loadCells_list (P:=Tryz.prog) w ⟨b,o,none⟩ (bts l) (λ j v hv=>by rw[Addr.add_mid];exact h j v hv);rw[A8,hl] at this;exact this
theorem Ao6{w:World}{B B' n sz:Nat}{e:TypeId}{v:Value}{xs:List Value}(h:w.ownsRow B e sz v n xs)(hB:B'<=B):w.ownsRow B' e sz v n xs:=by
 refine⟨h.1,?_⟩;rcases h.2 with h | ⟨g,cap,cur,hv,hb,r⟩
 ·exact .inl h
 ·exact .inr ⟨g,cap,cur,hv,Nat.le_trans hB hb,r⟩
theorem Y0(w:World)(B:Nat)(e:TypeId)(sz:Nat):w.ownsRow B e sz (.slice none 0 0) 0 []:=⟨by simp,.inl ⟨rfl,rfl⟩⟩
theorem Rd.range{w:World}{k c I n:Nat}{l x:List UInt8}{N:Nat}(h:Rd w (.slice (some ⟨k,0,none⟩) N c) l)(hl:l.length=N)(hI:I+n<=N)(hx:(l.drop I).take n=x):w.rangeAt k I (bts x):=by
 intro j v hv;obtain⟨ao,cap,e,_,hh⟩:=h;have hj:j<x.length:=by have:=(List.getElem?_eq_some_iff.1 hv).1;rwa [A8] at this
 have hxl:x.length=n:=by rw[← hx,List.length_take,List.length_drop];omega
 obtain⟨b,off,hab,hc⟩:=hh (by omega);have hk:=congrArg (λ v=>match v with | Value.slice a _ _=>a | _=>none) e;simp only at hk;rw[hab] at hk;obtain⟨rfl,rfl⟩:k=b/\0=off:=by simpa using hk
 have h1:l[I+j]?=x[j]?:=by rw[← hx,List.getElem?_take_of_lt (by omega),List.getElem?_drop]
 rw[List.getElem?_eq_getElem hj,List.getElem?_eq_getElem (by omega)] at h1;have h2:=hc (I+j) (by omega);rw[Nat.zero_add] at h2;rw[h2];have h3:(bts x)[j]?=some (bv x[j]):=by simp[bts,hj]
 rw[h3] at hv;rw[← hv];congr 2
 exact Option.some.inj h1
theorem C5{fn:Func}{p u:Tmp}{ty:TypeId}(h:fn.results=#[.cell p ty,.tmp u])(tmps:Array Value)(w:World)(g:Nat)(cs:Array Value)
  (hp:tmps.getD p undef=.pointer (some ⟨g,0,none⟩)) (hl:(loadVar ty ⟨g,0,none⟩).run Tryz.prog w=.ok (.agg cs) w) :
  (results fn tmps).run Tryz.prog w=.ok (.tuple #[.agg cs,tmps.getD u undef]) w:=by
 have hp':tmps[p]?.getD undef=.pointer (some ⟨g,0,none⟩):=by simpa using hp
 simp[results,h,hp',asAddr,hl]
theorem Y9{w:World}{g:Sg}{M:Nat->Option Sec}(h:B7 w g M)(at_:Nat)(hat:at_<g.h)(hat2:at_<4294967296){ks vs:List Bs}(hok:K5 ks vs)(hcur:g.cur M at_=C8 ks vs) :
  Calls Tryz.prog 133 #[.pointer (some ⟨g.x.tb,0,none⟩),.int .u32 (at_:Int)] w λ e w'=>∃vk vv,e=.returned (.tuple #[.agg #[.int .i64 1,vk,vv,.slice none 0 0],.int .i64 0])/\C3 w' w.heap.size vk ks/\F7 w' w.heap.size vv vs/\B7 w' g M/\Upd [g.j.jb] w w':=by
 obtain⟨wA,hwA⟩:∃wA,wA=w.alloc (.cells #[.int .i64 0,.slice none 0 0,.slice none 0 0,.slice none 0 0] 220):=⟨_,rfl⟩;obtain⟨b4,hb4⟩:∃b,b=w.heap.size:=⟨_,rfl⟩;have huA:Upd [] w wA:=by rw[hwA];exact(Upd.refl _ _).alloc _
 have h4:wA.heap[b4]?=some (.cells #[.int .i64 0,.slice none 0 0,.slice none 0 0,.slice none 0 0] 220 (0,0)):=by rw[hwA,hb4];exact A6 _
 have HRD:=η (Bl9 (h.below huA) at_ hat);rw[hcur] at HRD;have HH:=η h;have HWA:=η hwA;have HB4:=η hb4;have HUA:=η huA;have H4:=η h4;have HOK:=η hok;have hel:(C8 ks vs).length=512:=K6 hok (Nat.le_refl _);have he0:(C8 ks vs)[0]?=some 1:=by unfold C8;rw[Ab4 hok (by omega) (Nat.le_refl _),Bw0];rfl
 have he1:(C8 ks vs)[1]?=some (UInt8.ofNat ks.length):=by unfold C8;rw[Ab4 hok (by omega) (Nat.le_refl _),Bw1]
 have HE:=η hel;have HE0:=η he0;have HE1:=η he1;have hn:=hok.most;clear h hok hcur huA h4 hwA hb4 hel he0 he1;go_enter Tryz.func133,Tryz.ntmps133
 go_wp2_with fail
 have hwA:=HWA.out;have hb4:=HB4.out;rw[← hwA,← hb4];clear hwA hb4;refine HRD.out.mono ?_;rintro e w1 ⟨v,rfl,ho,h1,hu1⟩;obtain⟨kb,c,rfl,hc,hkb,hcells⟩:=ho.sec HE.out;have z0:=hcells 0 (by omega);have z1:=hcells 1 (by omega);have e0:(C8 ks vs)[0]'(by rw[HE.out];omega)=1:=by have:=HE0.out;rw[List.getElem?_eq_getElem (by rw[HE.out];omega)] at this;exact Option.some.inj this
 have e1:(C8 ks vs)[1]'(by rw[HE.out];omega)=UInt8.ofNat ks.length:=by have:=HE1.out;rw[List.getElem?_eq_getElem (by rw[HE.out];omega)] at this;exact Option.some.inj this
 rw[e0] at z0;rw[e1] at z1;have ez0:bv 1=.int .u8 1:=rfl;have ez1:bv (UInt8.ofNat ks.length)=.int .u8 (ks.length:Int):=by unfold bv;rw[UInt8.toNat_ofNat',Nat.mod_eq_of_lt (by omega)]
 rw[ez0] at z0;rw[ez1] at z1;have HRB:=η ho.rd;have H1:=η h1;have HU1:=η hu1;clear ho hcells e0 e1 h1 hu1 ez0 ez1;go_upto_region 4 with(fail)
 go_cut [8,9] (λ s8 s9 wy=>s8=.pointer (some ⟨w1.heap.size,0,none⟩)/\s9=.int .i64 (ks.length:Int)/\wy.heap[w1.heap.size]?=some (.cells #[.int .i64 1,.slice none 0 0,.slice none 0 0,.slice none 0 0] 220 (0,0))/\Upd [] w1 wy)
 case first=>
  go_region_held3 (λ w'=>w'.cell? ⟨kb,0,none⟩=some (.int .u8 1)/\w'.cell? ⟨kb,1,none⟩=some (.int .u8 (ks.length:Int))) (refine⟨?_,?_⟩<;>first | assumption | (exact D7 (by assumption) ((Upd.refl [] _).drew) (by simp)) | (exact D7 (by assumption) (((Upd.refl [] _).alloc _).drew) (by simp)) | (exact D7 (by assumption) (((Upd.refl [] _).alloc _)) (by simp)) | (exact D7 z0 (((Upd.refl [w1.heap.size] _).alloc _).drew.set _ (.inl (by simp))) (by simp;omega)))
   (first | fail)
  all_goals
   go_wp2_with fail
   go_meet
   have hw:IntKind.i64.wrap (ks.length:Int)=(ks.length:Int):=by rw[IntKind.wrap_i64];omega
   refine⟨rfl,by rw[hw],?_,((Upd.refl _ _).alloc _).drew⟩;rw[show IntKind.i64.wrap 1=1 from rfl];exact A6 _
 case rest=>
  rename World=>wy
  obtain⟨rfl,rfl,hy,huy⟩:=hcut;obtain⟨b8,hb8⟩:∃b,b=w1.heap.size:=⟨_,rfl⟩;rw[← hb8] at hy ⊢;have y0:wy.cell? ⟨b8,0,none⟩=some (.int .i64 1):=by rw[A4 hy];rfl
  have dn:decide ((ks.length:Int)<=10)=true:=decide_eq_true (by omega);have dn2:decide (ks.length<=10)=true:=decide_eq_true hn;have HB8:=η hb8;have HY:=η hy;have HUY:=η huy;clear hb8 hy huy z0 z1;go_wp2_with fail
  go_loopw [43] (λ i wr=>∃(q:Nat) (vk vv:Value),q<=ks.length/\i=.int .i64 (q:Int)/\wr.heap[b8]?=some (.cells #[.int .i64 1,vk,vv,.slice none 0 0] 220 (0,0))/\C3 wr w1.heap.size vk (ks.take q)/\F7 wr w1.heap.size vv (vs.take q)/\Upd [] w1 wr) (λ i _=>ks.length-(intOf i).toNat)
  case atStart=>exact⟨0,_,_,Nat.zero_le _,rfl,HY.out,Y0 _ _ _ _,Y0 _ _ _ _,HUY.out⟩
  case round=>
   obtain⟨q,vk,vv,hq,rfl,hb,hK,hV,hu⟩:=hrel;by_cases hlt:q<ks.length
   ·have hlt':decide ((q:Int)<(ks.length:Int))=true:=decide_eq_true (by omega);have hlt2:decide (q<ks.length)=true:=decide_eq_true hlt;have hnv:=HOK.out.n;have hlk:(ks.take q).length=q:=by rw[List.length_take];omega
    have hlv:(vs.take q).length=q:=by rw[List.length_take];omega
    obtain⟨ak,ck,rfl⟩:=C4 hK;obtain⟨av,cv,rfl⟩:=C4 hV;unfold C3 at hK;unfold F7 at hV;rw[hlk] at hK hb;rw[hlv] at hV hb;have hkq:ks[q]?=some ks[q]:=List.getElem?_eq_getElem hlt;have hvq:vs[q]?=some vs[q]:=List.getElem?_eq_getElem (by omega);have hgk:ks.getD q []=ks[q]:=by rw[List.getD_eq_getElem?_getD,hkq];rfl
    have hgv:vs.getD q []=vs[q]:=by rw[List.getD_eq_getElem?_getD,hvq];rfl
    have h32:=HOK.out.k _ (List.getElem_mem hlt);have h16:=HOK.out.v _ (List.getElem_mem (show q<vs.length by omega));have htk:((ks.take (q+1)).map bts).flatten=((ks.take q).map bts).flatten++bts ks[q]:=by
     rw[List.take_add_one,hkq,List.map_append,List.flatten_append];simp
    have htv:((vs.take (q+1)).map bts).flatten=((vs.take q).map bts).flatten++bts vs[q]:=by
     rw[List.take_add_one,hvq,List.map_append,List.flatten_append];simp
    have hat2:=Ay8 HOK.out (j:=q) (k:=ks.length) (Nat.le_refl _) hlt;rw[hgk,hgv] at hat2;generalize ks[q]=kq at *;generalize vs[q]=vq at *;obtain⟨I,hI⟩:∃I,I=8+48*q:=⟨_,rfl⟩;obtain⟨I2,hI2⟩:∃J,J=I+32:=⟨_,rfl⟩;obtain⟨I3,hI3⟩:∃J,J=I+48:=⟨_,rfl⟩;rw[← hI,← hI2] at hat2;have r1:=Rd.range (HRB.out.below hu) HE.out (I:=I) (n:=32) (by omega) hat2.1;have r2:=Rd.range (HRB.out.below hu) HE.out (I:=I2) (n:=16) (by omega) hat2.2;have hi1:8+48*(q:Int)=(I:Int):=by omega
    have hi2:(I:Int)+32=(I2:Int):=by omega
    have hi3:(I:Int)+48=(I3:Int):=by omega
    have hs1:I2-I=32:=by omega
    have hs2:I3-I2=16:=by omega
    have j0:(0:Int)<=(I:Int):=by omega
    have j1:(I:Int)<=(I2:Int):=by omega
    have j2:(I2:Int)<=(c:Int):=by omega
    have j3:(0:Int)<=(I2:Int):=by omega
    have j4:(I2:Int)<=(I3:Int):=by omega
    have j5:(I3:Int)<=(c:Int):=by omega
    have j6:I2<=c:=by omega
    have j7:I3<=c:=by omega
    obtain⟨n0,n1,n2,-⟩:=P4 hb;have hbld:=Y8 (T:=216) (e:=35) (sz:=32) Tryz.underlying216 (by kernel_rfl) (by omega) (by omega) (bts kq) (by rw[A8,h32]) wr.drew;obtain⟨a10,q10,c10,w10,S10,hrun10,ho10,hu10,hS10⟩:=Af4 (T:=216) (e:=35) Tryz.underlying216 Aa8 rfl (by omega) (by omega) (w:=wr.drew) hK (by omega) hu.size (bts kq) (by rw[A8,h32]) (G7 _);have hld:=B2 (E9 r1 (Upd.refl [] _).drew (by simp)) h32;have hrb:wr.drew.heap[b8]?=_:=hb;have hb10:w10.heap[b8]?=some (.cells #[.int .i64 1,.slice ak q ck,.slice av q cv,.slice none 0 0] 220 (0,0)):=(hu10.block _ (A2 hrb) (λ k=>by obtain⟨_,c,e⟩:=hS10 _ k;rw[hrb] at e;simp at e)).trans hb;obtain⟨m0,m1,m2,-⟩:=P4 hb10;have mf:=E4 hb10 1;have n1a:=D7 (w':=wr.alloc (.cells (bts kq).toArray 35)) n1 ((Upd.refl [] _).alloc _) (by simp);have hV10:w10.ownsRow w1.heap.size 115 16 (.slice av q cv) q ((vs.take q).map bts).flatten:=B8 (w:=wr.drew) hV hu10 (λ k c' hk _ e=>by obtain⟨_,c2,e2⟩:=hS10 _ hk;rw[e2] at e;simp at e);have hu110:Upd [] w1 w10:=(hu.drew).late hu10 (λ k hk=> .inr (hS10 _ hk).1);have HB10:=η hb10;have HO10:=η ho10;have HU10:=η hu110;have HV10:=η hV10;have HRBw:Hid (w1.rangeAt kb I2 (bts vq)):=η (Rd.range HRB.out HE.out (I:=I2) (n:=16) (by omega) hat2.2);have HTK:=η htk;have HTV:=η htv;have HI:=η hI;have HI2:=η hI2;have HI3:=η hI3;have i0:(0:Int)<=(q:Int):=by omega
    have hw2:IntKind.i64.wrap (I2:Int)=(I2:Int):=by rw[IntKind.wrap_i64];omega
    have hw3:IntKind.i64.wrap (I3:Int)=(I3:Int):=by rw[IntKind.wrap_i64];omega
    have hci:¬c=I:=by omega
    have hci2:¬c=I2:=by omega
    clear hrb hb10 ho10 hu10 hS10 hK hV r1 r2 hb hu htk htv hI hI2 hI3 hat2 hkq hvq hgk hgv hV10 hu110;go_upto_region 10 with(fail)
    go_cut [] (λ wz=>∃a b c,wz.heap[b8]?=some (.cells #[.int .i64 1,.slice a b c,.slice av q cv,.slice none 0 0] 220 (0,0))/\C3 wz w1.heap.size (.slice a b c) (ks.take (q+1))/\wz.ownsRow w1.heap.size 115 16 (.slice av q cv) q ((vs.take q).map bts).flatten/\Upd [] w1 wz)
    case first=>
     go_region_law (first | (refine G5 (by rfl) _ _ _ (by rfl) (by rfl) (by rfl) hrun10 ?_))
     all_goals
      go_wp2_with fail
      go_meet
      have us:Upd [b8] w10 (w10.setCell ⟨b8,1,none⟩ (.slice a10 q10 c10)):=(Upd.refl _ _).set _ (.inl (by simp));refine⟨a10,q10,c10,by rw[B3 HB10.out];rfl,?_,B8 HV10.out us (λ k c' hk _ e=>by simp at hk;subst hk;rw[HB10.out] at e;simp at e),HU10.out.set _ (.inr (by have:=HB8.out;omega))⟩;unfold C3;rw[HTK.out,show(ks.take (q+1)).length=q+1 from by rw[List.length_take];omega];exact B8 HO10.out us (λ k c' hk _ e=>by simp at hk;subst hk;rw[HB10.out] at e;simp at e)
    case rest=>
     rename World=>wz
     obtain⟨a,b,c3,hbz,hKz,hVz,huz⟩:=hcut;clear n0 n1 n2 n1a m0 m1 m2 mf hld hbld hrun10;obtain⟨n0,n1,n2,-⟩:=P4 hbz;have r2z:=E9 (HRBw.out) huz (by simp);have hld:=U6 (E9 r2z (Upd.refl [] _).drew (by simp)) h16;have hbld:=Y8 (T:=217) (e:=115) (sz:=16) Tryz.underlying217 (by kernel_rfl) (by omega) (by omega) (bts vq) (by rw[A8,h16]) wz.drew;obtain⟨a11,q11,c11,w11,S11,hrun11,ho11,hu11,hS11⟩:=Af4 (T:=217) (e:=115) Tryz.underlying217 Aa9 rfl (by omega) (by omega) (w:=wz.drew) hVz (by omega) huz.size (bts vq) (by rw[A8,h16]) (G7 _);have hrb:wz.drew.heap[b8]?=_:=hbz;have hb11:w11.heap[b8]?=some (.cells #[.int .i64 1,.slice a b c3,.slice av q cv,.slice none 0 0] 220 (0,0)):=(hu11.block _ (A2 hrb) (λ k=>by obtain⟨_,c,e⟩:=hS11 _ k;rw[hrb] at e;simp at e)).trans hbz;obtain⟨m0,m1,m2,-⟩:=P4 hb11;have mf:=E4 hb11 2;have n2a:=D7 (w':=wz.alloc (.cells (bts vq).toArray 115)) n2 ((Upd.refl [] _).alloc _) (by simp);have hK11:C3 w11 w1.heap.size (.slice a b c3) (ks.take (q+1)):=B8 (w:=wz.drew) hKz hu11 (λ k c' hk _ e=>by obtain⟨_,c2,e2⟩:=hS11 _ hk;rw[e2] at e;simp at e);have hu111:Upd [] w1 w11:=(huz.drew).late hu11 (λ k hk=> .inr (hS11 _ hk).1);have HB11:=η hb11;have HO11:=η ho11;have HU11:=η hu111;have HK11:=η hK11;clear hrb hb11 ho11 hu11 hS11 hKz hVz hbz huz r2z hK11 hu111;go_wp2_with fail
     go_region_law (first | (refine G5 (by rfl) _ _ _ (by rfl) (by rfl) (by rfl) hrun11 ?_))
     all_goals
      have us:Upd [b8] w11 (w11.setCell ⟨b8,2,none⟩ (.slice a11 q11 c11)):=(Upd.refl _ _).set _ (.inl (by simp));have HBX:Hid ((w11.setCell ⟨b8,2,none⟩ (.slice a11 q11 c11)).heap[b8]?=some (.cells #[.int .i64 1,.slice a b c3,.slice a11 q11 c11,.slice none 0 0] 220 (0,0))):=by
       show _=_
       rw[B3 HB11.out];rfl
      have HKX:=η (B8 HK11.out us (λ k c' hk _ e=>by simp at hk;subst hk;rw[HB11.out] at e;simp at e));have HVX:Hid (F7 (w11.setCell ⟨b8,2,none⟩ (.slice a11 q11 c11)) w1.heap.size (.slice a11 q11 c11) (vs.take (q+1))):=by
       show F7 _ _ _ _
       unfold F7;rw[HTV.out,show(vs.take (q+1)).length=q+1 from by rw[List.length_take];omega];exact B8 HO11.out us (λ k c' hk _ e=>by simp at hk;subst hk;rw[HB11.out] at e;simp at e)
      have HUX:=η (HU11.out.set (b:=b8) (o:=2) (.slice a11 q11 c11) (.inr (by have:=HB8.out;omega)));clear us n0 n1 n2 n2a m0 m1 m2 mf hld hbld hrun11;go_wp2_with fail
      exact⟨⟨q+1,_,_,by omega,by go_num,HBX.out,HKX.out,HVX.out,HUX.out⟩,by simp[intOf];omega⟩
   ·obtain rfl:q=ks.length:=by omega
    have hlt':decide ((ks.length:Int)<(ks.length:Int))=false:=by simp
    have hnv:=HOK.out.n;rw[List.take_length] at hK;rw[show vs.take ks.length=vs from List.take_of_length_le (by omega)] at hV;have HB:=η hb;have HK:=η hK;have HV:=η hV;have HUr:=η hu;have hld4:=A7 (n:=4) (cs:=[.int .i64 1,vk,vv,.slice none 0 0]) hb rfl;have hb4:wr.heap[b4]?=some (.cells #[.int .i64 0,.slice none 0 0,.slice none 0 0,.slice none 0 0] 220 (0,0)):=(hu.block _ (Nat.lt_of_lt_of_le (A2 H4.out) HU1.out.size) (by simp)).trans ((HU1.out.block _ (A2 H4.out) (by simp;rintro rfl;have:=HH.out.jr.at_.st;have h4:=H4.out;rw[(HUA.out.block _ (A2 this) (by simp)).trans this] at h4;simp at h4)).trans H4.out);obtain⟨m0,m1,m2,m3⟩:=P4 hb4;have f0:=E4 hb4 0;have f1:=E4 hb4 1;have f2:=E4 hb4 2;have f3:=E4 hb4 3;have HB4r:=η hb4;obtain⟨ak,ck,rfl⟩:=C4 hK;obtain⟨av,cv,rfl⟩:=C4 hV;clear hb hK hV hu hnv hb4;go_wp2_with fail
    have hbe:=B3 (B3 (B3 (B3 HB4r.out 0 (.int .i64 1)) 1 (.slice ak ks.length ck)) 2 (.slice av vs.length cv)) 3 (.slice none 0 0);have hue:Upd [b4] w1 ((((wr.setCell ⟨b4,0,none⟩ (.int .i64 1)).setCell ⟨b4,1,none⟩ (.slice ak ks.length ck)).setCell ⟨b4,2,none⟩ (.slice av vs.length cv)).setCell ⟨b4,3,none⟩ (.slice none 0 0)):=((((HUr.out.mono (by simp)).set _ (.inl (by simp))).set _ (.inl (by simp))).set _ (.inl (by simp))).set _ (.inl (by simp));have huk:Upd [b4] wr ((((wr.setCell ⟨b4,0,none⟩ (.int .i64 1)).setCell ⟨b4,1,none⟩ (.slice ak ks.length ck)).setCell ⟨b4,2,none⟩ (.slice av vs.length cv)).setCell ⟨b4,3,none⟩ (.slice none 0 0)):=((((Upd.refl _ _).set _ (.inl (by simp))).set _ (.inl (by simp))).set _ (.inl (by simp))).set _ (.inl (by simp));generalize ((((wr.setCell ⟨b4,0,none⟩ (.int .i64 1)).setCell ⟨b4,1,none⟩ (.slice ak ks.length ck)).setCell ⟨b4,2,none⟩ (.slice av vs.length cv)).setCell ⟨b4,3,none⟩ (.slice none 0 0))=wE at *;have hbn:=HB4.out;refine bodyPost_ret (C5 (p:=4) (u:=5) (ty:=220) (by rfl) _ _ b4 _ (by rfl) (run_loadVar_row _ b4 _ _ _ _ _ hbe Tryz.underlying220 rfl (by kernel_rfl))) (by rfl) ?_;refine⟨_,_,rfl,Ao6 (B8 HK.out huk (λ k c' hk _ e=>by simp at hk;subst hk;rw[HB4r.out] at e;simp at e)) ?_,Ao6 (B8 HV.out huk (λ k c' hk _ e=>by simp at hk;subst hk;rw[HB4r.out] at e;simp at e)) ?_,?_,?_⟩
    ·exact Nat.le_trans HUA.out.size HU1.out.size
    ·exact Nat.le_trans HUA.out.size HU1.out.size
    ·exact B7.late (HH.out) H1.out ((HUA.out.mono (by simp)).trans HU1.out) hue (λ k hk=>by simp at hk;omega)
    ·exact((HUA.out.mono (by simp)).trans HU1.out).late hue (λ k hk=> .inr (by simp at hk;omega))
end
section
attribute [-go_sem] loadCells Instr.buildSlice
attribute [local go_sem] Ad5
theorem Al6(d:Int)(w:World):(Instr.buildSlice 218 1 #[(0,.int .u32 d)]).run Tryz.prog w=.ok (.slice (some ⟨w.heap.size,0,none⟩) 1 1) (w.alloc (.cells #[.int .u32 d] 79)):=by kernel_rfl
theorem Z0{w:World}{g:Sg}{M:Nat->Option Sec}(h:B7 w g M)(at_:Nat)(hat:at_<g.h)(hat2:at_<4294967296){ks:List Bs}{ds:List Nat}(hok:G0 ks ds)(hcur:g.cur M at_=B5 ks ds) :
  Calls Tryz.prog 133 #[.pointer (some ⟨g.x.tb,0,none⟩),.int .u32 (at_:Int)] w λ e w'=>∃vk vd,e=.returned (.tuple #[.agg #[.int .i64 2,vk,.slice none 0 0,vd],.int .i64 0])/\C3 w' w.heap.size vk ks/\D8 w' w.heap.size vd ds/\B7 w' g M/\Upd [g.j.jb] w w':=by
 obtain⟨wA,hwA⟩:∃wA,wA=w.alloc (.cells #[.int .i64 0,.slice none 0 0,.slice none 0 0,.slice none 0 0] 220):=⟨_,rfl⟩;obtain⟨b4,hb4⟩:∃b,b=w.heap.size:=⟨_,rfl⟩;have huA:Upd [] w wA:=by rw[hwA];exact(Upd.refl _ _).alloc _
 have h4:wA.heap[b4]?=some (.cells #[.int .i64 0,.slice none 0 0,.slice none 0 0,.slice none 0 0] 220 (0,0)):=by rw[hwA,hb4];exact A6 _
 have HRD:=η (Bl9 (h.below huA) at_ hat);rw[hcur] at HRD;have HH:=η h;have HWA:=η hwA;have HB4:=η hb4;have HUA:=η huA;have H4:=η h4;have HOK:=η hok;have hel:(B5 ks ds).length=512:=J6 hok (Nat.le_refl _);have he0:(B5 ks ds)[0]?=some 2:=by unfold B5;rw[Y7 hok (by omega) (Nat.le_refl _),Bw0];rfl
 have he1:(B5 ks ds)[1]?=some (UInt8.ofNat ks.length):=by unfold B5;rw[Y7 hok (by omega) (Nat.le_refl _),Bw1]
 have HE:=η hel;have HE0:=η he0;have HE1:=η he1;have hn:=hok.most;clear h hok hcur huA h4 hwA hb4 hel he0 he1;go_enter Tryz.func133,Tryz.ntmps133
 go_wp2_with fail
 have hwA:=HWA.out;have hb4:=HB4.out;rw[← hwA,← hb4];clear hwA hb4;refine HRD.out.mono ?_;rintro e w1 ⟨v,rfl,ho,h1,hu1⟩;obtain⟨kb,c,rfl,hc,hkb,hcells⟩:=ho.sec HE.out;have z0:=hcells 0 (by omega);have z1:=hcells 1 (by omega);have e0:(B5 ks ds)[0]'(by rw[HE.out];omega)=2:=by have:=HE0.out;rw[List.getElem?_eq_getElem (by rw[HE.out];omega)] at this;exact Option.some.inj this
 have e1:(B5 ks ds)[1]'(by rw[HE.out];omega)=UInt8.ofNat ks.length:=by have:=HE1.out;rw[List.getElem?_eq_getElem (by rw[HE.out];omega)] at this;exact Option.some.inj this
 rw[e0] at z0;rw[e1] at z1;have ez0:bv 2=.int .u8 2:=rfl;have ez1:bv (UInt8.ofNat ks.length)=.int .u8 (ks.length:Int):=by unfold bv;rw[UInt8.toNat_ofNat',Nat.mod_eq_of_lt (by omega)]
 rw[ez0] at z0;rw[ez1] at z1;have HRB:=η ho.rd;have H1:=η h1;have HU1:=η hu1;clear ho hcells e0 e1 h1 hu1 ez0 ez1;go_upto_region 4 with(fail)
 go_cut [8,9] (λ s8 s9 wy=>s8=.pointer (some ⟨w1.heap.size,0,none⟩)/\s9=.int .i64 (ks.length:Int)/\wy.heap[w1.heap.size]?=some (.cells #[.int .i64 2,.slice none 0 0,.slice none 0 0,.slice none 0 0] 220 (0,0))/\Upd [] w1 wy)
 case first=>
  go_region_held3 (λ w'=>w'.cell? ⟨kb,0,none⟩=some (.int .u8 2)/\w'.cell? ⟨kb,1,none⟩=some (.int .u8 (ks.length:Int))) (refine⟨?_,?_⟩<;>first | assumption | (exact D7 (by assumption) ((Upd.refl [] _).drew) (by simp)) | (exact D7 (by assumption) (((Upd.refl [] _).alloc _).drew) (by simp)) | (exact D7 (by assumption) (((Upd.refl [] _).alloc _)) (by simp)) | (exact D7 z0 (((Upd.refl [w1.heap.size] _).alloc _).drew.set _ (.inl (by simp))) (by simp;omega)))
   (first | fail)
  all_goals
   go_wp2_with fail
   go_meet
   have hw:IntKind.i64.wrap (ks.length:Int)=(ks.length:Int):=by rw[IntKind.wrap_i64];omega
   refine⟨rfl,by rw[hw],?_,((Upd.refl _ _).alloc _).drew⟩;rw[show IntKind.i64.wrap 2=2 from rfl];exact A6 _
 case rest=>
  rename World=>wy
  obtain⟨rfl,rfl,hy,huy⟩:=hcut;obtain⟨b8,hb8⟩:∃b,b=w1.heap.size:=⟨_,rfl⟩;rw[← hb8] at hy ⊢;have y0:wy.cell? ⟨b8,0,none⟩=some (.int .i64 2):=by rw[A4 hy];rfl
  have dn:decide ((ks.length:Int)<=13)=true:=decide_eq_true (by omega);have dn2:decide (ks.length<=13)=true:=decide_eq_true hn;have HB8:=η hb8;have HY:=η hy;have HUY:=η huy;have hnd:=HOK.out.n;obtain⟨d0,hd0⟩:∃d,ds[0]?=some d:=⟨_,List.getElem?_eq_getElem (by omega)⟩;have hf0:num (B5 ks ds) 8 4=d0:=by unfold B5;rw[Ag9 HOK.out (Nat.le_refl _),List.getD_eq_getElem?_getD,hd0];rfl
  have hnum:=At2 (HRB.out.below huy) 8 8 rfl (by rw[HE.out];omega) (by rw[HE.out];omega);rw[hf0] at hnum;have HNUM:=η hnum;have hbu:=Al6;have y3:(wy.alloc (.cells #[.int .u32 (d0:Int)] 79)).cell? ⟨b8,3,none⟩=some (.slice none 0 0):=by rw[A4 ((A9 (A2 hy)).trans hy)];rfl
  have yf:(wy.alloc (.cells #[.int .u32 (d0:Int)] 79)).frozen? ⟨b8,3,none⟩=false:=E4 ((A9 (A2 hy)).trans hy) 3;have hz:((wy.alloc (.cells #[.int .u32 (d0:Int)] 79)).setCell ⟨b8,3,none⟩ (.slice (some ⟨wy.heap.size,0,none⟩) 1 1)).heap[b8]?=some (.cells #[.int .i64 2,.slice none 0 0,.slice none 0 0,.slice (some ⟨wy.heap.size,0,none⟩) 1 1] 220 (0,0)):=by
   rw[B3 ((A9 (A2 hy)).trans hy)];rfl
  have hzd:D8 ((wy.alloc (.cells #[.int .u32 (d0:Int)] 79)).setCell ⟨b8,3,none⟩ (.slice (some ⟨wy.heap.size,0,none⟩) 1 1)) w1.heap.size (.slice (some ⟨wy.heap.size,0,none⟩) 1 1) (ds.take 1):=by
   have e1:ds.take 1=[d0]:=by rw[List.take_add_one,hd0];rfl
   rw[e1];refine⟨rfl,.inr ⟨wy.heap.size,1,#[.int .u32 (d0:Int)],rfl,huy.size,?_,Nat.le_refl _,by decide,rfl,rfl⟩⟩;rw[E7 _ _ (show wy.heap.size≠b8 by have:=A2 hy;omega)];exact A6 _
  have hzu:Upd [] w1 ((wy.alloc (.cells #[.int .u32 (d0:Int)] 79)).setCell ⟨b8,3,none⟩ (.slice (some ⟨wy.heap.size,0,none⟩) 1 1)):=(huy.alloc _).set _ (.inr (by omega));have HZ:=η hz;have HZD:=η hzd;have HZU:=η hzu;clear hb8 hy huy z0 z1 hnd hd0 hf0 hnum hz hzd hzu;go_wp2_with fail
  refine HNUM.out.mono ?_;rintro e w' ⟨rfl,rfl⟩;go_wp2_with fail
  go_loopw [89] (λ i wr=>∃(q:Nat) (vk vd:Value),q<=ks.length/\i=.int .i64 (q:Int)/\wr.heap[b8]?=some (.cells #[.int .i64 2,vk,.slice none 0 0,vd] 220 (0,0))/\C3 wr w1.heap.size vk (ks.take q)/\D8 wr w1.heap.size vd (ds.take (q+1))/\Upd [] w1 wr) (λ i _=>ks.length-(intOf i).toNat)
  case atStart=>exact⟨0,_,_,Nat.zero_le _,rfl,HZ.out,Y0 _ _ _ _,HZD.out,HZU.out⟩
  case round=>
   obtain⟨q,vk,vd,hq,rfl,hb,hK,hD,hu⟩:=hrel;by_cases hlt:q<ks.length
   ·have hlt':decide ((q:Int)<(ks.length:Int))=true:=decide_eq_true (by omega);have hlt2:decide (q<ks.length)=true:=decide_eq_true hlt;have hnd:=HOK.out.n;have hlk:(ks.take q).length=q:=by rw[List.length_take];omega
    have hld:(ds.take (q+1)).length=q+1:=by rw[List.length_take];omega
    obtain⟨ak,ck,rfl⟩:=C4 hK;obtain⟨ad,cd,rfl⟩:=C4 hD;unfold C3 at hK;unfold D8 at hD;rw[hlk] at hK hb;rw[hld] at hD hb;have hkq:ks[q]?=some ks[q]:=List.getElem?_eq_getElem hlt;have hgk:ks.getD q []=ks[q]:=by rw[List.getD_eq_getElem?_getD,hkq];rfl
    have h32:=HOK.out.k _ (List.getElem_mem hlt);have htk:((ks.take (q+1)).map bts).flatten=((ks.take q).map bts).flatten++bts ks[q]:=by
     rw[List.take_add_one,hkq,List.map_append,List.flatten_append];simp
    obtain⟨dq,hdq⟩:∃d,ds[q+1]?=some d:=⟨_,List.getElem?_eq_getElem (by omega)⟩;have htd:(ds.take (q+1+1)).map (λ d:Nat=>Value.int .u32 (d:Int))=(ds.take (q+1)).map (λ d:Nat=>Value.int .u32 (d:Int)) ++ [.int .u32 (dq:Int)]:=by
     rw[List.take_add_one (i:=q+1),hdq,List.map_append];rfl
    have hat2:=Ak6 HOK.out (j:=q) (k:=ks.length) (Nat.le_refl _) hlt;rw[hgk,show ds.getD (q+1) 0=dq from by rw[List.getD_eq_getElem?_getD,hdq];rfl] at hat2;generalize ks[q]=kq at *;obtain⟨I,hI⟩:∃I,I=12+36*q:=⟨_,rfl⟩;obtain⟨I2,hI2⟩:∃J,J=I+32:=⟨_,rfl⟩;rw[← hI,← hI2] at hat2;have hnn:num (B5 ks ds) I2 4=dq:=hat2.2;have r1:=Rd.range (HRB.out.below hu) HE.out (I:=I) (n:=32) (by omega) hat2.1;have hi1:12+36*(q:Int)=(I:Int):=by omega
    have hi2:(I:Int)+32=(I2:Int):=by omega
    have hs1:I2-I=32:=by omega
    have j0:(0:Int)<=(I:Int):=by omega
    have j1:(I:Int)<=(I2:Int):=by omega
    have j2:(I2:Int)<=(c:Int):=by omega
    have j3:(0:Int)<=(I2:Int):=by omega
    have j6:I2<=c:=by omega
    obtain⟨n0,n1,-,n3⟩:=P4 hb;have hbld:=Y8 (T:=216) (e:=35) (sz:=32) Tryz.underlying216 (by kernel_rfl) (by omega) (by omega) (bts kq) (by rw[A8,h32]) wr.drew;obtain⟨a10,q10,c10,w10,S10,hrun10,ho10,hu10,hS10⟩:=Af4 (T:=216) (e:=35) Tryz.underlying216 Aa8 rfl (by omega) (by omega) (w:=wr.drew) hK (by omega) hu.size (bts kq) (by rw[A8,h32]) (G7 _);have hldc:=B2 (E9 r1 (Upd.refl [] _).drew (by simp)) h32;have hrb:wr.drew.heap[b8]?=_:=hb;have hb10:w10.heap[b8]?=some (.cells #[.int .i64 2,.slice ak q ck,.slice none 0 0,.slice ad (q+1) cd] 220 (0,0)):=(hu10.block _ (A2 hrb) (λ k=>by obtain⟨_,c,e⟩:=hS10 _ k;rw[hrb] at e;simp at e)).trans hb;obtain⟨m0,m1,-,m3⟩:=P4 hb10;have mf:=E4 hb10 1;have n1a:=D7 (w':=wr.alloc (.cells (bts kq).toArray 35)) n1 ((Upd.refl [] _).alloc _) (by simp);have hD10:w10.ownsRow w1.heap.size 79 1 (.slice ad (q+1) cd) (q+1) ((ds.take (q+1)).map λ d:Nat=>Value.int .u32 (d:Int)):=B8 (w:=wr.drew) hD hu10 (λ k c' hk _ e=>by obtain⟨_,c2,e2⟩:=hS10 _ hk;rw[e2] at e;simp at e);have hu110:Upd [] w1 w10:=(hu.drew).late hu10 (λ k hk=> .inr (hS10 _ hk).1);have HB10:=η hb10;have HO10:=η ho10;have HU10:=η hu110;have HD10:=η hD10;have HTK:=η htk;have HTD:=η htd;have HI:=η hI;have HI2:=η hI2;have HNN:=η hnn;have HDQ:=η hdq;have i0:(0:Int)<=(q:Int):=by omega
    have hw2:IntKind.i64.wrap (I2:Int)=(I2:Int):=by rw[IntKind.wrap_i64];omega
    have hci:¬c=I:=by omega
    clear hrb hb10 ho10 hu10 hS10 hK hD r1 hb hu htk htd hI hI2 hat2 hkq hdq hgk hD10 hu110 hnn;go_upto_region 20 with(fail)
    go_cut [] (λ wz=>∃a b c,wz.heap[b8]?=some (.cells #[.int .i64 2,.slice a b c,.slice none 0 0,.slice ad (q+1) cd] 220 (0,0))/\C3 wz w1.heap.size (.slice a b c) (ks.take (q+1))/\wz.ownsRow w1.heap.size 79 1 (.slice ad (q+1) cd) (q+1) ((ds.take (q+1)).map λ d:Nat=>Value.int .u32 (d:Int))/\Upd [] w1 wz)
    case first=>
     go_region_law (first | (refine G5 (by rfl) _ _ _ (by rfl) (by rfl) (by rfl) hrun10 ?_))
     all_goals
      go_wp2_with fail
      go_meet
      have us:Upd [b8] w10 (w10.setCell ⟨b8,1,none⟩ (.slice a10 q10 c10)):=(Upd.refl _ _).set _ (.inl (by simp));refine⟨a10,q10,c10,by rw[B3 HB10.out];rfl,?_,B8 HD10.out us (λ k c' hk _ e=>by simp at hk;subst hk;rw[HB10.out] at e;simp at e),HU10.out.set _ (.inr (by have:=HB8.out;omega))⟩;unfold C3;rw[HTK.out,show(ks.take (q+1)).length=q+1 from by rw[List.length_take];omega];exact B8 HO10.out us (λ k c' hk _ e=>by simp at hk;subst hk;rw[HB10.out] at e;simp at e)
    case rest=>
     rename World=>wz
     obtain⟨a,b,c3,hbz,hKz,hDz,huz⟩:=hcut;clear n0 n1 n3 n1a m0 m1 m3 mf hldc hbld hrun10;obtain⟨n0,n1,-,n3⟩:=P4 hbz;have hnum:=At2 (w:=wz.drew) ((HRB.out.below huz).below (Upd.refl _ _).drew) I2 (I2:Int) rfl (by rw[HE.out];omega) (by rw[HE.out];omega);rw[HNN.out] at hnum;have HNUM2:=η hnum;obtain⟨a11,q11,c11,w11,S11,hrun11,ho11,hu11,hS11⟩:=Af4 (T:=218) (e:=79) Tryz.underlying218 Ab0 rfl (by omega) (by omega) (w:=wz.drew) hDz (by omega) huz.size [.int .u32 (dq:Int)] rfl (by simp[Value.oneCell']);have hrb:wz.drew.heap[b8]?=_:=hbz;have hb11:w11.heap[b8]?=some (.cells #[.int .i64 2,.slice a b c3,.slice none 0 0,.slice ad (q+1) cd] 220 (0,0)):=(hu11.block _ (A2 hrb) (λ k=>by obtain⟨_,c,e⟩:=hS11 _ k;rw[hrb] at e;simp at e)).trans hbz;obtain⟨m0,m1,-,m3⟩:=P4 hb11;have mf:=E4 hb11 3;have n3a:=D7 (w':=wz.alloc (.cells #[.int .u32 (dq:Int)] 79)) n3 ((Upd.refl [] _).alloc _) (by simp);have hK11:C3 w11 w1.heap.size (.slice a b c3) (ks.take (q+1)):=B8 (w:=wz.drew) hKz hu11 (λ k c' hk _ e=>by obtain⟨_,c2,e2⟩:=hS11 _ hk;rw[e2] at e;simp at e);have hu111:Upd [] w1 w11:=(huz.drew).late hu11 (λ k hk=> .inr (hS11 _ hk).1);have HB11:=η hb11;have HO11:=η ho11;have HU11:=η hu111;have HK11:=η hK11;clear hrb hb11 ho11 hu11 hS11 hKz hDz hbz huz hK11 hu111 hnum;go_wp2_with fail
     go_region_law (first | (go_simp;go_at_call 211;(with_reducible refine HNUM2.out.mono ?_);rintro e w' ⟨rfl,rfl⟩;dsimp only) | (refine G5 (by rfl) _ _ _ (by rfl) (by rfl) (by rfl) hrun11 ?_))
     all_goals
      have us:Upd [b8] w11 (w11.setCell ⟨b8,3,none⟩ (.slice a11 q11 c11)):=(Upd.refl _ _).set _ (.inl (by simp));have HBX:Hid ((w11.setCell ⟨b8,3,none⟩ (.slice a11 q11 c11)).heap[b8]?=some (.cells #[.int .i64 2,.slice a b c3,.slice none 0 0,.slice a11 q11 c11] 220 (0,0))):=by
       show _=_
       rw[B3 HB11.out];rfl
      have HKX:=η (B8 HK11.out us (λ k c' hk _ e=>by simp at hk;subst hk;rw[HB11.out] at e;simp at e));have HDX:Hid (D8 (w11.setCell ⟨b8,3,none⟩ (.slice a11 q11 c11)) w1.heap.size (.slice a11 q11 c11) (ds.take (q+1+1))):=by
       show D8 _ _ _ _
       unfold D8;rw[HTD.out,show(ds.take (q+1+1)).length=q+1+1 from by rw[List.length_take];have:=HOK.out.n;omega];exact B8 HO11.out us (λ k c' hk _ e=>by simp at hk;subst hk;rw[HB11.out] at e;simp at e)
      have HUX:=η (HU11.out.set (b:=b8) (o:=3) (.slice a11 q11 c11) (.inr (by have:=HB8.out;omega)));clear us n0 n1 n3 n3a m0 m1 m3 mf hrun11;go_wp2_with fail
      exact⟨⟨q+1,_,_,by omega,by go_num,HBX.out,HKX.out,HDX.out,HUX.out⟩,by simp[intOf];omega⟩
   ·obtain rfl:q=ks.length:=by omega
    have hlt':decide ((ks.length:Int)<(ks.length:Int))=false:=by simp
    have hnd:=HOK.out.n;rw[List.take_length] at hK;rw[show ds.take (ks.length+1)=ds from List.take_of_length_le (by omega)] at hD;have HB:=η hb;have HK:=η hK;have HV:=η hD;have HUr:=η hu;have hld4:=A7 (n:=4) (cs:=[.int .i64 2,vk,.slice none 0 0,vd]) hb rfl;have hb4:wr.heap[b4]?=some (.cells #[.int .i64 0,.slice none 0 0,.slice none 0 0,.slice none 0 0] 220 (0,0)):=(hu.block _ (Nat.lt_of_lt_of_le (A2 H4.out) HU1.out.size) (by simp)).trans ((HU1.out.block _ (A2 H4.out) (by simp;rintro rfl;have:=HH.out.jr.at_.st;have h4:=H4.out;rw[(HUA.out.block _ (A2 this) (by simp)).trans this] at h4;simp at h4)).trans H4.out);obtain⟨m0,m1,m2,m3⟩:=P4 hb4;have f0:=E4 hb4 0;have f1:=E4 hb4 1;have f2:=E4 hb4 2;have f3:=E4 hb4 3;have HB4r:=η hb4;obtain⟨ak,ck,rfl⟩:=C4 hK;obtain⟨av,cv,rfl⟩:=C4 hD;clear hb hK hD hu hnd hb4;go_wp2_with fail
    have hbe:=B3 (B3 (B3 (B3 HB4r.out 0 (.int .i64 2)) 1 (.slice ak ks.length ck)) 2 (.slice none 0 0)) 3 (.slice av ds.length cv);have hue:Upd [b4] w1 ((((wr.setCell ⟨b4,0,none⟩ (.int .i64 2)).setCell ⟨b4,1,none⟩ (.slice ak ks.length ck)).setCell ⟨b4,2,none⟩ (.slice none 0 0)).setCell ⟨b4,3,none⟩ (.slice av ds.length cv)):=((((HUr.out.mono (by simp)).set _ (.inl (by simp))).set _ (.inl (by simp))).set _ (.inl (by simp))).set _ (.inl (by simp));have huk:Upd [b4] wr ((((wr.setCell ⟨b4,0,none⟩ (.int .i64 2)).setCell ⟨b4,1,none⟩ (.slice ak ks.length ck)).setCell ⟨b4,2,none⟩ (.slice none 0 0)).setCell ⟨b4,3,none⟩ (.slice av ds.length cv)):=((((Upd.refl _ _).set _ (.inl (by simp))).set _ (.inl (by simp))).set _ (.inl (by simp))).set _ (.inl (by simp));generalize ((((wr.setCell ⟨b4,0,none⟩ (.int .i64 2)).setCell ⟨b4,1,none⟩ (.slice ak ks.length ck)).setCell ⟨b4,2,none⟩ (.slice none 0 0)).setCell ⟨b4,3,none⟩ (.slice av ds.length cv))=wE at *;have hbn:=HB4.out;refine bodyPost_ret (C5 (p:=4) (u:=5) (ty:=220) (by rfl) _ _ b4 _ (by rfl) (run_loadVar_row _ b4 _ _ _ _ _ hbe Tryz.underlying220 rfl (by kernel_rfl))) (by rfl) ?_;refine⟨_,_,rfl,Ao6 (B8 HK.out huk (λ k c' hk _ e=>by simp at hk;subst hk;rw[HB4r.out] at e;simp at e)) ?_,Ao6 (B8 HV.out huk (λ k c' hk _ e=>by simp at hk;subst hk;rw[HB4r.out] at e;simp at e)) ?_,?_,?_⟩
    ·exact Nat.le_trans HUA.out.size HU1.out.size
    ·exact Nat.le_trans HUA.out.size HU1.out.size
    ·exact B7.late (HH.out) H1.out ((HUA.out.mono (by simp)).trans HU1.out) hue (λ k hk=>by simp at hk;omega)
    ·exact((HUA.out.mono (by simp)).trans HU1.out).late hue (λ k hk=> .inr (by simp at hk;omega))
end
end Go.Proofs.YtgfbepakonjbnaaGreat
end
