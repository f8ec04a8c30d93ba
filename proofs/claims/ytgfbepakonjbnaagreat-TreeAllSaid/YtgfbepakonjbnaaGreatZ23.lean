/-
  cofferlaw9.grown: a tree of keys, committed step by step.
-/
import Derived.Test.YtgfbepakonjbnaaGreatZ18
import Derived.Test.YtgfbepakonjbnaaGreatZ10
import Derived.Test.YtgfbepakonjbnaaGreatZ22
import Derived.Test.YtgfbepakonjbnaaGreatZ09
import Derived.OrdersIn
import Derived.OwnWalkIn
import Derived.Test.YtgfbepakonjbnaaGreatZ15
set_option maxRecDepth 100000
set_option maxHeartbeats 16000000
section
set_option linter.unusedSimpArgs false
set_option linter.unusedVariables false
namespace Go.Proofs.YtgfbepakonjbnaaGreat
open Go.RowKit Go.MapKept Go.ChangeMaps
section
def Ca4(w:World)(j:JG)(n ring r:Nat)(l:List B0)(S:List Nat)(b:Int):Prop:=
 ∃(J:Jn) (D:Dk) (t m:Int) (H:Nat->Sec),V4 w j J D n ring t m H/\(∀i,(H i).length=512)/\N0 H (n-2-ring) r l S/\t<=b/\m<=b+1
structure TxG(w0:World)(j:JG)(n ring:Nat)(b:Int)(g:Sg):Prop where
 j:g.j=j
 n:g.n=n
 ring:g.ring=ring
 turn:g.turn=g.t-1
 t:g.t<=b
 m:g.m<=b+1
 tb:w0.heap.size<=g.x.tb
 wb:w0.heap.size<=g.x.wb
theorem TxG.h{w0:World}{j:JG}{n ring:Nat}{b:Int}{g:Sg}(h:TxG w0 j n ring b g):g.h=n-2-ring:=by unfold Sg.h;rw[h.n,h.ring]
theorem TxG.S{w0:World}{j:JG}{n ring:Nat}{b:Int}{g:Sg}(h:TxG w0 j n ring b g):∀k,k∈g.S->k∈j.all∨w0.heap.size<=k:=by
 intro k hk;rw[Sg.S,h.j] at hk;rcases List.mem_cons.1 hk with rfl | q
 ·exact .inr h.wb
 ·exact .inl q
theorem Ch4{w:World}{j:JG}{n ring r:Nat}{l:List B0}{S:List Nat}{b:Int}(h:Ca4 w j n ring r l S b) :
  Calls Tryz.prog 18 #[.pointer (some ⟨j.jb,0,none⟩)] w λ e w'=>∃g:Sg,e=.returned (.tuple #[.pointer (some ⟨g.x.tb,0,none⟩),.int .i64 0])/\TxG w j n ring b g/\B7 w' g (λ _=>none)/\N0 (g.cur λ _=>none) g.h r l S/\Upd j.all w w':=by
 obtain⟨J,D,t,m,H,h1,h2,h3,h4,h5⟩:=h;refine(Ax3 h1).mono ?_;rintro e w' ⟨x,rfl,hx1,hx2,hx,hr,hu,hfx⟩;exact⟨⟨x,j,J,D,n,ring,t-1,t,m,H⟩,rfl,⟨rfl,rfl,rfl,rfl,h4,h5,hx1,hx2⟩,⟨hr,hx,h1.at_.late hx2,MOk.none _,h2,hfx⟩,h3,hu⟩
theorem Ca5{w0 w:World}{j:JG}{n ring r:Nat}{l:List B0}{S:List Nat}{b:Int}{g:Sg}{M:Nat->Option Sec}(hg:TxG w0 j n ring b g)(h:B7 w g M)(ht:N0 (g.cur M) g.h r l S)(hn:n<=5000)(hb:b<900000)(h1:F2 M g.h<=40)(h2:F2 M g.h<ring) :
  Calls Tryz.prog 21 #[.pointer (some ⟨g.x.tb,0,none⟩)] w λ e w'=>e=.returned (.int .i64 0)/\Ca4 w' j n ring r l S (b+1)/\Upd (g.x.tb :: j.all) w w':=by
 have hx:=h.tx;rw[hg.turn] at hx;refine(Bd7 h.jr hx h.ne h.ok (by rw[hg.n];exact hn) h1 (by rw[hg.ring];exact h2:F2 M g.h<g.ring) (by have:=hg.t;omega) (by have:=hg.m;omega)).mono ?_;rintro e w' ⟨rfl,_,⟨J',D',t',hr,ht'⟩,hu⟩;have e1:=hg.j;have e2:=hg.n;have e3:=hg.ring;refine⟨rfl,⟨J',D',t',g.m+1,g.cur M,?_,λ i=>h.cur_len i,?_,?_,?_⟩,by rw[← e1];exact hu⟩
 ·rw[← e1,← e2,← e3];exact hr
 ·rw[← e2,← e3];exact ht
 ·have:=hg.t;rw[ht'];split<;>omega
 ·have:=hg.m;omega
theorem Bc6(x:Int)(w:World):(Instr.build 115 #[(0,.int .u8 (x % 256))]).run Tryz.prog w=.ok (.agg (bts (Ah5 x)).toArray) w:=by
 have e:(bts (Ah5 x))=(bts z16).set 0 (.int .u8 (x % 256)):=by rw[Bw7,Bv9 _ _ (Cg9 x)];rfl
 rw[e];exact run_build w _ _ _ (by kernel_rfl)
attribute [-go_sem] loadCells storeCells Instr.build Instr.buildSlice
end
section
theorem Bf4:∀(d:Nat) {w:World} {g:Sg} {M:Nat->Option Sec} (_:B7 w g M) {root:Bool} {a:Nat} {l:List B0} {S:List Nat} (_:E3 (g.cur M) root d a l S) (_:K7 g M S) (_:1<g.h) (_:g.h<=4096) (key:Bs) (_:key.length=32) (deep:Int) (_:(d:Int)<deep) (_:deep<=16) (_:F2 M g.h+c1M M+(3*d+1)<=40),
  Calls Tryz.prog 125 #[.pointer (some ⟨g.x.tb,0,none⟩),.int .u32 (a:Int),arr key,.int .i64 deep] w (V7 g M root d a l S key w)
 | 0,w,g,M,h,root,a,l,S,hs,hh,h1,h2,key,hk,deep,hd,hd2,hc=>Cb5 h h1 a (hh.low a hs.mem.1).2 hs.mem.2 hs hh key hk deep (by rw[beq_eq_false_iff_ne];omega) (by omega)
 | d+1,w,g,M,h,root,a,l,S,hs,hh,h1,h2,key,hk,deep,hd,hd2,hc=>by
  obtain⟨ks,ds,kid,lc,Sc,hK⟩:=hs.dropKid (key:=key) hh;exact Bt7 h h1 h2 a (hh.low a hs.mem.1).2 hs.mem.2 key hk hK deep (by omega) hd2 (by omega) (λ w' h'=>Bf4 d h' hK.shape hK.held h1 h2 key hk (deep-1) (by omega) (by omega) (by omega))
def Cm5(g:Sg)(M:Nat->Option Sec)(l:List B0)(S:List Nat)(key:Bs)(w:World)(e:Ending)(w':World):Prop:=
 (G9 l key=none/\e=.returned (.tuple #[.int .u32 0,.int .i64 5])/\B7 w' g M/\Upd g.S w w')∨
 (G9 l key≠none/\∃(M':Nat->Option Sec) (r':Nat),e=.returned (.tuple #[.int .u32 (r':Int),.int .i64 0])/\Al1 g M M' r' l S key 8/\B7 w' g M'/\Upd g.S w w')
attribute [-go_sem] loadCells storeCells Instr.build Instr.buildSlice
attribute [local go_sem] L6
theorem Cb6{w:World}{g:Sg}{M:Nat->Option Sec}(h:B7 w g M)(hh1:1<g.h)(key:Bs)(hkey:key.length=32) :
  Calls Tryz.prog 56 #[.pointer (some ⟨g.x.tb,0,none⟩),.int .u32 0,arr key] w λ e w'=>e=.returned (.tuple #[.int .u32 0,.int .i64 5])/\B7 w' g M/\Upd g.S w w':=by
 have hb:((g.h:Int) == 0)=false:=by rw[beq_eq_false_iff_ne];omega
 obtain⟨wA,hwA⟩:∃wA,wA=w.alloc (.cells (bts key).toArray 35):=⟨_,rfl⟩;have huA:Upd [] w wA:=by rw[hwA];exact(Upd.refl _ _).alloc _
 have HO:=η (T3 (h.below huA));have HA:=η (h.below huA);have HUA:=η huA;have HW:=η hwA;clear h huA hwA;unfold arr;go_enter Tryz.func56,Tryz.ntmps56
 go_wp2_with fail
 rw[← HW.out];refine HO.out.mono ?_;rintro e w1 ⟨rfl,n1,hn1⟩;have HU1:Hid (Upd [] wA w1):=by show Upd _ _ _;rw[hn1];exact(Upd.refl _ _).drewN _
 clear hn1;go_wp2_with fail
 go_ret2;exact⟨rfl,HA.out.below HU1.out,(HUA.out.trans HU1.out).mono (by simp)⟩
theorem Ci4{w:World}{g:Sg}{M:Nat->Option Sec}(h:B7 w g M)(hh1:1<g.h)(hh2:g.h<=4096){r:Nat}{l:List B0}{S:List Nat}(ht:Ae2 (g.cur M) r l S)(hh:K7 g M S)(hl:l.length<490)(key:Bs)(hkey:key.length=32)(hres:F2 M g.h+c1M M+8<=40) :
  Calls Tryz.prog 56 #[.pointer (some ⟨g.x.tb,0,none⟩),.int .u32 (r:Int),arr key] w (Cm5 g M l S key w):=by
 rcases ht with⟨rfl,rfl,rfl⟩ | ⟨hr,d,hs⟩
 ·exact(Cb6 h hh1 key hkey).mono λ e w' hp=> .inl ⟨rfl,hp⟩
 have hd2:=hs.flat hl;have hrm:=hs.mem;have hrl:=hh.low r hrm.1;have hb:((g.h:Int) == 0)=false:=by rw[beq_eq_false_iff_ne];omega
 have hb2:((r:Int) == 0)=false:=by rw[beq_eq_false_iff_ne];omega
 obtain⟨wA,hwA⟩:∃wA,wA=w.alloc (.cells (bts key).toArray 35):=⟨_,rfl⟩;have huA:Upd [] w wA:=by rw[hwA];exact(Upd.refl _ _).alloc _
 obtain⟨b5,hb5⟩:∃b,b=w.heap.size:=⟨_,rfl⟩;have h5:wA.heap[b5]?=some (.cells (bts key).toArray 35 (0,0)):=by rw[hwA,hb5];exact A6 _
 have H5:=η h5;have HO:=η (T3 (h.below huA));have HA:=η (h.below huA);have HUA:=η huA;have HW:=η hwA;have HB:=η hb5;have HSH:=η (And.intro hs hh);have HRES:=η hres;have HRL:=η (And.intro hrl hrm.2);clear h huA hwA hb5 h5 hs hh hres hrm hrl hr hl;unfold arr;go_enter Tryz.func56,Tryz.ntmps56
 go_wp2_with fail
 rw[← HW.out,← HB.out];refine HO.out.mono ?_;rintro e w1 ⟨rfl,n1,hn1⟩;have hu1:Upd [] wA w1:=by rw[hn1];exact(Upd.refl _ _).drewN _
 have HA1:=η (HA.out.below hu1);have l5:=A7 (n:=32) ((hu1.block _ (A2 H5.out) (by simp)).trans H5.out) (by rw[A8,hkey]);have hDR:=Bf4 d HA1.out HSH.out.1 HSH.out.2 hh1 hh2 key hkey 16 (by omega) (by omega) (by have:=HRES.out;omega);unfold arr at hDR;have HDR:=η hDR;have HU1:=η (HUA.out.trans hu1);clear hn1 hu1 hDR;go_wp2_with fail
 refine HDR.out.mono ?_;rintro e w4 hp;obtain⟨er,kd,a1,n1,c1,a2,n2,c2,a3,n3,c3,rfl,hu4,hp4⟩:=hp.both;have HU4:=η ((HU1.out.mono (by simp)).trans hu4:Upd g.S w w4);have HSZ:=η (HU1.out.size);clear hp hu4 l5;rcases hp4 with⟨rfl,e2,e3⟩ | ⟨rfl,e2,M1,ks,vs,ds,e3,e4,e5,e6⟩
 ·have HE:=η (And.intro e2 e3);clear e2 e3;go_wp2_with fail
  go_ret2;exact .inl ⟨HE.out.1,rfl,HE.out.2.below ((Upd.refl _ _).alloc _),HU4.out.alloc _⟩
 ·obtain⟨w5,hw5⟩:∃x,x=w4.alloc (.cells #[.int .i64 kd,.slice a1 n1 c1,.slice a2 n2 c2,.slice a3 n3 c3] 220):=⟨_,rfl⟩;obtain⟨b8,hb8⟩:∃x,x=w4.heap.size:=⟨_,rfl⟩;have hc8:=A6 (w:=w4) (.cells #[.int .i64 kd,.slice a1 n1 c1,.slice a2 n2 c2,.slice a3 n3 c3] 220);rw[← hw5,← hb8] at hc8;have hu45:Upd [] w4 w5:=by rw[hw5];exact(Upd.refl _ _).alloc _
  have HA5:=η (e6.below hu45);have HN5:=η (e4.below hu45);have HU5:=η (HU4.out.trans (hu45.mono (by simp)));have HD5:=η e5;have HLK:=η e2;have HN1:=η e3;have H8:=η hc8;obtain⟨hkd,hle⟩:=HN5.out.kd;have HKD:=η (And.intro hkd hle);have HCN:Hid (F2 M1 g.h+c1M M1+1<=40):=by
   show _<=_
   obtain⟨S',_,_,_,_,hS⟩:=HD5.out;have:=hS.cnt;have:=HRES.out;omega
  have m81:=A4 hc8 1;have m80:=A4 hc8 0;have HW5:=η (And.intro hw5 hb8);rw[hw5,hb8] at m81 m80;have l8:=A7 (n:=4) (cs:=[.int .i64 kd,.slice a1 n1 c1,.slice a2 n2 c2,.slice a3 n3 c3]) hc8 rfl;rw[hw5,hb8] at l8;have HSM:=η (An3 hkd a1 a2 a3 n1 c1 n2 c2 n3 c3 w5);clear hw5 hb8 hc8 hu45 e2 e3 e4 e5 e6 hkd hle;rcases Nat.lt_or_ge 0 n1 with hpos | hzero
  ·have dp:decide (0<(n1:Int))=true:=decide_eq_true (by omega);have HP:=η hpos;go_wp2_with fail
   rw[← HW5.out.1,← HW5.out.2];refine HSM.out.mono ?_;rintro e w6 ⟨rfl,hu6⟩;have HA6:=η (HA5.out.below hu6);have HN6:=η (HN5.out.below hu6);have HU6:=η (HU5.out.trans (hu6.mono (by simp)));have l86:=A7 (n:=4) (cs:=[.int .i64 kd,.slice a1 n1 c1,.slice a2 n2 c2,.slice a3 n3 c3]) ((hu6.block _ (A2 H8.out) (by simp)).trans H8.out) rfl;clear hu6 l8 m81 m80 dp hpos;cases hsm:decide (n1<O9 kd)
   ·have hbig:N9 d<=ks.length:=by have:=of_decide_eq_false hsm;have:=HKD.out.2;have:=HN1.out;omega
    have HT:=η (Bp5 HD5.out HSH.out.2 HRL.out.2 hbig);clear hsm hbig;go_wp2_with fail
    refine(X3 _ _).mono ?_;rintro e w7 ⟨rfl,hu7⟩;have HA7:=η (HA6.out.below hu7);have HU7:=η (HU6.out.trans (hu7.mono (by simp)));clear hu7 l86;go_wp2_with fail
    go_ret2;obtain⟨S',t1,t2⟩:=HT.out;exact .inr ⟨HLK.out,M1,r,rfl,⟨S',t1,t2.mono (by omega)⟩,HA7.out,HU7.out⟩
   ·obtain⟨S',ho,hm9,hlo,hce,hSh⟩:=HD5.out;have HENC:Hid (L7 g.S w6 kd (.slice a1 n1 c1) (.slice a2 n2 c2) (.slice a3 n3 c3) (Aj7 d ks vs ds)):=by
     show L7 _ _ _ _ _ _ _
     obtain⟨x1,x2,x3,x4⟩:=ho.len;rcases HN6.out with⟨rfl,rfl,q3,rfl,hk,hv⟩ | ⟨h0,rfl,q3,rfl,hk,hv⟩
     ·simp at x4;rw[q3];exact Ci3 HA6.out hk hv ⟨x1,x2,x4,hm9⟩
     ·cases d with
      | zero=>omega
      | succ d=>
       simp at x4;rw[q3];exact Bf2 HA6.out hk hv ⟨x1,x3,x4,hm9⟩
    have HT:=η (Bc7 HD5.out HSH.out.2 HRL.out.2 (by have:=HN1.out;have:=HP.out;omega) HA6.out.ok);have HWR:=η (N6 HA6.out HENC.out r HRL.out.1.2 HRL.out.2 (.inr (by have:=HCN.out;omega)));clear hsm ho hm9 hlo hce hSh;go_wp2_with fail
    refine HWR.out.mono ?_;rintro e w7 ⟨rfl,h7,hu7⟩;have HA7:=η h7;have HU7:=η (HU6.out.trans (hu7.mono g.memw));clear h7 hu7 l86;go_wp2_with fail
    refine(X3 _ _).mono ?_;rintro e w8 ⟨rfl,hu8⟩;have HA8:=η (HA7.out.below hu8);have HU8:=η (HU7.out.trans (hu8.mono (by simp)));clear hu8;go_wp2_with fail
    go_ret2;obtain⟨S',t1,t2⟩:=HT.out;exact .inr ⟨HLK.out,_,r,rfl,⟨S',t1,t2.mono (by omega)⟩,HA8.out,HU8.out⟩
  ·obtain rfl:n1=0:=by omega
   have dp:decide (0<(0:Int))=false:=rfl;have hks:ks=[]:=List.length_eq_zero_iff.1 HN1.out;have HWF:=η (Aj9 (s:=r) HRL.out.2);have hT1:g.T M1 r=true:=by
    obtain⟨S',_,_,_,_,hS⟩:=HD5.out;exact(hS.held HSH.out.2).T r (by simp)
   have HFR:=η (λ w' (h':B7 w' g M1)=>Bb2 h' hh1 hh2 (.inr (by have:=HCN.out;omega)) r HRL.out.1.1 HRL.out.1.2 hT1);rcases HN5.out with⟨rfl,rfl,q3,rfl,hk,hv⟩ | ⟨h0,rfl,q3,rfl,hk,hv⟩
   ·have hD:=HD5.out;rw[hks] at hD;have HT:=η (Bi8 hD HSH.out.2 HA5.out.ok (HA5.out.cur_len 1) hh1 hh2);clear hks hT1 q3 hk hv hzero hD dp;obtain⟨wf1,wf2⟩:=HWF.out;go_wp2_with fail
    rw[← HW5.out.1];clear wf1 wf2;refine(HFR.out _ HA5.out).mono ?_;rintro e w6 ⟨rfl,h6,hu6⟩;have HA6:=η h6;have HU6:=η (HU5.out.trans hu6);clear h6 hu6 l8 m81 m80;go_wp2_with fail
    go_ret2;obtain⟨S',t1,t2⟩:=HT.out;exact .inr ⟨HLK.out,_,0,rfl,⟨S',t1,t2.mono (by omega)⟩,HA6.out,HU6.out⟩
   ·obtain⟨d,rfl⟩:∃q,d=q+1:=⟨d-1,by omega⟩;have hD:=HD5.out;rw[hks] at hD;obtain⟨c,hdc,hcl,hT⟩:=Bc8 hD HSH.out.2 HA5.out.ok (HA5.out.cur_len 1) hh1 hh2;have HT:=η hT;subst hdc;injection q3 with q31 q32 q33;subst q31 q32 q33;obtain⟨x,y,exy⟩:=C4 hv;injection exy with exy1 exy2 exy3;simp only[List.length_cons,List.length_nil,Nat.zero_add] at exy2;subst exy1 exy2 exy3;obtain⟨gd,rfl⟩:=T5 hv (by simp);have HDV:Hid (D8 w5 w1.heap.size (.slice (some ⟨gd,0,none⟩) 1 c3) [c]):=η hv;have HGD:=η (I7 HA5.out hv (.inr (.inr (.inr (.inr rfl)))) _ _ _ rfl);have HG8:=η (HA5.out.other9 H8.out (.inr (.inl rfl)));clear hks hT1 hk hv hzero hD dp hT h0;go_wp2_with fail
    rw[← HW5.out.1,← HW5.out.2];clear l8 m81 m80;refine B6 (λ w'=>w'.heap[b8]?=some (.cells #[.int .i64 2,.slice a1 0 c1,.slice none 0 0,.slice (some ⟨gd,0,none⟩) 1 c3] 220 (0,0))/\w'.cell? ⟨gd,0,none⟩=some (.int .u32 (c:Int))) [8] (by kernel_rfl) ⟨H8.out,S7 (i:=0) HDV.out rfl⟩ (λ hHeld=>?_);have HDW:Hid (Upd [] w5 w5.drew):=η (Upd.refl [] _).drew;refine κt 0 ?_ hHeld ?_ ?_;rotate_left
    ·(intro w hSw;go_simp<;>with_reducible rfl)
    try simp only[Act.put,αs,αz,αc]
    refine κt 4 ?_ hHeld ?_ ?_;rotate_left
    ·(intro w hSw;go_simp<;>with_reducible rfl)
    try simp only[Act.put,αs,αz,αc]
    refine κt 5 ?_ hHeld ?_ ?_;rotate_left
    ·(intro w hSw;go_simp<;>with_reducible rfl)
    try simp only[Act.put,αs,αz,αc]
    refine κt 1 ?_ hHeld ?_ ?_;rotate_left
    ·(intro w hSw;have mm:=A4 hSw.1 3;go_simp<;>with_reducible rfl)
    try simp only[Act.put,αs,αz,αc]
    refine κt 2 ?_ hHeld ?_ ?_;rotate_left
    ·(intro w hSw;go_simp<;>with_reducible rfl)
    try simp only[Act.put,αs,αz,αc]
    refine κt 3 ?_ hHeld ?_ ?_;rotate_left
    ·(intro w hSw;have mm:=hSw.2;go_simp<;>with_reducible rfl)
    try simp only[Act.put,αs,αz,αc]
    refine κt 6 ?_ hHeld ?_ ?_;rotate_left
    ·(intro w hSw;obtain⟨wf1,wf2⟩:=HWF.out;go_simp<;>with_reducible rfl)
    try simp only[Act.put,αs,αz,αc]
    refine κr 7 (λ K hK=>?_);go_simp;go_at_call 129
    (with_reducible refine(HFR.out _ (HA5.out.below HDW.out)).mono ?_)
    rintro e w6 ⟨rfl,h6,hu6⟩;have h86:=(hu6.block _ (A2 hHeld.1) HG8.out).trans hHeld.1;have hc6:=D7 hHeld.2 hu6 HGD.out;have HA6:=η h6;have HU6:=η (HU5.out.trans ((HDW.out.mono (by simp)).trans hu6));clear h6 hu6;go_wp2_with fail
    refine hK.out _ _ (λ _=>⟨h86,hc6⟩) ?_;clear hK K;try simp only[Act.put,αs,αz,αc]
    refine κr 8 (λ K hK=>?_);go_simp;go_at_call 128
    (with_reducible refine(X3 _ _).mono ?_)
    rintro e w7 ⟨rfl,hu7⟩;have HA7:=η (HA6.out.below hu7);have HU7:=η (HU6.out.trans (hu7.mono (by simp)));clear hu7;go_wp2_with fail
    refine hK.out _ _ (B9 (by kernel_rfl)) ?_;clear hK K;try simp only[Act.put,αs,αz,αc]
    refine E0 (by kernel_rfl) ?_;refine κt 9 ?_ trivial ?_ ?_;rotate_left
    ·(intro w hSw;go_simp<;>with_reducible rfl)
    try simp only[Act.put,αs,αz,αc]
    refine κt 10 ?_ trivial ?_ ?_;rotate_left
    ·(intro w hSw;go_simp<;>with_reducible rfl)
    try simp only[Act.put,αs,αz,αc]
    refine κr 11 (λ K hK=>?_);go_simp;refine hK.out _ _ (λ _=>trivial) ?_;clear hK K;try simp only[Act.put,αs,αz,αc]
    refine κr 12 (λ K hK=>?_);go_simp;refine hK.out _ _ (λ _=>trivial) ?_;clear hK K;try simp only[Act.put,αs,αz,αc]
    refine B1 (by kernel_rfl) ?_ _;go_wp2_with fail
    go_ret2;obtain⟨S',t1,t2⟩:=HT.out;exact .inr ⟨HLK.out,_,c,rfl,⟨S',t1,t2.mono (by omega)⟩,HA7.out,HU7.out⟩
end

section
section
variable {P:Program} {ops:Array Oper} {Q:Exit->Act->World->Prop} {md:Region.Mode}
end
end
end Go.Proofs.YtgfbepakonjbnaaGreat
end
section
section
set_option linter.unusedSimpArgs false
set_option linter.unusedVariables false
namespace Go.Proofs.YtgfbepakonjbnaaGreat
open Go.RowKit Go.MapKept Go.ChangeMaps
end Go.Proofs.YtgfbepakonjbnaaGreat
end
section
set_option linter.unusedSimpArgs false
set_option linter.unusedVariables false
namespace Go.Proofs.YtgfbepakonjbnaaGreat
open Go.RowKit Go.MapKept Go.ChangeMaps
section
variable {F:Fence} {m:Nat} {P:Program} {ops:Array Oper} {Q:Exit->Act->World->Prop} {md:Region.Mode}
end
end Go.Proofs.YtgfbepakonjbnaaGreat
end
section
set_option linter.unusedSimpArgs false
set_option linter.unusedVariables false
namespace Go.Proofs.YtgfbepakonjbnaaGreat
open Go.RowKit Go.MapKept Go.ChangeMaps
end Go.Proofs.YtgfbepakonjbnaaGreat
end
section
set_option linter.unusedSimpArgs false
set_option linter.unusedVariables false
namespace Go.Proofs.YtgfbepakonjbnaaGreat
open Go.RowKit Go.MapKept Go.ChangeMaps
end Go.Proofs.YtgfbepakonjbnaaGreat
end
section
set_option linter.unusedSimpArgs false
set_option linter.unusedVariables false
namespace Go.Proofs.YtgfbepakonjbnaaGreat
open Go.RowKit Go.MapKept Go.ChangeMaps
end Go.Proofs.YtgfbepakonjbnaaGreat
end
end
section
set_option linter.unusedSimpArgs false
set_option linter.unusedVariables false
namespace Go.Proofs.YtgfbepakonjbnaaGreat
open Go.RowKit Go.MapKept Go.ChangeMaps


end Go.Proofs.YtgfbepakonjbnaaGreat
end
section
set_option linter.unusedSimpArgs false
set_option linter.unusedVariables false
namespace Go.Proofs.YtgfbepakonjbnaaGreat
open Go.RowKit
theorem Ce9(x c:Nat)(hx:x*256+255<18446744073709551616)(hc:c<256):IntKind.u64.wrap (IntKind.u64.wrap ((x:Int)*256)+IntKind.u64.wrap (c:Int))=((x*256+c:Nat):Int):=by
 rw[I9 ((x:Int)*256) (by omega) (by omega),I9 (c:Int) (by omega) (by omega),I9 _ (by omega) (by omega)];omega
theorem Cf0(v:Value)(b:List UInt8)(a n:Nat)(w:World)(hr:Rd w v b)(h1:1<=n)(h8:n<=8)(hl:a+n<=b.length)(hb:b.length<=1000000) :
  Calls Tryz.prog 217 #[v,.int .i64 (a:Int),.int .i64 (n:Int)] w λ e w'=>e=.returned (.tuple #[.int .u64 (num b a n:Int),.int .i64 0])/\w=w':=by
 obtain⟨ao,cap,rfl,hc,hh⟩:=hr;obtain⟨bk,off,rfl,hcell⟩:=hh (by omega);clear hh;have hcell':∀i,i<n->w.cell? ⟨bk,off+(a+i),none⟩=some (.int .u8 ((b[a+i]?.getD 0).toNat:Int)):=by
  intro i hi;have:=hcell (a+i) (by omega);rw[this];simp[bv,List.getElem?_eq_getElem (show a+i<b.length by omega)]
 have HC:=η hcell';clear hcell hcell';go_enter Tryz.func217,Tryz.ntmps217
 go_wp2
 go_loop [8,9] (λ x i=>∃k:Nat,k<=n/\i=.int .i64 (k:Int)/\x=.int .u64 (beN ((b.drop a).take k):Int)) (λ _ i=>n-(intOf i).toNat)
 case atStart=>exact⟨0,by omega,rfl,rfl⟩
 case round=>
  obtain⟨k,hk,rfl,rfl⟩:=hrel;by_cases hlt:k<n
  ·have hck:=HC.out k hlt;have hx:=Bg1 ((b.drop a).take k);have hlen:((b.drop a).take k).length=k:=by simp;omega
   rw[hlen] at hx;have hx7:beN ((b.drop a).take k)<256 ^ 7:=Nat.lt_of_lt_of_le hx (Nat.pow_le_pow_right (by omega) (by omega));have hstep:beN ((b.drop a).take (k+1))=beN ((b.drop a).take k)*256+(b[a+k]?.getD 0).toNat:=by
    have hkl:k<(b.drop a).length:=by simp;omega
    rw[List.take_succ_eq_append_getElem hkl,Ae6];simp[List.getElem?_eq_getElem (show a+k<b.length by omega)]
   have hor:=Ce9 (beN ((b.drop a).take k)) (b[a+k]?.getD 0).toNat (by omega) (UInt8.toNat_lt _);rw[← hstep] at hor;have HOR:=η hor;clear hor hstep hx hx7 hlen;go_wp2
   go_round
   case rel=>exact⟨k+1,by omega,by go_num,congrArg (Value.int IntKind.u64) HOR.out⟩
   case measure=>simp[intOf];omega
  ·obtain rfl:k=n:=by omega
   go_wp2
   go_ret2;exact⟨rfl,rfl⟩
end Go.Proofs.YtgfbepakonjbnaaGreat
end
section
set_option linter.unusedSimpArgs false
set_option linter.unusedVariables false
namespace Go.Proofs.YtgfbepakonjbnaaGreat
open Go.RowKit Go.MapKept Go.ChangeMaps
section
theorem Ap7{kd n i:Nat}(h:2<=i)(h2:i<512):(hdN kd n)[i]?=some 0:=by
 unfold hdN;rw[List.getElem?_set_ne (by omega),List.getElem?_set_ne (by omega)];exact Bk5 h2
theorem Bb5{ks vs:List Bs}(h:K5 ks vs){i:Nat}(hi2:i<512):∀{k:Nat},k<=ks.length->8+48*k<=i->(Af3 ks vs k)[i]?=some 0
 | 0,_,hi=>Ap7 (by omega) hi2
 | k+1,hk,hi=>by
  have ih:=Bb5 h hi2 (k:=k) (by omega) (by omega);have hl:=K6 h (k:=k) (by omega);have h1:=Q9 h.k (k:=k) (by omega);have h2:=Q9 h.v (k:=k) (by rw[h.n];omega);have:=h.most;show(N4 (N4 _ _ _) _ _)[i]?=_
  rw[X7 (by rw[Q1 (by omega)];omega),if_neg (by omega),X7 (by omega),if_neg (by omega)];exact ih
theorem Au2{ks:List Bs}{ds:List Nat}(h:G0 ks ds){i:Nat}(hi2:i<512):∀{k:Nat},k<=ks.length->12+36*k<=i->(X9 ks ds k)[i]?=some 0
 | 0,_,hi=>by
  show(put _ _ _ _)[i]?=_
  rw[Z7 _ (by rw[V9];omega),if_neg (by omega)];exact Ap7 (by omega) hi2
 | k+1,hk,hi=>by
  have ih:=Au2 h hi2 (k:=k) (by omega) (by omega);have hl:=J6 h (k:=k) (by omega);have h1:=Q9 h.k (k:=k) (by omega);have:=h.most;show(put (N4 _ _ _) _ _ _)[i]?=_
  rw[Z7 _ (by rw[Q1 (by omega)];omega),if_neg (by omega),X7 (by omega),if_neg (by omega)];exact ih
theorem I6.split{P:Nat->List B0->List Nat->Prop}{ks:List Bs}{ds:List Nat}{l:List B0}{S:List Nat}(h:I6 P ks ds l S):∃L:List (List B0),L.length=ds.length/\L.flatten=l/\
  ∀k c,ds[k]?=some c->∃lc Sc,L[k]?=some lc/\P c lc Sc/\(∀s,s∈Sc->s∈S)/\(∀p,p∈lc->p∈l)/\(∀x,ks[k]?=some x->∀p,p∈lc->ltB p.1 x=true)/\(∀x,0<k->ks[k-1]?=some x->∀p,p∈lc->ltB p.1 x=false):=by
 induction h with
 | @one c l S h=>
  refine⟨[l],rfl,by simp,λ k c' hc=>?_⟩;cases k with
  | zero=>simp at hc;subst hc;exact⟨l,S,rfl,h,λ _ q=>q,λ _ q=>q,by simp,by simp⟩
  | succ k=>simp at hc
 | @more c l S x ks ds l2 S2 h h1 h2 hk ih=>
  obtain⟨L,e1,e2,e3⟩:=ih;refine⟨l :: L,by simp[e1],by simp[e2],λ k c' hc=>?_⟩;cases k with
  | zero=>
   simp at hc;subst hc;exact⟨l,S,rfl,h,λ s q=>by simp[q],λ p q=>by simp[q],λ y hy=>by simp at hy;subst hy;exact h1,by simp⟩
  | succ k=>
   obtain⟨lc,Sc,f1,f2,f3,f4,f5,f6⟩:=e3 k c' (by simpa using hc);refine⟨lc,Sc,by simpa using f1,f2,λ s q=>by simp[f3 s q],λ p q=>by simp[f4 p q],λ y hy=>f5 y (by simpa using hy),λ y _ hy p hp=>?_⟩;cases k with
   | zero=>simp at hy;subst hy;exact h2 p (f4 p hp)
   | succ k=>exact f6 y (by omega) (by simpa using hy) p hp
theorem Bq4:∀a b:Bs,Op.bytesLess a b=ltB a b
 | [],[]=>rfl
 | [],_ :: _=>rfl
 | _ :: _,[]=>rfl
 | x :: a,y :: b=>by
  have ih:=Bq4 a b;show(decide (x<y) || (x == y && Op.bytesLess a b))=(if x.toNat<y.toNat then true else if y.toNat<x.toNat then false else ltB a b)
  rw[ih];by_cases h1:x.toNat<y.toNat
  ·rw[if_pos h1,decide_eq_true (by simpa [UInt8.lt_iff_toNat_lt] using h1)];rfl
  ·rw[if_neg h1,decide_eq_false (by simpa [UInt8.lt_iff_toNat_lt] using h1)];by_cases h2:y.toNat<x.toNat
   ·rw[if_pos h2];have:(x == y)=false:=by rw[beq_eq_false_iff_ne];rintro rfl;omega
    rw[this];rfl
   ·rw[if_neg h2];have:x=y:=UInt8.toNat_inj.1 (by omega);rw[this];simp
theorem Ah7{w:World}{v:Value}{b:Bs}(hr:Rd w v b)(hb:b.length=512)(i j:Nat)(hij:i<=j)(hj:j<=512)(hz:∀k,i<=k->k<j->b[k]?=some 0) :
  Calls Tryz.prog 201 #[v,.int .i64 (i:Int),.int .i64 (j:Int)] w λ e w'=>e=.returned (.bool true)/\w=w':=by
 obtain⟨ao,cap,rfl,hc,hh⟩:=hr;obtain⟨bk,off,rfl,hcell⟩:=hh (by omega);have HC:Hid (∀k,i<=k->k<j->w.cell? ⟨bk,off+k,none⟩=some (.int .u8 0)):=by
  show ∀k,_
  intro k h1 h2;have h3:=hz k h1 h2;rw[hcell k (by omega)];rw[List.getElem?_eq_getElem (by omega)] at h3;injection h3 with h3;rw[h3];rfl
 rw[hb] at hc ⊢;clear hh hcell hz hb;go_enter Tryz.func201,Tryz.ntmps201
 go_wp2_with fail
 go_loopw [7] (λ x wr=>∃k:Nat,i<=k/\k<=j/\x=.int .i64 (k:Int)/\w=wr) (λ x _=>j-(intOf x).toNat)
 case atStart=>exact⟨i,Nat.le_refl _,hij,rfl,rfl⟩
 case round=>
  obtain⟨k,hk1,hk2,rfl,rfl⟩:=hrel;rcases Nat.lt_or_ge k j with hlt | hge
  ·have hm:=HC.out k hk1 hlt;have d1:decide ((k:Int)<(j:Int))=true:=decide_eq_true (by omega);have d2:decide (k<j)=true:=decide_eq_true hlt;have d3:(k:Int)<512:=by omega
   have d4:(0:Int)<=(k:Int):=by omega
   have d5:k<512:=by omega
   go_wp2_with fail
   exact⟨⟨k+1,by omega,by omega,by go_num,trivial⟩,by simp[intOf];omega⟩
  ·obtain rfl:k=j:=by omega
   have d1:decide ((k:Int)<(k:Int))=false:=decide_eq_false (by omega);go_wp2_with fail
   go_ret;exact⟨rfl,rfl⟩
theorem Cn0(b:Bs)(a:Nat):num b a 4<4294967296:=by
 have h1:=Bg1 ((b.drop a).take 4);have h2:((b.drop a).take 4).length<=4:=by rw[List.length_take];omega
 have h3:=Nat.pow_le_pow_right (show 0<256 by omega) h2;unfold num;omega
theorem Q3{w:World}{v:Value}{b:Bs}(hr:Rd w v b)(hb:b.length=512)(a:Nat)(ha:a+4<=512) :
  Calls Tryz.prog 203 #[v,.int .i64 (a:Int),.int .i64 4] w λ e w'=>e=.returned (.int .i64 (num b a 4:Int))/\w=w':=by
 have hn:=Cn0 b a;have HR:=η (Cf0 v b a 4 w hr (by omega) (by omega) (by omega) (by omega));have hw:=(Aj9 hn);obtain⟨hw1,hw2⟩:=hw;generalize num b a 4=n at HR hn hw1 hw2 ⊢;clear hr hn;go_enter Tryz.func203,Tryz.ntmps203
 go_wp2_with fail
 refine HR.out.mono ?_;rintro e w' ⟨rfl,rfl⟩;go_wp2_with fail
 go_ret;exact⟨rfl,rfl⟩
theorem Bf6{w:World}{b:Nat}{l:Bs}{T:TypeId}{fr:Nat × Nat}(h:w.heap[b]?=some (.cells (bts l).toArray T fr))(hl:l.length=32):(convert 32 9 (.slice (some ⟨b,0,none⟩) 32 32)).run Tryz.prog w=.ok (.string (str l)) w:=Cl1 (Ay6 h hl) (by omega)
attribute [-go_sem] loadCells storeCells Instr.build Instr.buildSlice
theorem Bu6(a b:Bs)(ha:a.length=32)(hb:b.length=32)(w:World) :
  Calls Tryz.prog 202 #[arr a,arr b] w λ e w'=>e=.returned (.bool (ltB a b))/\Upd [] w w':=by
 obtain⟨wA,hwA⟩:∃wA,wA=(w.alloc (.cells (bts a).toArray 35)).alloc (.cells (bts b).toArray 35):=⟨_,rfl⟩;have hu:Upd [] w wA:=by rw[hwA];exact((Upd.refl _ _).alloc _).alloc _
 obtain⟨b2,hb2⟩:∃x,x=w.heap.size:=⟨_,rfl⟩;obtain⟨b3,hb3⟩:∃x,x=w.heap.size+1:=⟨_,rfl⟩;obtain⟨h2,h3⟩:=Aa0 w (bts a).toArray (bts b).toArray 35 35;rw[← hwA,← hb2] at h2;rw[← hwA,← hb3] at h3;have H2:=η h2;have H3:=η h3;have HU:=η hu;have HW:=η hwA;have HB:=η (And.intro hb2 hb3);have HL:Hid (Op.bytesLess (str a).toList (str b).toList=ltB a b):=by show _=_;rw[Ax4,Ax4];exact Bq4 a b
 clear hu h2 h3 hwA hb2 hb3;unfold arr;go_enter Tryz.func202,Tryz.ntmps202
 go_wp2_with fail
 rw[← HW.out,← HB.out.2,← HB.out.1];refine B6 (λ w'=>w'.heap[b2]?=some (.cells (bts a).toArray 35 (0,0))/\w'.heap[b3]?=some (.cells (bts b).toArray 35 (0,0))) [] (by kernel_rfl) ⟨H2.out,H3.out⟩ (λ hHeld=>?_);refine κt 0 ?_ hHeld ?_ ?_;rotate_left
 ·(intro w hSw;go_simp<;>with_reducible rfl)
 try simp only[Act.put,αs,αz,αc]
 refine κt 2 ?_ hHeld ?_ ?_;rotate_left
 ·(intro w hSw;go_simp<;>with_reducible rfl)
 try simp only[Act.put,αs,αz,αc]
 refine κt 1 ?_ hHeld ?_ ?_;rotate_left
 ·(intro w hSw;have hs:=Bf6 hSw.1 ha;go_simp<;>with_reducible rfl)
 try simp only[Act.put,αs,αz,αc]
 refine κt 3 ?_ hHeld ?_ ?_;rotate_left
 ·(intro w hSw;have hs:=Bf6 hSw.2 hb;go_simp<;>with_reducible rfl)
 try simp only[Act.put,αs,αz,αc]
 refine κt 4 ?_ hHeld ?_ ?_;rotate_left
 ·(intro w hSw;have hl:=HL.out;go_simp<;>with_reducible rfl)
 try simp only[Act.put,αs,αz,αc]
 refine κr 5 (λ K hK=>?_);go_simp;refine hK.out _ _ (λ _=>hHeld) ?_;clear hK K;try simp only[Act.put,αs,αz,αc]
 refine B1 (by kernel_rfl) ?_ _;go_wp2_with fail
 go_ret;exact⟨rfl,HU.out.drew⟩
end
end Go.Proofs.YtgfbepakonjbnaaGreat
end
section
section
namespace Go.Proofs.YtgfbepakonjbnaaGreat
open Go.RowKit
theorem I6.from{P:Nat->List B0->List Nat->Prop}{key:Bs}:∀{ks:List Bs} {ds:List Nat} {l:List B0} {S:List Nat},I6 P ks ds l S->ks.Pairwise (λ x y=>ltB x y=true)->
  ∃la l2 S1 S2,l=la++l2/\S=S1++S2/\(∀p,p∈la->ltB p.1 key=true)/\I6 P (ks.drop (chK ks key)) (ds.drop (chK ks key)) l2 S2/\(∀x,x∈ks.drop (chK ks key)->ltB key x=true)
 | _,_,l,S,.one h,_=>⟨[],l,[],S,rfl,rfl,by simp,by rw[Ad6];exact .one h,by simp⟩
 | _,_,_,_,.more (l:=l) (S:=S) (key:=x) (ks:=ks) (ds:=ds) (l2:=l2) (S2:=S2) h h1 h2 hk,hp=>by
  have hp2:=(List.pairwise_cons.1 hp).2;have hp1:=(List.pairwise_cons.1 hp).1;rw[Y1];cases hx:ltB x key
  ·by_cases e:x=key
   ·rw[if_pos e];subst e;exact⟨l,l2,S,S2,rfl,rfl,h1,hk,λ y hy=>hp1 y hy⟩
   ·rw[if_neg e];have hlt:ltB key x=true:=by
     cases q:ltB key x
     ·exact absurd (X1 hx q) e
     ·rfl
    refine⟨[],l++l2,[],S++S2,rfl,rfl,by simp,.more h h1 h2 hk,λ y hy=>?_⟩;rcases List.mem_cons.1 hy with rfl | hy
    ·exact hlt
    ·exact I8 hlt (hp1 y hy)
  ·simp only[if_true];obtain⟨la,l3,S1,S3,rfl,rfl,q1,q2,q3⟩:=I6.from (key:=key) hk hp2;refine⟨l++la,l3,S++S1,S3,by simp,by simp,λ p hq=>?_,q2,q3⟩;rcases List.mem_append.1 hq with q | q
   ·exact I8 (h1 p q) hx
   ·exact q1 p q
theorem I6.step{P:Nat->List B0->List Nat->Prop}{key:Bs}{ks:List Bs}{ds:List Nat}{l:List B0}{S:List Nat}(h:I6 P ks ds l S)(hk:∀x,x∈ks->ltB key x=true) :
  ∃kid l1 l2 S1 S2,ds[0]?=some kid/\P kid l1 S1/\l=l1++l2/\S=S1++S2/\(∀p,p∈l2->ltB key p.1=true)/\(ds.length=1/\l2=[]/\S2=[]∨1<ds.length/\I6 P (ks.drop 1) (ds.drop 1) l2 S2):=by
 cases h with
 | one h=>exact⟨_,_,[],_,[],rfl,h,by simp,by simp,by simp,.inl ⟨rfl,rfl,rfl⟩⟩
 | more h h1 h2 hkk=>
  rename_i k l x ks ds l2 S2;refine⟨_,_,_,_,_,rfl,h,rfl,rfl,λ p hp=>?_,.inr ⟨?_,hkk⟩⟩
  ·have hx:=hk _ (List.mem_cons_self);cases q:ltB key p.1
   ·have:=J9 (a:=p.1) q hx;rw[h2 p hp] at this;simp at this
   ·rfl
  ·cases hkk<;>simp
structure Ba3(α:Type) where
 F:α->List B0->α × Bool
 go:∀a l1 l2,(F a l1).2=true->F a (l1++l2)=F (F a l1).1 l2
 stop:∀a l1 l2,(F a l1).2=false->F a (l1++l2)=((F a l1).1,false)
 nil:∀a,F a []=(a,true)
 wt:α->Nat
 grow:∀a l,wt (F a l).1<=wt a+l.length
def WFr(U:List Nat)(B:Nat)(T:TypeId)(w w':World):Prop:=∃S,Upd S w w'/\∀k,k∈S->k∈U∨(B<=k/\∃c,w.heap[k]?=some (.cells c T (0,0)))
section
variable {U:List Nat} {B:Nat} {T:TypeId} {a b c:World}
theorem WFr.of{S:List Nat}(h:Upd S a b)(hS:∀k,k∈S->k∈U):WFr U B T a b:=⟨S,h,λ k hk=> .inl (hS k hk)⟩
theorem WFr.size(h:WFr U B T a b):a.heap.size<=b.heap.size:=by obtain⟨S,hu,_⟩:=h;exact hu.size
theorem WFr.mono{U':List Nat}(h:WFr U B T a b)(hU:∀k,k∈U->k∈U'):WFr U' B T a b:=by
 obtain⟨S,hu,hS⟩:=h;exact⟨S,hu,λ k hk=>(hS k hk).imp (hU k) id⟩
theorem WFr.blk(h:WFr U B T a b){k:Nat}{cs:Array Value}{T2:TypeId}{fr:Nat × Nat}(hk:a.heap[k]?=some (.cells cs T2 fr))(hU:k∉U)(hn:T2≠T∨k<B):b.heap[k]?=some (.cells cs T2 fr):=by
 obtain⟨S,hu,hS⟩:=h;refine(hu.block _ (A2 hk) (λ q=>?_)).trans hk;rcases hS k q with r | ⟨r1,c,r2⟩
 ·exact hU r
 ·rcases hn with hn | hn
  ·rw[hk] at r2;simp at r2;exact hn r2.2.1
  ·omega
theorem WFr.trans(h:WFr U B T a b)(k:WFr U B T b c):WFr U B T a c:=by
 obtain⟨S,hu,hS⟩:=h;obtain⟨S2,hu2,hS2⟩:=k;refine⟨S++S2.filter (λ i=>decide (i<a.heap.size)),⟨hu2.os.trans hu.os,hu2.tape.trans hu.tape,hu2.output.trans hu.output,Nat.le_trans hu.size hu2.size,λ i hi hs=>?_⟩,λ i hi=>?_⟩
 ·simp only[List.mem_append,List.mem_filter,decide_eq_true_eq,not_or,not_and] at hs;exact(hu2.block i (Nat.lt_of_lt_of_le hi hu.size) (λ q=>hs.2 q hi)).trans (hu.block i hi hs.1)
 ·rcases List.mem_append.1 hi with q | q
  ·exact hS i q
  ·simp only[List.mem_filter,decide_eq_true_eq] at q;by_cases hs:i∈S
   ·exact hS i hs
   ·rcases hS2 i q.1 with r | ⟨r1,c,r2⟩
    ·exact .inl r
    ·exact .inr ⟨r1,c,(hu.block i q.2 hs).symm.trans r2⟩
end
end Go.Proofs.YtgfbepakonjbnaaGreat
end
section
namespace Go.Proofs.YtgfbepakonjbnaaGreat
open Go.RowKit Go.MapKept Go.ChangeMaps
abbrev TP:TypeId:=169
def Cm3{α:Type}(t:Ba3 α)(g:Sg)(M:Nat->Option Sec)(fid:Nat)(caps:Array Value)(U:List Nat)(B:Nat)(Inv:α->World->Prop):Prop:=
 ∀(a:α) (w:World) (l:List B0) (vk vv:Value) (Bk:Nat),Inv a w->B7 w g M->l≠[]->t.wt a+l.length<=1000->K5 (l.map (·.1)) (l.map (·.2))->C3 w Bk vk (l.map (·.1))->F7 w Bk vv (l.map (·.2))->(∀k,k∈U->k<Bk)->
  Calls Tryz.prog fid (#[.agg #[.int .i64 1,vk,vv,.slice none 0 0]]++caps) w λ e w'=>e=.returned (.bool (t.F a l).2)/\Inv (t.F a l).1 w'/\B7 w' g M/\WFr U B TP w w'
theorem B7.turnedI{w w':World}{g:Sg}{M:Nat->Option Sec}(h:B7 w g M){S:List Nat}(hb:∀b,b∈S->∃c fr,w.heap[b]?=some (.cells c 3 fr))(hu:Upd S w w'):B7 w' g M:=by
 refine⟨h.jr.own hu (λ k hk=>?_),h.tx.upd hu (λ hk=>?_) (λ hk=>?_) (λ k c hk e=>?_),h.ne,h.ok,h.len,h.fx⟩
 ·obtain⟨c,fr,hb⟩:=hb k hk;exact⟨_,_,_,hb,by decide,by decide,by decide,by decide⟩
 ·obtain⟨c,fr,hb⟩:=hb _ hk;have:=h.tx.st;rw[hb] at this;simp at this
 ·obtain⟨c,fr,hb⟩:=hb _ hk;exact h.tx.map hb
 ·obtain⟨c2,fr,hb⟩:=hb _ hk;rw[hb] at e;simp at e
attribute [-go_sem] loadCells storeCells
theorem Ac7{w w':World}{B n sz:Nat}{e:TypeId}{v:Value}{xs:List Value}(h:w.ownsRow B e sz v n xs){b:Nat}{c:Array Value}{T:TypeId}{fr:Nat × Nat}(hb:w.heap[b]?=some (.cells c T fr))(hu:Upd [b] w w')(hT:e≠T):w'.ownsRow B e sz v n xs:=
 B8 h hu (λ k c' hk _ e'=>by simp at hk;subst hk;rw[hb] at e';simp at e';exact hT e'.2.1.symm)
theorem WFr.own{U:List Nat}{Bf:Nat}{T:TypeId}{w w':World}(h:WFr U Bf T w w'){B n sz:Nat}{e:TypeId}{v:Value}{xs:List Value}(ho:w.ownsRow B e sz v n xs)(hne:e≠T)(hU:∀k,k∈U->k<B):w'.ownsRow B e sz v n xs:=by
 refine⟨ho.1,?_⟩;rcases ho.2 with h0 | ⟨g,cap,cur,e1,hb,hg,r⟩
 ·exact .inl h0
 ·exact .inr ⟨g,cap,cur,e1,hb,h.blk hg (λ q=>by have:=hU g q;omega) (.inl hne),r⟩
theorem Ca7{α:Type}{t:Ba3 α}{g:Sg}{M:Nat->Option Sec}{fid lb:Nat}{caps:Array Value}{U:List Nat}{B:Nat}{Inv:α->World->Prop}
  (hTold:Cm3 t g M fid caps U B Inv) (hInv:∀a w w',Inv a w->Upd [g.j.jb] w w'->Inv a w') (hInv2:∀a w w',Inv a w->Upd [lb] w w'->Inv a w')
  {w:World} (h:B7 w g M) {root:Bool} {at_:Nat} {l:List B0} {S:List Nat} (hs:E3 (g.cur M) root 0 at_ l S) (hS:∀s,s∈S->4<=s/\s<g.h) (from_:Bs) (deep:Int) (hd:1<=deep) {x:Int} (hx:(S.length:Int)<=x) (hx2:x<=100000)
  (hlb:w.heap[lb]?=some (.cells #[.int .i64 x] 3 (0,0))) (a:α) (hI:Inv a w) (hU:∀k,k∈U->k<w.heap.size) (hlU:lb∉U) (hent:∀args w,(callFunc fid args).run Tryz.prog w=.ok (.enter fid args) w) (hwt:t.wt a+l.length<=1000) :
  Calls Tryz.prog 136 #[.pointer (some ⟨g.x.tb,0,none⟩),.int .u32 (at_:Int),arr from_,.int .i64 deep,.pointer (some ⟨lb,0,none⟩),.func (.func fid) #[] caps] w λ e w'=>e=.returned (.tuple #[.bool (t.F a l).2,.int .i64 0])/\Inv (t.F a l).1 w'/\B7 w' g M/\w'.heap[lb]?=some (.cells #[.int .i64 (x-1)] 3 (0,0))/\WFr (lb :: g.j.jb :: U) B TP w w':=by
 have hlow:=hS at_ hs.mem.1;have hlt4:=hs.mem.2;have hdb:(deep == 0)=false:=by rw[beq_eq_false_iff_ne];omega
 have hl1:(1:Int)<=(S.length:Int):=by rw[hs.1];simp
 have hxw:IntKind.i64.wrap (x-1)=x-1:=by rw[IntKind.wrap_i64];omega
 have hx0:decide (x-1<0)=false:=decide_eq_false (by omega);clear hl1;obtain⟨wA,hwA⟩:∃wA,wA=w.alloc (.cells (bts from_).toArray 35):=⟨_,rfl⟩;have huA:Upd [] w wA:=by rw[hwA];exact(Upd.refl _ _).alloc _
 have hA:=h.below huA;have hR:=Y9 hA at_ hlow.2 hlt4 hs.2.2.1 hs.2.2.2.1;have HR:=η hR;have HLB:=η ((huA.block _ (A2 hlb) (by simp)).trans hlb);have HA:=η hA;have HUA:=η huA;have HW:=η hwA;have HSH:=η hs;have HI:=η hI;have HU:=η hU;have HTD:=η hTold;have HIV:=η hInv;have HIV2:=η hInv2;clear h hs hS hlb hI hU hA hR huA hwA hTold hInv hInv2;unfold arr;go_enter Tryz.func136,Tryz.ntmps136
 go_wp2_with fail
 have hwA:=HW.out;rw[← hwA];clear hwA;refine HR.out.mono ?_;rintro e w2 ⟨vk,vv,rfl,hK,hV,h2,hu2⟩;obtain⟨ak,ck,rfl⟩:=C4 hK;obtain⟨av,cv,rfl⟩:=C4 hV;have hlk:(l.map (·.1)).length=l.length:=List.length_map _;have hlv:(l.map (·.2)).length=l.length:=List.length_map _;rw[hlk,hlv];rw[hlk] at hK;rw[hlv] at hV;clear hlk hlv;obtain⟨b14,hb14⟩:∃b,b=w2.heap.size:=⟨_,rfl⟩;obtain⟨w3,hw3⟩:∃w3,w3=w2.alloc (.cells #[.int .i64 1,.slice ak l.length ck,.slice av l.length cv,.slice none 0 0] 220):=⟨_,rfl⟩;have st14:=L6 w2 ak av none 1 l.length ck l.length cv 0 0;rw[← hw3] at st14;have hu3:Upd [] w2 w3:=by rw[hw3];exact(Upd.refl _ _).alloc _
 have c14:w3.heap[b14]?=some (.cells #[.int .i64 1,.slice ak l.length ck,.slice av l.length cv,.slice none 0 0] 220 (0,0)):=by rw[hw3,hb14];exact A6 _
 have lbj:lb∉[g.j.jb]:=by
  have:=HA.out.jr.at_.kind HLB.out (by decide) (by decide) (by decide);simp only[List.mem_singleton];rintro rfl;exact this (by simp[JG.all])
 have lb3:=(hu3.block _ (A2 ((hu2.block _ (A2 HLB.out) lbj).trans HLB.out)) (by simp)).trans ((hu2.block _ (A2 HLB.out) lbj).trans HLB.out);have mlb:w3.cell? ⟨lb,0,none⟩=some (.int .i64 x):=A4 lb3 0;obtain⟨w4,hw4⟩:∃w4,w4=w3.setCell ⟨lb,0,none⟩ (.int .i64 (x-1)):=⟨_,rfl⟩;have stl:=D9 lb3 0 (v:=.int .i64 (x-1)) (by simp) rfl;rw[← hw4] at stl;have hu4:Upd [lb] w3 w4:=by rw[hw4];exact(Upd.refl _ _).set _ (.inl (by simp))
 have lb4:w4.heap[lb]?=some (.cells #[.int .i64 (x-1)] 3 (0,0)):=by rw[hw4];exact B3 lb3 0 _
 have hne:b14≠lb:=by rintro rfl;rw[c14] at lb3;simp at lb3
 have c144:=(hu4.block _ (A2 c14) (by simpa using hne)).trans c14;have l14:=A7 (n:=4) (cs:=[.int .i64 1,.slice ak l.length ck,.slice av l.length cv,.slice none 0 0]) c144 rfl;have m14:=A4 c144 0;have mlb4:=A4 lb4 0;rw[hb14] at l14 m14;have hK4:=Ac7 (B8 (S:=[]) hK hu3 (by simp)) lb3 hu4 (by decide);have hV4:=Ac7 (B8 (S:=[]) hV hu3 (by simp)) lb3 hu4 (by decide);have HTC:Hid (Inv a w4->B7 w4 g M->Calls Tryz.prog fid (#[.agg #[.int .i64 1,.slice ak l.length ck,.slice av l.length cv,.slice none 0 0]]++caps) w4 λ e w'=>e=.returned (.bool (t.F a l).2)/\Inv (t.F a l).1 w'/\B7 w' g M/\WFr U B TP w4 w'):=by
  show _->_->_
  exact λ i h=>HTD.out a w4 l _ _ wA.heap.size i h HSH.out.ne hwt HSH.out.2.2.1 hK4 hV4 (λ k hk=>Nat.lt_of_lt_of_le (HU.out k hk) HUA.out.size)
 have HI4:Hid (Inv a w4):=η (HIV2.out _ _ _ (HIV.out _ _ _ (HIV.out _ _ _ (HIV.out _ _ _ HI.out (HUA.out.mono (by simp))) hu2) (hu3.mono (by simp))) hu4);have HS4:Hid (B7 w4 g M):=by
  show B7 _ _ _
  exact(h2.below hu3).turnedI (λ b hb=>by simp at hb;subst hb;exact⟨_,_,lb3⟩) hu4
 have HU4:Hid (WFr (lb :: g.j.jb :: U) B TP w w4):=by
  show WFr _ _ _ _ _
  exact(((WFr.of (HUA.out) (by simp)).trans (WFr.of hu2 (by simp))).trans (WFr.of hu3 (by simp))).trans (WFr.of hu4 (by simp))
 have HLB4:=η lb4;clear hK hV hw3 hu3 c14 lb3 hw4 hu4 lb4 hne c144 hK4 hV4 h2 hu2 lbj hb14;go_wp2_with fail
 refine(HTC.out HI4.out HS4.out).mono ?_;rintro e w5 ⟨rfl,hi5,h5,hf5⟩;have HI5:=η hi5;have H5:=η h5;have HF5:=η hf5;clear hi5 h5 hf5;go_wp2_with fail
 go_ret2;exact⟨rfl,HI5.out,H5.out,HF5.out.blk HLB4.out hlU (.inl (by decide)),HU4.out.trans (HF5.out.mono (by intro k hk;simp[hk]))⟩
theorem D8.at{w:World}{B gd n c:Nat}{ds:List Nat}(h:D8 w B (.slice (some ⟨gd,0,none⟩) n c) ds){i d:Nat}(hd:ds[i]?=some d):w.cell? ⟨gd,i,none⟩=some (.int .u32 (d:Int)):=by
 have hi:=(List.getElem?_eq_some_iff.1 hd).1;obtain⟨_,_,e,_,hc⟩:=h.cell (by omega);cases e
 exact hc i d hd
def Ap0{α:Type}(t:Ba3 α)(g:Sg)(M:Nat->Option Sec)(lb:Nat)(U:List Nat)(B:Nat)(Inv:α->World->Prop)(from_:Bs)(l:List B0)(n:Nat)(x:Int)(a:α)(w:World)(e:Ending)(w':World):Prop:=
 ∃(la lv:List B0) (y:Int),l=la++lv/\(∀p,p∈la->ltB p.1 from_=true)/\e=.returned (.tuple #[.bool (t.F a lv).2,.int .i64 0])/\Inv (t.F a lv).1 w'/\B7 w' g M/\w'.heap[lb]?=some (.cells #[.int .i64 y] 3 (0,0))/\x-n<=y/\y<=x/\WFr (lb :: g.j.jb :: U) B TP w w'
theorem Bt4{α:Type}{t:Ba3 α}{g:Sg}{M:Nat->Option Sec}{fid lb:Nat}{caps:Array Value}{U:List Nat}{B:Nat}{Inv:α->World->Prop}
  (hInv:∀a w w',Inv a w->Upd [g.j.jb] w w'->Inv a w') (hInv2:∀a w w',Inv a w->Upd [lb] w w'->Inv a w') (hlU:lb∉U) {d:Nat} {S:List Nat} {from_:Bs} (hfrom:from_.length=32) {deep:Int}
  (ih:∀(w':World) (kid:Nat) (lc:List B0) (Sc:List Nat) (x':Int) (a':α),B7 w' g M->E3 (g.cur M) false d kid lc Sc->(∀s,s∈Sc->s∈S)->(Sc.length:Int)<=x'->x'<=100000->w'.heap[lb]?=some (.cells #[.int .i64 x'] 3 (0,0))->Inv a' w'->(∀k,k∈U->k<w'.heap.size)->t.wt a'+lc.length<=1000->
   Calls Tryz.prog 136 #[.pointer (some ⟨g.x.tb,0,none⟩),.int .u32 (kid:Int),.agg (bts from_).toArray,.int .i64 (deep-1),.pointer (some ⟨lb,0,none⟩),.func (.func fid) #[] caps] w' (Ap0 t g M lb U B Inv from_ lc Sc.length x' a' w'))
  {w:World} (h:B7 w g M) {root:Bool} {at_:Nat} {l:List B0} (hs:E3 (g.cur M) root (d+1) at_ l S) (hS:∀s,s∈S->4<=s/\s<g.h) (hd:1<=deep) (hd2:deep<=16) {x:Int} (hx:(S.length:Int)<=x) (hx2:x<=100000)
  (hlb:w.heap[lb]?=some (.cells #[.int .i64 x] 3 (0,0))) (a:α) (hI:Inv a w) (hU:∀k,k∈U->k<w.heap.size) (hwt:t.wt a+l.length<=1000) :
  Calls Tryz.prog 136 #[.pointer (some ⟨g.x.tb,0,none⟩),.int .u32 (at_:Int),arr from_,.int .i64 deep,.pointer (some ⟨lb,0,none⟩),.func (.func fid) #[] caps] w (Ap0 t g M lb U B Inv from_ l S.length x a w):=by
 have hlow:=hS at_ hs.mem.1;have hlt4:=hs.mem.2;obtain⟨_,ks,ds,S',rfl,hok,hc,_,hp,hkids⟩:=hs;obtain⟨la0,l20,S10,S20,el,eS,hla0,hk0,hkk0⟩:=hkids.from (key:=from_) hp;obtain⟨I,hI0⟩:∃I,chK ks from_=I:=⟨_,rfl⟩;rw[hI0] at hk0 hkk0;have hIl:I<=ks.length:=by rw[← hI0];exact Az9 _ _
 have hdl:ds.length=ks.length+1:=hok.n;have hdb:(deep == 0)=false:=by rw[beq_eq_false_iff_ne];omega
 have hdw:IntKind.i64.wrap (deep-1)=deep-1:=by rw[IntKind.wrap_i64];omega
 have hxw:IntKind.i64.wrap (x-1)=x-1:=by rw[IntKind.wrap_i64];simp only[List.length_cons] at hx;omega
 have hx0:decide (x-1<0)=false:=decide_eq_false (by simp only[List.length_cons] at hx;omega);obtain⟨wA,hwA⟩:∃wA,wA=w.alloc (.cells (bts from_).toArray 35):=⟨_,rfl⟩;have huA:Upd [] w wA:=by rw[hwA];exact(Upd.refl _ _).alloc _
 obtain⟨b8,hb8⟩:∃b,b=w.heap.size:=⟨_,rfl⟩;have c8A:wA.heap[b8]?=some (.cells (bts from_).toArray 35 (0,0)):=by rw[hwA,hb8];exact A6 _
 have hA:=h.below huA;have hR:=Z0 hA at_ hlow.2 hlt4 hok hc;have HR:=η hR;have HLB:=η ((huA.block _ (A2 hlb) (by simp)).trans hlb);have HC8:=η c8A;have HA:=η hA;have HUA:=η huA;have HW:=η hwA;have HI:=η hI;have HU:=η hU;have HIV:=η hInv;have HIV2:=η hInv2;have HIH:=η ih;have HOK:=η hok;have HK0:Hid (l=la0++l20/\S'=S10++S20/\(∀p,p∈la0->ltB p.1 from_=true)/\I6 (λ k l S=>E3 (g.cur M) false d k l S) (ks.drop I) (ds.drop I) l20 S20/\(∀y,y∈ks.drop I->ltB from_ y=true)):=η ⟨el,eS,hla0,hk0,hkk0⟩;have HX:Hid ((S'.length:Int)+1<=x/\x<=100000):=by show _/\_;simp only[List.length_cons] at hx;exact⟨by omega,hx2⟩
 have HI0:=η hI0;have HB8:=η hb8;clear h hS hlb hI hU hA hR huA hwA hInv hInv2 ih hok hc hkids el eS hla0 hk0 hkk0 hp hx c8A hI0 hx2 hb8;unfold arr;go_enter Tryz.func136,Tryz.ntmps136
 go_wp2_with fail
 have hwA:=HW.out;have hb8:=HB8.out;rw[← hwA,← hb8];clear hwA hb8;refine HR.out.mono ?_;rintro e w2 ⟨vk,vd,rfl,hK,hD,h2,hu2⟩;obtain⟨ak,ck,rfl⟩:=C4 hK;obtain⟨gd,cd,ed,_⟩:=hD.cell (by omega);subst ed;have HDL:=η hdl;clear hdl;obtain⟨b14,hb14⟩:∃b,b=w2.heap.size:=⟨_,rfl⟩;obtain⟨w3,hw3⟩:∃w3,w3=w2.alloc (.cells #[.int .i64 2,.slice ak ks.length ck,.slice none 0 0,.slice (some ⟨gd,0,none⟩) ds.length cd] 220):=⟨_,rfl⟩;have st14:=L6 w2 ak none (some ⟨gd,0,none⟩) 2 ks.length ck 0 0 ds.length cd;rw[← hw3] at st14;have hu3:Upd [] w2 w3:=by rw[hw3];exact(Upd.refl _ _).alloc _
 have c14:w3.heap[b14]?=some (.cells #[.int .i64 2,.slice ak ks.length ck,.slice none 0 0,.slice (some ⟨gd,0,none⟩) ds.length cd] 220 (0,0)):=by rw[hw3,hb14];exact A6 _
 have lbj:lb∉[g.j.jb]:=by
  have:=HA.out.jr.at_.kind HLB.out (by decide) (by decide) (by decide);simp only[List.mem_singleton];rintro rfl;exact this (by simp[JG.all])
 have b8j:b8∉[g.j.jb]:=by
  have:=HA.out.jr.at_.kind HC8.out (by decide) (by decide) (by decide);simp only[List.mem_singleton];rintro rfl;exact this (by simp[JG.all])
 have lb2:=(hu2.block _ (A2 HLB.out) lbj).trans HLB.out;have lb3:=(hu3.block _ (A2 lb2) (by simp)).trans lb2;have c82:=(hu2.block _ (A2 HC8.out) b8j).trans HC8.out;have c83:=(hu3.block _ (A2 c82) (by simp)).trans c82;have mlb:w3.cell? ⟨lb,0,none⟩=some (.int .i64 x):=A4 lb3 0;obtain⟨w4,hw4⟩:∃w4,w4=w3.setCell ⟨lb,0,none⟩ (.int .i64 (x-1)):=⟨_,rfl⟩;have stl:=D9 lb3 0 (v:=.int .i64 (x-1)) (by simp) rfl;rw[← hw4] at stl;have hu4:Upd [lb] w3 w4:=by rw[hw4];exact(Upd.refl _ _).set _ (.inl (by simp))
 have lb4:w4.heap[lb]?=some (.cells #[.int .i64 (x-1)] 3 (0,0)):=by rw[hw4];exact B3 lb3 0 _
 have hne:b14≠lb:=by rintro rfl;rw[c14] at lb3;simp at lb3
 have hne8:b8≠lb:=by rintro rfl;rw[c83] at lb3;simp at lb3
 have hjj:=(h2.below hu3).jr.at_.kind c14 (by decide) (by decide) (by decide);have hjA:=HA.out.jr.at_.lt;have hN14:b14∉lb :: g.j.jb :: U:=by
  intro q;rcases List.mem_cons.1 q with q | q
  ·exact hne q
  rcases List.mem_cons.1 q with q | q
  ·exact hjj (by rw[q];simp[JG.all])
  ·have:=HU.out _ q;have:=hu2.size;have:=HUA.out.size;omega
 have hN8:b8∉lb :: g.j.jb :: U:=by
  intro q;rcases List.mem_cons.1 q with q | q
  ·exact hne8 q
  rcases List.mem_cons.1 q with q | q
  ·exact b8j (by simp[q])
  ·have:=HU.out _ q;have:=HB8.out;omega
 have hNU:∀k,k∈lb :: g.j.jb :: U->k<wA.heap.size:=by
  intro k q;rcases List.mem_cons.1 q with q | q
  ·rw[q];exact A2 HLB.out
  rcases List.mem_cons.1 q with q | q
  ·rw[q];exact hjA.1
  ·have:=HU.out _ q;have:=HUA.out.size;omega
 have HN14:=η hN14;have HN8:=η hN8;have HNU:=η hNU;clear hjj hjA hN14 hN8 hNU;have c144:=(hu4.block _ (A2 c14) (by simpa using hne)).trans c14;have c84:=(hu4.block _ (A2 c83) (by simpa using hne8)).trans c83;have l14:=A7 (n:=4) (cs:=[.int .i64 2,.slice ak ks.length ck,.slice none 0 0,.slice (some ⟨gd,0,none⟩) ds.length cd]) c144 rfl;have l8:=A7 (n:=32) c84 (by rw[A8,hfrom]);have m14:=A4 c144 0;have mlb4:=A4 lb4 0;rw[hb14] at l14 m14;have hK4:=Ac7 (B8 (S:=[]) hK hu3 (by simp)) lb3 hu4 (by decide);have hD4:=Ac7 (B8 (S:=[]) hD hu3 (by simp)) lb3 hu4 (by decide);have hC:=Ag8 (w:=w4) (vv:=.slice none 0 0) (vd:=.slice (some ⟨gd,0,none⟩) ds.length cd) 2 (C3.rd hK4 HOK.out.k) HOK.out.k (by have:=HOK.out.most;omega) from_ hfrom
 rw[HI0.out] at hC;have HC:=η hC;have HD4:=η hD4;have HI4:Hid (Inv a w4):=η (HIV2.out _ _ _ (HIV.out _ _ _ (HIV.out _ _ _ (HIV.out _ _ _ HI.out (HUA.out.mono (by simp))) hu2) (hu3.mono (by simp))) hu4);have HS4:Hid (B7 w4 g M):=by
  show B7 _ _ _
  exact(h2.below hu3).turnedI (λ b hb=>by simp at hb;subst hb;exact⟨_,_,lb3⟩) hu4
 have HU4:Hid (WFr (lb :: g.j.jb :: U) B TP w w4):=by
  show WFr _ _ _ _ _
  exact(((WFr.of (HUA.out) (by simp)).trans (WFr.of hu2 (by simp))).trans (WFr.of hu3 (by simp))).trans (WFr.of hu4 (by simp))
 have HLB4:=η lb4;have HC14:=η c144;have HC84:=η c84;have HB14:=η hb14;clear hK hD hw3 hu3 c14 lb3 hw4 hu4 lb4 hne c144 hK4 hD4 h2 hu2 lbj hb14 hC c83 c82 lb2 c84 b8j hne8;unfold arr at HC;go_wp2_with fail
 refine HC.out.mono ?_;rintro e w5 ⟨rfl,hu5⟩;have hb14:=HB14.out;rw[← hb14];clear hb14;have HU5:=η hu5;clear hu5;go_wp2_with fail
 have hwA8:w.heap.size<=wA.heap.size:=HUA.out.size;go_loopw [16] (λ i wr=>∃(q:Nat) (la ldone l2:List B0) (S2:List Nat) (y:Int),q<=ds.length/\i=.int .i64 (q:Int)/\l=la++(ldone++l2)/\(∀p,p∈la->ltB p.1 from_=true)/\(t.F a ldone).2=true/\Inv (t.F a ldone).1 wr/\B7 wr g M/\
   (q<ds.length/\I6 (λ k l S=>E3 (g.cur M) false d k l S) (ks.drop q) (ds.drop q) l2 S2/\(∀z,z∈ks.drop q->ltB from_ z=true)/\(∀s,s∈S2->s∈S')∨q=ds.length/\l2=[]/\S2=[])/\(ldone=[]∨∀p,p∈l2->ltB from_ p.1=true)/\
   wr.heap[lb]?=some (.cells #[.int .i64 y] 3 (0,0))/\(S2.length:Int)<=y/\x-(S'.length+1)<=y-S2.length/\y<=x/\
   wr.heap[b14]?=some (.cells #[.int .i64 2,.slice ak ks.length ck,.slice none 0 0,.slice (some ⟨gd,0,none⟩) ds.length cd] 220 (0,0))/\wr.heap[b8]?=some (.cells (bts from_).toArray 35 (0,0))/\D8 wr wA.heap.size (.slice (some ⟨gd,0,none⟩) ds.length cd) ds/\WFr (lb :: g.j.jb :: U) B TP w wr/\w5.heap.size<=wr.heap.size) (λ i _=>ds.length-(intOf i).toNat)
 case atStart=>
  obtain⟨e1,e2,e3,e4,e5⟩:=HK0.out;have hd:=HDL.out;refine⟨I,la0,[],l20,S20,x-1,by omega,rfl,by simpa using e1,e3,by rw[t.nil],?_,HS4.out.below HU5.out,.inl ⟨by omega,e4,e5,λ s hs=>by rw[e2];simp[hs]⟩,.inl rfl,(HU5.out.block _ (A2 HLB4.out) (by simp)).trans HLB4.out,?_,?_,by omega,(HU5.out.block _ (A2 HC14.out) (by simp)).trans HC14.out,(HU5.out.block _ (A2 HC84.out) (by simp)).trans HC84.out,B8 (S:=[]) HD4.out HU5.out (by simp),HU4.out.trans (WFr.of HU5.out (by simp)),Nat.le_refl _⟩
  ·rw[t.nil];exact HIV.out _ _ _ HI4.out (HU5.out.mono (by simp))
  ·have:=HX.out.1;rw[e2,List.length_append] at this;omega
  ·have:=HX.out.1;rw[e2,List.length_append] at this ⊢;omega
 case round=>
  obtain⟨q,la,ldone,l2,S2,y,hq,rfl,el,hla,hgo,hinv,hsp,hkd,hfl,hlb,hy1,hy2,hy3,c14,c8,hD,hfr,hsz⟩:=hrel;have m3:=A4 c14 3;rcases hkd with⟨hlt,hk,hkk,hsub⟩ | ⟨rfl,rfl,rfl⟩
  ·obtain⟨kid,l1,l2',S1,S2',hk0,hsh,rfl,rfl,hgt,hrest⟩:=hk.step hkk;rw[List.getElem?_drop,Nat.add_zero] at hk0;obtain⟨_,_,e,_,hcell⟩:=hD.cell (by omega);cases e
   have kc:=hcell q kid hk0;have r8:wr.rangeAt b8 0 (bts from_):=λ j u hj=>by rw[A4 c8,← hj];simp
   have hqb:decide ((q:Int)<(ds.length:Int))=true:=decide_eq_true (by omega);have hqi:(q:Int)<(ds.length:Int):=by omega
   have hq0:(0:Int)<=(q:Int):=by omega
   have hud:=Tryz.underlying35;have hi35:(Tryz.prog.info? 35).map (·.size)=some (bts from_).length:=by rw[A8,hfrom];exact Ae0
   have HWK:Hid (Calls Tryz.prog 136 #[.pointer (some ⟨g.x.tb,0,none⟩),.int .u32 (kid:Int),.agg (bts from_).toArray,.int .i64 (deep-1),.pointer (some ⟨lb,0,none⟩),.func (.func fid) #[] caps] wr.drew (Ap0 t g M lb U B Inv from_ l1 S1.length y (t.F a ldone).1 wr.drew)):=by
    refine HIH.out wr.drew kid l1 S1 y _ (hsp.below (Upd.refl [] _).drew) hsh (λ s hs=>List.mem_cons_of_mem _ (hsub s (by simp[hs]))) ?_ ?_ hlb ?_ ?_ ?_
    ·rw[List.length_append] at hy1;omega
    ·have:=HX.out.2;omega
    ·exact HIV.out _ _ _ hinv ((Upd.refl _ _).drew)
    ·exact λ k hk=>Nat.lt_of_lt_of_le (HU.out k hk) hfr.size
    ·have h1:=t.grow a ldone;have h2:l.length=la.length+(ldone.length+(l1.length+l2'.length)):=by rw[el];simp
     omega
   have HEL:=η el;have HKD0:=η hk0;have HLA:=η hla;have HGO:=η hgo;have HFL:=η hfl;have HGT:=η hgt;have HRS:=η hrest;have HKK:=η hkk;have HSB:=η hsub;have HY:Hid (((S1++S2').length:Int)<=y/\x-(S'.length+1)<=y-(S1++S2').length/\y<=x):=η ⟨hy1,hy2,hy3⟩;have HC14r:=η c14;have HC8r:=η c8;have HDr:=η hD;have HFr:=η hfr;have HSZ:=η hsz;clear el hla hgo hinv hsp hfl hlb hy1 hy2 hy3 c14 c8 hD hfr hk hkk hsub hsh hgt hrest hk0 hcell hsz;go_wp2_with fail
   go_region_held3 (λ w'=>w'.cell? ⟨b14,3,none⟩=some (.slice (some ⟨gd,0,none⟩) ds.length cd)/\w'.cell? ⟨gd,q,none⟩=some (.int .u32 (kid:Int))/\w'.rangeAt b8 0 (bts from_)) (refine⟨?_,?_,?_⟩<;>first | assumption | (exact D7 (by assumption) ((Upd.refl [] _).drew) (by simp)) | (exact E9 (by assumption) ((Upd.refl [] _).drew) (by simp)))
    (first | (go_at_call 136;(with_reducible refine HWK.out.mono ?_);rintro e w6 ⟨la1,lv1,y1,el1,hla1,rfl,hi6,h6,hlb6,hy61,hy62,hf6⟩;have c146:=hf6.blk (HC14r.out:wr.drew.heap[b14]?=_) HN14.out (.inl (by decide));have c86:=hf6.blk (HC8r.out:wr.drew.heap[b8]?=_) HN8.out (.inl (by decide));have hD6:=hf6.own (B8 (S:=[]) HDr.out (Upd.refl [] _).drew (by simp)) (by decide) HNU.out;have m36:=A4 c146 3;have kc6:=D8.at hD6 HKD0.out;have r86:w6.rangeAt b8 0 (bts from_):=(λ j u hj=>by rw[A4 c86,← hj];simp)))
   have hgoF:t.F a (ldone++lv1)=t.F (t.F a ldone).1 lv1:=t.go _ _ _ HGO.out;rw[← hgoF] at hi6 ⊢;have hcomm:ldone++la1=la1++ldone:=by
    rcases HFL.out with rfl | h0
    ·simp
    ·cases la1 with
     | nil=>simp
     | cons p la1=>
      have h1:=hla1 p (by simp);have h2:=h0 p (by rw[el1];simp);rw[P3 h1] at h2;simp at h2
   have hl:l=(la++la1)++((ldone++lv1)++l2'):=by
    rw[HEL.out,el1];have:ldone++((la1++lv1)++l2')=(ldone++la1)++(lv1++l2'):=by simp
    rw[this,hcomm];simp
   have hla:∀p,p∈la++la1->ltB p.1 from_=true:=λ p hp=>by
    rcases List.mem_append.1 hp with x | x
    ·exact HLA.out p x
    ·exact hla1 p x
   have hfr6:WFr (lb :: g.j.jb :: U) B TP w w6:=(HFr.out.trans (WFr.of ((Upd.refl [] _).drew) (by simp))).trans hf6;have HL:=η hl;have HLA6:=η hla;have HI6:=η hi6;have H6:=η h6;have HLB6:=η hlb6;have HF6:=η hfr6;have HC146:=η c146;have HC86:=η c86;have HD6:=η hD6;have HY6:Hid (y-S1.length<=y1/\y1<=y):=η ⟨hy61,hy62⟩;have HSZ6:=η hf6.size;clear hgoF hcomm hl hla hi6 h6 hlb6 hfr6 hf6 c146 c86 hD6 hy61 hy62 el1 hla1 m36 kc6 r86;have hd14:ds.length<=14:=by have:=HDL.out;have:=HOK.out.most;omega
   cases hb:(t.F a (ldone++lv1)).2
   ·as_aux_lemma=>
     go_wp2_with fail
     go_ret2;have hst:=t.stop a (ldone++lv1) l2' hb;have hyy:=HY.out;rw[List.length_append] at hyy;have hy6:=HY6.out;exact⟨la++la1,(ldone++lv1)++l2',y1,HL.out,HLA6.out,by rw[hst];rfl,by rw[hst];exact HI6.out,H6.out,HLB6.out,by omega,by omega,HF6.out⟩
   ·as_aux_lemma=>
     have hrs:=HRS.out;have HLT:=η hlt;go_wp2_with fail
     have hyy:=HY.out;rw[List.length_append] at hyy;have hy6:=HY6.out;have hlt:=HLT.out;refine⟨⟨q+1,la++la1,ldone++lv1,l2',S2',y1,by omega,by go_num,HL.out,HLA6.out,hb,HI6.out,H6.out,?_,.inr HGT.out,HLB6.out,by omega,by omega,by omega,HC146.out,HC86.out,HD6.out,HF6.out,Nat.le_trans HSZ.out (Nat.le_trans (Nat.le_refl _) HSZ6.out)⟩,by simp[intOf];omega⟩;have hkl:=HOK.out.n;rcases hrs with⟨h1,h2,hS2⟩ | ⟨h1,h2⟩
     ·rw[List.length_drop] at h1;exact .inr ⟨by omega,h2,hS2⟩
     ·rw[List.length_drop] at h1;rw[List.drop_drop,List.drop_drop] at h2;exact .inl ⟨by omega,h2,λ z hz=>HKK.out z (by
       have:z∈(ks.drop q).drop 1:=by rw[List.drop_drop];exact hz
       exact List.mem_of_mem_drop this),λ s hs=>HSB.out s (by simp[hs])⟩
  ·as_aux_lemma=>
    have hqb:decide ((ds.length:Int)<(ds.length:Int))=false:=decide_eq_false (by omega);have HEL:=η el;have HLA:=η hla;have HGO:=η hgo;have HIr:=η hinv;have HSr:=η hsp;have HLBr:=η hlb;have HFr:=η hfr;have HY:Hid (x-(S'.length+1)<=y-(([]:List Nat).length:Int)/\y<=x):=η ⟨hy2,hy3⟩;clear el hla hgo hinv hsp hfl hlb hy1 hy2 hy3 c14 c8 hD hfr hsz;go_wp2_with fail
    go_ret2;have hyy:=HY.out;simp only[List.length_nil] at hyy;exact⟨la,ldone,y,by rw[HEL.out];simp,HLA.out,by rw[HGO.out];rfl,HIr.out,HSr.out,HLBr.out,by omega,by omega,HFr.out⟩
theorem Ar1{α:Type}{t:Ba3 α}{g:Sg}{M:Nat->Option Sec}{fid lb:Nat}{caps:Array Value}{U:List Nat}{B:Nat}{Inv:α->World->Prop}
  (hTold:Cm3 t g M fid caps U B Inv) (hInv:∀a w w',Inv a w->Upd [g.j.jb] w w'->Inv a w') (hInv2:∀a w w',Inv a w->Upd [lb] w w'->Inv a w') (hent:∀args w,(callFunc fid args).run Tryz.prog w=.ok (.enter fid args) w) (hlU:lb∉U) {from_:Bs} (hfrom:from_.length=32) :
  ∀(d:Nat) {w:World} (_:B7 w g M) {root:Bool} {at_:Nat} {l:List B0} {S:List Nat} (_:E3 (g.cur M) root d at_ l S) (_:∀s,s∈S->4<=s/\s<g.h) {deep:Int} (_:(d:Int)+1<=deep) (_:deep<=16) {x:Int} (_:(S.length:Int)<=x) (_:x<=100000)
   (_:w.heap[lb]?=some (.cells #[.int .i64 x] 3 (0,0))) (a:α) (_:Inv a w) (_:∀k,k∈U->k<w.heap.size) (_:t.wt a+l.length<=1000),
   Calls Tryz.prog 136 #[.pointer (some ⟨g.x.tb,0,none⟩),.int .u32 (at_:Int),arr from_,.int .i64 deep,.pointer (some ⟨lb,0,none⟩),.func (.func fid) #[] caps] w (Ap0 t g M lb U B Inv from_ l S.length x a w)
 | 0,w,h,root,at_,l,S,hs,hS,deep,hd,hd2,x,hx,hx2,hlb,a,hI,hU,hwt=>by
  refine(Ca7 hTold hInv hInv2 h hs hS from_ deep (by omega) hx hx2 hlb a hI hU hlU hent hwt).mono ?_;rintro e w' ⟨e1,e2,e3,e4,e5⟩;have hS1:S.length=1:=by rw[hs.1];rfl
  exact⟨[],l,x-1,rfl,by simp,e1,e2,e3,e4,by omega,by omega,e5⟩
 | d+1,w,h,root,at_,l,S,hs,hS,deep,hd,hd2,x,hx,hx2,hlb,a,hI,hU,hwt=>by
  refine Bt4 hInv hInv2 hlU hfrom (λ w' kid lc Sc x' a' h' hs' hsub hx' hx2' hlb' hI' hU' hwt'=>?_) h hs hS (by omega) hd2 hx hx2 hlb a hI hU hwt;exact Ar1 hTold hInv hInv2 hent hlU hfrom d h' hs' (λ s q=>hS s (hsub s q)) (by omega) (by omega) hx' hx2' hlb' a' hI' hU' hwt'
end Go.Proofs.YtgfbepakonjbnaaGreat
end
end
