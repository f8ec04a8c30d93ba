/-
  tree.put at a leaf: a new key.
-/
import Derived.Test.YtgfbepakonjbnaaGreatZ15
set_option maxRecDepth 100000
set_option maxHeartbeats 16000000
section
set_option linter.unusedSimpArgs false
set_option linter.unusedVariables false
namespace Go.Proofs.YtgfbepakonjbnaaGreat
open Go.RowKit Go.MapKept Go.ChangeMaps
section
attribute [-go_sem] loadCells storeCells Instr.build Instr.buildSlice
attribute [local go_sem] Ah2 L6
theorem Cg8{w:World}{g:Sg}{M:Nat->Option Sec}(h:B7 w g M)(at_:Nat)(hat:at_<g.h)(hat2:at_<4294967296){ks vs:List Bs}(hok:K5 ks vs)(hcur:g.cur M at_=C8 ks vs)(key v:Bs)(hkey:key.length=32)(hv:v.length=16)(deep:Int)(hd:(deep == 0)=false)(hh:I4 ks key=false){P:Nat}(hPk:F4 ks key=P)
  (hh1:1<g.h) (hh2:g.h<=4096) (hc:(M at_).isSome=true∨F2 M g.h<40) (hres:ks.length=10->F2 M g.h+c1M M+2<=40/\1<=N3 (g.T M) g.h) {root:Bool} {l:List B0} {S:List Nat} {K V:List Bs} (hKe:E6 ks P key=K) (hVe:E6 vs P v=V)
  (hroom:ks.length<=9->U7 g M (F1 M at_ (C8 K V)) root 0 at_ l S key v none)
  (hpart:ks.length=10->∀k' s,K[5]?=some k'->4<=s->s<g.h->g.Fr M s->MOk (Q5 g M s) g.h->MOk (F1 (Q5 g M s) at_ (C8 (K.take 5) (V.take 5))) g.h->U7 g M (F1 (F1 (Q5 g M s) at_ (C8 (K.take 5) (V.take 5))) s (C8 (K.drop 5) (V.drop 5))) root 0 at_ l S key v (some (k',s))) :
  Calls Tryz.prog 131 #[.pointer (some ⟨g.x.tb,0,none⟩),.int .u32 (at_:Int),arr key,arr v,.int .i64 deep] w (Av0 g M root 0 at_ l S key v w):=by
 have HKV:Hid ((∀x,x∈K->x.length=32)/\(∀x,x∈V->x.length=16)):=by
  show _/\_
  exact⟨λ x q=>by rw[← hKe] at q;rcases Af5 q with rfl | r;exact hkey;exact hok.k x r,λ x q=>by rw[← hVe] at q;rcases Af5 q with rfl | r;exact hv;exact hok.v x r⟩
 obtain⟨n,hN⟩:∃n,n=ks.length+1:=⟨_,rfl⟩;have HN:=η hN;have HKe:=η hKe;have HVe:=η hVe;have HROOM:=η hroom;have HPART:=η hpart;have HRS0:=η hres;have HHH:=η (And.intro hh1 hh2);clear hN hKe hVe hroom hpart hres hh1 hh2;obtain⟨wA,hwA⟩:∃wA,wA=((w.alloc (.cells (bts key).toArray 35)).alloc (.cells (bts v).toArray 115)).alloc (.cells (K4 none).toArray 228):=⟨_,rfl⟩;have huA:Upd [] w wA:=by rw[hwA];exact(((Upd.refl _ _).alloc _).alloc _).alloc _
 obtain⟨b7,hb7⟩:∃b,b=w.heap.size:=⟨_,rfl⟩;obtain⟨b8,hb8⟩:∃b,b=w.heap.size+1:=⟨_,rfl⟩;obtain⟨b10,hb10⟩:∃b,b=w.heap.size+1+1:=⟨_,rfl⟩;have H10:Hid (wA.heap[b10]?=some (.cells (K4 none).toArray 228 (0,0))):=by
  show wA.heap[b10]?=_
  rw[hwA];have:=A6 (w:=(w.alloc (.cells (bts key).toArray 35)).alloc (.cells (bts v).toArray 115)) (.cells (K4 none).toArray 228);simpa [hb10] using this
 have H8:Hid (wA.heap[b8]?=some (.cells (bts v).toArray 115 (0,0))):=by
  show wA.heap[b8]?=_
  rw[hwA,A9 (by simp[hb8];try omega)];have:=A6 (w:=w.alloc (.cells (bts key).toArray 35)) (.cells (bts v).toArray 115);simpa [hb8] using this
 have H7:Hid (wA.heap[b7]?=some (.cells (bts key).toArray 35 (0,0))):=by
  show wA.heap[b7]?=_
  rw[hwA,hb7,A9 (by simp;try omega),A9 (by simp;try omega)];exact A6 _
 have hA:=h.below huA;have HO7:=η (hA.other9 H7.out (.inr (.inr (.inl rfl))));have HO8:=η (hA.other9 H8.out (.inr (.inr (.inr (.inl rfl)))));have HO10:=η (hA.other9 H10.out (.inl rfl));have HBB:Hid (b7<wA.heap.size/\b8<wA.heap.size/\b10<wA.heap.size):=η ⟨A2 H7.out,A2 H8.out,A2 H10.out⟩;have HR:=η (Y9 hA at_ hat hat2 hok hcur);have HW:=η hwA;have HUA:=η huA;have HB:=η (And.intro hb7 (And.intro hb8 hb10));have HOK:=η hok;have HA:=η hA;clear h hA hok hcur hwA huA hb7 hb8 hb10;unfold arr;go_enter Tryz.func131,Tryz.ntmps131
 go_wp2_with fail
 have hwA:=HW.out;obtain⟨hb7,hb8,hb10⟩:=HB.out;rw[show(#[.int .u8 0,.int .u8 0,.int .u8 0,.int .u8 0,.int .u8 0,.int .u8 0,.int .u8 0,.int .u8 0,.int .u8 0,.int .u8 0,.int .u8 0,.int .u8 0,.int .u8 0,.int .u8 0,.int .u8 0,.int .u8 0,.int .u8 0,.int .u8 0,.int .u8 0,.int .u8 0,.int .u8 0,.int .u8 0,.int .u8 0,.int .u8 0,.int .u8 0,.int .u8 0,.int .u8 0,.int .u8 0,.int .u8 0,.int .u8 0,.int .u8 0,.int .u8 0,.int .u32 0,.bool false]:Array Value)=(K4 none).toArray from rfl,← hwA,← hb10,← hb8,← hb7];clear hwA hb7 hb8 hb10;refine HR.out.mono ?_;rintro e w1 ⟨vk,vv,rfl,hK,hV,h1,hu1⟩;obtain⟨ak,ck,rfl⟩:=C4 hK;obtain⟨av,cv,rfl⟩:=C4 hV;have nj:∀b,b∉g.S->b∉[g.j.jb]:=λ b hb q=>hb (g.mem b q);obtain⟨w2,hw2⟩:∃w2,w2=w1.alloc (.cells #[.int .i64 1,.slice ak ks.length ck,.slice av vs.length cv,.slice none 0 0] 220):=⟨_,rfl⟩;have hu2:Upd [] w1 w2:=by rw[hw2];exact(Upd.refl _ _).alloc _
 obtain⟨b12,hb12⟩:∃b,b=w1.heap.size:=⟨_,rfl⟩;have h7:=(hu2.block _ (Nat.lt_of_lt_of_le HBB.out.1 hu1.size) (by simp)).trans ((hu1.block _ HBB.out.1 (nj _ HO7.out)).trans H7.out);have h8:=(hu2.block _ (Nat.lt_of_lt_of_le HBB.out.2.1 hu1.size) (by simp)).trans ((hu1.block _ HBB.out.2.1 (nj _ HO8.out)).trans H8.out);have h10:=(hu2.block _ (Nat.lt_of_lt_of_le HBB.out.2.2 hu1.size) (by simp)).trans ((hu1.block _ HBB.out.2.2 (nj _ HO10.out)).trans H10.out);have h12:w2.heap[b12]?=some (.cells #[.int .i64 1,.slice ak ks.length ck,.slice av vs.length cv,.slice none 0 0] 220 (0,0)):=by rw[hw2,hb12];exact A6 _
 have H712:=η h7;have H812:=η h8;have H1012:=η h10;have H12:=η h12;have H2:=η (h1.below hu2);have HK2:=η (B8 (S:=[]) hK hu2 (by simp));have HV2:=η (B8 (S:=[]) hV hu2 (by simp));have HU2:=η ((hu1.mono (by simp)).trans (hu2.mono (by simp)):Upd [g.j.jb] wA w2);have HW2:=η hw2;have HB12:=η hb12;have HBG:=η (Nat.le_trans (Nat.le_of_eq rfl) hu1.size:wA.heap.size<=w1.heap.size);have l1:=A7 (n:=4) (cs:=[.int .i64 1,.slice ak ks.length ck,.slice av vs.length cv,.slice none 0 0]) h12 rfl;have l7:=A7 (n:=32) h7 (by rw[A8,hkey]);have m0:=A4 h12 0;rw[hw2] at l1 l7;rw[hw2,hb12] at m0;rw[hb12] at l1;clear hK hV h1 hu1 hu2 h7 h8 h10 h12 nj hw2 hb12;have hF:=Af2 (w:=w2) (vv:=.slice av vs.length cv) (vd:=.slice none 0 0) 1 (C3.rd HK2.out HOK.out.k) HOK.out.k (by have:=HOK.out.most;omega) key hkey;rw[hh,hPk] at hF;have HF:=η hF;have hP:P<=ks.length:=by rw[← hPk];exact Z9 _ _
 have hPv:P<=vs.length:=by have:=HOK.out.n;omega
 clear hF hh hPk;unfold arr at *;go_wp2_with fail
 have hw2:=HW2.out;have hb12:=HB12.out;rw[← hw2,← hb12];clear hw2 hb12;refine HF.out.mono ?_;rintro e w3 ⟨rfl,hu3⟩;have hPW:Ae1 g M wA b7 b8 b10 b12 key v #[.int .i64 1,.slice ak ks.length ck,.slice av vs.length cv,.slice none 0 0] w3:=Ae1.below ⟨H2.out,HU2.out,H712.out,H812.out,H1012.out,H12.out⟩ hu3;have hK3:=B8 (S:=[]) HK2.out hu3 (by simp);have hV3:=B8 (S:=[]) HV2.out hu3 (by simp);have bk:=Ao7 hkey;have bv:=Bw3 hv;have hws:w1.heap.size<=w3.heap.size:=by
  have:=hu3.size;rw[HW2.out] at this;simp at this;omega
 have hAw:=Nat.le_trans HBG.out hws;have HW3:=η hAw;have hgk:∀a l c,Value.slice ak ks.length ck=.slice (some a) l c->a.block<w3.heap.size:=λ a l c e=>by
  rcases hK3.2 with⟨e2,_⟩ | ⟨gk,cap,cur,e2,_,hg,_⟩
  ·rw[e2] at e;simp at e
  ·rw[e2] at e;cases e;exact A2 hg
 have hgv:∀a l c,Value.slice av vs.length cv=.slice (some a) l c->a.block<w3.heap.size:=λ a l c e=>by
  rcases hV3.2 with⟨e2,_⟩ | ⟨gk,cap,cur,e2,_,hg,_⟩
  ·rw[e2] at e;simp at e
  ·rw[e2] at e;cases e;exact A2 hg
 have HSX:Hid (∀w',Ae1 g M wA b7 b8 b10 b12 key v #[.int .i64 1,.slice ak ks.length ck,.slice av vs.length cv,.slice none 0 0] w'->w'.cell? ⟨b12,1,none⟩=some (.slice ak ks.length ck)/\w'.cell? ⟨b12,2,none⟩=some (.slice av vs.length cv)/\w'.rangeAt b7 0 (bts key)):=by
  show ∀w',_
  exact λ w' h=>⟨A4 h.c12 1,A4 h.c12 2,λ j u hu=>by rw[A4 h.c7,← hu];simp⟩
 have HIK:Hid (∀w' vb,Upd [] w3 w'->w3.heap.size<=vb->w'.heap[vb]?=some (.cells (bts key).toArray 35 (0,0))->Calls Tryz.prog 204 #[.slice ak ks.length ck,.int .i64 (P:Int),.slice (some ⟨vb,0,none⟩) 1 1] w' λ e w5=>∃a c,e=.returned (.slice a (ks.length+1) c)/\C3 w5 wA.heap.size (.slice a (ks.length+1) c) (E6 ks P key)/\F7 w5 wA.heap.size (.slice av vs.length cv) vs/\Ae1 g M wA b7 b8 b10 b12 key v #[.int .i64 1,.slice ak ks.length ck,.slice av vs.length cv,.slice none 0 0] w5/\w3.heap.size<=w5.heap.size/\Y2 wA.heap.size 35 w' w5):=by
  show ∀w' vb,_
  exact λ w' vb hu hb hl=>(Be5 (B8 (S:=[]) hK3 hu (by simp)) HOK.out.k (by have:=HOK.out.most;omega) hP (by have:=hu.size;omega) hkey hl (λ a l c e=>by have:=hgk a l c e;omega)).mono λ e w5 ⟨a,c,e1,e2,e3⟩=>⟨a,c,e1,e2,e3.own (B8 (S:=[]) hV3 hu (by simp)) (by decide),(hPW.below hu).turn e3 (.inr (.inr (.inl rfl))) HBB.out.1 HBB.out.2.1 HBB.out.2.2 (by decide) (Nat.le_refl _),by obtain⟨_,q,_⟩:=e3;have:=q.size;have:=hu.size;omega,e3⟩
 have HIV:Hid (∀w5 w' vb a5 c5,F7 w5 wA.heap.size (.slice av vs.length cv) vs->C3 w5 wA.heap.size (.slice a5 (ks.length+1) c5) (E6 ks P key)->Ae1 g M wA b7 b8 b10 b12 key v #[.int .i64 1,.slice ak ks.length ck,.slice av vs.length cv,.slice none 0 0] w5->Upd [] w5 w'->w3.heap.size<=vb->w'.heap[vb]?=some (.cells (bts v).toArray 115 (0,0))->w3.heap.size<=w5.heap.size->Calls Tryz.prog 205 #[.slice av vs.length cv,.int .i64 (P:Int),.slice (some ⟨vb,0,none⟩) 1 1] w' λ e w6=>∃a c,e=.returned (.slice a (vs.length+1) c)/\F7 w6 wA.heap.size (.slice a (vs.length+1) c) (E6 vs P v)/\C3 w6 wA.heap.size (.slice a5 (ks.length+1) c5) (E6 ks P key)/\Ae1 g M wA b7 b8 b10 b12 key v #[.int .i64 1,.slice ak ks.length ck,.slice av vs.length cv,.slice none 0 0] w6):=by
  show ∀w5 w' vb a5 c5,_
  exact λ w5 w' vb a5 c5 hV5 hK5 hP5 hu hb hl hs=>(Bz8 (B8 (S:=[]) hV5 hu (by simp)) HOK.out.v (by have:=HOK.out.n;have:=HOK.out.most;omega) hPv (by have:=hu.size;omega) hv hl (λ a l c e=>by have:=hgv a l c e;omega)).mono λ e w6 ⟨a,c,e1,e2,e3⟩=>⟨a,c,e1,e2,e3.own (B8 (S:=[]) hK5 hu (by simp)) (by decide),(hP5.below hu).turn e3 (.inr (.inr (.inr (.inl rfl)))) HBB.out.1 HBB.out.2.1 HBB.out.2.2 (by decide) (Nat.le_refl _)⟩
 have HP3:=η hPW;have hi35:(Tryz.prog.info? 35).map (·.size)=some (bts key).length:=by rw[A8,hkey];exact Ae0
 have hi45:(Tryz.prog.info? 115).map (·.size)=some (bts v).length:=by rw[A8,hv];exact Ay9
 clear hPW hK3 hV3 hgk hgv hu3;go_upto_region 11 with(fail)
 go_cut [] (Cq5 g M wA b10 b12 n K V)
 case first=>
  refine B6 (Ae1 g M wA b7 b8 b10 b12 key v #[.int .i64 1,.slice ak ks.length ck,.slice av vs.length cv,.slice none 0 0]) [13,15] (by kernel_rfl) (HP3.out.below (Upd.refl [] _).drew) (λ hHeld=>?_);refine κt 0 ?_ hHeld ?_ ?_;rotate_left
  ·(intro w hSw;go_simp<;>with_reducible rfl)
  try simp only[Act.put,αs,αz,αc]
  refine κt 2 ?_ hHeld ?_ ?_;rotate_left
  ·(intro w hSw;go_simp<;>with_reducible rfl)
  try simp only[Act.put,αs,αz,αc]
  refine κt 6 ?_ hHeld ?_ ?_;rotate_left
  ·(intro w hSw;go_simp<;>with_reducible rfl)
  try simp only[Act.put,αs,αz,αc]
  refine κt 8 ?_ hHeld ?_ ?_;rotate_left
  ·(intro w hSw;go_simp<;>with_reducible rfl)
  try simp only[Act.put,αs,αz,αc]
  refine κt 1 ?_ hHeld ?_ ?_;rotate_left
  ·(intro w hSw;have hc1:=A4 hSw.c12 1;have hc2:=A4 hSw.c12 2;go_simp<;>with_reducible rfl)
  try simp only[Act.put,αs,αz,αc]
  refine κt 7 ?_ hHeld ?_ ?_;rotate_left
  ·(intro w hSw;have hc1:=A4 hSw.c12 1;have hc2:=A4 hSw.c12 2;go_simp<;>with_reducible rfl)
  try simp only[Act.put,αs,αz,αc]
  refine κt 3 ?_ hHeld ?_ ?_;rotate_left
  ·(intro w hSw;have l7:=A7 (n:=32) hSw.c7 (by rw[A8,hkey]);go_simp<;>with_reducible rfl)
  try simp only[Act.put,αs,αz,αc]
  refine κt 9 ?_ hHeld ?_ ?_;rotate_left
  ·(intro w hSw;have l8:=A7 (n:=16) hSw.c8 (by rw[A8,hv]);go_simp<;>with_reducible rfl)
  try simp only[Act.put,αs,αz,αc]
  refine A3 (rs:=[4,10]) (by kernel_rfl) (by simp) (A5.cons (A5.one rfl (λ K hK=>?_)) (A5.one rfl (λ K hK=>?_)))
  ·go_simp;refine hK.out _ _ (λ _=>?_) ?_
   ·exact Ae1.below hHeld ((Upd.refl [] _).alloc _)
   clear hK K;try simp only[Act.put,αs,αz,αc]
   refine A3 (rs:=[5,10]) (by kernel_rfl) (by simp) (A5.cons (A5.one rfl (λ K hK=>?_)) (A5.one rfl (λ K hK=>?_)))
   ·go_simp;go_at_call 204
    (with_reducible refine(HIK.out _ _ ?_ ?_ ?_).mono ?_)
    (first | exact(Upd.refl [] _).drew.alloc _ | exact((Upd.refl [] _).drew.alloc _).alloc _)
    (first | exact Nat.le_refl _ | exact Nat.le_succ _)
    (first | exact A6 _ | exact Aq8 _ _ _ _ _ | exact Aq9 _ _ _ _ _)
    rintro e w5 ⟨a5,c5,rfl,hK5,hV5,hP5,hs5,ht5⟩;have HK5:=η hK5;have HV5:=η hV5;have HP5:=η hP5;have HS5:=η hs5;have HT5:=η ht5;clear hK5 hV5 hP5 hs5 ht5;go_wp2_with fail
    refine hK.out _ _ (λ _=>HP5.out) ?_;clear hK K;try simp only[Act.put,αs,αz,αc]
    refine A0 (i:=12) (v:=?_) rfl (by kernel_rfl) (λ _ _ _ h=>h) HP5.out (Or.inl ⟨by rfl,?_⟩) ?_;rotate_left
    ·(intro w hSw;go_simp<;>with_reducible rfl)
    try simp only[Act.put,αs,αz,αc]
    refine κr 10 (λ K hK=>?_);go_simp;refine hK.out _ _ (λ _=>?_) ?_
    ·exact Ae1.below HP5.out ((Upd.refl [] _).alloc _)
    clear hK K;try simp only[Act.put,αs,αz,αc]
    refine κr 11 (λ K hK=>?_);go_simp;go_at_call 205
    (with_reducible refine(HIV.out _ _ _ _ _ HV5.out HK5.out HP5.out ?_ ?_ ?_ HS5.out).mono ?_)
    (first | exact Upd.refl [] _ | exact(Upd.refl [] _).alloc _)
    (first | exact Nat.le_refl _ | exact Nat.le_succ _ | exact HS5.out)
    (first | exact A6 _ | exact HT5.out.blk (A6 _) (.inl (by decide)) | exact HT5.out.blk (Aq8 _ _ _ _ _) (.inl (by decide)) | exact HT5.out.blk (Aq9 _ _ _ _ _) (.inl (by decide)))
    rintro e w6 ⟨a6,c6,rfl,hV6,hK6,hP6⟩;have HV6:=η hV6;have HK6:=η hK6;have HP6:=η hP6;have st1:=D9 hP6.c12 1 (v:=.slice a5 (ks.length+1) c5) (by simp) rfl;have st2:=D9 (B3 hP6.c12 1 (.slice a5 (ks.length+1) c5)) 2 (v:=.slice a6 (vs.length+1) c6) (by simp) rfl;clear hV6 hK6 hP6;go_wp2_with fail
    refine hK.out _ _ (λ _=>HP6.out) ?_;clear hK K;try simp only[Act.put,αs,αz,αc]
    refine κr 13 (λ K hK=>?_);go_simp;refine hK.out _ _ (B9 (by kernel_rfl)) ?_;clear hK K;try simp only[Act.put,αs,αz,αc]
    refine κr 14 (λ K hK=>?_);go_simp;refine hK.out _ _ (B9 (by kernel_rfl)) ?_;clear hK K;try simp only[Act.put,αs,αz,αc]
    refine κr 15 (λ K hK=>?_);go_simp;refine hK.out _ _ (B9 (by kernel_rfl)) ?_;clear hK K;try simp only[Act.put,αs,αz,αc]
    refine B1 (by kernel_rfl) ?_ _;go_wp2_with fail
    go_meet
    have hb:=B3 (B3 HP6.out.c12 1 (.slice a5 (ks.length+1) c5)) 2 (.slice a6 (vs.length+1) c6);have hu:=((Upd.refl [b12] w6).set (.slice a5 (ks.length+1) c5) (b:=b12) (o:=1) (.inl (by simp))).set (.slice a6 (vs.length+1) c6) (b:=b12) (o:=2) (.inl (by simp));have hpt:=Az7 HP6.out HK6.out HV6.out hu (by have:=HB12.out;have:=HBG.out;omega) (by have:=HBB.out.2.2;have:=HB12.out;have:=HBG.out;omega) (by decide) (by decide);exact Bi0 HN.out HOK.out.n HKe.out HVe.out hP hb hpt
   ·go_simp;refine hK.out _ _ (λ _=>?_) ?_
    ·exact Ae1.below (Ae1.below hHeld ((Upd.refl [] _).alloc _)) ((Upd.refl [] _).alloc _)
    clear hK K;try simp only[Act.put,αs,αz,αc]
    refine κr 5 (λ K hK=>?_);go_simp;go_at_call 204
    (with_reducible refine(HIK.out _ _ ?_ ?_ ?_).mono ?_)
    (first | exact(Upd.refl [] _).drew.alloc _ | exact((Upd.refl [] _).drew.alloc _).alloc _)
    (first | exact Nat.le_refl _ | exact Nat.le_succ _)
    (first | exact A6 _ | exact Aq8 _ _ _ _ _ | exact Aq9 _ _ _ _ _)
    rintro e w5 ⟨a5,c5,rfl,hK5,hV5,hP5,hs5,ht5⟩;have HK5:=η hK5;have HV5:=η hV5;have HP5:=η hP5;have HS5:=η hs5;have HT5:=η ht5;clear hK5 hV5 hP5 hs5 ht5;go_wp2_with fail
    refine hK.out _ _ (λ _=>HP5.out) ?_;clear hK K;try simp only[Act.put,αs,αz,αc]
    refine A0 (i:=12) (v:=?_) rfl (by kernel_rfl) (λ _ _ _ h=>h) HP5.out (Or.inl ⟨by rfl,?_⟩) ?_;rotate_left
    ·(intro w hSw;go_simp<;>with_reducible rfl)
    try simp only[Act.put,αs,αz,αc]
    refine κr 11 (λ K hK=>?_);go_simp;go_at_call 205
    (with_reducible refine(HIV.out _ _ _ _ _ HV5.out HK5.out HP5.out ?_ ?_ ?_ HS5.out).mono ?_)
    (first | exact Upd.refl [] _ | exact(Upd.refl [] _).alloc _)
    (first | exact Nat.le_refl _ | exact Nat.le_succ _ | exact HS5.out)
    (first | exact A6 _ | exact HT5.out.blk (A6 _) (.inl (by decide)) | exact HT5.out.blk (Aq8 _ _ _ _ _) (.inl (by decide)) | exact HT5.out.blk (Aq9 _ _ _ _ _) (.inl (by decide)))
    rintro e w6 ⟨a6,c6,rfl,hV6,hK6,hP6⟩;have HV6:=η hV6;have HK6:=η hK6;have HP6:=η hP6;have st1:=D9 hP6.c12 1 (v:=.slice a5 (ks.length+1) c5) (by simp) rfl;have st2:=D9 (B3 hP6.c12 1 (.slice a5 (ks.length+1) c5)) 2 (v:=.slice a6 (vs.length+1) c6) (by simp) rfl;clear hV6 hK6 hP6;go_wp2_with fail
    refine hK.out _ _ (λ _=>HP6.out) ?_;clear hK K;try simp only[Act.put,αs,αz,αc]
    refine κr 13 (λ K hK=>?_);go_simp;refine hK.out _ _ (B9 (by kernel_rfl)) ?_;clear hK K;try simp only[Act.put,αs,αz,αc]
    refine κr 14 (λ K hK=>?_);go_simp;refine hK.out _ _ (B9 (by kernel_rfl)) ?_;clear hK K;try simp only[Act.put,αs,αz,αc]
    refine κr 15 (λ K hK=>?_);go_simp;refine hK.out _ _ (B9 (by kernel_rfl)) ?_;clear hK K;try simp only[Act.put,αs,αz,αc]
    refine B1 (by kernel_rfl) ?_ _;go_wp2_with fail
    go_meet
    have hb:=B3 (B3 HP6.out.c12 1 (.slice a5 (ks.length+1) c5)) 2 (.slice a6 (vs.length+1) c6);have hu:=((Upd.refl [b12] w6).set (.slice a5 (ks.length+1) c5) (b:=b12) (o:=1) (.inl (by simp))).set (.slice a6 (vs.length+1) c6) (b:=b12) (o:=2) (.inl (by simp));have hpt:=Az7 HP6.out HK6.out HV6.out hu (by have:=HB12.out;have:=HBG.out;omega) (by have:=HBB.out.2.2;have:=HB12.out;have:=HBG.out;omega) (by decide) (by decide);exact Bi0 HN.out HOK.out.n HKe.out HVe.out hP hb hpt
  ·go_simp;refine hK.out _ _ (λ _=>?_) ?_
   ·exact Ae1.below hHeld ((Upd.refl [] _).alloc _)
   clear hK K;try simp only[Act.put,αs,αz,αc]
   refine κr 4 (λ K hK=>?_);go_simp;refine hK.out _ _ (λ _=>?_) ?_
   ·exact Ae1.below (Ae1.below hHeld ((Upd.refl [] _).alloc _)) ((Upd.refl [] _).alloc _)
   clear hK K;try simp only[Act.put,αs,αz,αc]
   refine κr 5 (λ K hK=>?_);go_simp;go_at_call 204
   (with_reducible refine(HIK.out _ _ ?_ ?_ ?_).mono ?_)
   (first | exact(Upd.refl [] _).drew.alloc _ | exact((Upd.refl [] _).drew.alloc _).alloc _)
   (first | exact Nat.le_refl _ | exact Nat.le_succ _)
   (first | exact A6 _ | exact Aq8 _ _ _ _ _ | exact Aq9 _ _ _ _ _)
   rintro e w5 ⟨a5,c5,rfl,hK5,hV5,hP5,hs5,ht5⟩;have HK5:=η hK5;have HV5:=η hV5;have HP5:=η hP5;have HS5:=η hs5;have HT5:=η ht5;clear hK5 hV5 hP5 hs5 ht5;go_wp2_with fail
   refine hK.out _ _ (λ _=>HP5.out) ?_;clear hK K;try simp only[Act.put,αs,αz,αc]
   refine A0 (i:=12) (v:=?_) rfl (by kernel_rfl) (λ _ _ _ h=>h) HP5.out (Or.inl ⟨by rfl,?_⟩) ?_;rotate_left
   ·(intro w hSw;go_simp<;>with_reducible rfl)
   try simp only[Act.put,αs,αz,αc]
   refine κr 11 (λ K hK=>?_);go_simp;go_at_call 205
   (with_reducible refine(HIV.out _ _ _ _ _ HV5.out HK5.out HP5.out ?_ ?_ ?_ HS5.out).mono ?_)
   (first | exact Upd.refl [] _ | exact(Upd.refl [] _).alloc _)
   (first | exact Nat.le_refl _ | exact Nat.le_succ _ | exact HS5.out)
   (first | exact A6 _ | exact HT5.out.blk (A6 _) (.inl (by decide)) | exact HT5.out.blk (Aq8 _ _ _ _ _) (.inl (by decide)) | exact HT5.out.blk (Aq9 _ _ _ _ _) (.inl (by decide)))
   rintro e w6 ⟨a6,c6,rfl,hV6,hK6,hP6⟩;have HV6:=η hV6;have HK6:=η hK6;have HP6:=η hP6;have st1:=D9 hP6.c12 1 (v:=.slice a5 (ks.length+1) c5) (by simp) rfl;have st2:=D9 (B3 hP6.c12 1 (.slice a5 (ks.length+1) c5)) 2 (v:=.slice a6 (vs.length+1) c6) (by simp) rfl;clear hV6 hK6 hP6;go_wp2_with fail
   refine hK.out _ _ (λ _=>HP6.out) ?_;clear hK K;try simp only[Act.put,αs,αz,αc]
   refine κr 13 (λ K hK=>?_);go_simp;refine hK.out _ _ (B9 (by kernel_rfl)) ?_;clear hK K;try simp only[Act.put,αs,αz,αc]
   refine κr 14 (λ K hK=>?_);go_simp;refine hK.out _ _ (B9 (by kernel_rfl)) ?_;clear hK K;try simp only[Act.put,αs,αz,αc]
   refine κr 15 (λ K hK=>?_);go_simp;refine hK.out _ _ (B9 (by kernel_rfl)) ?_;clear hK K;try simp only[Act.put,αs,αz,αc]
   refine B1 (by kernel_rfl) ?_ _;go_wp2_with fail
   go_meet
   have hb:=B3 (B3 HP6.out.c12 1 (.slice a5 (ks.length+1) c5)) 2 (.slice a6 (vs.length+1) c6);have hu:=((Upd.refl [b12] w6).set (.slice a5 (ks.length+1) c5) (b:=b12) (o:=1) (.inl (by simp))).set (.slice a6 (vs.length+1) c6) (b:=b12) (o:=2) (.inl (by simp));have hpt:=Az7 HP6.out HK6.out HV6.out hu (by have:=HB12.out;have:=HBG.out;omega) (by have:=HBB.out.2.2;have:=HB12.out;have:=HBG.out;omega) (by decide) (by decide);exact Bi0 HN.out HOK.out.n HKe.out HVe.out hP hb hpt
 case rest=>
  rename World=>wz
  obtain⟨a,c,a',c',h12,hK,hV,hsp,hu,h10,hKn,hVn⟩:=hcut;have hk32:=HKV.out.1;have hv16:=HKV.out.2;by_cases hn:n<=10
  ·have hlt:decide ((n:Int)<=10)=true:=decide_eq_true (by omega);have hok2:K5 K V:=⟨hk32,hv16,by omega,by omega⟩;have hWR:=Ah0 hsp (vd:=.slice none 0 0) (C3.rd hK hk32) (F7.rd hV hv16) hok2 at_ hat hat2 hc;have l12:=A7 (n:=4) (cs:=[.int .i64 1,.slice a n c,.slice a' n c',.slice none 0 0]) h12 rfl;have m1:=A4 h12 1;have HWR:=η hWR;have H10':=η h10;have HUz:=η hu;have HPA:=η (HROOM.out (by have:=HN.out;omega));clear hk32 hv16 hK hV h12 hsp hu h10 hok2 hWR hKn hVn hn;go_wp2_with fail
   refine HWR.out.mono ?_;rintro e w5 ⟨rfl,h5,hu5⟩;have h10:=(hu5.block _ (A2 H10'.out) (Sg.notw HO10.out)).trans H10'.out;have s10:=C7 h10 (l:=K4 none) (by rw[List.size_toArray]) (V5 _);have HU5:=η ((HUz.out.mono g.mem).trans (hu5.mono g.memw));have H5:=η h5;clear hu5 h5;unfold Az5;go_wp2_with fail
   refine bodyPost_ret (C5 (p:=10) (u:=11) (ty:=228) (by rfl) _ _ b10 _ (by rfl) (run_loadVar_row _ b10 _ _ _ _ _ (setRow_heap _ _ _ _ _ _ h10) Tryz.underlying228 rfl (Ac6 (o:=none) (by simp)))) (by rfl) ?_;have he:=Ak9 H5.out h10 (by have:=HB.out.2.2;omega) ((HUA.out.mono (by simp)).trans HU5.out) (K4 none).toArray;exact⟨_,none,rfl,HPA.out,he.1,he.2⟩
  ·have hn10:ks.length=10:=by have:=HN.out;have:=HOK.out.most;omega
   obtain rfl:n=11:=by have:=HN.out;omega
   obtain⟨gk,ck,ek,_,hck,_,hgk⟩:=F3 hK (by omega);obtain⟨gv,cv',ev,_,hcv,_,hgv⟩:=F3 hV (by omega);injection ek with e1 e2 e3;clear e2;subst e1;obtain rfl:=e3.symm;injection ev with e1 e2 e3;clear e2;subst e1;obtain rfl:=e3.symm;rw[hKn] at hck;rw[hVn] at hcv;have HNS:Hid (gk∉g.S/\gv∉g.S):=by
    show _/\_
    obtain⟨_,q1⟩:=hgk;obtain⟨_,q2⟩:=hgv;exact⟨hsp.other9 q1 (.inr (.inr (.inl rfl))),hsp.other9 q2 (.inr (.inr (.inr (.inl rfl))))⟩
   obtain⟨k',hk'⟩:∃k',K[5]?=some k':=⟨_,List.getElem?_eq_getElem (by omega)⟩;have HK':=η hk';have HM:Hid (O7 g M wA b10 b12 #[.int .i64 1,.slice (some ⟨gk,0,none⟩) 11 ck,.slice (some ⟨gv,0,none⟩) 11 cv',.slice none 0 0] (.slice (some ⟨gk,0,none⟩) 11 ck) K (λ w=>F7 w wA.heap.size (.slice (some ⟨gv,0,none⟩) 11 cv') V) wz):=by
    show O7 _ _ _ _ _ _ _ _ _ _
    exact⟨h12,hK,hV,hsp,hu.mono g.mem,h10⟩
   have HKn:=η hKn;have HVn:=η hVn;have HC1:Hid (∀w',O7 g M wA b10 b12 #[.int .i64 1,.slice (some ⟨gk,0,none⟩) 11 ck,.slice (some ⟨gv,0,none⟩) 11 cv',.slice none 0 0] (.slice (some ⟨gk,0,none⟩) 11 ck) K (λ w=>F7 w wA.heap.size (.slice (some ⟨gv,0,none⟩) 11 cv') V) w'->Calls Tryz.prog 206 #[.slice (some ⟨gk,160,none⟩) 6 (ck-5)] w' λ e w5=>∃a c,e=.returned (.slice a 6 c)/\C3 w5 wA.heap.size (.slice a 6 c) (K.drop 5)/\Upd [] w' w5):=by
    show ∀w',_
    exact λ w' h=>Al0 h.k hk32 5 6 160 _ (by omega) rfl (by omega) (by omega) h.upd.size
   have HC2:Hid (∀w',O7 g M wA b10 b12 #[.int .i64 1,.slice (some ⟨gk,0,none⟩) 11 ck,.slice (some ⟨gv,0,none⟩) 11 cv',.slice none 0 0] (.slice (some ⟨gk,0,none⟩) 11 ck) K (λ w=>F7 w wA.heap.size (.slice (some ⟨gv,0,none⟩) 11 cv') V) w'->Calls Tryz.prog 207 #[.slice (some ⟨gv,80,none⟩) 6 (cv'-5)] w' λ e w5=>∃a c,e=.returned (.slice a 6 c)/\F7 w5 wA.heap.size (.slice a 6 c) (V.drop 5)/\Upd [] w' w5):=by
    show ∀w',_
    exact λ w' h=>Bz9 h.r hv16 5 6 80 _ (by omega) rfl (by omega) (by omega) h.upd.size
   have i1:(11:Int)<=(ck:Int):=by omega
   have i2:(11:Int)<=(cv':Int):=by omega
   have i3:¬(ck=5):=by omega
   have i4:¬(cv'=5):=by omega
   have i5:(5:Int)<=(ck:Int):=by omega
   have i6:(5:Int)<=(cv':Int):=by omega
   have bn:=Bn0;have m1:=A4 h12 1;clear hk32 hv16 hK hV h12 hsp hu h10 hKn hVn hn hck hcv hgk hgv hk';go_upto_region 14 with(fail)
   go_cut [16] (λ s16 wy=>Cl9 g M wA b10 b12 #[.int .i64 1,.slice (some ⟨gk,0,none⟩) 11 ck,.slice (some ⟨gv,0,none⟩) 11 cv',.slice none 0 0] (.slice (some ⟨gk,0,none⟩) 11 ck) K (λ w=>F7 w wA.heap.size (.slice (some ⟨gv,0,none⟩) 11 cv') V) (λ a4 c4 a5 c5=>[.int .i64 1,.slice a4 6 c4,.slice a5 6 c5,.slice none 0 0]) 6 (K.drop 5) (λ a5 c5 w=>F7 w wA.heap.size (.slice a5 6 c5) (V.drop 5)) s16 wy)
   case first=>
    refine B6 (O7 g M wA b10 b12 #[.int .i64 1,.slice (some ⟨gk,0,none⟩) 11 ck,.slice (some ⟨gv,0,none⟩) 11 cv',.slice none 0 0] (.slice (some ⟨gk,0,none⟩) 11 ck) K (λ w=>F7 w wA.heap.size (.slice (some ⟨gv,0,none⟩) 11 cv') V)) [10] (by kernel_rfl) (HM.out.below F7.below (Upd.refl [] _).drew) (λ hHeld=>?_);refine κt 0 ?_ hHeld ?_ ?_;rotate_left
    ·(intro w hSw;go_simp<;>with_reducible rfl)
    try simp only[Act.put,αs,αz,αc]
    refine κt 1 ?_ hHeld ?_ ?_;rotate_left
    ·(intro w hSw;have hc1:=A4 hSw.c12 1;have hc2:=A4 hSw.c12 2;go_simp<;>with_reducible rfl)
    try simp only[Act.put,αs,αz,αc]
    refine κt 2 ?_ hHeld ?_ ?_;rotate_left
    ·(intro w hSw;go_simp<;>with_reducible rfl)
    try simp only[Act.put,αs,αz,αc]
    refine κt 4 ?_ hHeld ?_ ?_;rotate_left
    ·(intro w hSw;go_simp<;>with_reducible rfl)
    try simp only[Act.put,αs,αz,αc]
    refine κt 5 ?_ hHeld ?_ ?_;rotate_left
    ·(intro w hSw;have hc1:=A4 hSw.c12 1;have hc2:=A4 hSw.c12 2;go_simp<;>with_reducible rfl)
    try simp only[Act.put,αs,αz,αc]
    refine κt 6 ?_ hHeld ?_ ?_;rotate_left
    ·(intro w hSw;go_simp<;>with_reducible rfl)
    try simp only[Act.put,αs,αz,αc]
    refine A3 (rs:=[3,9]) (by kernel_rfl) (by simp) (A5.cons (A5.one rfl (λ K hK=>?_)) (A5.one rfl (λ K hK=>?_)))
    ·go_simp;go_at_call 206
     (with_reducible refine(HC1.out _ hHeld).mono ?_)
     rintro e w5 ⟨a4,c4,rfl,hk4,hu4⟩;have HK4:=η hk4;have HU4:=η hu4;have hM4:=O7.below hHeld F7.below hu4;have HM4:=η hM4;clear hk4 hu4 hM4;go_wp2_with fail
     refine hK.out _ _ (λ _=>HM4.out) ?_;clear hK K;try simp only[Act.put,αs,αz,αc]
     refine A3 (rs:=[7,9]) (by kernel_rfl) (by simp) (A5.cons (A5.one rfl (λ K hK=>?_)) (A5.one rfl (λ K hK=>?_)))
     ·go_simp;go_at_call 207
      (with_reducible refine(HC2.out _ HM4.out).mono ?_)
      rintro e w6 ⟨a5,c5,rfl,hk5,hu5⟩;have HK5:=η hk5;have HU5:=η hu5;have hM5:=O7.below HM4.out F7.below hu5;have HM5:=η hM5;clear hk5 hu5 hM5;go_wp2_with fail
      refine hK.out _ _ (λ _=>HM5.out) ?_;clear hK K;try simp only[Act.put,αs,αz,αc]
      refine A0 (i:=8) (v:=?_) rfl (by kernel_rfl) (λ _ _ _ h=>h) HM5.out (Or.inl ⟨by rfl,?_⟩) ?_;rotate_left
      ·(intro w hSw;go_simp<;>with_reducible rfl)
      try simp only[Act.put,αs,αz,αc]
      refine κr 9 (λ K hK=>?_);go_simp;refine hK.out _ _ (λ _=>O7.below HM5.out F7.below ((Upd.refl [] _).alloc _)) ?_;clear hK K;try simp only[Act.put,αs,αz,αc]
      refine κr 10 (λ K hK=>?_);go_simp;refine hK.out _ _ (B9 (by kernel_rfl)) ?_;clear hK K;try simp only[Act.put,αs,αz,αc]
      refine B1 (by kernel_rfl) ?_ _;go_wp2_with fail
      go_meet
      exact Bn3 HM5.out (HK4.out.below HU5.out) HK5.out F7.below F7.below
     ·go_simp;refine hK.out _ _ (λ _=>O7.below HM4.out F7.below ((Upd.refl [] _).alloc _)) ?_;clear hK K;try simp only[Act.put,αs,αz,αc]
      have hM1:=O7.below HM4.out F7.below ((Upd.refl [] _).alloc (.cells #[.int .i64 0,.slice none 0 0,.slice none 0 0,.slice none 0 0] 220));refine κr 7 (λ K hK=>?_);go_simp;go_at_call 207
      (with_reducible refine(HC2.out _ ?_).mono ?_)
      ·exact hM1
      rintro e w6 ⟨a5,c5,rfl,hk5,hu5⟩;have HK5:=η hk5;have HU5:=η hu5;have hM5:=O7.below hM1 F7.below hu5;have HM5:=η hM5;clear hk5 hu5 hM5;go_wp2_with fail
      refine hK.out _ _ (λ _=>HM5.out) ?_;clear hK K;try simp only[Act.put,αs,αz,αc]
      refine A0 (i:=8) (v:=?_) rfl (by kernel_rfl) (λ _ _ _ h=>h) HM5.out (Or.inl ⟨by rfl,?_⟩) ?_;rotate_left
      ·(intro w hSw;go_simp<;>with_reducible rfl)
      try simp only[Act.put,αs,αz,αc]
      have h16:=((HU5.out).block w5.heap.size (by simp) (by simp)).trans (A6 (w:=w5) (.cells #[.int .i64 0,.slice none 0 0,.slice none 0 0,.slice none 0 0] 220));have s16:=C7 h16 (l:=[.int .i64 1,.slice a4 6 c4,.slice a5 6 c5,.slice none 0 0]) rfl (by intro u hu;simp at hu;rcases hu with rfl | rfl | rfl | rfl<;>rfl)
      have H16:=η h16;clear h16;refine κr 10 (λ K hK=>?_);go_simp;refine hK.out _ _ (B9 (by kernel_rfl)) ?_;clear hK K;try simp only[Act.put,αs,αz,αc]
      refine B1 (by kernel_rfl) ?_ _;go_wp2_with fail
      go_meet
      exact Ao9 HM5.out ((HK4.out.below ((Upd.refl [] _).alloc _)).below HU5.out) HK5.out F7.node F7.node H16.out (A2 HM4.out.c12) HM4.out.upd.size
    ·go_simp;refine hK.out _ _ (λ _=>O7.below hHeld F7.below ((Upd.refl [] _).alloc _)) ?_;clear hK K;try simp only[Act.put,αs,αz,αc]
     have hM1:=O7.below hHeld F7.below ((Upd.refl [] _).alloc (.cells #[.int .i64 0,.slice none 0 0,.slice none 0 0,.slice none 0 0] 220));refine κr 3 (λ K hK=>?_);go_simp;go_at_call 206
     (with_reducible refine(HC1.out _ ?_).mono ?_)
     ·exact hM1
     rintro e w5 ⟨a4,c4,rfl,hk4,hu4⟩;have HK4:=η hk4;have HU4:=η hu4;have hM4:=O7.below hM1 F7.below hu4;have HM4:=η hM4;clear hk4 hu4 hM4;go_wp2_with fail
     refine hK.out _ _ (λ _=>HM4.out) ?_;clear hK K;try simp only[Act.put,αs,αz,αc]
     refine κr 7 (λ K hK=>?_);go_simp;go_at_call 207
     (with_reducible refine(HC2.out _ HM4.out).mono ?_)
     rintro e w6 ⟨a5,c5,rfl,hk5,hu5⟩;have HK5:=η hk5;have HU5:=η hu5;have hM5:=O7.below HM4.out F7.below hu5;have HM5:=η hM5;clear hk5 hu5 hM5;go_wp2_with fail
     refine hK.out _ _ (λ _=>HM5.out) ?_;clear hK K;try simp only[Act.put,αs,αz,αc]
     refine A0 (i:=8) (v:=?_) rfl (by kernel_rfl) (λ _ _ _ h=>h) HM5.out (Or.inl ⟨by rfl,?_⟩) ?_;rotate_left
     ·(intro w hSw;go_simp<;>with_reducible rfl)
     try simp only[Act.put,αs,αz,αc]
     have h16:=((HU4.out.trans HU5.out).block wz.heap.size (by simp) (by simp)).trans (A6 (w:=wz.drew) (.cells #[.int .i64 0,.slice none 0 0,.slice none 0 0,.slice none 0 0] 220));have s16:=C7 h16 (l:=[.int .i64 1,.slice a4 6 c4,.slice a5 6 c5,.slice none 0 0]) rfl (by intro u hu;simp at hu;rcases hu with rfl | rfl | rfl | rfl<;>rfl)
     have H16:=η h16;clear h16;refine κr 10 (λ K hK=>?_);go_simp;refine hK.out _ _ (B9 (by kernel_rfl)) ?_;clear hK K;try simp only[Act.put,αs,αz,αc]
     refine B1 (by kernel_rfl) ?_ _;go_wp2_with fail
     go_meet
     exact Ao9 HM5.out (HK4.out.below HU5.out) HK5.out F7.node F7.node H16.out (A2 HM.out.c12) HM.out.upd.size
   case rest=>
    rename World=>wy
    obtain⟨b16,a4,c4,a5,c5,rfl,hlt,hB16,h16,hk4,hv5,hMy⟩:=hcut;obtain⟨g4,c4',e4,_,_,hcell4,hg4⟩:=F3 hk4 (by have:=HKn.out;simp;omega);obtain⟨g5,c5',e5,_,_,hcell5,hg5⟩:=F3 hv5 (by have:=HVn.out;simp;omega);injection e4 with e1 e2 e3;clear e2;subst e1 e3;injection e5 with e1 e2 e3;clear e2;subst e1 e3;have hsp:=hMy.sp;have hn4:g4∉g.S:=by obtain⟨_,q⟩:=hg4;exact hsp.other9 q (.inr (.inr (.inl rfl)))
    have hn5:g5∉g.S:=by obtain⟨_,q⟩:=hg5;exact hsp.other9 q (.inr (.inr (.inr (.inl rfl))))
    obtain⟨wy1,hwy1⟩:∃wy1,wy1=wy.drew.setCell ⟨b12,1,none⟩ (.slice (some ⟨gk,0,none⟩) 5 ck):=⟨_,rfl⟩;obtain⟨w9,hw9⟩:∃w9,w9=wy1.setCell ⟨b12,2,none⟩ (.slice (some ⟨gv,0,none⟩) 5 cv'):=⟨_,rfl⟩;have st1:=D9 (w:=wy.drew) hMy.c12 1 (v:=.slice (some ⟨gk,0,none⟩) 5 ck) (by simp) rfl;have st2:=D9 (w:=wy1) (by rw[hwy1];exact B3 (w:=wy.drew) hMy.c12 1 (.slice (some ⟨gk,0,none⟩) 5 ck)) 2 (v:=.slice (some ⟨gv,0,none⟩) 5 cv') (by simp) rfl;rw[← hwy1] at st1;rw[← hw9] at st2;have hu9:Upd [b12] wy w9:=by rw[hw9,hwy1];exact((Upd.refl [b12] _).drew.set _ (.inl (by simp))).set _ (.inl (by simp))
    have h12:=B3 (B3 (w:=wy.drew) hMy.c12 1 (.slice (some ⟨gk,0,none⟩) 5 ck)) 2 (.slice (some ⟨gv,0,none⟩) 5 cv');rw[← hwy1,← hw9] at h12;have hk9:=C3.node _ _ _ _ hMy.k hMy.c12 hu9;have hv9:=F7.node _ _ _ _ hMy.r hMy.c12 hu9;have hk49:=C3.node _ _ _ _ hk4 hMy.c12 hu9;have hv59:=F7.node _ _ _ _ hv5 hMy.c12 hu9;have h169:=(hu9.block b16 (A2 h16) (by simp;omega)).trans h16;have hbnd:=A2 hMy.c12;have hB12:wA.heap.size<=b12:=by have:=HB12.out;have:=HBG.out;omega
    have h10n:b10≠b12:=by have:=HBB.out.2.2;omega
    have hsp9:=hsp.turned9 (S:=[b12]) (λ x hx=>by simp at hx;subst hx;exact⟨_,_,_,hMy.c12,.inr (.inl rfl)⟩) hu9;have hup9:=hMy.upd.late hu9 (λ x hx=> .inr (by simp at hx;subst hx;exact hB12));have h109:=(hu9.block b10 (A2 hMy.c10) (by simpa using h10n)).trans hMy.c10;have hok1:K5 (K.take 5) (V.take 5):=⟨λ x q=>HKV.out.1 x (List.mem_of_mem_take q),λ x q=>HKV.out.2 x (List.mem_of_mem_take q),by rw[List.length_take,List.length_take,HKn.out,HVn.out],by rw[List.length_take,HKn.out];omega⟩;have hok2:K5 (K.drop 5) (V.drop 5):=⟨λ x q=>HKV.out.1 x (List.mem_of_mem_drop q),λ x q=>HKV.out.2 x (List.mem_of_mem_drop q),by rw[List.length_drop,List.length_drop,HKn.out,HVn.out],by rw[List.length_drop,HKn.out];omega⟩;have hNX:L7 g.S w9 1 (.slice (some ⟨gk,0,none⟩) 5 ck) (.slice (some ⟨gv,0,none⟩) 5 cv') (.slice none 0 0) (C8 (K.take 5) (V.take 5)):=
     ⟨λ a l c e=>by cases e;exact HNS.out.1,λ a l c e=>by cases e;exact HNS.out.2,λ a l c e=>by simp at e,.inl ⟨_,_,rfl,by rw[List.map_take];exact(C3.rd hk9 HKV.out.1).take (by rw[List.length_map,HKn.out];omega),by rw[List.map_take];exact(F7.rd hv9 HKV.out.2).take (by rw[List.length_map,HVn.out];omega),hok1,rfl⟩⟩
    have hNY:L7 g.S w9 1 (.slice (some ⟨g4,0,none⟩) 6 c4) (.slice (some ⟨g5,0,none⟩) 6 c5) (.slice none 0 0) (C8 (K.drop 5) (V.drop 5)):=
     ⟨λ a l c e=>by cases e;exact hn4,λ a l c e=>by cases e;exact hn5,λ a l c e=>by simp at e,.inl ⟨_,_,rfl,C3.rd hk49 hok2.k,F7.rd hv59 hok2.v,hok2,rfl⟩⟩
    have hk'32:=HKV.out.1 k' (List.mem_of_getElem? HK'.out);have HRES:=η (And.intro (HRS0.out hn10).1 (And.intro (HRS0.out hn10).2 HHH.out));have hcn:∀s,F2 (Q5 g M s) g.h=F2 M g.h+c1M M:=λ s=>Ao8 s hsp.ok HRES.out.2.2.1;have hmo:∀s,MOk (Q5 g M s) g.h:=λ s=>Av1 hsp s HRES.out.2.2.1;have hx512:=K6 hok1 (k:=(K.take 5).length) (Nat.le_refl _);have hPC:=Be4 (w:=w9.drew) (hsp9.below (Upd.refl [] _).drew) HRES.out.2.2.1 HRES.out.2.2.2 (hNX.below (Upd.refl [] _).drew) (hNY.below (Upd.refl [] _).drew) at_ hat k' hk'32 (by have:=HRES.out.2.1;omega) (.inr (by have:=HRES.out.1;omega)) (λ s _ hs _=> .inr (by rw[hcn s];have:=HRES.out.1;omega))
     (λ s _ hs _=>by have:=T4 (x:=C8 (K.take 5) (V.take 5)) (hmo s) hat;rw[hcn s] at this;have:=HRES.out.1;omega)
    unfold arr at hPC;have HPC:=η hPC;have HPT:Hid (∀s,4<=s->s<g.h->g.Fr M s->U7 g M (F1 (F1 (Q5 g M s) at_ (C8 (K.take 5) (V.take 5))) s (C8 (K.drop 5) (V.drop 5))) root 0 at_ l S key v (some (k',s))):=by
     show ∀s,_
     exact λ s h4 hs hT=>HPART.out hn10 k' s HK'.out h4 hs hT (hmo s) (Ah4 (hmo s) hat hx512)
    have HSZ:Hid (w9.drew.heap[b12]?=some (.cells #[.int .i64 1,.slice (some ⟨gk,0,none⟩) 5 ck,.slice (some ⟨gv,0,none⟩) 5 cv',.slice none 0 0] 220 (0,0))/\w9.drew.heap[b16]?=some (.cells #[.int .i64 1,.slice (some ⟨g4,0,none⟩) 6 c4,.slice (some ⟨g5,0,none⟩) 6 c5,.slice none 0 0] 220 (0,0))/\w9.drew.rangeAt g4 0 (bts k')):=by
     show _/\_/\_
     refine⟨h12,h169,λ j u hu=>?_⟩;have e0:(K.drop 5)[0]?=some k':=by rw[List.getElem?_drop];exact HK'.out
     obtain⟨b,off,e,hr⟩:=(C3.rd hk49 hok2.k).at (i:=0) (e:=bts k') (by rw[List.getElem?_map,e0];rfl);cases e
     have:=hr j u hu;simpa using this
    have hik:(Tryz.prog.info? 35).map (·.size)=some (bts k').length:=by rw[A8,hk'32];exact Ae0
    have HU9:=η hup9;have H109:=η h109;have HO109:=HO10.out;have HS9:=η hsp9;have HMy:=η hMy;have HK32:=η hk'32;clear hok1 hok2 hNX hNY hcn hmo hx512 hPC h12 hk9 hv9 hk49 hv59 h169 hsp9 hup9 h109 hu9 hcell4 hcell5 hg4 hg5 hk4 hv5 h16 hMy hw9 hwy1 hn4 hn5 hn10 hbnd hB12 h10n hsp HO109;go_wp2_with fail
    refine B6 (λ w'=>w'.heap[b12]?=some (.cells #[.int .i64 1,.slice (some ⟨gk,0,none⟩) 11 ck,.slice (some ⟨gv,0,none⟩) 11 cv',.slice none 0 0] 220 (0,0))) [7] (by kernel_rfl) HMy.out.c12 (λ hHeld=>?_);refine κt 0 ?_ hHeld ?_ ?_;rotate_left
    ·(intro w hSw;go_simp<;>with_reducible rfl)
    try simp only[Act.put,αs,αz,αc]
    refine κt 1 ?_ hHeld ?_ ?_;rotate_left
    ·(intro w hSw;have hc1:=A4 hSw 1;have hc2:=A4 hSw 2;go_simp<;>with_reducible rfl)
    try simp only[Act.put,αs,αz,αc]
    refine κt 2 ?_ hHeld ?_ ?_;rotate_left
    ·(intro w hSw;go_simp<;>with_reducible rfl)
    try simp only[Act.put,αs,αz,αc]
    refine κt 3 ?_ hHeld ?_ ?_;rotate_left
    ·(intro w hSw;go_simp<;>with_reducible rfl)
    try simp only[Act.put,αs,αz,αc]
    refine κt 4 ?_ hHeld ?_ ?_;rotate_left
    ·(intro w hSw;have hc1:=A4 hSw 1;have hc2:=A4 hSw 2;go_simp<;>with_reducible rfl)
    try simp only[Act.put,αs,αz,αc]
    refine Ab1 (i:=5) (v:=?_) rfl (by kernel_rfl) (λ _ _ _ h=>h) (λ _=>hHeld) (Or.inl ⟨by rfl,?_⟩) ?_;rotate_left
    ·(intro w hSw;go_simp<;>with_reducible rfl)
    try simp only[Act.put,αs,αz,αc]
    refine κt 6 ?_ hHeld ?_ ?_;rotate_left
    ·(intro w hSw;go_simp<;>with_reducible rfl)
    try simp only[Act.put,αs,αz,αc]
    refine κr 7 (λ K hK=>?_);go_simp;refine hK.out _ _ (B9 (by kernel_rfl)) ?_;clear hK K;try simp only[Act.put,αs,αz,αc]
    refine κr 8 (λ K hK=>?_);go_simp;refine hK.out _ _ (B9 (by kernel_rfl)) ?_;clear hK K;try simp only[Act.put,αs,αz,αc]
    refine κr 9 (λ K hK=>?_);go_simp;refine hK.out _ _ (B9 (by kernel_rfl)) ?_;clear hK K;try simp only[Act.put,αs,αz,αc]
    refine B1 (by kernel_rfl) ?_ _;go_wp2_with fail
    refine B6 (λ w'=>w'.heap[b12]?=some (.cells #[.int .i64 1,.slice (some ⟨gk,0,none⟩) 5 ck,.slice (some ⟨gv,0,none⟩) 5 cv',.slice none 0 0] 220 (0,0))/\w'.heap[b16]?=some (.cells #[.int .i64 1,.slice (some ⟨g4,0,none⟩) 6 c4,.slice (some ⟨g5,0,none⟩) 6 c5,.slice none 0 0] 220 (0,0))/\w'.rangeAt g4 0 (bts k')) [8] (by kernel_rfl) HSZ.out (λ hHeld=>?_);refine κt 0 ?_ hHeld ?_ ?_;rotate_left
    ·(intro w hSw;go_simp<;>with_reducible rfl)
    try simp only[Act.put,αs,αz,αc]
    refine κt 1 ?_ hHeld ?_ ?_;rotate_left
    ·(intro w hSw;go_simp<;>with_reducible rfl)
    try simp only[Act.put,αs,αz,αc]
    refine κt 4 ?_ hHeld ?_ ?_;rotate_left
    ·(intro w hSw;go_simp<;>with_reducible rfl)
    try simp only[Act.put,αs,αz,αc]
    refine κt 2 ?_ hHeld ?_ ?_;rotate_left
    ·(intro w hSw;have l1:=A7 (n:=4) (cs:=[.int .i64 1,.slice (some ⟨gk,0,none⟩) 5 ck,.slice (some ⟨gv,0,none⟩) 5 cv',.slice none 0 0]) hSw.1 rfl;go_simp<;>with_reducible rfl)
    try simp only[Act.put,αs,αz,αc]
    refine κt 3 ?_ hHeld ?_ ?_;rotate_left
    ·(intro w hSw;have l1:=A7 (n:=4) (cs:=[.int .i64 1,.slice (some ⟨g4,0,none⟩) 6 c4,.slice (some ⟨g5,0,none⟩) 6 c5,.slice none 0 0]) hSw.2.1 rfl;go_simp<;>with_reducible rfl)
    try simp only[Act.put,αs,αz,αc]
    refine κt 5 ?_ hHeld ?_ ?_;rotate_left
    ·(intro w hSw;have hc1:=A4 hSw.2.1 1;go_simp<;>with_reducible rfl)
    try simp only[Act.put,αs,αz,αc]
    refine κt 6 ?_ hHeld ?_ ?_;rotate_left
    ·(intro w hSw;go_simp<;>with_reducible rfl)
    try simp only[Act.put,αs,αz,αc]
    refine κt 7 ?_ hHeld ?_ ?_;rotate_left
    ·(intro w hSw;have l9:=B2 hSw.2.2 HK32.out;go_simp<;>with_reducible rfl)
    try simp only[Act.put,αs,αz,αc]
    refine κr 8 (λ K hK=>?_);go_simp;go_at_call 208
    (with_reducible refine HPC.out.mono ?_)
    rintro e w7 ⟨s,hs4,hsh,hsT,rfl,h7,hu7⟩;have HPA:=η (HPT.out s hs4 hsh hsT);have HU7:=η (HU9.out.trans (((Upd.refl g.S w9).drew).trans hu7));have h10:=(hu7.block b10 (A2 H109.out) HO10.out).trans H109.out;have hz9:(K4 (some (k',s))).length=34:=M4 _ (by intro x y e;cases e;exact HK32.out);have s10:=C7 h10 (l:=K4 (some (k',s))) (by rw[List.size_toArray,M4 _ (by intro k b e;cases e;exact HK32.out),M4 _ (by simp)]) (V5 _);have H7:=η h7;have H107:=η h10;clear hu7 h7 h10 hs4 hsh hsT;unfold Az5;go_wp2_with fail
    refine hK.out _ _ (B9 (by kernel_rfl)) ?_;clear hK K;try simp only[Act.put,αs,αz,αc]
    refine E0 (by kernel_rfl) ?_;refine κt 9 ?_ trivial ?_ ?_;rotate_left
    ·(intro w hSw;go_simp<;>with_reducible rfl)
    try simp only[Act.put,αs,αz,αc]
    refine κt 10 ?_ trivial ?_ ?_;rotate_left
    ·(intro w hSw;go_simp<;>with_reducible rfl)
    try simp only[Act.put,αs,αz,αc]
    refine κr 11 (λ K hK=>?_);go_simp;refine hK.out _ _ (λ _=>trivial) ?_;clear hK K;try simp only[Act.put,αs,αz,αc]
    refine κr 12 (λ K hK=>?_);go_simp;refine hK.out _ _ (λ _=>trivial) ?_;clear hK K;try simp only[Act.put,αs,αz,αc]
    refine B1 (by kernel_rfl) ?_ _;go_wp2_with fail
    refine bodyPost_ret (C5 (p:=10) (u:=11) (ty:=228) (by rfl) _ _ b10 _ (by rfl) (run_loadVar_row _ b10 _ _ _ _ _ (setRow_heap _ _ _ _ _ _ H107.out) Tryz.underlying228 rfl (Ac6 (o:=some (k',s)) (by intro k b e;cases e;exact HK32.out)))) (by rfl) ?_;have he:=Ak9 H7.out H107.out (by have:=HB.out.2.2;omega) ((HUA.out.mono (by simp)).trans HU7.out) (K4 (some (k',s))).toArray;exact⟨_,some (k',s),rfl,HPA.out,he.1,he.2⟩
end
end Go.Proofs.YtgfbepakonjbnaaGreat
end
