/-
  tree.put at an inner node.
-/
import Derived.Test.YtgfbepakonjbnaaGreatZ16
set_option maxRecDepth 100000
set_option maxHeartbeats 16000000
section
set_option linter.unusedSimpArgs false
set_option linter.unusedVariables false
namespace Go.Proofs.YtgfbepakonjbnaaGreat
open Go.RowKit Go.MapKept Go.ChangeMaps
section
structure Af8(g:Sg)(M1:Nat->Option Sec)(wA:World)(b10 b12 b18:Nat)(X:Array Value)(o:Option (Bs × Nat))(w:World):Prop where
 sp:B7 w g M1
 upd:Upd g.S wA w
 c10:w.heap[b10]?=some (.cells (K4 none).toArray 228 (0,0))
 c12:w.heap[b12]?=some (.cells X 220 (0,0))
 c18:w.heap[b18]?=some (.cells (K4 o).toArray 228 (0,0))
section
variable {g:Sg} {M M1:Nat->Option Sec} {wA:World} {b10 b12 b18:Nat} {X:Array Value} {o:Option (Bs × Nat)} {w w':World}
theorem Af8.below(h:Af8 g M1 wA b10 b12 b18 X o w)(hu:Upd [] w w'):Af8 g M1 wA b10 b12 b18 X o w':=
 ⟨h.sp.below hu,h.upd.trans (hu.mono (by simp)),(hu.block _ (A2 h.c10) (by simp)).trans h.c10,(hu.block _ (A2 h.c12) (by simp)).trans h.c12,(hu.block _ (A2 h.c18) (by simp)).trans h.c18⟩
theorem Af8.turn(h:Af8 g M1 wA b10 b12 b18 X o w){B:Nat}{T:TypeId}(ht:Y2 B T w w')(hT:Ty9 T)(h1:T≠220)(h2:T≠228)(hB:wA.heap.size<=B):Af8 g M1 wA b10 b12 b18 X o w':=
 ⟨ht.sp hT h.sp,ht.upd h.upd hB,ht.blk h.c10 (.inl (Ne.symm h2)),ht.blk h.c12 (.inl (Ne.symm h1)),ht.blk h.c18 (.inl (Ne.symm h2))⟩
theorem Af8.store(h:Af8 g M1 wA b10 b12 b18 X o w){K:List Bs}{D:List Nat}{vk vd:Value}(hk:C3 w wA.heap.size vk K)(hv:D8 w wA.heap.size vd D)(hu:Upd [b12] w w')(hb:wA.heap.size<=b12) :
  C3 w' wA.heap.size vk K/\D8 w' wA.heap.size vd D/\B7 w' g M1/\Upd g.S wA w'/\w'.heap[b10]?=some (.cells (K4 none).toArray 228 (0,0)):=by
 have h10:b10≠b12:=by rintro rfl;have:=h.c10;rw[h.c12] at this;simp at this
 exact⟨C3.node _ _ _ _ hk h.c12 hu,D8.node _ _ _ _ hv h.c12 hu,h.sp.turned9 (λ b hb=>by simp at hb;subst hb;exact⟨_,_,_,h.c12,.inr (.inl rfl)⟩) hu,h.upd.late hu (λ k hk=> .inr (by simp at hk;omega)),(hu.block _ (A2 h.c10) (by simpa using h10)).trans h.c10⟩
theorem Bn4{B n sz:Nat}{e:TypeId}{v:Value}{xs:List Value}(h:w.ownsRow B e sz v n xs)(hs:B7 w g M)(hT:Ty9 e)(hu:Upd g.S w w'):w'.ownsRow B e sz v n xs:=
 B8 h hu (λ k c hk _ e=>hs.other9 e hT hk)
end
theorem Ca1{w:World}{B:Nat}{vd:Value}{ds:List Nat}(hD:D8 w B vd ds)(hn:ds.length<=100){P:Nat}(hP:P<=ds.length)(hB:B<=w.heap.size){b vb:Nat}(hv:w.heap[vb]?=some (.cells #[.int .u32 (b:Int)] 79 (0,0)))(hne:∀a l c,vd=.slice (some a) l c->vb≠a.block) :
  Calls Tryz.prog 209 #[vd,.int .i64 (P:Int),.slice (some ⟨vb,0,none⟩) 1 1] w λ e w'=>∃a c,e=.returned (.slice a (ds.length+1) c)/\D8 w' B (.slice a (ds.length+1) c) (E6 ds P b)/\Y2 B 79 w w':=by
 refine(Cg7 (cs:=[.int .u32 (b:Int)]) hD hn hP hB (by intro u q;obtain⟨d,_,rfl⟩:=List.mem_map.1 q;rfl) hne rfl (by intro u q;simp at q;subst q;rfl) hv).mono λ e w' hp=>?_;obtain⟨a,c,e1,e2,e3⟩:=hp.turn;refine⟨a,c,e1,?_,e3⟩;unfold D8;rw[M8 _ _ _ hP];have e:(E6 ds P b).map (λ d:Nat=>Value.int .u32 (d:Int))=(ds.map λ d:Nat=>Value.int .u32 (d:Int)).take P ++ [.int .u32 (b:Int)]++(ds.map λ d:Nat=>Value.int .u32 (d:Int)).drop P:=by
  simp[E6,List.map_take,List.map_drop]
 rw[e];exact e2
structure Bc3(B:Nat)(vd:Value)(ds:List Nat)(b7 b8:Nat)(key v:Bs)(w:World):Prop where
 d:D8 w B vd ds
 c7:w.heap[b7]?=some (.cells (bts key).toArray 35 (0,0))
 c8:w.heap[b8]?=some (.cells (bts v).toArray 115 (0,0))
theorem Bc3.below{B:Nat}{vd:Value}{ds:List Nat}{b7 b8:Nat}{key v:Bs}{w w':World}(h:Bc3 B vd ds b7 b8 key v w)(hu:Upd [] w w'):Bc3 B vd ds b7 b8 key v w':=
 ⟨h.d.below hu,(hu.block _ (A2 h.c7) (by simp)).trans h.c7,(hu.block _ (A2 h.c8) (by simp)).trans h.c8⟩
def Cq7(g:Sg)(M:Nat->Option Sec)(wA:World)(b10 b12:Nat)(X:Array Value)(vk vd:Value)(ks:List Bs)(ds:List Nat)(d kid:Nat)(lc:List B0)(Sc:List Nat)(key v:Bs)(s13 s18:Value)(w:World):Prop:=
 ∃M1 o b18,s13=.int .i64 0/\s18=.pointer (some ⟨b18,0,none⟩)/\U7 g M M1 false d kid lc Sc key v o/\Af8 g M1 wA b10 b12 b18 X o w/\C3 w wA.heap.size vk ks/\D8 w wA.heap.size vd ds
theorem Bw6{g:Sg}{M M1:Nat->Option Sec}{wA:World}{b10 b12 b18:Nat}{X:Array Value}{vk vd:Value}{ks:List Bs}{ds:List Nat}{d kid:Nat}{lc:List B0}{Sc:List Nat}{key v:Bs}{o:Option (Bs × Nat)}{b7 b8:Nat}{w w4 w5:World}
  (hM:O7 g M wA b10 b12 X vk ks (Bc3 wA.heap.size vd ds b7 b8 key v) w) (hp:U7 g M M1 false d kid lc Sc key v o) (h4:B7 w4 g M1) (hu:Upd g.S w w4) {c:Array Value} (h18:w4.heap[b18]?=some (.cells c 228 (0,0))) (hB:wA.heap.size<=b18) (hne:b10≠b18) (hu5:Upd [b18] w4 w5) (h5:w5.heap[b18]?=some (.cells (K4 o).toArray 228 (0,0))) :
  Cq7 g M wA b10 b12 X vk vd ks ds d kid lc Sc key v (.int .i64 0) (.pointer (some ⟨b18,0,none⟩)) w5:=by
 have k4:C3 w4 wA.heap.size vk ks:=Bn4 hM.k hM.sp (.inr (.inr (.inl rfl))) hu;have d4:D8 w4 wA.heap.size vd ds:=Bn4 hM.r.d hM.sp (.inr (.inr (.inr (.inr rfl)))) hu;have c10:=(hu.block _ (A2 hM.c10) (hM.sp.other9 hM.c10 (.inl rfl))).trans hM.c10;have c12:=(hu.block _ (A2 hM.c12) (hM.sp.other9 hM.c12 (.inr (.inl rfl)))).trans hM.c12;have n12:b12≠b18:=by rintro rfl;rw[c12] at h18;simp at h18
 refine⟨M1,o,b18,rfl,rfl,hp,⟨h4.turned9 (λ b hb=>by simp at hb;subst hb;exact⟨_,_,_,h18,.inl rfl⟩) hu5,(hM.upd.trans hu).late hu5 (λ k hk=> .inr (by simp at hk;omega)),(hu5.block _ (A2 c10) (by simpa using hne)).trans c10,(hu5.block _ (A2 c12) (by simpa using n12)).trans c12,h5⟩,?_,?_⟩
 ·exact B8 k4 hu5 (λ k c' hk _ e=>by simp at hk;subst hk;rw[h18] at e;simp at e)
 ·exact B8 d4 hu5 (λ k c' hk _ e=>by simp at hk;subst hk;rw[h18] at e;simp at e)
theorem Z2{k':Bs}(hk:k'.length=32){b:Nat}{w:World}{b18:Nat}(h:w.heap[b18]?=some (.cells (K4 (some (k',b))).toArray 228 (0,0))):w.cell? ⟨b18,33,none⟩=some (.bool true)/\w.cell? ⟨b18,32,none⟩=some (.int .u32 (b:Int))/\w.rangeAt b18 0 (bts k'):=by
 have hl:(bts k').length=32:=by rw[A8,hk]
 refine⟨?_,?_,λ j u hu=>?_⟩
 ·rw[A4 h];unfold K4;rw[List.getElem?_toArray,List.getElem?_append_right (by omega),hl];rfl
 ·rw[A4 h];unfold K4;rw[List.getElem?_toArray,List.getElem?_append_right (by omega),hl];rfl
 ·rw[A4 h];unfold K4;rw[List.getElem?_toArray,Nat.zero_add,List.getElem?_append_left (List.getElem?_eq_some_iff.1 hu).1];exact hu
def Cq8(g:Sg)(M1:Nat->Option Sec)(wA:World)(b10 b12 n:Nat)(K:List Bs)(D:List Nat)(wz:World):Prop:=
 ∃a c a' c',wz.heap[b12]?=some (.cells #[.int .i64 2,.slice a n c,.slice none 0 0,.slice a' (n+1) c'] 220 (0,0))/\C3 wz wA.heap.size (.slice a n c) K/\D8 wz wA.heap.size (.slice a' (n+1) c') D/\B7 wz g M1/\Upd g.S wA wz/\wz.heap[b10]?=some (.cells (K4 none).toArray 228 (0,0))/\K.length=n/\D.length=n+1
theorem Bi3{g:Sg}{M1:Nat->Option Sec}{wA wz:World}{b10 b12 n I b:Nat}{ks K:List Bs}{ds D:List Nat}{k':Bs}{a5 a6:Option Addr}{c5 c6:Nat}(hn:n=ks.length+1)(hds:ds.length=ks.length+1)(hK:E6 ks I k'=K)(hD:E6 ds (I+1) b=D)(hI:I<=ks.length)
  (hb:wz.heap[b12]?=some (.cells #[.int .i64 2,.slice a5 (ks.length+1) c5,.slice none 0 0,.slice a6 (ds.length+1) c6] 220 (0,0)))
  (hp:C3 wz wA.heap.size (.slice a5 (ks.length+1) c5) (E6 ks I k')/\D8 wz wA.heap.size (.slice a6 (ds.length+1) c6) (E6 ds (I+1) b)/\B7 wz g M1/\Upd g.S wA wz/\wz.heap[b10]?=some (.cells (K4 none).toArray 228 (0,0))):Cq8 g M1 wA b10 b12 n K D wz:=by
 subst hn hK hD;rw[hds] at hb hp;obtain⟨h1,h2,h3,h4,h5⟩:=hp;exact⟨a5,c5,a6,c6,hb,h1,h2,h3,h4,h5,M8 _ _ _ hI,by rw[M8 _ _ _ (by omega),hds]⟩
theorem Bc4(d:Int)(w:World):(Instr.buildSlice 218 1 #[(0,.int .u32 d)]).run Tryz.prog w=.ok (.slice (some ⟨w.heap.size,0,none⟩) 1 1) (w.alloc (.cells #[.int .u32 d] 79)):=Al6 d w
attribute [-go_sem] loadCells storeCells Instr.build Instr.buildSlice
theorem At7(a a':Option Addr)(n c n' c':Nat)(w:World):(Instr.build 220 #[(0,.int .i64 2),(1,.slice a n c),(3,.slice a' n' c')]).run Tryz.prog w=.ok (.agg #[.int .i64 2,.slice a n c,.slice none 0 0,.slice a' n' c']) w:=run_build w _ _ _ (by kernel_rfl)
theorem Bn5(w:World):(Instr.build 228 #[]).run Tryz.prog w=.ok (.agg (K4 none).toArray) w:=Ah2 w
attribute [local go_sem] Bn5 L6
theorem Cm0{w:World}{g:Sg}{M:Nat->Option Sec}(h:B7 w g M)(at_:Nat)(hat:at_<g.h)(hat2:at_<4294967296){ks:List Bs}{ds:List Nat}(hok:G0 ks ds)(hcur:g.cur M at_=B5 ks ds)(key v:Bs)(hkey:key.length=32)(hv:v.length=16)(deep:Int)(hd0:1<=deep)(hd1:deep<=16)
  {root:Bool} {d kid:Nat} {l lc:List B0} {S Sc:List Nat} (hA:Cn3 g M root d at_ l S key v ks ds kid lc Sc) (hh1:1<g.h) (hh2:g.h<=4096) (hres:F2 M g.h+c1M M+(2*d+4)<=40) (hleft:d+2<=N3 (g.T M) g.h)
  (ih:∀w',B7 w' g M->Calls Tryz.prog 131 #[.pointer (some ⟨g.x.tb,0,none⟩),.int .u32 (kid:Int),arr key,arr v,.int .i64 (deep-1)] w' (Av0 g M false d kid lc Sc key v w')) :
  Calls Tryz.prog 131 #[.pointer (some ⟨g.x.tb,0,none⟩),.int .u32 (at_:Int),arr key,arr v,.int .i64 deep] w (Av0 g M root (d+1) at_ l S key v w):=by
 have hd:(deep == 0)=false:=by rw[beq_eq_false_iff_ne];omega
 obtain⟨I,hI⟩:∃I,chK ks key=I:=⟨_,rfl⟩;have HI:=η hI;have HAK:=η hA;have HRES:=η (And.intro hres (And.intro hleft (And.intro hh1 hh2)));have IH:=η ih;have hIl:I<=ks.length:=by rw[← hI];exact Az9 _ _
 clear hA hres hleft hh1 hh2 ih hI;obtain⟨wA,hwA⟩:∃wA,wA=((w.alloc (.cells (bts key).toArray 35)).alloc (.cells (bts v).toArray 115)).alloc (.cells (K4 none).toArray 228):=⟨_,rfl⟩;have huA:Upd [] w wA:=by rw[hwA];exact(((Upd.refl _ _).alloc _).alloc _).alloc _
 obtain⟨b7,hb7⟩:∃b,b=w.heap.size:=⟨_,rfl⟩;obtain⟨b8,hb8⟩:∃b,b=w.heap.size+1:=⟨_,rfl⟩;obtain⟨b10,hb10⟩:∃b,b=w.heap.size+1+1:=⟨_,rfl⟩;have H10:Hid (wA.heap[b10]?=some (.cells (K4 none).toArray 228 (0,0))):=by
  show wA.heap[b10]?=_
  rw[hwA];have:=A6 (w:=(w.alloc (.cells (bts key).toArray 35)).alloc (.cells (bts v).toArray 115)) (.cells (K4 none).toArray 228);simpa [hb10] using this
 have H8:Hid (wA.heap[b8]?=some (.cells (bts v).toArray 115 (0,0))):=by
  show wA.heap[b8]?=_
  rw[hwA,A9 (by simp[hb8];try omega)];have:=A6 (w:=w.alloc (.cells (bts key).toArray 35)) (.cells (bts v).toArray 115);simpa [hb8] using this
 have H7:Hid (wA.heap[b7]?=some (.cells (bts key).toArray 35 (0,0))):=by
  show wA.heap[b7]?=_
  rw[hwA,hb7,A9 (by simp;try omega),A9 (by simp;try omega)];exact A6 _
 have hA:=h.below huA;have HO7:=η (hA.other9 H7.out (.inr (.inr (.inl rfl))));have HO8:=η (hA.other9 H8.out (.inr (.inr (.inr (.inl rfl)))));have HO10:=η (hA.other9 H10.out (.inl rfl));have HBB:Hid (b7<wA.heap.size/\b8<wA.heap.size/\b10<wA.heap.size):=η ⟨A2 H7.out,A2 H8.out,A2 H10.out⟩;have HR:=η (Z0 hA at_ hat hat2 hok hcur);have HW:=η hwA;have HUA:=η huA;have HB:=η (And.intro hb7 (And.intro hb8 hb10));have HOK:=η hok;have HA:=η hA;clear h hA hok hcur hwA huA hb7 hb8 hb10;unfold arr;go_enter Tryz.func131,Tryz.ntmps131
 go_wp2_with fail
 have hwA:=HW.out;obtain⟨hb7,hb8,hb10⟩:=HB.out;rw[show(#[.int .u8 0,.int .u8 0,.int .u8 0,.int .u8 0,.int .u8 0,.int .u8 0,.int .u8 0,.int .u8 0,.int .u8 0,.int .u8 0,.int .u8 0,.int .u8 0,.int .u8 0,.int .u8 0,.int .u8 0,.int .u8 0,.int .u8 0,.int .u8 0,.int .u8 0,.int .u8 0,.int .u8 0,.int .u8 0,.int .u8 0,.int .u8 0,.int .u8 0,.int .u8 0,.int .u8 0,.int .u8 0,.int .u8 0,.int .u8 0,.int .u8 0,.int .u8 0,.int .u32 0,.bool false]:Array Value)=(K4 none).toArray from rfl,← hwA,← hb10,← hb8,← hb7];clear hwA hb7 hb8 hb10;refine HR.out.mono ?_;rintro e w1 ⟨vk,vd,rfl,hK,hV,h1,hu1⟩;obtain⟨ak,ck,rfl⟩:=C4 hK;obtain⟨av,cv,rfl⟩:=C4 hV;have nj:∀b,b∉g.S->b∉[g.j.jb]:=λ b hb q=>hb (g.mem b q);obtain⟨w2,hw2⟩:∃w2,w2=w1.alloc (.cells #[.int .i64 2,.slice ak ks.length ck,.slice none 0 0,.slice av ds.length cv] 220):=⟨_,rfl⟩;have hu2:Upd [] w1 w2:=by rw[hw2];exact(Upd.refl _ _).alloc _
 obtain⟨b12,hb12⟩:∃b,b=w1.heap.size:=⟨_,rfl⟩;have h7:=(hu2.block _ (Nat.lt_of_lt_of_le HBB.out.1 hu1.size) (by simp)).trans ((hu1.block _ HBB.out.1 (nj _ HO7.out)).trans H7.out);have h8:=(hu2.block _ (Nat.lt_of_lt_of_le HBB.out.2.1 hu1.size) (by simp)).trans ((hu1.block _ HBB.out.2.1 (nj _ HO8.out)).trans H8.out);have h10:=(hu2.block _ (Nat.lt_of_lt_of_le HBB.out.2.2 hu1.size) (by simp)).trans ((hu1.block _ HBB.out.2.2 (nj _ HO10.out)).trans H10.out);have h12:w2.heap[b12]?=some (.cells #[.int .i64 2,.slice ak ks.length ck,.slice none 0 0,.slice av ds.length cv] 220 (0,0)):=by rw[hw2,hb12];exact A6 _
 have H712:=η h7;have H812:=η h8;have H1012:=η h10;have H12:=η h12;have H2:=η (h1.below hu2);have HK2:=η (B8 (S:=[]) hK hu2 (by simp));have HV2:=η (B8 (S:=[]) hV hu2 (by simp));have HU2:=η ((hu1.mono (by simp)).trans (hu2.mono (by simp)):Upd [g.j.jb] wA w2);have HW2:=η hw2;have HB12:=η hb12;have HBG:=η (Nat.le_trans (Nat.le_of_eq rfl) hu1.size:wA.heap.size<=w1.heap.size);have l1:=A7 (n:=4) (cs:=[.int .i64 2,.slice ak ks.length ck,.slice none 0 0,.slice av ds.length cv]) h12 rfl;have l7:=A7 (n:=32) h7 (by rw[A8,hkey]);have m0:=A4 h12 0;rw[hw2] at l1 l7;rw[hw2,hb12] at m0;rw[hb12] at l1;clear hK hV h1 hu1 hu2 h7 h8 h10 h12 nj hw2 hb12;have hC:=Ag8 (w:=w2) (vv:=.slice none 0 0) (vd:=.slice av ds.length cv) 2 (C3.rd HK2.out HOK.out.k) HOK.out.k (by have:=HOK.out.most;omega) key hkey;rw[HI.out] at hC;have HC:=η hC;clear hC;unfold arr at *;go_wp2_with fail
 have hw2:=HW2.out;have hb12:=HB12.out;rw[← hw2,← hb12];clear hw2 hb12;refine HC.out.mono ?_;rintro e w3 ⟨rfl,hu3⟩;have hD3:=D8.below HV2.out hu3;have hdn:=HOK.out.n;obtain⟨gd,cd,ed,_,hcd,_,hgd⟩:=F3 hD3 (by omega);injection ed with e1 e2 e3;clear e2;subst e1;obtain rfl:=e3.symm;have HM3:Hid (O7 g M wA b10 b12 #[.int .i64 2,.slice ak ks.length ck,.slice none 0 0,.slice (some ⟨gd,0,none⟩) ds.length cd] (.slice ak ks.length ck) ks (Bc3 wA.heap.size (.slice (some ⟨gd,0,none⟩) ds.length cd) ds b7 b8 key v) w3):=by
  show O7 _ _ _ _ _ _ _ _ _ _
  exact⟨(hu3.block _ (A2 H12.out) (by simp)).trans H12.out,C3.below HK2.out hu3,⟨hD3,(hu3.block _ (A2 H712.out) (by simp)).trans H712.out,(hu3.block _ (A2 H812.out) (by simp)).trans H812.out⟩,H2.out.below hu3,(HU2.out.mono g.mem).trans (hu3.mono (by simp)),(hu3.block _ (A2 H1012.out) (by simp)).trans H1012.out⟩
 have HKID:Hid (∀w',O7 g M wA b10 b12 #[.int .i64 2,.slice ak ks.length ck,.slice none 0 0,.slice (some ⟨gd,0,none⟩) ds.length cd] (.slice ak ks.length ck) ks (Bc3 wA.heap.size (.slice (some ⟨gd,0,none⟩) ds.length cd) ds b7 b8 key v) w'->w'.cell? ⟨gd,I,none⟩=some (.int .u32 (kid:Int))):=by
  show ∀w',_
  intro w' h';obtain⟨_,_,e,_,_,hc,_⟩:=F3 h'.r.d (by omega);cases e
  refine hc I _ ?_;have:=HAK.out.at_;rw[HI.out] at this;rw[List.getElem?_map,this];rfl
 have i1:(0:Int)<=(I:Int):=by omega
 have i2:(I:Int)<(ds.length:Int):=by omega
 have i3:I<ds.length:=by omega
 have i4:IntKind.i64.wrap (deep-1)=deep-1:=by rw[IntKind.wrap_i64];omega
 have hi35:(Tryz.prog.info? 35).map (·.size)=some (bts key).length:=by rw[A8,hkey];exact Ae0
 have hi45:(Tryz.prog.info? 115).map (·.size)=some (bts v).length:=by rw[A8,hv];exact Ay9
 have HS3:=η hu3.size;clear hD3 hu3 hgd hcd hdn;go_upto_region 18 with(fail)
 go_cut [13,18] (λ s13 s18 wz=>Cq7 g M wA b10 b12 #[.int .i64 2,.slice ak ks.length ck,.slice none 0 0,.slice (some ⟨gd,0,none⟩) ds.length cd] (.slice ak ks.length ck) (.slice (some ⟨gd,0,none⟩) ds.length cd) ks ds d kid lc Sc key v s13 s18 wz)
 case first=>
  refine B6 (O7 g M wA b10 b12 #[.int .i64 2,.slice ak ks.length ck,.slice none 0 0,.slice (some ⟨gd,0,none⟩) ds.length cd] (.slice ak ks.length ck) ks (Bc3 wA.heap.size (.slice (some ⟨gd,0,none⟩) ds.length cd) ds b7 b8 key v)) [10] (by kernel_rfl) (HM3.out.below Bc3.below (Upd.refl [] _).drew) (λ hHeld=>?_);refine κt 0 ?_ hHeld ?_ ?_;rotate_left
  ·(intro w hSw;go_simp<;>with_reducible rfl)
  try simp only[Act.put,αs,αz,αc]
  refine κt 1 ?_ hHeld ?_ ?_;rotate_left
  ·(intro w hSw;go_simp<;>with_reducible rfl)
  try simp only[Act.put,αs,αz,αc]
  refine κt 2 ?_ hHeld ?_ ?_;rotate_left
  ·(intro w hSw;have hc1:=A4 hSw.c12 3;go_simp<;>with_reducible rfl)
  try simp only[Act.put,αs,αz,αc]
  refine κt 3 ?_ hHeld ?_ ?_;rotate_left
  ·(intro w hSw;go_simp<;>with_reducible rfl)
  try simp only[Act.put,αs,αz,αc]
  refine κt 4 ?_ hHeld ?_ ?_;rotate_left
  ·(intro w hSw;go_simp<;>with_reducible rfl)
  try simp only[Act.put,αs,αz,αc]
  refine κt 5 ?_ hHeld ?_ ?_;rotate_left
  ·(intro w hSw;have hc1:=HKID.out _ hSw;go_simp<;>with_reducible rfl)
  try simp only[Act.put,αs,αz,αc]
  refine κt 6 ?_ hHeld ?_ ?_;rotate_left
  ·(intro w hSw;have l7:=A7 (n:=32) hSw.r.c7 (by rw[A8,hkey]);go_simp<;>with_reducible rfl)
  try simp only[Act.put,αs,αz,αc]
  refine κt 7 ?_ hHeld ?_ ?_;rotate_left
  ·(intro w hSw;have l8:=A7 (n:=16) hSw.r.c8 (by rw[A8,hv]);go_simp<;>with_reducible rfl)
  try simp only[Act.put,αs,αz,αc]
  refine κt 8 ?_ hHeld ?_ ?_;rotate_left
  ·(intro w hSw;go_simp<;>with_reducible rfl)
  try simp only[Act.put,αs,αz,αc]
  refine κt 9 ?_ hHeld ?_ ?_;rotate_left
  ·(intro w hSw;go_simp<;>with_reducible rfl)
  try simp only[Act.put,αs,αz,αc]
  refine A3 (rs:=[10,14]) (by kernel_rfl) (by simp) (A5.cons (A5.one rfl (λ K hK=>?_)) (A5.one rfl (λ K hK=>?_)))
  ·go_simp;go_at_call 131
   (with_reducible refine(IH.out _ hHeld.sp).mono ?_)
   rintro e w4 ⟨M1,o,rfl,hPA,h4,hu4⟩;have HPA:=η hPA;have H4:=η h4;have HU4:=η hu4;clear hPA h4 hu4;unfold Az5;go_wp2_with fail
   refine hK.out _ _ (B9 (by kernel_rfl)) ?_;clear hK K;try simp only[Act.put,αs,αz,αc]
   refine E0 (by kernel_rfl) ?_;refine κt 11 ?_ trivial ?_ ?_;rotate_left
   ·(intro w hSw;go_simp<;>with_reducible rfl)
   try simp only[Act.put,αs,αz,αc]
   refine κt 12 ?_ trivial ?_ ?_;rotate_left
   ·(intro w hSw;go_simp<;>with_reducible rfl)
   try simp only[Act.put,αs,αz,αc]
   refine κt 13 ?_ trivial ?_ ?_;rotate_left
   ·(intro w hSw;go_simp<;>with_reducible rfl)
   try simp only[Act.put,αs,αz,αc]
   refine κr 14 (λ K hK=>?_);go_simp;refine hK.out _ _ (λ _=>trivial) ?_;clear hK K;try simp only[Act.put,αs,αz,αc]
   have hol:∀k b,o=some (k,b)->k.length=32:=by intro k b e;subst e;exact(HAK.out.len _ _ _ HPA.out).1
   have hb:=A6 (w:=w4) (.cells #[.int .u8 0,.int .u8 0,.int .u8 0,.int .u8 0,.int .u8 0,.int .u8 0,.int .u8 0,.int .u8 0,.int .u8 0,.int .u8 0,.int .u8 0,.int .u8 0,.int .u8 0,.int .u8 0,.int .u8 0,.int .u8 0,.int .u8 0,.int .u8 0,.int .u8 0,.int .u8 0,.int .u8 0,.int .u8 0,.int .u8 0,.int .u8 0,.int .u8 0,.int .u8 0,.int .u8 0,.int .u8 0,.int .u8 0,.int .u8 0,.int .u8 0,.int .u8 0,.int .u32 0,.bool false] 228);have hz9:(K4 o).length=34:=M4 _ hol;have s18:=C7 hb (l:=K4 o) (by rw[List.size_toArray,M4 _ hol];rfl) (V5 _);have HB18:=η hb;clear hb;refine κr 15 (λ K hK=>?_);go_simp;refine hK.out _ _ (λ _=>trivial) ?_;clear hK K;try simp only[Act.put,αs,αz,αc]
   refine κr 16 (λ K hK=>?_);go_simp;refine hK.out _ _ (λ _=>trivial) ?_;clear hK K;try simp only[Act.put,αs,αz,αc]
   refine B1 (by kernel_rfl) ?_ _;go_wp2_with fail
   go_meet
   exact Bw6 hHeld HPA.out (H4.out.below ((Upd.refl [] _).alloc (.cells #[.int .u8 0,.int .u8 0,.int .u8 0,.int .u8 0,.int .u8 0,.int .u8 0,.int .u8 0,.int .u8 0,.int .u8 0,.int .u8 0,.int .u8 0,.int .u8 0,.int .u8 0,.int .u8 0,.int .u8 0,.int .u8 0,.int .u8 0,.int .u8 0,.int .u8 0,.int .u8 0,.int .u8 0,.int .u8 0,.int .u8 0,.int .u8 0,.int .u8 0,.int .u8 0,.int .u8 0,.int .u8 0,.int .u8 0,.int .u8 0,.int .u8 0,.int .u8 0,.int .u32 0,.bool false] 228))) (HU4.out.trans ((Upd.refl g.S _).alloc _)) HB18.out (by have:=HU4.out.size;have:=HM3.out.upd.size;simp at *;omega) (by have:=A2 HM3.out.c10;have:=HU4.out.size;simp at *;omega) (D5 (Upd.refl _ _) _ (.inl (by simp))) (setRow_heap _ _ _ _ _ _ HB18.out)
  ·go_simp;refine hK.out _ _ (λ _=>O7.below hHeld Bc3.below ((Upd.refl [] _).alloc _)) ?_;clear hK K;try simp only[Act.put,αs,αz,αc]
   have hM1:=O7.below hHeld Bc3.below ((Upd.refl [] _).alloc (.cells #[.int .u8 0,.int .u8 0,.int .u8 0,.int .u8 0,.int .u8 0,.int .u8 0,.int .u8 0,.int .u8 0,.int .u8 0,.int .u8 0,.int .u8 0,.int .u8 0,.int .u8 0,.int .u8 0,.int .u8 0,.int .u8 0,.int .u8 0,.int .u8 0,.int .u8 0,.int .u8 0,.int .u8 0,.int .u8 0,.int .u8 0,.int .u8 0,.int .u8 0,.int .u8 0,.int .u8 0,.int .u8 0,.int .u8 0,.int .u8 0,.int .u8 0,.int .u8 0,.int .u32 0,.bool false] 228));refine κr 10 (λ K hK=>?_);go_simp;go_at_call 131
   (with_reducible refine(IH.out _ ?_).mono ?_)
   ·exact hM1.sp
   rintro e w4 ⟨M1,o,rfl,hPA,h4,hu4⟩;have HPA:=η hPA;have H4:=η h4;have HU4:=η hu4;clear hPA h4 hu4;unfold Az5;go_wp2_with fail
   refine hK.out _ _ (B9 (by kernel_rfl)) ?_;clear hK K;try simp only[Act.put,αs,αz,αc]
   refine E0 (by kernel_rfl) ?_;refine κt 11 ?_ trivial ?_ ?_;rotate_left
   ·(intro w hSw;go_simp<;>with_reducible rfl)
   try simp only[Act.put,αs,αz,αc]
   refine κt 12 ?_ trivial ?_ ?_;rotate_left
   ·(intro w hSw;go_simp<;>with_reducible rfl)
   try simp only[Act.put,αs,αz,αc]
   refine κt 13 ?_ trivial ?_ ?_;rotate_left
   ·(intro w hSw;go_simp<;>with_reducible rfl)
   try simp only[Act.put,αs,αz,αc]
   have hol:∀k b,o=some (k,b)->k.length=32:=by intro k b e;subst e;exact(HAK.out.len _ _ _ HPA.out).1
   have hb0:=A6 (w:=w3) (.cells #[.int .u8 0,.int .u8 0,.int .u8 0,.int .u8 0,.int .u8 0,.int .u8 0,.int .u8 0,.int .u8 0,.int .u8 0,.int .u8 0,.int .u8 0,.int .u8 0,.int .u8 0,.int .u8 0,.int .u8 0,.int .u8 0,.int .u8 0,.int .u8 0,.int .u8 0,.int .u8 0,.int .u8 0,.int .u8 0,.int .u8 0,.int .u8 0,.int .u8 0,.int .u8 0,.int .u8 0,.int .u8 0,.int .u8 0,.int .u8 0,.int .u8 0,.int .u8 0,.int .u32 0,.bool false] 228);have hb:=(HU4.out.block w3.heap.size (by simp) (hM1.sp.other9 hb0 (.inl rfl))).trans hb0;have hz9:(K4 o).length=34:=M4 _ hol;have s18:=C7 hb (l:=K4 o) (by rw[List.size_toArray,M4 _ hol];rfl) (V5 _);have HB18:=η hb;clear hb;refine κr 15 (λ K hK=>?_);go_simp;refine hK.out _ _ (λ _=>trivial) ?_;clear hK K;try simp only[Act.put,αs,αz,αc]
   refine κr 16 (λ K hK=>?_);go_simp;refine hK.out _ _ (λ _=>trivial) ?_;clear hK K;try simp only[Act.put,αs,αz,αc]
   refine B1 (by kernel_rfl) ?_ _;go_wp2_with fail
   go_meet
   exact Bw6 hM1 HPA.out H4.out HU4.out HB18.out (by have:=HM3.out.upd.size;omega) (by have:=A2 HM3.out.c10;omega) (D5 (Upd.refl _ _) _ (.inl (by simp))) (setRow_heap _ _ _ _ _ _ HB18.out)
 case rest=>
  rename World=>wz
  obtain⟨M1,o,b18,rfl,rfl,hPA,hPI,hK,hD⟩:=hcut;cases o with
  | none=>
   have m18:wz.cell? ⟨b18,33,none⟩=some (.bool false):=A4 hPI.c18 33;have s10:=C7 hPI.c10 (l:=K4 none) (by rw[List.size_toArray]) (V5 _);have HPI:=η hPI;have HPA:=η (HAK.out.whole M1 hPA);have hz9:(K4 none).length=34:=M4 _ (by simp);clear hPI hPA hK hD;go_wp2_with fail
   refine bodyPost_ret (C5 (p:=10) (u:=11) (ty:=228) (by rfl) _ _ b10 _ (by rfl) (run_loadVar_row _ b10 _ _ _ _ _ (setRow_heap _ _ _ _ _ _ HPI.out.c10) Tryz.underlying228 rfl (Ac6 (o:=none) (by simp)))) (by rfl) ?_;have he:=Ak9 HPI.out.sp HPI.out.c10 (by have:=HB.out.2.2;omega) ((HUA.out.mono (by simp)).trans HPI.out.upd) (K4 none).toArray;exact⟨_,none,rfl,HPA.out,he.1,he.2⟩
  | some p=>
   obtain⟨k',b⟩:=p;obtain⟨hk',hb'⟩:=HAK.out.len M1 k' b hPA;obtain⟨m18,m17,r18⟩:=Z2 hk' hPI.c18;obtain⟨n,hN⟩:∃n,n=ks.length+1:=⟨_,rfl⟩;obtain⟨K,hKe⟩:∃K,E6 ks I k'=K:=⟨_,rfl⟩;obtain⟨D,hDe⟩:∃D,E6 ds (I+1) b=D:=⟨_,rfl⟩;obtain⟨G1,hG1⟩:=hPA.grown;have hln:=hG1.left;have hcn0:=hG1.cnt;have hle:=hG1.len;have HCN:Hid (F2 M1 g.h+c1M M1+2<=40/\1<=N3 (g.T M1) g.h):=by
    show _/\_
    have:=HRES.out.1;have:=HRES.out.2.1;exact⟨by omega,by omega⟩
   have HN:=η hN;have HKe:=η hKe;have HDe:=η hDe;have HROOM:Hid (ks.length<=12->U7 g M (F1 M1 at_ (B5 K D)) root (d+1) at_ l S key v none):=by
    show _->_
    intro hq;have:=HAK.out.room M1 k' b hPA hPI.sp.ok hq;rw[HI.out,hKe,hDe] at this;exact this
   have HPART:Hid (ks.length=13->∀k7 s,K[7]?=some k7->4<=s->s<g.h->g.Fr M1 s->MOk (Q5 g M1 s) g.h->MOk (F1 (Q5 g M1 s) at_ (B5 (K.take 7) (D.take 8))) g.h->U7 g M (F1 (F1 (Q5 g M1 s) at_ (B5 (K.take 7) (D.take 8))) s (B5 (K.drop 8) (D.drop 8))) root (d+1) at_ l S key v (some (k7,s))):=by
    show _->_
    intro hq k7 s;have:=HAK.out.part M1 k' b hPA hPI.sp.ok (hPI.sp.cur_len 1) HRES.out.2.2.1 HRES.out.2.2.2 hq k7 s;rw[HI.out,hKe,hDe] at this;exact this
   have HKD:Hid ((∀x,x∈K->x.length=32)/\(∀x,x∈D->x<4294967296)):=by
    show _/\_
    have:=Aj1 HOK.out hIl hk' hb';rw[hKe,hDe] at this;exact⟨this.1,this.2.1⟩
   have hgk:∀a l c,Value.slice ak ks.length ck=.slice (some a) l c->a.block<wz.heap.size:=λ a l c e=>by
    rcases hK.2 with⟨e2,_⟩ | ⟨gk,cap,cur,e2,_,hg,_⟩
    ·rw[e2] at e;simp at e
    ·rw[e2] at e;cases e;exact A2 hg
   have hgv:∀a l c,Value.slice (some ⟨gd,0,none⟩) ds.length cd=.slice (some a) l c->a.block<wz.heap.size:=λ a l c e=>by
    rcases hD.2 with⟨e2,_⟩ | ⟨gk,cap,cur,e2,_,hg,_⟩
    ·rw[e2] at e;simp at e
    ·rw[e2] at e;cases e;exact A2 hg
   have HWB:Hid (wA.heap.size<=wz.heap.size):=η hPI.upd.size;have HIK:Hid (∀w' vb,Upd [] wz w'->wz.heap.size<=vb->w'.heap[vb]?=some (.cells (bts k').toArray 35 (0,0))->Calls Tryz.prog 204 #[.slice ak ks.length ck,.int .i64 (I:Int),.slice (some ⟨vb,0,none⟩) 1 1] w' λ e w5=>∃a c,e=.returned (.slice a (ks.length+1) c)/\C3 w5 wA.heap.size (.slice a (ks.length+1) c) (E6 ks I k')/\D8 w5 wA.heap.size (.slice (some ⟨gd,0,none⟩) ds.length cd) ds/\(Af8 g M1 wA b10 b12 b18 #[.int .i64 2,.slice ak ks.length ck,.slice none 0 0,.slice (some ⟨gd,0,none⟩) ds.length cd] (some (k',b))) w5/\wz.heap.size<=w5.heap.size/\Y2 wA.heap.size 35 w' w5):=by
    show ∀w' vb,_
    exact λ w' vb hu hb hl=>(Be5 (C3.below hK hu) HOK.out.k (by have:=HOK.out.most;omega) hIl (by have:=hu.size;have:=HWB.out;omega) hk' hl (λ a l c e=>by have:=hgk a l c e;omega)).mono λ e w5 ⟨a,c,e1,e2,e3⟩=>⟨a,c,e1,e2,e3.own (D8.below hD hu) (by decide),(hPI.below hu).turn e3 (.inr (.inr (.inl rfl))) (by decide) (by decide) (Nat.le_refl _),by obtain⟨_,q,_⟩:=e3;have:=q.size;have:=hu.size;omega,e3⟩
   have HIV:Hid (∀w5 w' vb a5 c5,D8 w5 wA.heap.size (.slice (some ⟨gd,0,none⟩) ds.length cd) ds->C3 w5 wA.heap.size (.slice a5 (ks.length+1) c5) (E6 ks I k')->(Af8 g M1 wA b10 b12 b18 #[.int .i64 2,.slice ak ks.length ck,.slice none 0 0,.slice (some ⟨gd,0,none⟩) ds.length cd] (some (k',b))) w5->Upd [] w5 w'->wz.heap.size<=vb->w'.heap[vb]?=some (.cells #[.int .u32 (b:Int)] 79 (0,0))->wz.heap.size<=w5.heap.size->Calls Tryz.prog 209 #[(.slice (some ⟨gd,0,none⟩) ds.length cd),.int .i64 ((I:Int)+1),.slice (some ⟨vb,0,none⟩) 1 1] w' λ e w6=>∃a c,e=.returned (.slice a (ds.length+1) c)/\D8 w6 wA.heap.size (.slice a (ds.length+1) c) (E6 ds (I+1) b)/\C3 w6 wA.heap.size (.slice a5 (ks.length+1) c5) (E6 ks I k')/\(Af8 g M1 wA b10 b12 b18 #[.int .i64 2,.slice ak ks.length ck,.slice none 0 0,.slice (some ⟨gd,0,none⟩) ds.length cd] (some (k',b))) w6):=by
    show ∀w5 w' vb a5 c5,_
    intro w5 w' vb a5 c5 hV5 hK5 hP5 hu hb hl hs;have hc:=Ca1 (P:=I+1) (b:=b) (D8.below hV5 hu) (by have:=HOK.out.n;have:=HOK.out.most;omega) (by have:=HOK.out.n;omega) (by have:=hu.size;have:=HWB.out;omega) hl (λ a l c e=>by have:=hgv a l c e;omega);rw[show((I+1:Nat):Int)=(I:Int)+1 from by omega] at hc;exact hc.mono λ e w6 ⟨a,c,e1,e2,e3⟩=>⟨a,c,e1,e2,e3.own (C3.below hK5 hu) (by decide),(hP5.below hu).turn e3 (.inr (.inr (.inr (.inr rfl)))) (by decide) (by decide) (Nat.le_refl _)⟩
   have HPI:=η hPI;have bk:=Ao7 hk';have bv:=Bc4 (b:Int);have i5:IntKind.i64.wrap ((I:Int)+1)=(I:Int)+1:=by rw[IntKind.wrap_i64];have:=HOK.out.most;omega
   have hi35:(Tryz.prog.info? 35).map (·.size)=some (bts k').length:=by rw[A8,hk'];exact Ae0
   have HK32:=η hk';clear hPA hPI hK hD hk' hb' r18 hN hKe hDe hG1 hln hcn0 hle hgk hgv m17;go_upto_region 21 with(fail)
   go_cut [] (Cq8 g M1 wA b10 b12 n K D)
   case first=>
    refine B6 (Af8 g M1 wA b10 b12 b18 #[.int .i64 2,.slice ak ks.length ck,.slice none 0 0,.slice (some ⟨gd,0,none⟩) ds.length cd] (some (k',b))) [16,18] (by kernel_rfl) (HPI.out.below (Upd.refl [] _).drew) (λ hHeld=>?_);refine κt 0 ?_ hHeld ?_ ?_;rotate_left
    ·(intro w hSw;go_simp<;>with_reducible rfl)
    try simp only[Act.put,αs,αz,αc]
    refine κt 1 ?_ hHeld ?_ ?_;rotate_left
    ·(intro w hSw;have hc1:=A4 hSw.c12 1;have hc2:=A4 hSw.c12 3;have hc3:=(Z2 HK32.out hSw.c18).2.1;go_simp<;>with_reducible rfl)
    try simp only[Act.put,αs,αz,αc]
    refine κt 2 ?_ hHeld ?_ ?_;rotate_left
    ·(intro w hSw;go_simp<;>with_reducible rfl)
    try simp only[Act.put,αs,αz,αc]
    refine κt 3 ?_ hHeld ?_ ?_;rotate_left
    ·(intro w hSw;go_simp<;>with_reducible rfl)
    try simp only[Act.put,αs,αz,αc]
    refine κt 7 ?_ hHeld ?_ ?_;rotate_left
    ·(intro w hSw;go_simp<;>with_reducible rfl)
    try simp only[Act.put,αs,αz,αc]
    refine κt 8 ?_ hHeld ?_ ?_;rotate_left
    ·(intro w hSw;have hc1:=A4 hSw.c12 1;have hc2:=A4 hSw.c12 3;have hc3:=(Z2 HK32.out hSw.c18).2.1;go_simp<;>with_reducible rfl)
    try simp only[Act.put,αs,αz,αc]
    refine κt 9 ?_ hHeld ?_ ?_;rotate_left
    ·(intro w hSw;go_simp<;>with_reducible rfl)
    try simp only[Act.put,αs,αz,αc]
    refine κt 10 ?_ hHeld ?_ ?_;rotate_left
    ·(intro w hSw;go_simp<;>with_reducible rfl)
    try simp only[Act.put,αs,αz,αc]
    refine κt 11 ?_ hHeld ?_ ?_;rotate_left
    ·(intro w hSw;go_simp<;>with_reducible rfl)
    try simp only[Act.put,αs,αz,αc]
    refine κt 12 ?_ hHeld ?_ ?_;rotate_left
    ·(intro w hSw;have hc1:=A4 hSw.c12 1;have hc2:=A4 hSw.c12 3;have hc3:=(Z2 HK32.out hSw.c18).2.1;go_simp<;>with_reducible rfl)
    try simp only[Act.put,αs,αz,αc]
    refine κt 4 ?_ hHeld ?_ ?_;rotate_left
    ·(intro w hSw;have l9:=B2 (Z2 HK32.out hSw.c18).2.2 HK32.out;go_simp<;>with_reducible rfl)
    try simp only[Act.put,αs,αz,αc]
    refine A3 (rs:=[5,13]) (by kernel_rfl) (by simp) (A5.cons (A5.one rfl (λ K hK=>?_)) (A5.one rfl (λ K hK=>?_)))
    ·go_simp;refine hK.out _ _ (λ _=>?_) ?_
     ·exact Af8.below hHeld ((Upd.refl [] _).alloc _)
     clear hK K;try simp only[Act.put,αs,αz,αc]
     refine A3 (rs:=[6,13]) (by kernel_rfl) (by simp) (A5.cons (A5.one rfl (λ K hK=>?_)) (A5.one rfl (λ K hK=>?_)))
     ·go_simp;go_at_call 204
      (with_reducible refine(HIK.out _ _ ?_ ?_ ?_).mono ?_)
      (first | exact(Upd.refl [] _).drew.alloc _ | exact((Upd.refl [] _).drew.alloc _).alloc _)
      (first | exact Nat.le_refl _ | exact Nat.le_succ _)
      (first | exact A6 _ | exact Aq8 _ _ _ _ _ | exact Aq9 _ _ _ _ _)
      rintro e w5 ⟨a5,c5,rfl,hK5,hV5,hP5,hs5,ht5⟩;have HK5:=η hK5;have HV5:=η hV5;have HP5:=η hP5;have HS5:=η hs5;have HT5:=η ht5;clear hK5 hV5 hP5 hs5 ht5;go_wp2_with fail
      refine hK.out _ _ (λ _=>HP5.out) ?_;clear hK K;try simp only[Act.put,αs,αz,αc]
      refine A0 (i:=15) (v:=?_) rfl (by kernel_rfl) (λ _ _ _ h=>h) HP5.out (Or.inl ⟨by rfl,?_⟩) ?_;rotate_left
      ·(intro w hSw;go_simp<;>with_reducible rfl)
      try simp only[Act.put,αs,αz,αc]
      refine κr 13 (λ K hK=>?_);go_simp;refine hK.out _ _ (λ _=>?_) ?_
      ·exact Af8.below HP5.out ((Upd.refl [] _).alloc _)
      clear hK K;try simp only[Act.put,αs,αz,αc]
      refine κr 14 (λ K hK=>?_);go_simp;go_at_call 209
      (with_reducible refine(HIV.out _ _ _ _ _ HV5.out HK5.out HP5.out ?_ ?_ ?_ HS5.out).mono ?_)
      (first | exact Upd.refl [] _ | exact(Upd.refl [] _).alloc _)
      (first | exact Nat.le_refl _ | exact Nat.le_succ _ | exact HS5.out)
      (first | exact A6 _ | exact HT5.out.blk (A6 _) (.inl (by decide)) | exact HT5.out.blk (Aq8 _ _ _ _ _) (.inl (by decide)) | exact HT5.out.blk (Aq9 _ _ _ _ _) (.inl (by decide)))
      rintro e w6 ⟨a6,c6,rfl,hV6,hK6,hP6⟩;have HV6:=η hV6;have HK6:=η hK6;have HP6:=η hP6;have st1:=D9 hP6.c12 1 (v:=.slice a5 (ks.length+1) c5) (by simp) rfl;have st2:=D9 (B3 hP6.c12 1 (.slice a5 (ks.length+1) c5)) 3 (v:=.slice a6 (ds.length+1) c6) (by simp) rfl;clear hV6 hK6 hP6;go_wp2_with fail
      refine hK.out _ _ (λ _=>HP6.out) ?_;clear hK K;try simp only[Act.put,αs,αz,αc]
      refine κr 16 (λ K hK=>?_);go_simp;refine hK.out _ _ (B9 (by kernel_rfl)) ?_;clear hK K;try simp only[Act.put,αs,αz,αc]
      refine κr 17 (λ K hK=>?_);go_simp;refine hK.out _ _ (B9 (by kernel_rfl)) ?_;clear hK K;try simp only[Act.put,αs,αz,αc]
      refine κr 18 (λ K hK=>?_);go_simp;refine hK.out _ _ (B9 (by kernel_rfl)) ?_;clear hK K;try simp only[Act.put,αs,αz,αc]
      refine B1 (by kernel_rfl) ?_ _;go_wp2_with fail
      go_meet
      have hb:=B3 (B3 HP6.out.c12 1 (.slice a5 (ks.length+1) c5)) 3 (.slice a6 (ds.length+1) c6);have hu:=((Upd.refl [b12] w6).set (.slice a5 (ks.length+1) c5) (b:=b12) (o:=1) (.inl (by simp))).set (.slice a6 (ds.length+1) c6) (b:=b12) (o:=3) (.inl (by simp));exact Bi3 HN.out HOK.out.n HKe.out HDe.out hIl hb (HP6.out.store HK6.out HV6.out hu (by have:=HB12.out;have:=HBG.out;omega))
     ·go_simp;refine hK.out _ _ (λ _=>?_) ?_
      ·exact Af8.below (Af8.below hHeld ((Upd.refl [] _).alloc _)) ((Upd.refl [] _).alloc _)
      clear hK K;try simp only[Act.put,αs,αz,αc]
      refine κr 6 (λ K hK=>?_);go_simp;go_at_call 204
      (with_reducible refine(HIK.out _ _ ?_ ?_ ?_).mono ?_)
      (first | exact(Upd.refl [] _).drew.alloc _ | exact((Upd.refl [] _).drew.alloc _).alloc _)
      (first | exact Nat.le_refl _ | exact Nat.le_succ _)
      (first | exact A6 _ | exact Aq8 _ _ _ _ _ | exact Aq9 _ _ _ _ _)
      rintro e w5 ⟨a5,c5,rfl,hK5,hV5,hP5,hs5,ht5⟩;have HK5:=η hK5;have HV5:=η hV5;have HP5:=η hP5;have HS5:=η hs5;have HT5:=η ht5;clear hK5 hV5 hP5 hs5 ht5;go_wp2_with fail
      refine hK.out _ _ (λ _=>HP5.out) ?_;clear hK K;try simp only[Act.put,αs,αz,αc]
      refine A0 (i:=15) (v:=?_) rfl (by kernel_rfl) (λ _ _ _ h=>h) HP5.out (Or.inl ⟨by rfl,?_⟩) ?_;rotate_left
      ·(intro w hSw;go_simp<;>with_reducible rfl)
      try simp only[Act.put,αs,αz,αc]
      refine κr 14 (λ K hK=>?_);go_simp;go_at_call 209
      (with_reducible refine(HIV.out _ _ _ _ _ HV5.out HK5.out HP5.out ?_ ?_ ?_ HS5.out).mono ?_)
      (first | exact Upd.refl [] _ | exact(Upd.refl [] _).alloc _)
      (first | exact Nat.le_refl _ | exact Nat.le_succ _ | exact HS5.out)
      (first | exact A6 _ | exact HT5.out.blk (A6 _) (.inl (by decide)) | exact HT5.out.blk (Aq8 _ _ _ _ _) (.inl (by decide)) | exact HT5.out.blk (Aq9 _ _ _ _ _) (.inl (by decide)))
      rintro e w6 ⟨a6,c6,rfl,hV6,hK6,hP6⟩;have HV6:=η hV6;have HK6:=η hK6;have HP6:=η hP6;have st1:=D9 hP6.c12 1 (v:=.slice a5 (ks.length+1) c5) (by simp) rfl;have st2:=D9 (B3 hP6.c12 1 (.slice a5 (ks.length+1) c5)) 3 (v:=.slice a6 (ds.length+1) c6) (by simp) rfl;clear hV6 hK6 hP6;go_wp2_with fail
      refine hK.out _ _ (λ _=>HP6.out) ?_;clear hK K;try simp only[Act.put,αs,αz,αc]
      refine κr 16 (λ K hK=>?_);go_simp;refine hK.out _ _ (B9 (by kernel_rfl)) ?_;clear hK K;try simp only[Act.put,αs,αz,αc]
      refine κr 17 (λ K hK=>?_);go_simp;refine hK.out _ _ (B9 (by kernel_rfl)) ?_;clear hK K;try simp only[Act.put,αs,αz,αc]
      refine κr 18 (λ K hK=>?_);go_simp;refine hK.out _ _ (B9 (by kernel_rfl)) ?_;clear hK K;try simp only[Act.put,αs,αz,αc]
      refine B1 (by kernel_rfl) ?_ _;go_wp2_with fail
      go_meet
      have hb:=B3 (B3 HP6.out.c12 1 (.slice a5 (ks.length+1) c5)) 3 (.slice a6 (ds.length+1) c6);have hu:=((Upd.refl [b12] w6).set (.slice a5 (ks.length+1) c5) (b:=b12) (o:=1) (.inl (by simp))).set (.slice a6 (ds.length+1) c6) (b:=b12) (o:=3) (.inl (by simp));exact Bi3 HN.out HOK.out.n HKe.out HDe.out hIl hb (HP6.out.store HK6.out HV6.out hu (by have:=HB12.out;have:=HBG.out;omega))
    ·go_simp;refine hK.out _ _ (λ _=>?_) ?_
     ·exact Af8.below hHeld ((Upd.refl [] _).alloc _)
     clear hK K;try simp only[Act.put,αs,αz,αc]
     refine κr 5 (λ K hK=>?_);go_simp;refine hK.out _ _ (λ _=>?_) ?_
     ·exact Af8.below (Af8.below hHeld ((Upd.refl [] _).alloc _)) ((Upd.refl [] _).alloc _)
     clear hK K;try simp only[Act.put,αs,αz,αc]
     refine κr 6 (λ K hK=>?_);go_simp;go_at_call 204
     (with_reducible refine(HIK.out _ _ ?_ ?_ ?_).mono ?_)
     (first | exact(Upd.refl [] _).drew.alloc _ | exact((Upd.refl [] _).drew.alloc _).alloc _)
     (first | exact Nat.le_refl _ | exact Nat.le_succ _)
     (first | exact A6 _ | exact Aq8 _ _ _ _ _ | exact Aq9 _ _ _ _ _)
     rintro e w5 ⟨a5,c5,rfl,hK5,hV5,hP5,hs5,ht5⟩;have HK5:=η hK5;have HV5:=η hV5;have HP5:=η hP5;have HS5:=η hs5;have HT5:=η ht5;clear hK5 hV5 hP5 hs5 ht5;go_wp2_with fail
     refine hK.out _ _ (λ _=>HP5.out) ?_;clear hK K;try simp only[Act.put,αs,αz,αc]
     refine A0 (i:=15) (v:=?_) rfl (by kernel_rfl) (λ _ _ _ h=>h) HP5.out (Or.inl ⟨by rfl,?_⟩) ?_;rotate_left
     ·(intro w hSw;go_simp<;>with_reducible rfl)
     try simp only[Act.put,αs,αz,αc]
     refine κr 14 (λ K hK=>?_);go_simp;go_at_call 209
     (with_reducible refine(HIV.out _ _ _ _ _ HV5.out HK5.out HP5.out ?_ ?_ ?_ HS5.out).mono ?_)
     (first | exact Upd.refl [] _ | exact(Upd.refl [] _).alloc _)
     (first | exact Nat.le_refl _ | exact Nat.le_succ _ | exact HS5.out)
     (first | exact A6 _ | exact HT5.out.blk (A6 _) (.inl (by decide)) | exact HT5.out.blk (Aq8 _ _ _ _ _) (.inl (by decide)) | exact HT5.out.blk (Aq9 _ _ _ _ _) (.inl (by decide)))
     rintro e w6 ⟨a6,c6,rfl,hV6,hK6,hP6⟩;have HV6:=η hV6;have HK6:=η hK6;have HP6:=η hP6;have st1:=D9 hP6.c12 1 (v:=.slice a5 (ks.length+1) c5) (by simp) rfl;have st2:=D9 (B3 hP6.c12 1 (.slice a5 (ks.length+1) c5)) 3 (v:=.slice a6 (ds.length+1) c6) (by simp) rfl;clear hV6 hK6 hP6;go_wp2_with fail
     refine hK.out _ _ (λ _=>HP6.out) ?_;clear hK K;try simp only[Act.put,αs,αz,αc]
     refine κr 16 (λ K hK=>?_);go_simp;refine hK.out _ _ (B9 (by kernel_rfl)) ?_;clear hK K;try simp only[Act.put,αs,αz,αc]
     refine κr 17 (λ K hK=>?_);go_simp;refine hK.out _ _ (B9 (by kernel_rfl)) ?_;clear hK K;try simp only[Act.put,αs,αz,αc]
     refine κr 18 (λ K hK=>?_);go_simp;refine hK.out _ _ (B9 (by kernel_rfl)) ?_;clear hK K;try simp only[Act.put,αs,αz,αc]
     refine B1 (by kernel_rfl) ?_ _;go_wp2_with fail
     go_meet
     have hb:=B3 (B3 HP6.out.c12 1 (.slice a5 (ks.length+1) c5)) 3 (.slice a6 (ds.length+1) c6);have hu:=((Upd.refl [b12] w6).set (.slice a5 (ks.length+1) c5) (b:=b12) (o:=1) (.inl (by simp))).set (.slice a6 (ds.length+1) c6) (b:=b12) (o:=3) (.inl (by simp));exact Bi3 HN.out HOK.out.n HKe.out HDe.out hIl hb (HP6.out.store HK6.out HV6.out hu (by have:=HB12.out;have:=HBG.out;omega))
   case rest=>
    rename World=>wy
    obtain⟨a,c,a',c',h12,hK,hD,hsp,hu,h10,hKn,hDn⟩:=hcut;have hk32:=HKD.out.1;have hd32:=HKD.out.2;by_cases hn:n<=13
    ·have hlt:decide ((n:Int)<=13)=true:=decide_eq_true (by omega);have hok2:G0 K D:=⟨hk32,hd32,by omega,by omega⟩;have hWR:=Aj0 hsp (vv:=.slice none 0 0) (C3.rd hK hk32) (D8.rd hD) hok2 at_ hat hat2 (.inr (by have:=HCN.out.1;omega));have l12:=A7 (n:=4) (cs:=[.int .i64 2,.slice a n c,.slice none 0 0,.slice a' (n+1) c']) h12 rfl;have m1:=A4 h12 1;have HWR:=η hWR;have H10':=η h10;have HUz:=η hu;have HPA:=η (HROOM.out (by have:=HN.out;omega));clear hk32 hd32 hK hD h12 hsp hu h10 hok2 hWR hKn hDn hn;go_wp2_with fail
     refine HWR.out.mono ?_;rintro e w5 ⟨rfl,h5,hu5⟩;have h10:=(hu5.block _ (A2 H10'.out) (Sg.notw HO10.out)).trans H10'.out;have s10:=C7 h10 (l:=K4 none) (by rw[List.size_toArray]) (V5 _);have HU5:=η (HUz.out.trans (hu5.mono g.memw));have H5:=η h5;clear hu5 h5;have hz9:(K4 none).length=34:=M4 _ (by simp);go_wp2_with fail
     refine bodyPost_ret (C5 (p:=10) (u:=11) (ty:=228) (by rfl) _ _ b10 _ (by rfl) (run_loadVar_row _ b10 _ _ _ _ _ (setRow_heap _ _ _ _ _ _ h10) Tryz.underlying228 rfl (Ac6 (o:=none) (by simp)))) (by rfl) ?_;have he:=Ak9 H5.out h10 (by have:=HB.out.2.2;omega) ((HUA.out.mono (by simp)).trans HU5.out) (K4 none).toArray;exact⟨_,none,rfl,HPA.out,he.1,he.2⟩
    ·have hn13:ks.length=13:=by have:=HN.out;have:=HOK.out.most;omega
     obtain rfl:n=14:=by have:=HN.out;omega
     obtain⟨gk,ck2,ek,_,hck,_,hgk⟩:=F3 hK (by omega);obtain⟨gv,cv2,ev,_,hcv,_,hgv⟩:=F3 hD (by omega);injection ek with e1 e2 e3;clear e2;subst e1;obtain rfl:=e3.symm;injection ev with e1 e2 e3;clear e2;subst e1;obtain rfl:=e3.symm;rw[hKn] at hck;rw[hDn] at hcv;have HNS:Hid (gk∉g.S/\gv∉g.S):=by
      show _/\_
      obtain⟨_,q1⟩:=hgk;obtain⟨_,q2⟩:=hgv;exact⟨hsp.other9 q1 (.inr (.inr (.inl rfl))),hsp.other9 q2 (.inr (.inr (.inr (.inr rfl))))⟩
     obtain⟨k7,hk7⟩:∃k7,K[7]?=some k7:=⟨_,List.getElem?_eq_getElem (by omega)⟩;have HK7:=η hk7;have hk732:=hk32 k7 (List.mem_of_getElem? hk7);have HK732:=η hk732;have HM:Hid (O7 g M1 wA b10 b12 #[.int .i64 2,.slice (some ⟨gk,0,none⟩) 14 ck2,.slice none 0 0,.slice (some ⟨gv,0,none⟩) 15 cv2] (.slice (some ⟨gk,0,none⟩) 14 ck2) K (λ w=>D8 w wA.heap.size (.slice (some ⟨gv,0,none⟩) 15 cv2) D) wy):=by
      show O7 _ _ _ _ _ _ _ _ _ _
      exact⟨h12,hK,hD,hsp,hu,h10⟩
     have HKn:=η hKn;have HDn:=η hDn;have HC1:Hid (∀w',O7 g M1 wA b10 b12 #[.int .i64 2,.slice (some ⟨gk,0,none⟩) 14 ck2,.slice none 0 0,.slice (some ⟨gv,0,none⟩) 15 cv2] (.slice (some ⟨gk,0,none⟩) 14 ck2) K (λ w=>D8 w wA.heap.size (.slice (some ⟨gv,0,none⟩) 15 cv2) D) w'->Calls Tryz.prog 206 #[.slice (some ⟨gk,256,none⟩) 6 (ck2-8)] w' λ e w5=>∃a c,e=.returned (.slice a 6 c)/\C3 w5 wA.heap.size (.slice a 6 c) (K.drop 8)/\Upd [] w' w5):=by
      show ∀w',_
      exact λ w' h=>Al0 h.k hk32 8 6 256 _ (by omega) rfl (by omega) (by omega) h.upd.size
     have HC2:Hid (∀w',O7 g M1 wA b10 b12 #[.int .i64 2,.slice (some ⟨gk,0,none⟩) 14 ck2,.slice none 0 0,.slice (some ⟨gv,0,none⟩) 15 cv2] (.slice (some ⟨gk,0,none⟩) 14 ck2) K (λ w=>D8 w wA.heap.size (.slice (some ⟨gv,0,none⟩) 15 cv2) D) w'->Calls Tryz.prog 210 #[.slice (some ⟨gv,8,none⟩) 7 (cv2-8)] w' λ e w5=>∃a c,e=.returned (.slice a 7 c)/\D8 w5 wA.heap.size (.slice a 7 c) (D.drop 8)/\Upd [] w' w5):=by
      show ∀w',_
      exact λ w' h=>Ca0 h.r 8 7 _ (by omega) (by omega) (by omega) h.upd.size
     have i21:(14:Int)<=(ck2:Int):=by omega
     have i22:(15:Int)<=(cv2:Int):=by omega
     have i23:¬(ck2=8):=by omega
     have i24:¬(cv2=8):=by omega
     have i25:(7:Int)<=(ck2:Int):=by omega
     have i26:(8:Int)<=(cv2:Int):=by omega
     have bn:=At7;have w8:IntKind.i64.wrap 8=8:=by rw[IntKind.wrap_i64];rfl
     have m1:=A4 h12 1;clear hk32 hd32 hK hD h12 hsp hu h10 hKn hDn hn hck hcv hgk hgv hk7 hk732;go_upto_region 25 with(fail)
     go_cut [20] (λ s20 wq=>Cl9 g M1 wA b10 b12 #[.int .i64 2,.slice (some ⟨gk,0,none⟩) 14 ck2,.slice none 0 0,.slice (some ⟨gv,0,none⟩) 15 cv2] (.slice (some ⟨gk,0,none⟩) 14 ck2) K (λ w=>D8 w wA.heap.size (.slice (some ⟨gv,0,none⟩) 15 cv2) D) (λ a4 c4 a5 c5=>[.int .i64 2,.slice a4 6 c4,.slice none 0 0,.slice a5 7 c5]) 6 (K.drop 8) (λ a5 c5 w=>D8 w wA.heap.size (.slice a5 7 c5) (D.drop 8)) s20 wq)
     case first=>
      refine B6 (O7 g M1 wA b10 b12 #[.int .i64 2,.slice (some ⟨gk,0,none⟩) 14 ck2,.slice none 0 0,.slice (some ⟨gv,0,none⟩) 15 cv2] (.slice (some ⟨gk,0,none⟩) 14 ck2) K (λ w=>D8 w wA.heap.size (.slice (some ⟨gv,0,none⟩) 15 cv2) D)) [14] (by kernel_rfl) (HM.out.below D8.below (Upd.refl [] _).drew) (λ hHeld=>?_);refine κt 0 ?_ hHeld ?_ ?_;rotate_left
      ·(intro w hSw;go_simp<;>with_reducible rfl)
      try try simp only[Act.put,αs,αz,αc]
      refine κt 1 ?_ hHeld ?_ ?_;rotate_left
      ·(intro w hSw;have hc1:=A4 hSw.c12 1;have hc2:=A4 hSw.c12 3;go_simp<;>with_reducible rfl)
      try try simp only[Act.put,αs,αz,αc]
      refine κt 2 ?_ hHeld ?_ ?_;rotate_left
      ·(intro w hSw;go_simp<;>with_reducible rfl)
      try try simp only[Act.put,αs,αz,αc]
      refine κt 3 ?_ hHeld ?_ ?_;rotate_left
      ·(intro w hSw;go_simp<;>with_reducible rfl)
      try try simp only[Act.put,αs,αz,αc]
      refine κt 4 ?_ hHeld ?_ ?_;rotate_left
      ·(intro w hSw;go_simp<;>with_reducible rfl)
      try try simp only[Act.put,αs,αz,αc]
      refine κt 6 ?_ hHeld ?_ ?_;rotate_left
      ·(intro w hSw;go_simp<;>with_reducible rfl)
      try try simp only[Act.put,αs,αz,αc]
      refine κt 7 ?_ hHeld ?_ ?_;rotate_left
      ·(intro w hSw;have hc1:=A4 hSw.c12 1;have hc2:=A4 hSw.c12 3;go_simp<;>with_reducible rfl)
      try try simp only[Act.put,αs,αz,αc]
      refine κt 8 ?_ hHeld ?_ ?_;rotate_left
      ·(intro w hSw;go_simp<;>with_reducible rfl)
      try try simp only[Act.put,αs,αz,αc]
      refine κt 9 ?_ hHeld ?_ ?_;rotate_left
      ·(intro w hSw;go_simp<;>with_reducible rfl)
      try try simp only[Act.put,αs,αz,αc]
      refine κt 10 ?_ hHeld ?_ ?_;rotate_left
      ·(intro w hSw;go_simp<;>with_reducible rfl)
      try try simp only[Act.put,αs,αz,αc]
      refine A3 (rs:=[5,13]) (by kernel_rfl) (by simp) (A5.cons (A5.one rfl (λ K hK=>?_)) (A5.one rfl (λ K hK=>?_)))
      ·go_simp;go_at_call 206
       (with_reducible refine(HC1.out _ ?_).mono ?_)
       ·exact hHeld
       rintro e w5 ⟨a4,c4,rfl,hk4,hu4⟩;have HK4:=η hk4;have HU4:=η hu4;have hM4:=O7.below hHeld D8.below hu4;have HM4:=η hM4;clear hk4 hu4 hM4;go_wp2_with fail
       refine hK.out _ _ (λ _=>HM4.out) ?_;clear hK K;try try simp only[Act.put,αs,αz,αc]
       refine A3 (rs:=[11,13]) (by kernel_rfl) (by simp) (A5.cons (A5.one rfl (λ K hK=>?_)) (A5.one rfl (λ K hK=>?_)))
       ·go_simp;go_at_call 210
        (with_reducible refine(HC2.out _ ?_).mono ?_)
        ·exact HM4.out
        rintro e w6 ⟨a5,c5,rfl,hk5,hu5⟩;have HK5:=η hk5;have HU5:=η hu5;have hM5:=O7.below HM4.out D8.below hu5;have HM5:=η hM5;clear hk5 hu5 hM5;go_wp2_with fail
        refine hK.out _ _ (λ _=>HM5.out) ?_;clear hK K;try try simp only[Act.put,αs,αz,αc]
        refine A0 (i:=12) (v:=?_) rfl (by kernel_rfl) (λ _ _ _ h=>h) HM5.out (Or.inl ⟨by rfl,?_⟩) ?_;rotate_left
        ·(intro w hSw;go_simp<;>with_reducible rfl)
        try simp only[Act.put,αs,αz,αc]
        refine κr 13 (λ K hK=>?_);go_simp;refine hK.out _ _ (λ _=>O7.below HM5.out D8.below ((Upd.refl [] _).alloc _)) ?_;clear hK K;try try simp only[Act.put,αs,αz,αc]
        refine κr 14 (λ K hK=>?_);go_simp;refine hK.out _ _ (B9 (by kernel_rfl)) ?_;clear hK K;try try simp only[Act.put,αs,αz,αc]
        refine B1 (by kernel_rfl) ?_ _;go_wp2_with fail
        go_meet
        exact Bn3 HM5.out (HK4.out.below HU5.out) HK5.out D8.below D8.below
       ·go_simp;refine hK.out _ _ (λ _=>O7.below HM4.out D8.below ((Upd.refl [] _).alloc _)) ?_;clear hK K;try try simp only[Act.put,αs,αz,αc]
        have hM1:=O7.below HM4.out D8.below ((Upd.refl [] _).alloc (.cells #[.int .i64 0,.slice none 0 0,.slice none 0 0,.slice none 0 0] 220));refine κr 11 (λ K hK=>?_);go_simp;go_at_call 210
        (with_reducible refine(HC2.out _ ?_).mono ?_)
        ·exact hM1
        rintro e w6 ⟨a5,c5,rfl,hk5,hu5⟩;have HK5:=η hk5;have HU5:=η hu5;have hM5:=O7.below hM1 D8.below hu5;have HM5:=η hM5;clear hk5 hu5 hM5;go_wp2_with fail
        refine hK.out _ _ (λ _=>HM5.out) ?_;clear hK K;try try simp only[Act.put,αs,αz,αc]
        refine A0 (i:=12) (v:=?_) rfl (by kernel_rfl) (λ _ _ _ h=>h) HM5.out (Or.inl ⟨by rfl,?_⟩) ?_;rotate_left
        ·(intro w hSw;go_simp<;>with_reducible rfl)
        try simp only[Act.put,αs,αz,αc]
        have h16:=((HU5.out).block w5.heap.size (by simp) (by simp)).trans (A6 (w:=w5) (.cells #[.int .i64 0,.slice none 0 0,.slice none 0 0,.slice none 0 0] 220));have s16:=C7 h16 (l:=[.int .i64 2,.slice a4 6 c4,.slice none 0 0,.slice a5 7 c5]) rfl (by intro u hu;simp at hu;rcases hu with rfl | rfl | rfl | rfl<;>rfl)
        have H16:=η h16;clear h16;refine κr 14 (λ K hK=>?_);go_simp;refine hK.out _ _ (B9 (by kernel_rfl)) ?_;clear hK K;try try simp only[Act.put,αs,αz,αc]
        refine B1 (by kernel_rfl) ?_ _;go_wp2_with fail
        go_meet
        exact Ao9 HM5.out ((HK4.out.below ((Upd.refl [] _).alloc _)).below HU5.out) HK5.out D8.node D8.node H16.out (A2 HM4.out.c12) HM4.out.upd.size
      ·go_simp;refine hK.out _ _ (λ _=>O7.below hHeld D8.below ((Upd.refl [] _).alloc _)) ?_;clear hK K;try try simp only[Act.put,αs,αz,αc]
       have hM1:=O7.below hHeld D8.below ((Upd.refl [] _).alloc (.cells #[.int .i64 0,.slice none 0 0,.slice none 0 0,.slice none 0 0] 220));refine κr 5 (λ K hK=>?_);go_simp;go_at_call 206
       (with_reducible refine(HC1.out _ ?_).mono ?_)
       ·exact hM1
       rintro e w5 ⟨a4,c4,rfl,hk4,hu4⟩;have HK4:=η hk4;have HU4:=η hu4;have hM4:=O7.below hM1 D8.below hu4;have HM4:=η hM4;clear hk4 hu4 hM4;go_wp2_with fail
       refine hK.out _ _ (λ _=>HM4.out) ?_;clear hK K;try try simp only[Act.put,αs,αz,αc]
       refine κr 11 (λ K hK=>?_);go_simp;go_at_call 210
       (with_reducible refine(HC2.out _ ?_).mono ?_)
       ·exact HM4.out
       rintro e w6 ⟨a5,c5,rfl,hk5,hu5⟩;have HK5:=η hk5;have HU5:=η hu5;have hM5:=O7.below HM4.out D8.below hu5;have HM5:=η hM5;clear hk5 hu5 hM5;go_wp2_with fail
       refine hK.out _ _ (λ _=>HM5.out) ?_;clear hK K;try try simp only[Act.put,αs,αz,αc]
       refine A0 (i:=12) (v:=?_) rfl (by kernel_rfl) (λ _ _ _ h=>h) HM5.out (Or.inl ⟨by rfl,?_⟩) ?_;rotate_left
       ·(intro w hSw;go_simp<;>with_reducible rfl)
       try simp only[Act.put,αs,αz,αc]
       have h16:=((HU4.out.trans HU5.out).block wy.heap.size (by simp) (by simp)).trans (A6 (w:=wy.drew) (.cells #[.int .i64 0,.slice none 0 0,.slice none 0 0,.slice none 0 0] 220));have s16:=C7 h16 (l:=[.int .i64 2,.slice a4 6 c4,.slice none 0 0,.slice a5 7 c5]) rfl (by intro u hu;simp at hu;rcases hu with rfl | rfl | rfl | rfl<;>rfl)
       have H16:=η h16;clear h16;refine κr 14 (λ K hK=>?_);go_simp;refine hK.out _ _ (B9 (by kernel_rfl)) ?_;clear hK K;try try simp only[Act.put,αs,αz,αc]
       refine B1 (by kernel_rfl) ?_ _;go_wp2_with fail
       go_meet
       exact Ao9 HM5.out (HK4.out.below HU5.out) HK5.out D8.node D8.node H16.out (A2 HM.out.c12) HM.out.upd.size
     case rest=>
      rename World=>wq
      obtain⟨b16,a4,c4,a5,c5,rfl,hlt,hB16,h16,hk4,hv5,hMy⟩:=hcut;obtain⟨g4,c4',e4,_,_,hcell4,hg4⟩:=F3 hk4 (by have:=HKn.out;simp;omega);obtain⟨g5,c5',e5,_,_,hcell5,hg5⟩:=F3 hv5 (by have:=HDn.out;simp;omega);injection e4 with e1 e2 e3;clear e2;subst e1 e3;injection e5 with e1 e2 e3;clear e2;subst e1 e3;have hk732:=HK732.out;have r7:wq.rangeAt gk 224 (bts k7):=by
       obtain⟨b,off,e,hr⟩:=(C3.rd hMy.k HKD.out.1).at (i:=7) (e:=bts k7) (by rw[List.getElem?_map,HK7.out];rfl);cases e
       simpa using hr
      have l7:=B2 r7 hk732;have so7:=K3 wq hk732;obtain⟨wo,hwo⟩:∃wo,wo=wq.alloc (.cells (bts k7).toArray 35):=⟨_,rfl⟩;rw[← hwo] at so7;obtain⟨b21,hb21⟩:∃b,b=wq.heap.size:=⟨_,rfl⟩;rw[← hb21] at so7;have huo:Upd [] wq wo:=by rw[hwo];exact(Upd.refl _ _).alloc _
      have c21:wo.heap[b21]?=some (.cells (bts k7).toArray 35 (0,0)):=by rw[hwo,hb21];exact A6 _
      have hlt21:b12<b21:=by rw[hb21];exact A2 hMy.c12
      have h16:=(huo.block _ (A2 h16) (by simp)).trans h16;have hk4:=C3.below hk4 huo;have hv5:=D8.below hv5 huo;have hg4:∃c,wo.heap[g4]?=some (.cells c 35 (0,0)):=by obtain⟨c,q⟩:=hg4;exact⟨c,(huo.block _ (A2 q) (by simp)).trans q⟩
      have hg5:∃c,wo.heap[g5]?=some (.cells c 79 (0,0)):=by obtain⟨c,q⟩:=hg5;exact⟨c,(huo.block _ (A2 q) (by simp)).trans q⟩
      have hMq:=O7.below hMy D8.below huo;have hsp:=hMq.sp;have hn4:g4∉g.S:=by obtain⟨_,q⟩:=hg4;exact hsp.other9 q (.inr (.inr (.inl rfl)))
      have hn5:g5∉g.S:=by obtain⟨_,q⟩:=hg5;exact hsp.other9 q (.inr (.inr (.inr (.inr rfl))))
      obtain⟨wy1,hwy1⟩:∃wy1,wy1=wo.drew.setCell ⟨b12,1,none⟩ (.slice (some ⟨gk,0,none⟩) 7 ck2):=⟨_,rfl⟩;obtain⟨w9,hw9⟩:∃w9,w9=wy1.setCell ⟨b12,3,none⟩ (.slice (some ⟨gv,0,none⟩) 8 cv2):=⟨_,rfl⟩;have st1:=D9 (w:=wo.drew) hMq.c12 1 (v:=.slice (some ⟨gk,0,none⟩) 7 ck2) (by simp) rfl;have st2:=D9 (w:=wy1) (by rw[hwy1];exact B3 (w:=wo.drew) hMq.c12 1 (.slice (some ⟨gk,0,none⟩) 7 ck2)) 3 (v:=.slice (some ⟨gv,0,none⟩) 8 cv2) (by simp) rfl;rw[← hwy1] at st1;rw[← hw9] at st2;have hu9:Upd [b12] wo w9:=by rw[hw9,hwy1];exact((Upd.refl [b12] _).drew.set _ (.inl (by simp))).set _ (.inl (by simp))
      have h12:=B3 (B3 (w:=wo.drew) hMq.c12 1 (.slice (some ⟨gk,0,none⟩) 7 ck2)) 3 (.slice (some ⟨gv,0,none⟩) 8 cv2);rw[← hwy1,← hw9] at h12;have hk9:=C3.node _ _ _ _ hMq.k hMq.c12 hu9;have hv9:=D8.node _ _ _ _ hMq.r hMq.c12 hu9;have hk49:=C3.node _ _ _ _ hk4 hMq.c12 hu9;have hv59:=D8.node _ _ _ _ hv5 hMq.c12 hu9;have h169:=(hu9.block b16 (A2 h16) (by simp;omega)).trans h16;have h219:=(hu9.block b21 (A2 c21) (by simp;omega)).trans c21;have hB12:wA.heap.size<=b12:=by have:=HB12.out;have:=HBG.out;omega
      have h10n:b10≠b12:=by have:=HBB.out.2.2;omega
      have hsp9:=hsp.turned9 (S:=[b12]) (λ x hx=>by simp at hx;subst hx;exact⟨_,_,_,hMq.c12,.inr (.inl rfl)⟩) hu9;have hup9:=hMq.upd.late hu9 (λ x hx=> .inr (by simp at hx;subst hx;exact hB12));have h109:=(hu9.block b10 (A2 hMq.c10) (by simpa using h10n)).trans hMq.c10;have hok1:G0 (K.take 7) (D.take 8):=⟨λ x q=>HKD.out.1 x (List.mem_of_mem_take q),λ x q=>HKD.out.2 x (List.mem_of_mem_take q),by rw[List.length_take,List.length_take,HKn.out,HDn.out];rfl,by rw[List.length_take,HKn.out];omega⟩;have hok2:G0 (K.drop 8) (D.drop 8):=⟨λ x q=>HKD.out.1 x (List.mem_of_mem_drop q),λ x q=>HKD.out.2 x (List.mem_of_mem_drop q),by rw[List.length_drop,List.length_drop,HKn.out,HDn.out],by rw[List.length_drop,HKn.out];omega⟩;have hNX:L7 g.S w9 2 (.slice (some ⟨gk,0,none⟩) 7 ck2) (.slice none 0 0) (.slice (some ⟨gv,0,none⟩) 8 cv2) (B5 (K.take 7) (D.take 8)):=
       ⟨λ a l c e=>by cases e;exact HNS.out.1,λ a l c e=>by simp at e,λ a l c e=>by cases e;exact HNS.out.2,.inr ⟨_,_,rfl,by rw[List.map_take];exact(C3.rd hk9 HKD.out.1).take (by rw[List.length_map,HKn.out];omega),(D8.rd hv9).take (by rw[HDn.out];omega),hok1,rfl⟩⟩
      have hNY:L7 g.S w9 2 (.slice (some ⟨g4,0,none⟩) 6 c4) (.slice none 0 0) (.slice (some ⟨g5,0,none⟩) 7 c5) (B5 (K.drop 8) (D.drop 8)):=
       ⟨λ a l c e=>by cases e;exact hn4,λ a l c e=>by simp at e,λ a l c e=>by cases e;exact hn5,.inr ⟨_,_,rfl,C3.rd hk49 hok2.k,D8.rd hv59,hok2,rfl⟩⟩
      have hcn:∀s,F2 (Q5 g M1 s) g.h=F2 M1 g.h+c1M M1:=λ s=>Ao8 s hsp.ok HRES.out.2.2.1;have hmo:∀s,MOk (Q5 g M1 s) g.h:=λ s=>Av1 hsp s HRES.out.2.2.1;have hx512:=J6 hok1 (k:=(K.take 7).length) (Nat.le_refl _);have hPC:=Be4 (w:=w9) hsp9 HRES.out.2.2.1 HRES.out.2.2.2 hNX hNY at_ hat k7 hk732 (by have:=HCN.out.2;omega) (.inr (by have:=HCN.out.1;omega)) (λ s _ hs _=> .inr (by rw[hcn s];have:=HCN.out.1;omega))
       (λ s _ hs _=>by have:=T4 (x:=B5 (K.take 7) (D.take 8)) (hmo s) hat;rw[hcn s] at this;have:=HCN.out.1;omega)
      unfold arr at hPC;have HPC:=η hPC;have HPT:Hid (∀s,4<=s->s<g.h->g.Fr M1 s->U7 g M (F1 (F1 (Q5 g M1 s) at_ (B5 (K.take 7) (D.take 8))) s (B5 (K.drop 8) (D.drop 8))) root (d+1) at_ l S key v (some (k7,s))):=by
       show ∀s,_
       exact λ s h4 hs hT=>HPART.out hn13 k7 s HK7.out h4 hs hT (hmo s) (Ah4 (hmo s) hat hx512)
      have l12:=A7 (n:=4) (cs:=[.int .i64 2,.slice (some ⟨gk,0,none⟩) 7 ck2,.slice none 0 0,.slice (some ⟨gv,0,none⟩) 8 cv2]) h12 rfl;have l16:=A7 (n:=4) (cs:=[.int .i64 2,.slice (some ⟨g4,0,none⟩) 6 c4,.slice none 0 0,.slice (some ⟨g5,0,none⟩) 7 c5]) h169 rfl;have l21:=A7 (n:=32) h219 (by rw[A8,hk732]);have HU9:=η hup9;have H109:=η h109;have HM9:=η hMq;have m12:=A4 hMy.c12 1;have HB21:=η hb21;rw[hb21] at so7;clear hok1 hok2 hNX hNY hcn hmo hx512 hPC h12 hk9 hv9 hk49 hv59 h169 h219 hsp9 hup9 h109 hu9 hcell4 hcell5 hg4 hg5 hk4 hv5 h16 hMy hMq hw9 hwy1 hn4 hn5 hn13 hB12 h10n hsp r7 hwo huo c21 hlt21 hb21;go_wp2_with fail
      have hb21:=HB21.out;rw[← hb21];clear hb21;refine B6 (λ w'=>w'.heap[b12]?=some (.cells #[.int .i64 2,.slice (some ⟨gk,0,none⟩) 14 ck2,.slice none 0 0,.slice (some ⟨gv,0,none⟩) 15 cv2] 220 (0,0))) [10] (by kernel_rfl) HM9.out.c12 (λ hHeld=>?_);refine κt 0 ?_ hHeld ?_ ?_;rotate_left
      ·(intro w hSw;go_simp<;>with_reducible rfl)
      try try simp only[Act.put,αs,αz,αc]
      refine κt 1 ?_ hHeld ?_ ?_;rotate_left
      ·(intro w hSw;have hc1:=A4 hSw 1;have hc2:=A4 hSw 3;go_simp<;>with_reducible rfl)
      try try simp only[Act.put,αs,αz,αc]
      refine κt 2 ?_ hHeld ?_ ?_;rotate_left
      ·(intro w hSw;go_simp<;>with_reducible rfl)
      try try simp only[Act.put,αs,αz,αc]
      refine κt 3 ?_ hHeld ?_ ?_;rotate_left
      ·(intro w hSw;go_simp<;>with_reducible rfl)
      try try simp only[Act.put,αs,αz,αc]
      refine κt 4 ?_ hHeld ?_ ?_;rotate_left
      ·(intro w hSw;go_simp<;>with_reducible rfl)
      try try simp only[Act.put,αs,αz,αc]
      refine κt 5 ?_ hHeld ?_ ?_;rotate_left
      ·(intro w hSw;have hc1:=A4 hSw 1;have hc2:=A4 hSw 3;go_simp<;>with_reducible rfl)
      try try simp only[Act.put,αs,αz,αc]
      refine Ab1 (i:=6) (v:=?_) rfl (by kernel_rfl) (λ _ _ _ h=>h) (λ _=>hHeld) (Or.inl ⟨by rfl,?_⟩) ?_;rotate_left
      ·(intro w hSw;go_simp<;>with_reducible rfl)
      try try simp only[Act.put,αs,αz,αc]
      refine Ab1 (i:=7) (v:=?_) rfl (by kernel_rfl) (λ _ _ _ h=>h) (λ _=>hHeld) (Or.inl ⟨by rfl,?_⟩) ?_;rotate_left
      ·(intro w hSw;go_simp<;>with_reducible rfl)
      try try simp only[Act.put,αs,αz,αc]
      refine Ab1 (i:=8) (v:=?_) rfl (by kernel_rfl) (λ _ _ _ h=>h) (λ _=>hHeld) (Or.inl ⟨by rfl,?_⟩) ?_;rotate_left
      ·(intro w hSw;go_simp<;>with_reducible rfl)
      try try simp only[Act.put,αs,αz,αc]
      refine κt 9 ?_ hHeld ?_ ?_;rotate_left
      ·(intro w hSw;go_simp<;>with_reducible rfl)
      try try simp only[Act.put,αs,αz,αc]
      refine κr 10 (λ K hK=>?_);go_simp;refine hK.out _ _ (B9 (by kernel_rfl)) ?_;clear hK K;try try simp only[Act.put,αs,αz,αc]
      refine κr 11 (λ K hK=>?_);go_simp;refine hK.out _ _ (B9 (by kernel_rfl)) ?_;clear hK K;try try simp only[Act.put,αs,αz,αc]
      refine κr 12 (λ K hK=>?_);go_simp;refine hK.out _ _ (B9 (by kernel_rfl)) ?_;clear hK K;try try simp only[Act.put,αs,αz,αc]
      refine B1 (by kernel_rfl) ?_ _;go_wp2_with fail
      refine HPC.out.mono ?_;rintro e w7 ⟨s,hs4,hsh,hsT,rfl,h7,hu7⟩;have HPA:=η (HPT.out s hs4 hsh hsT);have HU7:=η (HU9.out.trans hu7);have h10:=(hu7.block b10 (A2 H109.out) HO10.out).trans H109.out;have hz9:(K4 (some (k7,s))).length=34:=M4 _ (by intro x y e;cases e;exact HK732.out);have s10:=C7 h10 (l:=K4 (some (k7,s))) (by rw[List.size_toArray,M4 _ (by intro k b e;cases e;exact HK732.out),M4 _ (by simp)]) (V5 _);have H7:=η h7;have H107:=η h10;clear hu7 h7 h10 hs4 hsh hsT;unfold Az5;go_wp2_with fail
      refine bodyPost_ret (C5 (p:=10) (u:=11) (ty:=228) (by rfl) _ _ b10 _ (by rfl) (run_loadVar_row _ b10 _ _ _ _ _ (setRow_heap _ _ _ _ _ _ H107.out) Tryz.underlying228 rfl (Ac6 (o:=some (k7,s)) (by intro k b e;cases e;exact HK732.out)))) (by rfl) ?_;have he:=Ak9 H7.out H107.out (by have:=HB.out.2.2;omega) ((HUA.out.mono (by simp)).trans HU7.out) (K4 (some (k7,s))).toArray;exact⟨_,some (k7,s),rfl,HPA.out,he.1,he.2⟩
end
end Go.Proofs.YtgfbepakonjbnaaGreat
end
