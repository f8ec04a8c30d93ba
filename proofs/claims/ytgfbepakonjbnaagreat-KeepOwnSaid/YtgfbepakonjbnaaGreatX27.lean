/-
  tree.Put.
-/
import Derived.Test.YtgfbepakonjbnaaGreatX26
import Derived.Test.YtgfbepakonjbnaaGreatX20
import Derived.Test.YtgfbepakonjbnaaGreatX23
set_option maxRecDepth 100000
set_option maxHeartbeats 16000000
section
set_option linter.unusedSimpArgs false
set_option linter.unusedVariables false
namespace Go.Proofs.YtgfbepakonjbnaaGreat
open Go.RowKit Go.MapKept Go.ChangeMaps
section
theorem Bx2:∀(d:Nat) {w:World} {g:Sg} {M:Nat->Option Sec} (_:B7 w g M) {root:Bool} {a:Nat} {l:List C0} {S:List Nat} (_:F6 (g.cur M) root d a l S) (_:Z1 g M S) (key v:Bs) (_:key.length=32) (_:v.length=16) (deep:Int) (_:(d:Int)+1<=deep) (_:deep<=16) (_:1<g.h) (_:g.h<=4096) (_:(E1 M g.h+c1M M+(2*d+2)<=40/\d+1<=L6 (g.T M) g.h)∨(d=0/\l.length<=8/\E1 M g.h<40)),
  Calls Tryz.prog 131 #[.pointer (some ⟨g.x.tb,0,none⟩),.int .u32 (a:Int),arr key,arr v,.int .i64 deep] w (Bb1 g M root d a l S key v w)
 | 0,w,g,M,h,root,a,l,S,hs,hh,key,v,hkey,hv,deep,hd0,hd1,hh1,hh2,hres=>by
  have hlow:=hh.low a hs.mem.1;have hlt:=hs.mem.2;have hd:(deep == 0)=false:=by rw[beq_eq_false_iff_ne];omega
  cases ht:Q4 (l.map (·.1)) key
  ·exact Ct1 h a hlow.2 hlt hs.2.2.1 hs.2.2.2.1 key v hkey hv deep hd ht rfl hh1 hh2 (.inr (by omega)) (λ q=>by rw[List.length_map] at q;omega) rfl rfl
    (λ hr=>Cc5 hs hh h.ok hkey hv ht hr)
    (λ hr k' s hk' h4 hsh hT ho1 ho2=>Cc6 hs hh h.ok (h.cur_len 1) hh1 hh2 hkey hv ht hr rfl rfl hk' h4 hsh hT ho1 ho2)
  ·refine(Ck2 h a hlow.2 hlt hs.2.2.1 hs.2.2.2.1 key v hkey hv deep hd (.inr (by omega)) ht rfl).mono λ e w' ⟨e1,e2,e3⟩=>?_;exact⟨_,none,e1,Bw7 hs hh h.ok hkey hv ht,e2,e3⟩
 | d+1,w,g,M,h,root,a,l,S,hs,hh,key,v,hkey,hv,deep,hd0,hd1,hh1,hh2,hres=>by
  have hlow:=hh.low a hs.mem.1;have hlt:=hs.mem.2;obtain⟨ks,ds,kid,lc,Sc,hA⟩:=hs.at (key:=key) (v:=v) hh;refine Cx9 h a hlow.2 hlt hA.ok hA.enc key v hkey hv deep (by omega) hd1 hA hh1 hh2 (by omega) (by omega) (λ w' h'=>?_);exact Bx2 d h' hA.shape hA.held key v hkey hv (deep-1) (by omega) (by omega) hh1 hh2 (.inl ⟨by omega,by omega⟩)
attribute [-go_sem] loadCells storeCells Instr.build Instr.buildSlice
theorem Bx3(a a':Option Addr)(n c n' c':Nat)(w:World):(Instr.build 220 #[(0,.int .i64 1),(1,.slice a n c),(2,.slice a' n' c')]).run Tryz.prog w=.ok (.agg #[.int .i64 1,.slice a n c,.slice a' n' c',.slice none 0 0]) w:=run_build w _ _ _ (by kernel_rfl)
theorem Bi2(a b:Int)(w:World):(Instr.buildSlice 218 2 #[(0,.int .u32 a),(1,.int .u32 b)]).run Tryz.prog w=.ok (.slice (some ⟨w.heap.size,0,none⟩) 2 2) (w.alloc (.cells #[.int .u32 a,.int .u32 b] 79)):=by kernel_rfl
theorem Bx4{w:World}{b:Nat}{key:Bs}(hk:key.length=32)(h:w.heap[b]?=some (.cells (bts key).toArray 35 (0,0))):F5 w b (.slice (some ⟨b,0,none⟩) 1 1) [key]:=by
 refine⟨by simp[hk],.inr ⟨b,1,_,rfl,Nat.le_refl _,h,Nat.le_refl _,by decide,by simp[hk],?_⟩⟩;simp only[List.length_cons,List.length_nil,List.map_cons,List.map_nil,List.flatten_cons,List.flatten_nil,List.append_nil];exact List.take_of_length_le (by rw[A5,hk];omega)
theorem Ct4{w:World}{b:Nat}{key:Bs}(hk:key.length=16)(h:w.heap[b]?=some (.cells (bts key).toArray 115 (0,0))):G7 w b (.slice (some ⟨b,0,none⟩) 1 1) [key]:=by
 refine⟨by simp[hk],.inr ⟨b,1,_,rfl,Nat.le_refl _,h,Nat.le_refl _,by decide,by simp[hk],?_⟩⟩;simp only[List.length_cons,List.length_nil,List.map_cons,List.map_nil,List.flatten_cons,List.flatten_nil,List.append_nil];exact List.take_of_length_le (by rw[A5,hk];omega)
theorem Ct5{w:World}{k a b:Nat}(h:w.heap[k]?=some (.cells #[.int .u32 (a:Int),.int .u32 (b:Int)] 79 (0,0))):G0 w k (.slice (some ⟨k,0,none⟩) 2 2) [a,b]:=
 ⟨rfl,.inr ⟨k,2,_,rfl,Nat.le_refl _,h,Nat.le_refl _,by decide,rfl,rfl⟩⟩
theorem Ck8{w:World}{g:Sg}{M:Nat->Option Sec}(h:B7 w g M)(hh1:1<g.h)(hh2:g.h<=4096)(key v:Bs)(hkey:key.length=32)(hv:v.length=16)(hres:E1 M g.h+c1M M+1<=40)(hleft:1<=L6 (g.T M) g.h) :
  Calls Tryz.prog 58 #[.pointer (some ⟨g.x.tb,0,none⟩),.int .u32 0,arr key,arr v] w λ e w'=>∃s:Nat,4<=s/\s<g.h/\g.Fr M s/\e=.returned (.tuple #[.int .u32 (s:Int),.int .i64 0])/\B7 w' g (K9 (P6 g M s) s (E8 [key] [v]))/\Upd g.S w w':=by
 have hb:((g.h:Int) == 0)=false:=by rw[beq_eq_false_iff_ne];omega
 have hhb:=hh2;obtain⟨wA,hwA⟩:∃wA,wA=(w.alloc (.cells (bts key).toArray 35)).alloc (.cells (bts v).toArray 115):=⟨_,rfl⟩;have huA:Upd [] w wA:=by rw[hwA];exact((Upd.refl _ _).alloc _).alloc _
 have hA:=h.below huA;have H6:Hid (wA.heap[w.heap.size]?=some (.cells (bts key).toArray 35 (0,0))):=by
  show wA.heap[_]?=_
  rw[hwA,A6 (by simp)];exact A4 _
 have H7:Hid (wA.heap[w.heap.size+1]?=some (.cells (bts v).toArray 115 (0,0))):=by
  show wA.heap[_]?=_
  rw[hwA];have:=A4 (w:=w.alloc (.cells (bts key).toArray 35)) (.cells (bts v).toArray 115);simpa using this
 have HO:=η (U6 hA);have HA:=η hA;have HUA:=η huA;have HW:=η hwA;clear h hA huA hwA;unfold arr;go_enter Tryz.func58,Tryz.ntmps58
 go_wp2_with fail
 have hwA:=HW.out;rw[← hwA];clear hwA;refine HO.out.mono ?_;rintro e w1 ⟨rfl,n1,hn1⟩;have hu1:Upd [] wA w1:=by rw[hn1];exact(Upd.refl _ _).drewN _
 have h1:=HA.out.below hu1;have HTK:=η (Bg1 h1 hh1 hh2 (.inr (by omega)) hleft);have HU1:=η (HUA.out.trans hu1);have H61:=η ((hu1.block _ (A3 H6.out) (by simp)).trans H6.out);have H71:=η ((hu1.block _ (A3 H7.out) (by simp)).trans H7.out);have H1:=η h1;clear hn1 hu1 h1;go_wp2_with fail
 refine HTK.out.mono ?_;rintro e w2 ⟨s,hs4,hsh,hsT,rfl,h2,hu2⟩;have h6:=(hu2.block _ (A3 H61.out) (H1.out.other9 H61.out (.inr (.inr (.inl rfl))))).trans H61.out;have h7:=(hu2.block _ (A3 H71.out) (H1.out.other9 H71.out (.inr (.inr (.inr (.inl rfl)))))).trans H71.out;have l6:=B8 (n:=32) h6 (by rw[A5,hkey]);have l7:=B8 (w:=w2.alloc (.cells (bts key).toArray 35)) (n:=16) ((A6 (A3 h7)).trans h7) (by rw[A5,hv]);have bk:=Bb0 hkey w2;have bw:=Cf0 hv (w2.alloc (.cells (bts key).toArray 35));rw[show(w2.alloc (.cells (bts key).toArray 35)).heap.size=w2.heap.size+1 by simp] at bw;have bn:=Bx3;obtain⟨w5,hw5⟩:∃w5,w5=((w2.alloc (.cells (bts key).toArray 35)).alloc (.cells (bts v).toArray 115)).alloc (.cells #[.int .i64 1,.slice (some ⟨w2.heap.size,0,none⟩) 1 1,.slice (some ⟨w2.heap.size+1,0,none⟩) 1 1,.slice none 0 0] 220):=⟨_,rfl⟩;have st:=R8 ((w2.alloc (.cells (bts key).toArray 35)).alloc (.cells (bts v).toArray 115)) (some ⟨w2.heap.size,0,none⟩) (some ⟨w2.heap.size+1,0,none⟩) none 1 1 1 1 1 0 0;rw[← hw5,show((w2.alloc (.cells (bts key).toArray 35)).alloc (.cells (bts v).toArray 115)).heap.size=w2.heap.size+1+1 by simp] at st;have hu5:Upd [] w2 w5:=by rw[hw5];exact(((Upd.refl _ _).alloc _).alloc _).alloc _
 have k5:w5.heap[w2.heap.size]?=some (.cells (bts key).toArray 35 (0,0)):=by rw[hw5,A6 (by simp;omega),A6 (by simp)];exact A4 _
 have v5:w5.heap[w2.heap.size+1]?=some (.cells (bts v).toArray 115 (0,0)):=by
  rw[hw5,A6 (by simp)];have:=A4 (w:=w2.alloc (.cells (bts key).toArray 35)) (.cells (bts v).toArray 115);simpa using this
 have n5:w5.heap[w2.heap.size+1+1]?=some (.cells #[.int .i64 1,.slice (some ⟨w2.heap.size,0,none⟩) 1 1,.slice (some ⟨w2.heap.size+1,0,none⟩) 1 1,.slice none 0 0] 220 (0,0)):=by
  rw[hw5];have:=A4 (w:=(w2.alloc (.cells (bts key).toArray 35)).alloc (.cells (bts v).toArray 115)) (.cells #[.int .i64 1,.slice (some ⟨w2.heap.size,0,none⟩) 1 1,.slice (some ⟨w2.heap.size+1,0,none⟩) 1 1,.slice none 0 0] 220);simpa using this
 have l5:=B8 (n:=4) (cs:=[.int .i64 1,.slice (some ⟨w2.heap.size,0,none⟩) 1 1,.slice (some ⟨w2.heap.size+1,0,none⟩) 1 1,.slice none 0 0]) n5 rfl;have ws:IntKind.u32.wrap (s:Int)=(s:Int):=by rw[IntKind.wrap_u32];omega
 have hok:Q5 [key] [v]:=⟨by simpa using hkey,by simpa using hv,rfl,by simp⟩;have hcn:=At7 (g:=g) (M:=M) s H1.out.ok hh1;have HWR:=η (Aj2 (h2.below hu5) (vd:=.slice none 0 0) (F5.rd (Bx4 hkey k5) hok.k) (G7.rd (Ct4 hv v5) hok.v) hok s hsh (by omega) (.inr (by rw[hcn];omega)));have HU5:=η (((HU1.out.mono (by simp)).trans hu2).trans (hu5.mono (by simp)));have HT:=η hsT;clear h2 hu2 h6 h7 hw5 hu5 k5 v5 n5 hok hcn hsT;go_wp2_with fail
 refine HWR.out.mono ?_;rintro e w6 ⟨rfl,h6,hu6⟩;have H6':=η h6;have HU6:=η (HU5.out.trans (hu6.mono g.memw));clear h6 hu6;go_wp2_with fail
 refine(Al8 _ w6).mono ?_;rintro e w7 ⟨rfl,hu7⟩;have H7':=η (H6'.out.below hu7);have HU7:=η (HU6.out.trans (hu7.mono (by simp)));clear hu7;go_wp2_with fail
 go_ret2;exact⟨s,hs4,hsh,HT.out,rfl,H7'.out,HU7.out⟩
theorem Df0:(#[.int .u8 0,.int .u8 0,.int .u8 0,.int .u8 0,.int .u8 0,.int .u8 0,.int .u8 0,.int .u8 0,.int .u8 0,.int .u8 0,.int .u8 0,.int .u8 0,.int .u8 0,.int .u8 0,.int .u8 0,.int .u8 0,.int .u8 0,.int .u8 0,.int .u8 0,.int .u8 0,.int .u8 0,.int .u8 0,.int .u8 0,.int .u8 0,.int .u8 0,.int .u8 0,.int .u8 0,.int .u8 0,.int .u8 0,.int .u8 0,.int .u8 0,.int .u8 0,.int .u32 0,.bool false]:Array Value)=(I5 none).toArray:=rfl
theorem Ct6{w:World}{g:Sg}{M:Nat->Option Sec}(h:B7 w g M)(hh1:1<g.h)(hh2:g.h<=4096){r:Nat}(hr:r≠0)(hr4:r<4294967296){d:Nat}{l:List C0}{S:List Nat}(hs:F6 (g.cur M) true d r l S)(hh:Z1 g M S)(hd2:d<=2)(key v:Bs)(hkey:key.length=32)(hv:v.length=16)(hres:(E1 M g.h+c1M M+7<=40/\4<=L6 (g.T M) g.h)∨(d=0/\l.length<=8/\E1 M g.h<40)) :
  Calls Tryz.prog 58 #[.pointer (some ⟨g.x.tb,0,none⟩),.int .u32 (r:Int),arr key,arr v] w λ e w'=>∃M' r',e=.returned (.tuple #[.int .u32 ((r':Nat):Int),.int .i64 0])/\V2 g M M' r r' l S key v 7/\B7 w' g M'/\Upd g.S w w':=by
 have hb:((g.h:Int) == 0)=false:=by rw[beq_eq_false_iff_ne];omega
 have hrb:((r:Int) == 0)=false:=by rw[beq_eq_false_iff_ne];omega
 have hhb:=hh2;obtain⟨wA,hwA⟩:∃wA,wA=(w.alloc (.cells (bts key).toArray 35)).alloc (.cells (bts v).toArray 115):=⟨_,rfl⟩;have huA:Upd [] w wA:=by rw[hwA];exact((Upd.refl _ _).alloc _).alloc _
 have hA:=h.below huA;have H6:Hid (wA.heap[w.heap.size]?=some (.cells (bts key).toArray 35 (0,0))):=by
  show wA.heap[_]?=_
  rw[hwA,A6 (by simp)];exact A4 _
 have H7:Hid (wA.heap[w.heap.size+1]?=some (.cells (bts v).toArray 115 (0,0))):=by
  show wA.heap[_]?=_
  rw[hwA];have:=A4 (w:=w.alloc (.cells (bts key).toArray 35)) (.cells (bts v).toArray 115);simpa using this
 have HO:=η (U6 hA);have HA:=η hA;have HUA:=η huA;have HW:=η hwA;have HSH:=η hs;have HH:=η hh;clear h hA huA hwA hs hh;unfold arr;go_enter Tryz.func58,Tryz.ntmps58
 go_wp2_with fail
 have hwA:=HW.out;rw[← hwA];clear hwA;refine HO.out.mono ?_;rintro e w1 ⟨rfl,n1,hn1⟩;have hu1:Upd [] wA w1:=by rw[hn1];exact(Upd.refl _ _).drewN _
 have h1:=HA.out.below hu1;have h6:=(hu1.block _ (A3 H6.out) (by simp)).trans H6.out;have h7:=(hu1.block _ (A3 H7.out) (by simp)).trans H7.out;have l6:=B8 (n:=32) h6 (by rw[A5,hkey]);have l7:=B8 (n:=16) h7 (by rw[A5,hv]);have HPC:=η (Bx2 d h1 HSH.out HH.out key v hkey hv 16 (by omega) (by omega) hh1 hh2 (by omega));have HU1:=η (HUA.out.trans hu1);clear hn1 hu1 h1 h6 h7;unfold arr at HPC;go_wp2_with fail
 refine HPC.out.mono ?_;rintro e w2 ⟨M1,o,rfl,hPA,h2,hu2⟩;have hol:∀k b,o=some (k,b)->k.length=32:=by
  intro k b e;subst e;obtain⟨_,_,_,_,_,_,q,_⟩:=hPA;exact q
 obtain⟨w3,hw3⟩:∃w3,w3=(w2.alloc (.cells (I5 none).toArray 228)).setRow w2.heap.size (I5 o).toArray:=⟨_,rfl⟩;have s13:=J7 (A4 (w:=w2) (.cells (I5 none).toArray 228)) (l:=I5 o) (by rw[List.size_toArray,K6 _ hol,K6 _ (by simp)]) (V9 _);rw[← hw3,← Df0] at s13;have c13:w3.heap[w2.heap.size]?=some (.cells (I5 o).toArray 228 (0,0)):=by rw[hw3];exact setRow_heap _ _ _ _ _ _ (A4 _)
 have hu3:Upd [] w2 w3:=by
  rw[hw3,V0];exact(Upd.refl _ _).alloc _
 have HU3:=η (((HU1.out.mono (by simp)).trans hu2).trans (hu3.mono (by simp)));have H3:=η (h2.below hu3);clear h2 hu2 hu3 hw3 hol;unfold Bg0;cases o with
 | none=>
  have m13:w3.cell? ⟨w2.heap.size,33,none⟩=some (.bool false):=A2 c13 33;have HPA:=η hPA;clear c13 hPA;go_wp2_with fail
  refine(Al8 _ _).mono ?_;rintro e w7 ⟨rfl,hu7⟩;have H7':=η (H3.out.below hu7);have HU7:=η (HU3.out.trans (hu7.mono (by simp)));clear hu7;go_wp2_with fail
  go_ret2;exact⟨M1,r,rfl,Bp4 hr hd2 HPA.out (by omega),H7'.out,HU7.out⟩
 | some p=>
  obtain⟨k',b⟩:=p;have hk':k'.length=32:=by
   obtain⟨_,_,_,_,_,_,q,_⟩:=hPA;exact q
  have hz:(I5 (some (k',b))).length=34:=K6 _ (by intro x y e;cases e;exact hk');have hres:E1 M g.h+c1M M+7<=40/\4<=L6 (g.T M) g.h:=by
   rcases hres with q | ⟨rfl,q,_⟩
   ·exact q
   ·exfalso
    obtain⟨_,l1,l2,S1,S2,el,_,q1,q2,_⟩:=hPA;have e1:=congrArg List.length el;rw[List.length_append] at e1;have e2:=Al9 l key v;have e3:5<=l1.length:=q1.2.2.2.2.1;have e4:5<=l2.length:=q2.2.2.2.2.1;omega
  obtain⟨S1,hG⟩:=hPA.grown;have hcn:=hG.cnt;have hlf:=hG.left;have hln:=hG.len;obtain⟨m13,m14,r13⟩:=Aa0 hk' c13;have HTK:=η (Bg1 H3.out hh1 hh2 (.inr (by omega)) (by omega));have HPA:=η hPA;have H13:=η c13;have HCN:Hid (E1 M1 g.h+c1M M1+1<=40):=by show _<=_;omega
  clear c13 hPA hG hcn hlf hln m14 r13;go_wp2_with fail
  refine HTK.out.mono ?_;rintro e w4 ⟨s,hs4,hsh,hsT,rfl,h4,hu4⟩;have c13:=(hu4.block _ (A3 H13.out) (H3.out.other9 H13.out (.inl rfl))).trans H13.out;obtain⟨m13',m14,r13⟩:=Aa0 hk' c13;have l13:=F8 r13 hk';have bk:=Bb0 hk' w4;have m14':=D6 (w':=w4.alloc (.cells (bts k').toArray 35)) m14 ((Upd.refl [] _).alloc _) (by simp);have bw:=Bi2 (r:Int) (b:Int) (w4.alloc (.cells (bts k').toArray 35));rw[show(w4.alloc (.cells (bts k').toArray 35)).heap.size=w4.heap.size+1 by simp] at bw;have bn:=Az3;obtain⟨w5,hw5⟩:∃w5,w5=((w4.alloc (.cells (bts k').toArray 35)).alloc (.cells #[.int .u32 (r:Int),.int .u32 (b:Int)] 79)).alloc (.cells #[.int .i64 2,.slice (some ⟨w4.heap.size,0,none⟩) 1 1,.slice none 0 0,.slice (some ⟨w4.heap.size+1,0,none⟩) 2 2] 220):=⟨_,rfl⟩;have st:=R8 ((w4.alloc (.cells (bts k').toArray 35)).alloc (.cells #[.int .u32 (r:Int),.int .u32 (b:Int)] 79)) (some ⟨w4.heap.size,0,none⟩) none (some ⟨w4.heap.size+1,0,none⟩) 2 1 1 0 0 2 2;rw[← hw5,show((w4.alloc (.cells (bts k').toArray 35)).alloc (.cells #[.int .u32 (r:Int),.int .u32 (b:Int)] 79)).heap.size=w4.heap.size+1+1 by simp] at st;have hu5:Upd [] w4 w5:=by rw[hw5];exact(((Upd.refl _ _).alloc _).alloc _).alloc _
  have k5:w5.heap[w4.heap.size]?=some (.cells (bts k').toArray 35 (0,0)):=by rw[hw5,A6 (by simp;omega),A6 (by simp)];exact A4 _
  have v5:w5.heap[w4.heap.size+1]?=some (.cells #[.int .u32 (r:Int),.int .u32 (b:Int)] 79 (0,0)):=by
   rw[hw5,A6 (by simp)];have:=A4 (w:=w4.alloc (.cells (bts k').toArray 35)) (.cells #[.int .u32 (r:Int),.int .u32 (b:Int)] 79);simpa using this
  have n5:w5.heap[w4.heap.size+1+1]?=some (.cells #[.int .i64 2,.slice (some ⟨w4.heap.size,0,none⟩) 1 1,.slice none 0 0,.slice (some ⟨w4.heap.size+1,0,none⟩) 2 2] 220 (0,0)):=by
   rw[hw5];have:=A4 (w:=(w4.alloc (.cells (bts k').toArray 35)).alloc (.cells #[.int .u32 (r:Int),.int .u32 (b:Int)] 79)) (.cells #[.int .i64 2,.slice (some ⟨w4.heap.size,0,none⟩) 1 1,.slice none 0 0,.slice (some ⟨w4.heap.size+1,0,none⟩) 2 2] 220);simpa using this
  have l5:=B8 (n:=4) (cs:=[.int .i64 2,.slice (some ⟨w4.heap.size,0,none⟩) 1 1,.slice none 0 0,.slice (some ⟨w4.heap.size+1,0,none⟩) 2 2]) n5 rfl;have ws:IntKind.u32.wrap (s:Int)=(s:Int):=by rw[IntKind.wrap_u32];omega
  have hcn2:=At7 (g:=g) (M:=M1) s H3.out.ok hh1;have hpt:=Bw8 (m:=7) hr4 hd2 HH.out HPA.out (by omega) H3.out.ok (H3.out.cur_len 1) hh1 hh2 hs4 hsh hsT (Bb3 H3.out s hh1);have HWR:=η (Al5 (h4.below hu5) (vv:=.slice none 0 0) (F5.rd (Bx4 hk' k5) hpt.1.k) (G0.rd (Ct5 v5)) hpt.1 s hsh (by omega) (.inr (by rw[hcn2];have:=HCN.out;omega)));have HU5:=η ((HU3.out.trans hu4).trans (hu5.mono (by simp)));have HT:=η hpt.2;clear h4 hu4 c13 m14 r13 hw5 hu5 k5 v5 n5 hpt hcn2 hsT;go_wp2_with fail
  refine HWR.out.mono ?_;rintro e w6 ⟨rfl,h6,hu6⟩;have H6':=η h6;have HU6:=η (HU5.out.trans (hu6.mono g.memw));clear h6 hu6;go_wp2_with fail
  refine(Al8 _ w6).mono ?_;rintro e w7 ⟨rfl,hu7⟩;have H7':=η (H6'.out.below hu7);have HU7:=η (HU6.out.trans (hu7.mono (by simp)));clear hu7;go_wp2_with fail
  go_ret2;exact⟨_,s,rfl,HT.out,H7'.out,HU7.out⟩
theorem Bx5{w:World}{g:Sg}{M:Nat->Option Sec}(h:B7 w g M)(hh1:1<g.h)(hh2:g.h<=4096){r:Nat}{l:List C0}{S:List Nat}(ht:X3 (g.cur M) r l S)(hh:Z1 g M S)(hl:l.length<490)(key v:Bs)(hkey:key.length=32)(hv:v.length=16)
  (hres:(E1 M g.h+c1M M+7<=40/\4<=L6 (g.T M) g.h)∨(r≠0/\l.length<=8/\E1 M g.h<40)) :
  Calls Tryz.prog 58 #[.pointer (some ⟨g.x.tb,0,none⟩),.int .u32 (r:Int),arr key,arr v] w λ e w'=>∃M' r',e=.returned (.tuple #[.int .u32 ((r':Nat):Int),.int .i64 0])/\V2 g M M' r r' l S key v 7/\B7 w' g M'/\Upd g.S w w':=by
 rcases ht with⟨rfl,rfl,rfl⟩ | ⟨hr,d,hs⟩
 ·have hres':E1 M g.h+c1M M+7<=40/\4<=L6 (g.T M) g.h:=hres.resolve_right λ q=>q.1 rfl;refine(Ck8 h hh1 hh2 key v hkey hv (by omega) (by omega)).mono ?_;rintro e w' ⟨s,hs4,hsh,hsT,rfl,h1,hu1⟩;obtain⟨S',q1,q2,q3,q4⟩:=(Bp5 hkey hv h.ok (h.cur_len 1) hh1 hh2 hs4 hsh hsT (Bb3 h s hh1)).2;exact⟨_,s,rfl,⟨S',q1,q2,q3.mono (Nat.le_refl _) (by omega),q4⟩,h1,hu1⟩
 ·refine Ct6 h hh1 hh2 hr hs.mem.2 hs hh (hs.flat hl) key v hkey hv ?_;rcases hres with q | ⟨_,q1,q2⟩
  ·exact .inl q
  ·refine .inr ⟨?_,q1,q2⟩;cases d with
   | zero=>rfl
   | succ d=>
    exfalso
    have e1:=hs.manyR;have e2:1<=7 ^ d:=Nat.pos_of_ne_zero (by simp);omega
end
def Aj7(K:Nat->Option Pk)(T:Nat->Bool):Option Rc->(Nat->Option Pk)->(Nat->Bool)->Prop
 | some x,K1,T1=>Ba3 K T x.n x.len K1 T1
 | none,K1,T1=>K1=K/\T1=T
def InY(K:Nat->Option Pk)(y:Nat × Nat)(i:Nat):Prop:=∃p,K y.1=some p/\p.start<=i/\i<p.start+16
structure Ab4(g:Sg)(M:Nat->Option Sec)(S:List Nat)(K:Nat->Option Pk)(R:List Rc)(key b:List UInt8):Prop where
 drop:E1 M g.h+2<=40
 add:∀M1,MOk M1 g.h->(∀i,(M1 i).isSome=true->(M i).isSome=true∨i<4)->E1 M1 g.h+18<=40
 room:∀K1 T1 K2 T2 o,Aj7 K (g.T M) (J0 R key) K1 T1->Z2 K1 T1 g.h (D8 key b) K2 T2 o->o≠none
 put:∀K1 T1 K2 M2 y,Aj7 K (g.T M) (J0 R key) K1 T1->Z2 K1 T1 g.h (D8 key b) K2 (g.T M2) (some y)->MOk M2 g.h->(∀i,(M2 i).isSome=true->(M i).isSome=true∨i<4∨InY K2 y i)->
  (E1 M2 g.h+c1M M2+7<=40/\4<=L6 (g.T M2) g.h)∨(g.R M 0≠0/\R.length<=8/\E1 M2 g.h<40)
 root:∀K1 T1 K2 M2 M3 S' y,Aj7 K (g.T M) (J0 R key) K1 T1->Z2 K1 T1 g.h (D8 key b) K2 (g.T M2) (some y)->MOk M2 g.h->MOk M3 g.h->(∀i,(M2 i).isSome=true->(M i).isSome=true∨i<4∨InY K2 y i)->P0 g M2 M3 S S' 4 7->
  4*S'.length<=R.length+4->E1 M3 g.h<40
structure Ad6(g:Sg)(M M':Nat->Option Sec)(S S':List Nat)(K K':Nat->Option Pk)(R:List Rc)(key b:List UInt8)(y:Nat × Nat):Prop where
 kp:Ap5 g M' S' K' (S8 R ⟨y.1,y.2,key,b⟩)
 way:∃K1 T1 M2 M3,Aj7 K (g.T M) (J0 R key) K1 T1/\Z2 K1 T1 g.h (D8 key b) K' (g.T M2) (some y)/\P0 g M2 M3 S S' 4 7/\g.T M'=g.T M3
 cnt:E1 M' g.h<=40
 dom:∀i,(M' i).isSome=true->(M i).isSome=true∨i<4∨InY K' y i∨i∈S'
 root:g.R M' 0≠0
theorem Ap5.small{g:Sg}{M:Nat->Option Sec}{S:List Nat}{K:Nat->Option Pk}{R:List Rc}(k:Ap5 g M S K R):∀x,x∈R->x.n<=100000/\x.at_<=100000/\x.len<=100000:=λ x hx=>by
 obtain⟨_,_,p,hp,h1,_⟩:=k.m.rc.rec_ x hx;have h2:=k.m.pk.lt hp;have h3:=(k.m.pk.low _ _ hp).2.2.1;have h4:46<=x.len:=by unfold Rc.len;omega
 omega
theorem KpM.held{g:Sg}{M:Nat->Option Sec}{r:Nat}{S:List Nat}{K:Nat->Option Pk}{Rp Rt:List Rc}(k:KpM (g.cur M) g.h (g.T M) r S K Rp Rt):Z1 g M S:=⟨k.nd,k.low,λ s hs=>(k.only s).2 (.inr (.inl hs))⟩
theorem X3.lt{C:Nat->Sec}{r:Nat}{l:List C0}{S:List Nat}(h:X3 C r l S):r<4294967296:=by
 rcases h with⟨rfl,_⟩ | ⟨_,d,h⟩
 ·omega
 ·exact h.mem.2
theorem Ad6.of{w':World}{g:Sg}{M M1 M2 M':Nat->Option Sec}{S:List Nat}{K K1 K2:Nat->Option Pk}{R Rp:List Rc}{key b:List UInt8}{y:Nat × Nat}(h1g:20<=g.h)(hsp:B7 w' g M')(hks:An9 R)
  (hdk:Aj7 K (g.T M) (J0 R key) K1 (g.T M1)) (ha:Z2 K1 (g.T M1) g.h (D8 key b) K2 (g.T M2) (some y)) (km:KpM (g.cur M2) g.h (g.T M2) (g.R M 0) S K2 (⟨y.1,y.2,key,b⟩ :: Rp) R) (h20:M2 0=M 0)
  (hd2:∀i,(M2 i).isSome=true->(M i).isSome=true∨i<4∨InY K2 y i) (hpm:(S8 R ⟨y.1,y.2,key,b⟩).Perm (⟨y.1,y.2,key,b⟩ :: Rp)) (hroot:∀M3 r',V2 g M2 M3 (g.R M 0) r' (R.map Rc.ent) S key (L4 y.1 y.2 (46+b.length)) 7->MOk M3 g.h->E1 M3 g.h<40)
  (ho:Ba2 g M2 M' (g.R M 0) (R.map Rc.ent) S key (L4 y.1 y.2 (46+b.length))):∃S',Ad6 g M M' S S' K K2 R key b y:=by
 obtain⟨M3,r2,hp,⟨W,hW⟩,hM⟩:=ho;obtain⟨_,_,hr2,_,_⟩:=id hp;obtain⟨S',k3,hG⟩:=km.put (x:=⟨y.1,y.2,key,b⟩) hW hp;have h30:M3 0=M 0:=(hG.keep 0 (λ q=>by have:=k3.low 0 q;omega) (by omega)).trans h20;have hc3:=hroot M3 r2 hp hW.ok;have hd3:∀i,(M3 i).isSome=true->(M i).isSome=true∨i<4∨InY K2 y i∨i∈S':=λ i hi=>by
  by_cases e1:i=1
  ·exact .inr (.inl (by omega))
  ·by_cases e2:i∈S'
   ·exact .inr (.inr (.inr e2))
   ·rw[hG.keep i e2 e1] at hi;rcases hd2 i hi with q | q | q
    ·exact .inl q
    ·exact .inr (.inl q)
    ·exact .inr (.inr (.inl q))
 have hfin:∀{r:Nat},KpM (g.cur M') g.h (g.T M') r S' K2 (⟨y.1,y.2,key,b⟩ :: Rp) (S8 R ⟨y.1,y.2,key,b⟩)->g.R M' 0=r->Ap5 g M' S' K2 (S8 R ⟨y.1,y.2,key,b⟩):=fun {r} k e=>by
  subst e;exact⟨⟨k.pk,k.rc.perm' hpm.symm,k.tr,k.nd,k.low,k.only,k.apart⟩,Am4 hks⟩
 rcases hM with⟨rfl,rfl⟩ | ⟨hne,rfl⟩
 ·have hR:g.R M' 0=g.R M 0:=by unfold Sg.R;rw[G9 g h30]
  exact⟨S',hfin k3 hR,⟨K1,g.T M1,M2,M',hdk,ha,hG,rfl⟩,by omega,hd3,by rw[hR];exact hr2⟩
 ·have hne0:∀i,i≠0->Bv7 M3 (put (g.cur M3 0) (4*0) 4 r2) i=M3 i:=λ i hi=>by unfold Bv7;rw[if_neg hi]
  have k4:=k3.turn hsp hne0;have hR:g.R (Bv7 M3 (put (g.cur M3 0) (4*0) 4 r2)) 0=r2:=by
   unfold Sg.R;have e:g.cur (Bv7 M3 (put (g.cur M3 0) (4*0) 4 r2)) 0=put (g.cur M3 0) (4*0) 4 r2:=by unfold Sg.cur Bv7;rw[if_pos rfl];rfl
   rw[e,O8 (by have:=hW.cur_len 0;omega) (by have:=k3.tr.lt;omega)]
  refine⟨S',hfin k4 hR,⟨K1,g.T M1,M2,M3,hdk,ha,hG,Ba4 g (hne0 1 (by omega))⟩,?_,λ i hi=>?_,by rw[hR];exact hr2⟩
  ·have:=Bb2 (x:=put (g.cur M3 0) (4*0) 4 r2) hW.ok (show 0<g.h by omega);show E1 (K9 M3 0 _) g.h<=40
   omega
  ·by_cases e:i=0
   ·exact .inr (.inl (by omega))
   ·rw[hne0 i e] at hi;exact hd3 i hi
theorem Am6{w:World}{g:Sg}{M:Nat->Option Sec}(h:B7 w g M)(hh:20<=g.h)(hh2:g.h<=4096){S:List Nat}{K:Nat->Option Pk}{R:List Rc}(k:Ap5 g M S K R)(hl:R.length<480)(key b:List UInt8)(vb:Value)(hr:Rd w vb b)(hkl:key.length=32)(hbl:b.length<=4200)(hbud:Ab4 g M S K R key b) :
  Calls Tryz.prog 19 #[.pointer (some ⟨g.x.tb,0,none⟩),arr key,vb] w λ e w'=>∃M' S' K' y,e=.returned (.int .i64 0)/\B7 w' g M'/\Ad6 g M M' S S' K K' R key b y/\Upd g.S w w':=by
 have hlt:=h.lt;obtain⟨va,vc,rfl,hvc⟩:∃a c,vb=.slice a b.length c/\b.length<=c:=by obtain⟨a,c,e,hc,_⟩:=hr;exact⟨a,c,e,hc⟩
 obtain⟨kb,hkb⟩:∃x,x=w.heap.size:=⟨_,rfl⟩;obtain⟨w1,hw1⟩:∃w1,w1=w.alloc (.cells (bts key).toArray 35):=⟨_,rfl⟩;have hu1:Upd [] w w1:=by rw[hw1];exact(Upd.refl _ _).alloc _
 have k1:w1.heap[kb]?=some (.cells (bts key).toArray 35 (0,0)):=by rw[hw1,hkb];exact A4 _
 have h1:=h.below hu1;have hik:(Tryz.prog.info? 35).map (·.size)=some (bts key).toArray.size:=by rw[List.size_toArray,A5,hkl];exact Af0
 have hwh:=Ca4 h1 (by omega) k.m.tr k.m.low (by omega) key hkl k.small;unfold arr plV at hwh;have hhm:∀W,B7 W g M->Calls Tryz.prog 82 #[.pointer (some ⟨g.x.tb,0,none⟩)] W λ e w'=>e=.returned (.int .i64 (g.h:Int))/\∃n,w'=W.drewN n:=λ W hW=>U6 hW;have HHM:Hid (∀W,B7 W g M->Calls Tryz.prog 82 #[.pointer (some ⟨g.x.tb,0,none⟩)] W λ e w'=>e=.returned (.int .i64 (g.h:Int))/\∃n,w'=W.drewN n):=η hhm;have c1:decide ((4200:Int)<(b.length:Int))=false:=decide_eq_false (by omega);have c1':decide (4200<b.length)=false:=decide_eq_false (by omega);have hb0:((g.h:Int) == 0)=false:=by rw[beq_eq_false_iff_ne];omega
 have HWH:=η hwh;have HLT:=η hlt;have HK:=η k;have HRD:=η (RdS.of hr);have HBUD:=η hbud;have HW1:=η hw1;have HKB:=η hkb;have HK1:=η k1;have HU1:=η hu1;have H:=η h;obtain⟨bl,hble⟩:∃x,x=b.length:=⟨_,rfl⟩;rw[← hble] at c1 c1' ⊢;obtain⟨fl,hfle⟩:∃x,x=46+bl:=⟨_,rfl⟩;have HFLE:=η hfle;have HBLE:=η hble;clear hlt hkb hw1 hu1 k1 h1 hwh hhm k hr hbud h hble hfle;unfold arr;go_enter Tryz.func19,Tryz.ntmps19
 go_upto_region 1 with(fail)
 have hw1:=HW1.out;have hkb:=HKB.out;rw[← hw1,← hkb];clear hw1 hkb;go_wp2_with (refine wpList_load_row (by rfl) 35 (.tmp 4) (by rfl) kb (by rfl) _ _ _ _ HK1.out Tryz.underlying35 rfl hik ?_)
 refine HWH.out.mono ?_;rintro e w2 ⟨rfl,h2,hu2⟩;obtain⟨pb,hpb⟩:∃x,x=w2.heap.size:=⟨_,rfl⟩;have hnS:∀b,w.heap.size<=b->b∉g.S:=λ b hb q=>by have:=HLT.out.1 b q;omega
 have HNS:=η hnS;have k2:=(hu2.block _ (A3 HK1.out) (hnS _ (by have:=HKB.out;omega))).trans HK1.out;obtain⟨w3,hw3⟩:∃w3,w3=w2.alloc (.cells #[.int .i64 ((Ag5 (J0 R key)).1:Int),.int .i64 ((Ag5 (J0 R key)).2.1:Int),.int .i64 ((Ag5 (J0 R key)).2.2:Int)] 92):=⟨_,rfl⟩;have hu3:Upd [] w2 w3:=by rw[hw3];exact(Upd.refl _ _).alloc _
 have k3:=(hu3.block _ (A3 k2) (by simp)).trans k2;have p3:w3.heap[pb]?=some (.cells #[.int .i64 ((Ag5 (J0 R key)).1:Int),.int .i64 ((Ag5 (J0 R key)).2.1:Int),.int .i64 ((Ag5 (J0 R key)).2.2:Int)] 92 (0,0)):=by rw[hw3,hpb];exact A4 _
 have H3:=η (h2.below hu3);have HU3:=η (((HU1.out.mono (by simp)).trans hu2).trans (hu3.mono (by simp)));have HK3:=η k3;have HP3:=η p3;have HW3:=η hw3;have HPB:=η hpb;have HPBS:Hid (w.heap.size<pb):=by
  show _<_
  have:=A3 k2;have:=HKB.out;omega
 clear h2 hu2 hnS k2 hw3 hu3 k3 p3 hpb;go_upto_region 2 with(fail)
 have hw3:=HW3.out;have hpb:=HPB.out;rw[← hw3,← hpb];clear hw3 hpb;obtain⟨r0,hr0⟩:∃r,r=g.R M 0:=⟨_,rfl⟩;rw[← hr0];have HR0:=η hr0;clear hr0;obtain⟨o,hO⟩:∃o,o=J0 R key:=⟨_,rfl⟩;rw[← hO] at HP3 ⊢;have HO:=η hO;clear hO;cases o with
 | none=>
  unfold Ag5 Ax6 at *;dsimp only at HP3 ⊢;go_wp2_with fail
  refine(HHM.out _ H3.out).mono ?_;rintro e w4 ⟨rfl,n4,hn4⟩;have hu4:Upd [] w3 w4:=by rw[hn4];exact(Upd.refl _ _).drewN _
  have H4:=η (H3.out.below hu4);have HK4:=η ((hu4.block _ (A3 HK3.out) (by simp)).trans HK3.out);have HP4:=η ((hu4.block _ (A3 HP3.out) (by simp)).trans HP3.out);have HU4:=η (HU3.out.trans (hu4.mono (by simp)));have hdk:Aj7 K (g.T M) (J0 R key) K (g.T M):=by rw[← HO.out];exact⟨rfl,rfl⟩
  have HDK:=η hdk;have HKM:Hid (KpM (g.cur M) g.h (g.T M) (g.R M 0) S K R R):=η HK.out.m;have HPM:Hid (∀n a,(S8 R ⟨n,a,key,b⟩).Perm (⟨n,a,key,b⟩ :: R)):=by
   show ∀n a,_
   exact λ n a=>Au8 HO.out.symm
  have HD1:Hid (∀i,(M i).isSome=true->(M i).isSome=true∨i<4):=by show ∀i,_;exact λ i h=> .inl h
  have HM0:Hid (M 0=M 0):=η rfl;clear hn4 hu4 hdk H3 HK3 HP3 HU3;obtain⟨px,py,pz,hpx⟩:∃px py pz:Int,w4.heap[pb]?=some (.cells #[.int .i64 px,.int .i64 py,.int .i64 pz] 92 (0,0)):=⟨_,_,_,HP4.out⟩;clear HP4;have HP4:=η hpx;clear hpx;go_upto_region 10 with(fail)
  have hrd4:Rd w4 (.slice va b.length vc) b:=(HRD.out.sp H.out HU4.out (λ k hk=>hk)).1;have had:=Ce4 H4.out HKM.out.pk hh hh2 (HBUD.out.add _ H4.out.ok HD1.out) key b _ hrd4 hkl hbl;rw[← HBLE.out,← HFLE.out] at had;have HAD:=η had;have q0:w4.cell? ⟨pb,0,none⟩=some (.int .i64 px):=by rw[A2 HP4.out];rfl
  clear hrd4 had q0;go_wp2_with (refine wpList_load_row (by rfl) 35 (.tmp 4) (by rfl) kb (by rfl) _ _ _ _ HK4.out Tryz.underlying35 rfl hik ?_)
  refine HAD.out.mono ?_;rintro e w5 ⟨M2,K2,o5,rfl,h5,hk5,ha5,hks5,hc5,hu5⟩;have hne:=HBUD.out.room _ _ _ _ o5 HDK.out ha5;obtain⟨y,rfl⟩:∃y,o5=some y:=Option.ne_none_iff_exists'.1 hne;have hkb5:=(hu5.block _ (A3 HK4.out) (HNS.out _ (by have:=HKB.out;omega))).trans HK4.out;have hpb5:=(hu5.block _ (A3 HP4.out) (HNS.out _ (by have:=HPBS.out;omega))).trans HP4.out;obtain⟨w6,hw6⟩:∃w6,w6=((w5.setCell ⟨pb,0,none⟩ (.int .i64 (y.1:Int))).setCell ⟨pb,1,none⟩ (.int .i64 (y.2:Int))).setCell ⟨pb,2,none⟩ (.int .i64 (fl:Int)):=⟨_,rfl⟩;have hu6:Upd [pb] w5 w6:=by rw[hw6];exact(Upd.refl _ _).three _ _ _ (.inl (List.mem_singleton.2 rfl))
  have hb6:w6.heap[pb]?=some (.cells #[.int .i64 (y.1:Int),.int .i64 (y.2:Int),.int .i64 (fl:Int)] 92 (0,0)):=by rw[hw6];exact A8 (A8 (A8 hpb5 0 _) 1 _) 2 _
  have hk6:=(hu6.block _ (A3 hkb5) (by simp;have:=HKB.out;have:=HPBS.out;omega)).trans hkb5;have h6:B7 w6 g M2:=h5.res HLT.out (by have:=HPBS.out;omega) hpb5 (by decide) hu6;have hd2:∀i,(M2 i).isSome=true->(M i).isSome=true∨i<4∨InY K2 y i:=λ i hi=>by
   by_cases e4:i<4
   ·exact .inr (.inl e4)
   ·by_cases ey:InY K2 y i
    ·exact .inr (.inr ey)
    ·rw[hks5 i (by omega) (by omega) (by omega) (λ x p hx hp q=>by cases hx;exact ey ⟨p,hp,q.1,q.2⟩)] at hi;rcases HD1.out i hi with q | q
     ·exact .inl q
     ·exact .inr (.inl q)
  have h20:M2 0=M 0:=(hks5 0 (by omega) (by omega) (by omega) (λ x p hx hp q=>by have:=(hk5.low _ _ hp).1;omega)).trans (by first | exact HM0.out | rfl);have hkm2:=(HKM.out.add (C':=g.cur M2) (T':=g.T M2) hk5 (y:=y) hkl hbl ha5 (λ i i1 i2 i3 hx=>G9 g (hks5 i i1 i2 i3 (λ x p e hp=>by cases e;exact hx p hp)))).1;obtain⟨p2,hp2,hp2l⟩:∃p,K2 y.1=some p/\y.2+(46+b.length)<=p.data.length:=by
   obtain⟨_,_,p,hp,hal,_⟩:=hkm2.rc.rec_ _ (List.mem_cons_self ..);exact⟨p,hp,hal⟩
  have hyb:y.1<=100000/\y.2<=100000/\46+bl<=100000:=by
   have a1:=hk5.lt hp2;have a2:=(hk5.low _ _ hp2).2.2.1;have a3:=HBLE.out;omega
  have hroot:∀M3 r',V2 g M2 M3 (g.R M 0) r' (R.map Rc.ent) S key (L4 y.1 y.2 (46+b.length)) 7->MOk M3 g.h->E1 M3 g.h<40:=λ M3 r' hp ho3=>by
   obtain⟨S',t1,_,hG,_⟩:=hp;have a1:=t1.size;have a2:=Al9 (R.map Rc.ent) key (L4 y.1 y.2 (46+b.length));rw[List.length_map] at a2;exact HBUD.out.root _ _ _ M2 M3 S' y HDK.out ha5 h5.ok ho3 hd2 hG (by omega)
  have hbp:=HBUD.out.put _ _ _ M2 y HDK.out ha5 h5.ok hd2;have hput:∀W,B7 W g M2->Calls Tryz.prog 58 #[.pointer (some ⟨g.x.tb,0,none⟩),.int .u32 (g.R M 0:Int),arr key,arr (L4 y.1 y.2 (46+b.length))] W λ e w'=>∃M' r',e=.returned (.tuple #[.int .u32 ((r':Nat):Int),.int .i64 0])/\V2 g M2 M' (g.R M 0) r' (R.map Rc.ent) S key (L4 y.1 y.2 (46+b.length)) 7/\B7 w' g M'/\Upd g.S W w':=λ W hW=>
   Bx5 hW (by omega) hh2 hkm2.tr hkm2.held (by rw[List.length_map];omega) key _ hkl (T9 _ _ _) (by rw[List.length_map];exact hbp)
  have hhg:=Bj6 h6 hh (g.R M 0) (R.map Rc.ent) S key hkl y.1 y.2 (46+b.length) hyb.1 hyb.2.1 (by have:=HBLE.out;omega) hput hroot;unfold arr plV at hhg;dsimp only at hhg;have HFIN:Hid (∀(w':World) (M':Nat->Option Sec),B7 w' g M'->Ba2 g M2 M' (g.R M 0) (R.map Rc.ent) S key (L4 y.1 y.2 (46+b.length))->∃S',Ad6 g M M' S S' K K2 R key b y):=by
   show ∀w' M',_
   exact λ w' M' hsp ho=>Ad6.of hh hsp HK.out.sort HDK.out ha5 hkm2 h20 hd2 (HPM.out y.1 y.2) hroot ho
  rw[← HR0.out,← HBLE.out,← HFLE.out] at hhg;rw[← HR0.out] at HFIN;have HHG:=η hhg;have HU6:=η ((HU4.out.trans hu5).late hu6 (λ i hi=> .inr (by simp at hi;have:=HPBS.out;omega)));have HK6:=η hk6;have HB6:=η hb6;have HW6:=η hw6;have r0:w5.cell? ⟨pb,0,none⟩=some (.int .i64 px):=by rw[A2 hpb5];rfl
  have r1:w5.cell? ⟨pb,1,none⟩=some (.int .i64 py):=by rw[A2 hpb5];rfl
  have r2:w5.cell? ⟨pb,2,none⟩=some (.int .i64 pz):=by rw[A2 hpb5];rfl
  have f0:=B6 hpb5 0;have f1:=B6 hpb5 1;have f2:=B6 hpb5 2;clear h5 hk5 ha5 hks5 hc5 hu5 hne hkb5 hpb5 hw6 hu6 hb6 hk6 h6 hd2 h20 hkm2 hp2 hp2l p2 hyb hroot hbp hput hhg;unfold Db6 plV;dsimp only;go_upto_region 11 with(fail)
  have hw6:=HW6.out;rw[← hw6];clear hw6 r0 r1 r2 f0 f1 f2;have m0:w6.cell? ⟨pb,0,none⟩=some (.int .i64 (y.1:Int)):=by rw[A2 HB6.out];rfl
  have m1:w6.cell? ⟨pb,1,none⟩=some (.int .i64 (y.2:Int)):=by rw[A2 HB6.out];rfl
  have m2:w6.cell? ⟨pb,2,none⟩=some (.int .i64 (fl:Int)):=by rw[A2 HB6.out];rfl
  go_wp2_with (refine wpList_load_row (by rfl) 35 (.tmp 4) (by rfl) kb (by rfl) _ _ _ _ HK6.out Tryz.underlying35 rfl hik ?_)
  refine HHG.out.mono ?_;rintro e w7 ⟨M7,rfl,ho7,h7,hu7⟩;obtain⟨S7,hso⟩:=HFIN.out w7 M7 h7 (by rw[HFLE.out,HBLE.out] at ho7;exact ho7);have HSO:=η hso;have H7:=η h7;have HU7:=η (HU6.out.trans hu7);clear ho7 h7 hu7 hso;go_wp2_with fail
  go_ret;exact⟨M7,S7,K2,y,rfl,H7.out,HSO.out,HU7.out⟩
 | some x=>
  unfold Ag5 Ax6 at *;dsimp only at HP3 ⊢;have m0:w3.cell? ⟨pb,0,none⟩=some (.int .i64 (x.n:Int)):=by rw[A2 HP3.out];rfl
  have m1:w3.cell? ⟨pb,1,none⟩=some (.int .i64 (x.at_:Int)):=by rw[A2 HP3.out];rfl
  have m2:w3.cell? ⟨pb,2,none⟩=some (.int .i64 (x.len:Int)):=by rw[A2 HP3.out];rfl
  obtain⟨hxm,hxk⟩:=X7 HO.out.symm;obtain⟨_,_,p,hp,hal,hfr⟩:=HK.out.m.rc.rec_ x hxm;have hlv:=HK.out.m.rc.live_le hxm hp;have hdr:=Cq1 H3.out HK.out.m.pk hh hh2 HBUD.out.drop hp x.at_ x.len (by unfold Rc.len;omega) hal hlv;unfold plV at hdr;dsimp only at hdr;have HDR:=η hdr;clear hdr hxm hxk hp hal hfr hlv;obtain⟨xn,hxn⟩:∃q,q=x.n:=⟨_,rfl⟩;obtain⟨xa,hxa⟩:∃q,q=x.at_:=⟨_,rfl⟩;obtain⟨xl,hxl⟩:∃q,q=x.len:=⟨_,rfl⟩;rw[← hxn] at m0;rw[← hxa] at m1;rw[← hxl] at m2;rw[← hxn,← hxa,← hxl] at HDR HP3;rw[← hxn,← hxa,← hxl];have HX:=η (And.intro hxn (And.intro hxa hxl));clear hxn hxa hxl;go_wp2_with fail
  refine HDR.out.mono ?_;rintro e w4 ⟨M1,K1,rfl,h4,hk4,hd4,hf4,hc4,hu4⟩;obtain⟨ex1,ex2,ex3⟩:=HX.out;rw[ex1,ex3] at hd4;clear ex1 ex2 ex3;obtain⟨A,B,eR,eI⟩:=Bj3 HO.out.symm;have hkb4:=(hu4.block _ (A3 HK3.out) (HNS.out _ (by have:=HKB.out;omega))).trans HK3.out;have hpb4:=(hu4.block _ (A3 HP3.out) (HNS.out _ (by have:=HPBS.out;omega))).trans HP3.out;obtain⟨px,py,pz,hpx⟩:∃px py pz:Int,w4.heap[pb]?=some (.cells #[.int .i64 px,.int .i64 py,.int .i64 pz] 92 (0,0)):=⟨_,_,_,hpb4⟩;have hdk:Aj7 K (g.T M) (J0 R key) K1 (g.T M1):=by rw[← HO.out];exact hd4
  have hkm1:=HK.out.m.drop (Rp':=A++B) hk4 hd4 (by rw[eR];exact List.perm_middle) (λ i i1 i2 i3=>G9 g (hf4 i i1 i2 i3));have HDK:=η hdk;have HKM:=η hkm1;have HPM:Hid (∀n a,(S8 R ⟨n,a,key,b⟩).Perm (⟨n,a,key,b⟩ :: (A++B))):=by
   show ∀n a,_
   intro n a;rw[eI ⟨n,a,key,b⟩ rfl];exact List.perm_middle
  have HD1:Hid (∀i,(M1 i).isSome=true->(M i).isSome=true∨i<4):=by
   show ∀i,_
   intro i hi;by_cases e4:i<4
   ·exact .inr e4
   ·rw[hf4 i (by omega) (by omega) (by omega)] at hi;exact .inl hi
  have HM0:Hid (M1 0=M 0):=η (hf4 0 (by omega) (by omega) (by omega));have H4:=η h4;have HK4:=η hkb4;have HP4:=η hpx;have HU4:=η (HU3.out.trans hu4);clear h4 hk4 hd4 hf4 hc4 hu4 eR eI hkb4 hpb4 hpx hdk hkm1 m0 m1 m2;go_upto_region 10 with(fail)
  have hrd4:Rd w4 (.slice va b.length vc) b:=(HRD.out.sp H.out HU4.out (λ k hk=>hk)).1;have had:=Ce4 H4.out HKM.out.pk hh hh2 (HBUD.out.add _ H4.out.ok HD1.out) key b _ hrd4 hkl hbl;rw[← HBLE.out,← HFLE.out] at had;have HAD:=η had;have q0:w4.cell? ⟨pb,0,none⟩=some (.int .i64 px):=by rw[A2 HP4.out];rfl
  clear hrd4 had q0;go_wp2_with (refine wpList_load_row (by rfl) 35 (.tmp 4) (by rfl) kb (by rfl) _ _ _ _ HK4.out Tryz.underlying35 rfl hik ?_)
  refine HAD.out.mono ?_;rintro e w5 ⟨M2,K2,o5,rfl,h5,hk5,ha5,hks5,hc5,hu5⟩;have hne:=HBUD.out.room _ _ _ _ o5 HDK.out ha5;obtain⟨y,rfl⟩:∃y,o5=some y:=Option.ne_none_iff_exists'.1 hne;have hkb5:=(hu5.block _ (A3 HK4.out) (HNS.out _ (by have:=HKB.out;omega))).trans HK4.out;have hpb5:=(hu5.block _ (A3 HP4.out) (HNS.out _ (by have:=HPBS.out;omega))).trans HP4.out;obtain⟨w6,hw6⟩:∃w6,w6=((w5.setCell ⟨pb,0,none⟩ (.int .i64 (y.1:Int))).setCell ⟨pb,1,none⟩ (.int .i64 (y.2:Int))).setCell ⟨pb,2,none⟩ (.int .i64 (fl:Int)):=⟨_,rfl⟩;have hu6:Upd [pb] w5 w6:=by rw[hw6];exact(Upd.refl _ _).three _ _ _ (.inl (List.mem_singleton.2 rfl))
  have hb6:w6.heap[pb]?=some (.cells #[.int .i64 (y.1:Int),.int .i64 (y.2:Int),.int .i64 (fl:Int)] 92 (0,0)):=by rw[hw6];exact A8 (A8 (A8 hpb5 0 _) 1 _) 2 _
  have hk6:=(hu6.block _ (A3 hkb5) (by simp;have:=HKB.out;have:=HPBS.out;omega)).trans hkb5;have h6:B7 w6 g M2:=h5.res HLT.out (by have:=HPBS.out;omega) hpb5 (by decide) hu6;have hd2:∀i,(M2 i).isSome=true->(M i).isSome=true∨i<4∨InY K2 y i:=λ i hi=>by
   by_cases e4:i<4
   ·exact .inr (.inl e4)
   ·by_cases ey:InY K2 y i
    ·exact .inr (.inr ey)
    ·rw[hks5 i (by omega) (by omega) (by omega) (λ x p hx hp q=>by cases hx;exact ey ⟨p,hp,q.1,q.2⟩)] at hi;rcases HD1.out i hi with q | q
     ·exact .inl q
     ·exact .inr (.inl q)
  have h20:M2 0=M 0:=(hks5 0 (by omega) (by omega) (by omega) (λ x p hx hp q=>by have:=(hk5.low _ _ hp).1;omega)).trans (by first | exact HM0.out | rfl);have hkm2:=(HKM.out.add (C':=g.cur M2) (T':=g.T M2) hk5 (y:=y) hkl hbl ha5 (λ i i1 i2 i3 hx=>G9 g (hks5 i i1 i2 i3 (λ x p e hp=>by cases e;exact hx p hp)))).1;obtain⟨p2,hp2,hp2l⟩:∃p,K2 y.1=some p/\y.2+(46+b.length)<=p.data.length:=by
   obtain⟨_,_,p,hp,hal,_⟩:=hkm2.rc.rec_ _ (List.mem_cons_self ..);exact⟨p,hp,hal⟩
  have hyb:y.1<=100000/\y.2<=100000/\46+bl<=100000:=by
   have a1:=hk5.lt hp2;have a2:=(hk5.low _ _ hp2).2.2.1;have a3:=HBLE.out;omega
  have hroot:∀M3 r',V2 g M2 M3 (g.R M 0) r' (R.map Rc.ent) S key (L4 y.1 y.2 (46+b.length)) 7->MOk M3 g.h->E1 M3 g.h<40:=λ M3 r' hp ho3=>by
   obtain⟨S',t1,_,hG,_⟩:=hp;have a1:=t1.size;have a2:=Al9 (R.map Rc.ent) key (L4 y.1 y.2 (46+b.length));rw[List.length_map] at a2;exact HBUD.out.root _ _ _ M2 M3 S' y HDK.out ha5 h5.ok ho3 hd2 hG (by omega)
  have hbp:=HBUD.out.put _ _ _ M2 y HDK.out ha5 h5.ok hd2;have hput:∀W,B7 W g M2->Calls Tryz.prog 58 #[.pointer (some ⟨g.x.tb,0,none⟩),.int .u32 (g.R M 0:Int),arr key,arr (L4 y.1 y.2 (46+b.length))] W λ e w'=>∃M' r',e=.returned (.tuple #[.int .u32 ((r':Nat):Int),.int .i64 0])/\V2 g M2 M' (g.R M 0) r' (R.map Rc.ent) S key (L4 y.1 y.2 (46+b.length)) 7/\B7 w' g M'/\Upd g.S W w':=λ W hW=>
   Bx5 hW (by omega) hh2 hkm2.tr hkm2.held (by rw[List.length_map];omega) key _ hkl (T9 _ _ _) (by rw[List.length_map];exact hbp)
  have hhg:=Bj6 h6 hh (g.R M 0) (R.map Rc.ent) S key hkl y.1 y.2 (46+b.length) hyb.1 hyb.2.1 (by have:=HBLE.out;omega) hput hroot;unfold arr plV at hhg;dsimp only at hhg;have HFIN:Hid (∀(w':World) (M':Nat->Option Sec),B7 w' g M'->Ba2 g M2 M' (g.R M 0) (R.map Rc.ent) S key (L4 y.1 y.2 (46+b.length))->∃S',Ad6 g M M' S S' K K2 R key b y):=by
   show ∀w' M',_
   exact λ w' M' hsp ho=>Ad6.of hh hsp HK.out.sort HDK.out ha5 hkm2 h20 hd2 (HPM.out y.1 y.2) hroot ho
  rw[← HR0.out,← HBLE.out,← HFLE.out] at hhg;rw[← HR0.out] at HFIN;have HHG:=η hhg;have HU6:=η ((HU4.out.trans hu5).late hu6 (λ i hi=> .inr (by simp at hi;have:=HPBS.out;omega)));have HK6:=η hk6;have HB6:=η hb6;have HW6:=η hw6;have r0:w5.cell? ⟨pb,0,none⟩=some (.int .i64 px):=by rw[A2 hpb5];rfl
  have r1:w5.cell? ⟨pb,1,none⟩=some (.int .i64 py):=by rw[A2 hpb5];rfl
  have r2:w5.cell? ⟨pb,2,none⟩=some (.int .i64 pz):=by rw[A2 hpb5];rfl
  have f0:=B6 hpb5 0;have f1:=B6 hpb5 1;have f2:=B6 hpb5 2;clear h5 hk5 ha5 hks5 hc5 hu5 hne hkb5 hpb5 hw6 hu6 hb6 hk6 h6 hd2 h20 hkm2 hp2 hp2l p2 hyb hroot hbp hput hhg;unfold Db6 plV;dsimp only;go_upto_region 11 with(fail)
  have hw6:=HW6.out;rw[← hw6];clear hw6 r0 r1 r2 f0 f1 f2;have m0:w6.cell? ⟨pb,0,none⟩=some (.int .i64 (y.1:Int)):=by rw[A2 HB6.out];rfl
  have m1:w6.cell? ⟨pb,1,none⟩=some (.int .i64 (y.2:Int)):=by rw[A2 HB6.out];rfl
  have m2:w6.cell? ⟨pb,2,none⟩=some (.int .i64 (fl:Int)):=by rw[A2 HB6.out];rfl
  go_wp2_with (refine wpList_load_row (by rfl) 35 (.tmp 4) (by rfl) kb (by rfl) _ _ _ _ HK6.out Tryz.underlying35 rfl hik ?_)
  refine HHG.out.mono ?_;rintro e w7 ⟨M7,rfl,ho7,h7,hu7⟩;obtain⟨S7,hso⟩:=HFIN.out w7 M7 h7 (by rw[HFLE.out,HBLE.out] at ho7;exact ho7);have HSO:=η hso;have H7:=η h7;have HU7:=η (HU6.out.trans hu7);clear ho7 h7 hu7 hso;go_wp2_with fail
  go_ret;exact⟨M7,S7,K2,y,rfl,H7.out,HSO.out,HU7.out⟩
theorem Ce1{M:Nat->Option Sec}{h:Nat}{K:Nat->Option Pk}{y:Nat × Nat}(ho:MOk M h)(hd:∀i,(M i).isSome=true->i<4∨InY K y i):E1 M h<=20:=by
 cases hk:K y.1 with
 | none=>
  have:=An6 (L:=[0,1,2,3]) ho λ i hi=>by
   rcases hd i hi with q | ⟨p,hp,_⟩
   ·have:i=0∨i=1∨i=2∨i=3:=by omega
    rcases this with rfl | rfl | rfl | rfl<;>simp
   ·rw[hk] at hp;cases hp
  simp at this;omega
 | some p=>
  have:=An6 (L:=[0,1,2,3]++List.range' p.start 16) ho λ i hi=>by
   rcases hd i hi with q | ⟨p',hp,h1,h2⟩
   ·have:i=0∨i=1∨i=2∨i=3:=by omega
    rcases this with rfl | rfl | rfl | rfl<;>simp
   ·rw[hk] at hp;cases hp
    exact List.mem_append_right _ (by rw[List.mem_range'_1];omega)
  simp at this;omega
theorem Bn5(M:Nat->Option Sec):c1M M<=1:=by unfold c1M;split<;>omega
theorem Ab4.fresh{g:Sg}{S:List Nat}{K:Nat->Option Pk}{R:List Rc}{key b:List UInt8}{m:Nat}(r:Ai5 S K (g.T λ _=>none) m)(hm:m<64)(hh:4+S.length+16*m+20<=g.h)(hn:J0 R key=none):Ab4 g (λ _=>none) S K R key b:=by
 have hput:∀K1 T1 K2 M2 y,Aj7 K (g.T λ _=>none) (J0 R key) K1 T1->Z2 K1 T1 g.h (D8 key b) K2 (g.T M2) (some y)->MOk M2 g.h->(∀i,(M2 i).isSome=true->((λ _=>none:Nat->Option Sec) i).isSome=true∨i<4∨InY K2 y i)->E1 M2 g.h<=20:=by
  intro K1 T1 K2 M2 y _ _ ho hd;exact Ce1 ho λ i hi=>by
   rcases hd i hi with q | q
   ·cases q
   ·exact q
 refine⟨by rw[Bi8];omega,λ M1 ho hd=>?_,λ K1 T1 K2 T2 o hd ha=>?_,λ K1 T1 K2 M2 y hd ha ho hdm=> .inl ⟨?_,?_⟩,λ K1 T1 K2 M2 M3 S' y hd ha ho ho3 hdm hG _=>?_⟩
 ·have:=Ce1 (K:=λ _=>none) (y:=(0,0)) ho λ i hi=>by
   rcases hd i hi with q | q
   ·cases q
   ·exact .inl q
  omega
 ·rw[hn] at hd;obtain⟨rfl,rfl⟩:=hd;obtain⟨y,e,_⟩:=r.add hm (by omega) ha;rw[e];exact λ h=>by cases h
 ·have:=hput K1 T1 K2 M2 y hd ha ho hdm;have:=Bn5 M2;omega
 ·rw[hn] at hd;obtain⟨rfl,rfl⟩:=hd;obtain⟨y',_,q⟩:=r.add hm (by omega) ha;rcases q with⟨_,q⟩ | ⟨_,_,q,_⟩
  ·rw[Ac2 q.bits];omega
  ·rw[Ac2 q.bits];omega
 ·have h1:=hput K1 T1 K2 M2 y hd ha ho hdm;have h2:=Bn5 M2;have h3:=hG.cnt;omega
end Go.Proofs.YtgfbepakonjbnaaGreat
end
