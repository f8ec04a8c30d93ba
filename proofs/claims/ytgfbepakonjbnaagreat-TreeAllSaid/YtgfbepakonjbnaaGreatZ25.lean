/-
  cofferlaw9.leaf: a leaf's pairs, and that it keeps the rules. (Written by tools/put/twB.py.)
-/
import Derived.Test.YtgfbepakonjbnaaGreatZ23
import Derived.Test.YtgfbepakonjbnaaGreatZ24
set_option maxRecDepth 100000
set_option maxHeartbeats 16000000
section
set_option linter.unusedSimpArgs false
set_option linter.unusedVariables false
namespace Go.Proofs.YtgfbepakonjbnaaGreat
open Go.RowKit Go.MapKept Go.ChangeMaps
section
attribute [-go_sem] loadCells storeCells Instr.build Instr.buildSlice
attribute [local go_sem] Ad5 At3
theorem E5{a b:Int}(h:a=b)(h0:0<=b)(h1:b<=100000):IntKind.i64.wrap a=b/\wrap64 a=b:=by
 subst h;refine⟨?_,?_⟩
 ·rw[IntKind.wrap_i64];omega
 ·unfold wrap64;omega
theorem Ac9{w:World}{b:Nat}{p:B0}{T:TypeId}{fr:Nat × Nat}(h:w.heap[b]?=some (.cells (pc p).toArray T fr))(h1:p.1.length=32):(loadCells ⟨b,0,none⟩ 32).run Tryz.prog w=.ok (bts p.1).toArray w:=by
 refine B2 (λ j v hv=>?_) h1;rw[A4 h,List.getElem?_toArray,Nat.zero_add];have hj:=(List.getElem?_eq_some_iff.1 hv).1;unfold pc;rw[List.getElem?_append_left hj];exact hv
theorem Al2{w:World}{B n c:Nat}{g:Nat}{l:List B0}(h:w.ownsRow B TP 48 (.slice (some ⟨g,0,none⟩) n c) n (l.map pc).flatten)(hl:∀p,p∈l->p.1.length=32/\p.2.length=16)(hn:0<n){i:Nat}{p:B0}(hp:l[i]?=some p):(loadCells ⟨g,i*48,none⟩ 32).run Tryz.prog w=.ok (bts p.1).toArray w:=by
 obtain⟨g',cap,e,_,_,hc,_⟩:=F3 h hn;cases e
 have hpl:=hl p (List.mem_of_getElem? hp);refine B2 (λ j v hv=>?_) hpl.1;have hj:=(List.getElem?_eq_some_iff.1 hv).1;rw[A8] at hj;have:=Ao5 (sz:=48) (es:=l.map pc) (λ e he=>by obtain⟨q,hq,rfl⟩:=List.mem_map.1 he;exact L8 (hl q hq).1 (hl q hq).2) (i:=i) (j:=j) (e:=pc p) (by rw[List.getElem?_map,hp];rfl) (by omega);refine hc (i*48+j) v ?_;rw[this];unfold pc;rw[List.getElem?_append_left (by rw[A8];omega)];exact hv
theorem R5(a b:Bs)(ha:a.length=32)(hb:b.length=32)(w:World):Calls Tryz.prog 202 #[.agg (bts a).toArray,.agg (bts b).toArray] w λ e w'=>e=.returned (.bool (ltB a b))/\Upd [] w w':=Bu6 a b ha hb w
theorem Bu7{w:World}{kb c:Nat}{l:List B0}(hr:Rd w (.slice (some ⟨kb,0,none⟩) 512 c) (C8 (l.map (·.1)) (l.map (·.2))))(hok:K5 (l.map (·.1)) (l.map (·.2)))(hc:512<=c)(root low high:Bool)(lo hi:Bs)(hlo:lo.length=32)(hhi:hi.length=32)
  (hroot:(if root then 1 else 5)<=l.length) (hs:(l.map (·.1)).Pairwise (λ x y=>ltB x y=true)) (hlow:low=true->∀p,p∈l->ltB p.1 lo=false) (hhigh:high=true->∀p,p∈l->ltB p.1 hi=true) :
  Calls Tryz.prog 200 #[.slice (some ⟨kb,0,none⟩) 512 c,.int .i64 (l.length:Int),.bool root,.bool low,.bool high,arr lo,arr hi] w λ e w'=>∃a c',e=.returned (.tuple #[.slice a l.length c',.int .i64 1,.bool true])/\E8 w' w.heap.size (.slice a l.length c') l/\Upd [] w w':=by
 have hm:l.length<=10:=by have:=hok.most;rwa [List.length_map] at this
 obtain⟨n,hn⟩:∃n,n=l.length:=⟨_,rfl⟩;have hel:=K6 hok (Nat.le_refl _);obtain⟨E,hE⟩:∃E,E=C8 (l.map (·.1)) (l.map (·.2)):=⟨_,rfl⟩;have HE:Hid (E=C8 (l.map (·.1)) (l.map (·.2))):=η hE;have HEL:Hid (E.length=512):=by show E.length=512;rw[hE];exact hel
 rw[← hE] at hr;have HZ1:Hid (∀k,2<=k->k<8->E[k]?=some 0):=by show ∀k,_;intro k h1 h2;rw[hE];exact(Ab4 hok h2 (Nat.le_refl _)).trans (Ap7 h1 (by omega))
 obtain⟨J,hJ⟩:∃J,J=8+48*n:=⟨_,rfl⟩;have HZ2:Hid (∀k,J<=k->k<512->E[k]?=some 0):=by show ∀k,_;intro k h1 h2;rw[hE];exact Bb5 hok h2 (Nat.le_refl _) (by rw[List.length_map];omega)
 have HPL:Hid (∀p,p∈l->p.1.length=32/\p.2.length=16):=η hok.pairs;have HAT:Hid (∀q p,l[q]?=some p->(E.drop (8+48*q)).take 32=p.1/\(E.drop (8+48*q+32)).take 16=p.2):=by
  show ∀q p,_
  intro q p hp;have hq:=(List.getElem?_eq_some_iff.1 hp).1;have h:=Ay8 hok (j:=q) (k:=(l.map (·.1)).length) (Nat.le_refl _) (by rw[List.length_map];exact hq);rw[List.getD_eq_getElem?_getD,List.getD_eq_getElem?_getD,List.getElem?_map,List.getElem?_map,hp] at h;rw[hE];exact h
 have HS:=η hs;have HLW:=η hlow;have HHG:=η hhigh;have HN:=η hn;obtain⟨wA,hwA⟩:∃wA,wA=(w.alloc (.cells (bts lo).toArray 35)).alloc (.cells (bts hi).toArray 35):=⟨_,rfl⟩;have huA:Upd [] w wA:=by rw[hwA];exact((Upd.refl _ _).alloc _).alloc _
 obtain⟨b12,hb12⟩:∃x,x=w.heap.size:=⟨_,rfl⟩;obtain⟨b13,hb13⟩:∃x,x=w.heap.size+1:=⟨_,rfl⟩;obtain⟨h12,h13⟩:=Aa0 w (bts lo).toArray (bts hi).toArray 35 35;rw[← hwA,← hb12] at h12;rw[← hwA,← hb13] at h13;have H12:=η h12;have H13:=η h13;have HRA:=η (hr.below huA);have HUA:=η huA;have HW:=η hwA;have HB:=η (And.intro hb12 hb13);have HJ:=η hJ;have HM:=η hm;have HC:=η hc;rw[← hn] at hroot ⊢;have d1:decide (10<(n:Int))=false:=decide_eq_false (by omega);have hroot1:1<=n:=by split at hroot<;>omega
 have d2:decide ((n:Int)<1)=false:=decide_eq_false (by omega);have HD3:Hid (root=false->decide ((n:Int)<5)=false):=η (λ e=>by subst e;exact decide_eq_false (by simp at hroot;omega));have hw1:=(E5 (a:=48*(n:Int)) (b:=((48*n:Nat):Int)) (by omega) (by omega) (by omega)).2;have hw2:=(E5 (a:=8+((48*n:Nat):Int)) (b:=(J:Int)) (by omega) (by omega) (by omega)).2;obtain⟨J0,hJ0⟩:∃x,x=48*n:=⟨_,rfl⟩;rw[← hJ0] at hw1 hw2;clear hr hok hs hlow hhigh hn hE hel hwA huA hb12 hb13 h12 h13 hJ hc hm hroot hroot1 hJ0;have HHW:=η (And.intro hw1 hw2);clear hw1 hw2;unfold arr;have HZA:=η (Ah7 HRA.out HEL.out 2 8 (by omega) (by omega) HZ1.out);have HZB:=η (Ah7 HRA.out HEL.out J 512 (by have:=HJ.out;have:=HM.out;have:=HN.out;omega) (by omega) HZ2.out);go_enter Tryz.func200,Tryz.ntmps200
 go_upto_region 1 with(fail)
 rw[← HW.out,← HB.out.2,← HB.out.1];go_cut [46] (λ s wz=>s=.bool false/\wz=wA)
 case first=>
  have d3:=HD3.out;cases root
  all_goals
   simp only[forall_const,false_implies,reduceCtorEq] at d3;go_wp2_with fail
   refine HZA.out.mono ?_;rintro e w1 ⟨rfl,rfl⟩;obtain⟨hw1,hw2⟩:=HHW.out;go_wp2_with fail
   clear hw1 hw2;refine HZB.out.mono ?_;rintro e w1 ⟨rfl,rfl⟩;go_wp2_with fail
   go_meet
   exact⟨rfl,rfl⟩
 case rest=>
 obtain⟨rfl,hwc⟩:=hcut;rw[hwc] at *;go_wp2_with fail
 clear d1 d2;go_loopw [18,17] (λ k ou wr=>∃q:Nat,q<=n/\k=.int .i64 (q:Int)/\E8 wr wA.heap.size ou (l.take q)/\Upd [] wA wr) (λ k _ _=>n-(intOf k).toNat)
 case atStart=>exact⟨0,by omega,rfl,Y0 _ _ _ _,Upd.refl _ _⟩
 case round=>
  obtain⟨q,hq,rfl,hP,hu⟩:=hrel;have hlq:(l.take q).length=q:=by rw[List.length_take];have:=HN.out;omega
  obtain⟨sa,sc,rfl⟩:=hP.shape;rw[hlq];unfold E8 at hP;rw[hlq] at hP;rcases Nat.lt_or_ge q n with hlt | hge
  ·have dq:decide ((q:Int)<(n:Int))=true:=decide_eq_true (by omega);obtain⟨p,hp⟩:∃p,l[q]?=some p:=⟨_,List.getElem?_eq_getElem (by have:=HN.out;omega)⟩;have hpl:=HPL.out p (List.mem_of_getElem? hp);obtain⟨I0,hI0⟩:∃x,x=48*q:=⟨_,rfl⟩;obtain⟨I1,hI1⟩:∃x,x=8+48*q:=⟨_,rfl⟩;obtain⟨I2,hI2⟩:∃x,x=I1+32:=⟨_,rfl⟩;obtain⟨I3,hI3⟩:∃x,x=I1+48:=⟨_,rfl⟩;have hat:=HAT.out q p hp;rw[← hI1,← hI2] at hat;have hqn:q<10:=by have:=HM.out;have:=HN.out;omega
   have hcc:=HC.out;have HR1:=η (Rd.range (HRA.out.below hu) HEL.out (I:=I1) (n:=32) (by omega) hat.1);have HR2:=η (Rd.range (HRA.out.below hu) HEL.out (I:=I2) (n:=16) (by omega) hat.2);have HWQ:Hid (IntKind.i64.wrap (48*(q:Int))=(I0:Int)/\IntKind.i64.wrap (8+(I0:Int))=(I1:Int)/\IntKind.i64.wrap (40+(I0:Int))=(I2:Int)/\IntKind.i64.wrap (56+(I0:Int))=(I3:Int)):=η ⟨(E5 (by omega) (by omega) (by omega)).1,(E5 (by omega) (by omega) (by omega)).1,(E5 (by omega) (by omega) (by omega)).1,(E5 (by omega) (by omega) (by omega)).1⟩;have s1:I2-I1=32:=by omega
   have s2:I3-I2=16:=by omega
   have j0:(0:Int)<=(I1:Int):=by omega
   have j1:(I1:Int)<=(I2:Int):=by omega
   have j2:(I2:Int)<=(c:Int):=by omega
   have j3:(0:Int)<=(I2:Int):=by omega
   have j4:(I2:Int)<=(I3:Int):=by omega
   have j5:(I3:Int)<=(c:Int):=by omega
   have j6:I2<=c:=by omega
   have j7:I3<=c:=by omega
   have j8:¬(c=I1):=by omega
   have j9:¬(c=I2):=by omega
   have HPR:=η hP;have HU:=η hu;have HPP:=η hp;have bp:=An1 hpl.1 hpl.2;have hp1:=hpl.1;have hp2:=hpl.2;have hlt2:decide (q<n)=true:=decide_eq_true hlt;clear hI0 hI1 hI2 hI3 hat hcc hP hu hp;go_wp2_with fail
   refine B6 (λ w'=>Upd [] wr w') [] (by kernel_rfl) (Upd.refl _ _).drew (λ hHeld=>?_);generalize wr.drew=w0 at hHeld ⊢;refine κt 0 ?_ hHeld ?_ ?_;rotate_left
   ·(intro w hSw;go_simp<;>with_reducible rfl)
   try simp only[Act.put,κg,κo,κp,αs,αz,αc]
   refine κt 1 ?_ hHeld ?_ ?_;rotate_left
   ·(intro w hSw;go_simp<;>with_reducible rfl)
   try simp only[Act.put,κg,κo,κp,αs,αz,αc]
   refine κt 4 ?_ hHeld ?_ ?_;rotate_left
   ·(intro w hSw;go_simp<;>with_reducible rfl)
   try simp only[Act.put,κg,κo,κp,αs,αz,αc]
   refine κt 10 ?_ hHeld ?_ ?_;rotate_left
   ·(intro w hSw;go_simp<;>with_reducible rfl)
   try simp only[Act.put,κg,κo,κp,αs,αz,αc]
   refine κt 11 ?_ hHeld ?_ ?_;rotate_left
   ·(intro w hSw;go_simp<;>with_reducible rfl)
   try simp only[Act.put,κg,κo,κp,αs,αz,αc]
   refine κt 14 ?_ hHeld ?_ ?_;rotate_left
   ·(intro w hSw;go_simp<;>with_reducible rfl)
   try simp only[Act.put,κg,κo,κp,αs,αz,αc]
   refine κt 2 ?_ hHeld ?_ ?_;rotate_left
   ·(intro w hSw;have wq:=HWQ.out.1;go_simp<;>with_reducible rfl)
   try simp only[Act.put,κg,κo,κp,αs,αz,αc]
   refine κt 5 ?_ hHeld ?_ ?_;rotate_left
   ·(intro w hSw;have wq:=HWQ.out.1;go_simp<;>with_reducible rfl)
   try simp only[Act.put,κg,κo,κp,αs,αz,αc]
   refine κt 12 ?_ hHeld ?_ ?_;rotate_left
   ·(intro w hSw;have wq:=HWQ.out.1;go_simp<;>with_reducible rfl)
   try simp only[Act.put,κg,κo,κp,αs,αz,αc]
   refine κt 15 ?_ hHeld ?_ ?_;rotate_left
   ·(intro w hSw;have wq:=HWQ.out.1;go_simp<;>with_reducible rfl)
   try simp only[Act.put,κg,κo,κp,αs,αz,αc]
   refine κt 3 ?_ hHeld ?_ ?_;rotate_left
   ·(intro w hSw;have wq:=HWQ.out.2.1;go_simp<;>with_reducible rfl)
   try simp only[Act.put,κg,κo,κp,αs,αz,αc]
   refine κt 6 ?_ hHeld ?_ ?_;rotate_left
   ·(intro w hSw;have wq:=HWQ.out.2.2.1;go_simp<;>with_reducible rfl)
   try simp only[Act.put,κg,κo,κp,αs,αz,αc]
   refine κt 13 ?_ hHeld ?_ ?_;rotate_left
   ·(intro w hSw;have wq:=HWQ.out.2.2.1;go_simp<;>with_reducible rfl)
   try simp only[Act.put,κg,κo,κp,αs,αz,αc]
   refine κt 16 ?_ hHeld ?_ ?_;rotate_left
   ·(intro w hSw;have wq:=HWQ.out.2.2.2;go_simp<;>with_reducible rfl)
   try simp only[Act.put,κg,κo,κp,αs,αz,αc]
   refine κt 7 ?_ hHeld ?_ ?_;rotate_left
   ·(intro w hSw;go_simp<;>with_reducible rfl)
   try simp only[Act.put,κg,κo,κp,αs,αz,αc]
   refine κt 17 ?_ hHeld ?_ ?_;rotate_left
   ·(intro w hSw;go_simp<;>with_reducible rfl)
   try simp only[Act.put,κg,κo,κp,αs,αz,αc]
   refine κt 8 ?_ hHeld ?_ ?_;rotate_left
   ·(intro w hSw;go_simp<;>with_reducible rfl)
   try simp only[Act.put,κg,κo,κp,αs,αz,αc]
   refine κt 18 ?_ hHeld ?_ ?_;rotate_left
   ·(intro w hSw;go_simp<;>with_reducible rfl)
   try simp only[Act.put,κg,κo,κp,αs,αz,αc]
   refine κt 9 ?_ hHeld ?_ ?_;rotate_left
   ·(intro w hSw;have l0:=B2 (E9 HR1.out hSw (by simp)) hp1;go_simp<;>with_reducible rfl)
   try simp only[Act.put,κg,κo,κp,αs,αz,αc]
   refine κt 19 ?_ hHeld ?_ ?_;rotate_left
   ·(intro w hSw;have l0:=U6 (E9 HR2.out hSw (by simp)) hp2;go_simp<;>with_reducible rfl)
   try simp only[Act.put,κg,κo,κp,αs,αz,αc]
   refine κt 20 ?_ hHeld ?_ ?_;rotate_left
   ·(intro w hSw;go_simp<;>with_reducible rfl)
   try simp only[Act.put,κg,κo,κp,αs,αz,αc]
   refine κr 21 (λ K hK=>?_);go_simp;refine hK.out _ _ (λ _=>hHeld.alloc _) ?_;clear hK K;obtain⟨w5,hw5⟩:∃x,x=w0.alloc (.cells #[.int .u8 0,.int .u8 0,.int .u8 0,.int .u8 0,.int .u8 0,.int .u8 0,.int .u8 0,.int .u8 0,.int .u8 0,.int .u8 0,.int .u8 0,.int .u8 0,.int .u8 0,.int .u8 0,.int .u8 0,.int .u8 0,.int .u8 0,.int .u8 0,.int .u8 0,.int .u8 0,.int .u8 0,.int .u8 0,.int .u8 0,.int .u8 0,.int .u8 0,.int .u8 0,.int .u8 0,.int .u8 0,.int .u8 0,.int .u8 0,.int .u8 0,.int .u8 0,.int .u8 0,.int .u8 0,.int .u8 0,.int .u8 0,.int .u8 0,.int .u8 0,.int .u8 0,.int .u8 0,.int .u8 0,.int .u8 0,.int .u8 0,.int .u8 0,.int .u8 0,.int .u8 0,.int .u8 0,.int .u8 0] 169):=⟨_,rfl⟩;obtain⟨b19,hb19⟩:∃x,x=w0.heap.size:=⟨_,rfl⟩;have hc19:=A6 (w:=w0) (.cells #[.int .u8 0,.int .u8 0,.int .u8 0,.int .u8 0,.int .u8 0,.int .u8 0,.int .u8 0,.int .u8 0,.int .u8 0,.int .u8 0,.int .u8 0,.int .u8 0,.int .u8 0,.int .u8 0,.int .u8 0,.int .u8 0,.int .u8 0,.int .u8 0,.int .u8 0,.int .u8 0,.int .u8 0,.int .u8 0,.int .u8 0,.int .u8 0,.int .u8 0,.int .u8 0,.int .u8 0,.int .u8 0,.int .u8 0,.int .u8 0,.int .u8 0,.int .u8 0,.int .u8 0,.int .u8 0,.int .u8 0,.int .u8 0,.int .u8 0,.int .u8 0,.int .u8 0,.int .u8 0,.int .u8 0,.int .u8 0,.int .u8 0,.int .u8 0,.int .u8 0,.int .u8 0,.int .u8 0,.int .u8 0] 169);rw[← hw5,← hb19] at hc19 ⊢;have hS5:Upd [] wr w5:=by rw[hw5];exact hHeld.alloc _
   have HB19:Hid (wr.heap.size<=b19):=η (by rw[hb19];exact hHeld.size);have st:=C7 hc19 (l:=pc p) (by rw[L8 hp1 hp2];rfl) (Ae4 p);have hpcl:=L8 hp1 hp2;clear hw5 hb19;try simp only[Act.put,κg,κo,κp,αs,αz,αc]
   refine κr 22 (λ K hK=>?_);go_simp;refine hK.out _ _ (λ _=>hS5.late (D5 (S:=[b19]) (Upd.refl _ _) _ (.inl (by simp))) (λ k hk=> .inr (by simp at hk;subst hk;exact HB19.out))) ?_;clear hK K;try simp only[Act.put,κg,κo,κp,αs,αz,αc]
   refine B1 (by kernel_rfl) ?_ _;obtain⟨w6,hw6⟩:∃x,x=w5.setRow b19 (pc p).toArray:=⟨_,rfl⟩;have hst:Upd [b19] w5 w6:=by rw[hw6];exact D5 (Upd.refl _ _) _ (.inl (by simp))
   have H19:Hid (w6.heap[b19]?=some (.cells (pc p).toArray 169 (0,0))):=by show w6.heap[b19]?=_;rw[hw6];exact setRow_heap _ _ _ _ _ _ hc19
   have hu6:Upd [] wr w6:=hS5.late hst (λ k hk=> .inr (by simp at hk;subst hk;exact HB19.out));have HU6:=η hu6;rw[← hw6];clear hw6 hst hc19 st hS5 hHeld bp hpcl;go_wp2_with fail
   have HPR6:=η (B8 (S:=[]) HPR.out hu6 (by simp));have HU6A:=η (HU.out.trans hu6);clear hu6;have HLO:Hid (low=true->ltB p.1 lo=false):=η (λ e=>HLW.out e p (List.mem_of_getElem? HPP.out));have HHI:Hid (high=true->ltB p.1 hi=true):=η (λ e=>HHG.out e p (List.mem_of_getElem? HPP.out));have HPV:Hid (∀p',0<q->l[q-1]?=some p'->ltB p'.1 p.1=true):=by
    show ∀p',_
    intro p' h0 hp';have h1:=List.pairwise_iff_getElem.1 HS.out (q-1) q (by rw[List.length_map];have:=(List.getElem?_eq_some_iff.1 hp').1;omega) (by rw[List.length_map];exact(List.getElem?_eq_some_iff.1 HPP.out).1) (by omega);rw[List.getElem_map,List.getElem_map,(List.getElem?_eq_some_iff.1 hp').2,(List.getElem?_eq_some_iff.1 HPP.out).2] at h1;exact h1
   go_upto_region 8 with(fail)
   go_cut [105] (λ s wz=>s=.bool false/\Upd [] w6 wz)
   case first=>
    have h12c:=(HU6A.out.block _ (A2 H12.out) (by simp)).trans H12.out;have h13c:=(HU6A.out.block _ (A2 H13.out) (by simp)).trans H13.out;have H12B:=η h12c;have H13B:=η h13c;clear h12c h13c hlt2;have hlqn:(l.take q).length=q:=hlq;refine B6 (λ w'=>Upd [] w6 w') [] (by kernel_rfl) (Upd.refl _ _).drew (λ hHeld=>?_);generalize w6.drew=w0 at hHeld ⊢;have HTL:Hid (∀x,x∈l.take q->x.1.length=32/\x.2.length=16):=by show ∀x,_;exact λ x hx=>HPL.out x (List.mem_of_mem_take hx)
    refine κt 0 ?_ hHeld ?_ ?_;rotate_left
    ·(intro w hSw;go_simp<;>with_reducible rfl)
    try simp only[Act.put,κg,κo,κp,αs,αz,αc]
    refine κt 1 ?_ hHeld ?_ ?_;rotate_left
    ·(intro w hSw;go_simp<;>with_reducible rfl)
    try simp only[Act.put,κg,κo,κp,αs,αz,αc]
    cases low
    ·refine A0 (i:=2) (v:=undef) rfl (by kernel_rfl) (λ _ _ _ h=>h) hHeld (Or.inr ⟨by kernel_rfl,rfl⟩) ?_;try simp only[Act.put,κg,κo,κp,αs,αz,αc]
     refine A0 (i:=3) (v:=undef) rfl (by kernel_rfl) (λ _ _ _ h=>h) hHeld (Or.inr ⟨by kernel_rfl,rfl⟩) ?_;try simp only[Act.put,κg,κo,κp,αs,αz,αc]
     refine A0 (i:=4) (v:=undef) rfl (by kernel_rfl) (λ _ _ _ h=>h) hHeld (Or.inr ⟨by kernel_rfl,rfl⟩) ?_;try simp only[Act.put,κg,κo,κp,αs,αz,αc]
     refine κr 5 (λ K hK=>?_);go_simp;refine hK.out _ _ (λ _=>hHeld) ?_;clear hK K;try simp only[Act.put,κg,κo,κp,αs,αz,αc]
     refine κt 6 ?_ hHeld ?_ ?_;rotate_left
     ·(intro w hSw;go_simp<;>with_reducible rfl)
     try simp only[Act.put,κg,κo,κp,αs,αz,αc]
     refine κt 7 ?_ hHeld ?_ ?_;rotate_left
     ·(intro w hSw;go_simp<;>with_reducible rfl)
     try simp only[Act.put,κg,κo,κp,αs,αz,αc]
     refine κt 8 ?_ hHeld ?_ ?_;rotate_left
     ·(intro w hSw;go_simp<;>with_reducible rfl)
     try simp only[Act.put,κg,κo,κp,αs,αz,αc]
     refine κt 9 ?_ hHeld ?_ ?_;rotate_left
     ·(intro w hSw;go_simp<;>with_reducible rfl)
     try simp only[Act.put,κg,κo,κp,αs,αz,αc]
     cases high
     ·refine A0 (i:=10) (v:=undef) rfl (by kernel_rfl) (λ _ _ _ h=>h) hHeld (Or.inr ⟨by kernel_rfl,rfl⟩) ?_;try simp only[Act.put,κg,κo,κp,αs,αz,αc]
      refine A0 (i:=11) (v:=undef) rfl (by kernel_rfl) (λ _ _ _ h=>h) hHeld (Or.inr ⟨by kernel_rfl,rfl⟩) ?_;try simp only[Act.put,κg,κo,κp,αs,αz,αc]
      refine A0 (i:=12) (v:=undef) rfl (by kernel_rfl) (λ _ _ _ h=>h) hHeld (Or.inr ⟨by kernel_rfl,rfl⟩) ?_;try simp only[Act.put,κg,κo,κp,αs,αz,αc]
      refine κr 13 (λ K hK=>?_);go_simp;refine hK.out _ _ (λ _=>hHeld) ?_;clear hK K;try simp only[Act.put,κg,κo,κp,αs,αz,αc]
      refine A0 (i:=14) (v:=undef) rfl (by kernel_rfl) (λ _ _ _ h=>h) hHeld (Or.inr ⟨by kernel_rfl,rfl⟩) ?_;try simp only[Act.put,κg,κo,κp,αs,αz,αc]
      refine κt 15 ?_ hHeld ?_ ?_;rotate_left
      ·(intro w hSw;go_simp<;>with_reducible rfl)
      try simp only[Act.put,κg,κo,κp,αs,αz,αc]
      refine κt 16 ?_ hHeld ?_ ?_;rotate_left
      ·(intro w hSw;go_simp<;>with_reducible rfl)
      try simp only[Act.put,κg,κo,κp,αs,αz,αc]
      refine κt 17 ?_ hHeld ?_ ?_;rotate_left
      ·(intro w hSw;go_simp<;>with_reducible rfl)
      try simp only[Act.put,κg,κo,κp,αs,αz,αc]
      refine κt 18 ?_ hHeld ?_ ?_;rotate_left
      ·(intro w hSw;go_simp<;>with_reducible rfl)
      try simp only[Act.put,κg,κo,κp,αs,αz,αc]
      rcases Nat.lt_or_ge 0 q with hq0 | hq0
      ·have dz:decide ((q:Int) > 0)=true:=decide_eq_true (by omega);have dz':decide (0<(q:Int))=true:=decide_eq_true (by omega);obtain⟨q1,hq1⟩:∃x,x=q-1:=⟨_,rfl⟩;have HWK:Hid (IntKind.i64.wrap ((q:Int)-1)=(q1:Int)):=η (E5 (by omega) (by omega) (by omega)).1;have ka:(0:Int)<=(q1:Int):=by omega
       have kb':(q1:Int)<(q:Int):=by omega
       have kc:q1<q:=by omega
       obtain⟨p',hp'⟩:∃p',l[q1]?=some p':=⟨_,List.getElem?_eq_getElem (by have:=HN.out;omega)⟩;have HV':=η (HPV.out p' (by omega) (by rw[← hq1];exact hp'));have HTQ:Hid ((l.take q)[q1]?=some p'):=η (by rw[List.getElem?_take,if_pos kc];exact hp');have hp1':=(HPL.out p' (List.mem_of_getElem? hp')).1;clear hp' hq1;obtain⟨g',cap,e,_⟩:=F3 HPR6.out (by omega);cases e
       refine κt 19 ?_ hHeld ?_ ?_;rotate_left
       ·(intro w hSw;go_simp<;>with_reducible rfl)
       try simp only[Act.put,κg,κo,κp,αs,αz,αc]
       refine κt 20 ?_ hHeld ?_ ?_;rotate_left
       ·(intro w hSw;go_simp<;>with_reducible rfl)
       try simp only[Act.put,κg,κo,κp,αs,αz,αc]
       refine κt 21 ?_ hHeld ?_ ?_;rotate_left
       ·(intro w hSw;go_simp<;>with_reducible rfl)
       try simp only[Act.put,κg,κo,κp,αs,αz,αc]
       refine κt 22 ?_ hHeld ?_ ?_;rotate_left
       ·(intro w hSw;go_simp<;>with_reducible rfl)
       try simp only[Act.put,κg,κo,κp,αs,αz,αc]
       refine κt 23 ?_ hHeld ?_ ?_;rotate_left
       ·(intro w hSw;have wq:=HWK.out;go_simp<;>with_reducible rfl)
       try simp only[Act.put,κg,κo,κp,αs,αz,αc]
       refine κt 24 ?_ hHeld ?_ ?_;rotate_left
       ·(intro w hSw;go_simp<;>with_reducible rfl)
       try simp only[Act.put,κg,κo,κp,αs,αz,αc]
       refine κt 25 ?_ hHeld ?_ ?_;rotate_left
       ·(intro w hSw;go_simp<;>with_reducible rfl)
       try simp only[Act.put,κg,κo,κp,αs,αz,αc]
       refine κt 26 ?_ hHeld ?_ ?_;rotate_left
       ·(intro w hSw;have l0:=Al2 (B8 (S:=[]) HPR6.out hSw (by simp)) HTL.out (by omega) HTQ.out;go_simp<;>with_reducible rfl)
       try simp only[Act.put,κg,κo,κp,αs,αz,αc]
       refine κt 27 ?_ hHeld ?_ ?_;rotate_left
       ·(intro w hSw;go_simp<;>with_reducible rfl)
       try simp only[Act.put,κg,κo,κp,αs,αz,αc]
       refine κt 28 ?_ hHeld ?_ ?_;rotate_left
       ·(intro w hSw;have l0:=Ac9 ((hSw.block _ (A2 H19.out) (by simp)).trans H19.out) hp1;go_simp<;>with_reducible rfl)
       try simp only[Act.put,κg,κo,κp,αs,αz,αc]
       refine κr 29 (λ K hK=>?_);go_simp;go_at_call 202
       (with_reducible refine(R5 p'.1 p.1 hp1' hp1 _).mono ?_)
       rintro e wl ⟨rfl,hul⟩;rw[HV'.out];refine hK.out _ _ (λ _=>hHeld.trans hul) ?_;replace hHeld:=hHeld.trans hul;clear hul hK K;try simp only[Act.put,κg,κo,κp,αs,αz,αc]
       refine κt 30 ?_ hHeld ?_ ?_;rotate_left
       ·(intro w hSw;go_simp<;>with_reducible rfl)
       try simp only[Act.put,κg,κo,κp,αs,αz,αc]
       refine κt 31 ?_ hHeld ?_ ?_;rotate_left
       ·(intro w hSw;go_simp<;>with_reducible rfl)
       try simp only[Act.put,κg,κo,κp,αs,αz,αc]
       refine κt 32 ?_ hHeld ?_ ?_;rotate_left
       ·(intro w hSw;go_simp<;>with_reducible rfl)
       try simp only[Act.put,κg,κo,κp,αs,αz,αc]
       refine B1 (by kernel_rfl) ?_ _;go_wp2_with fail
       go_meet
       exact⟨rfl,hHeld⟩
      ·have dz:decide ((q:Int) > 0)=false:=decide_eq_false (by omega);have dz':decide (0<(q:Int))=false:=decide_eq_false (by omega);have dn:¬(0<q):=by omega
       refine κt 19 ?_ hHeld ?_ ?_;rotate_left
       ·(intro w hSw;go_simp<;>with_reducible rfl)
       try simp only[Act.put,κg,κo,κp,αs,αz,αc]
       refine κt 20 ?_ hHeld ?_ ?_;rotate_left
       ·(intro w hSw;go_simp<;>with_reducible rfl)
       try simp only[Act.put,κg,κo,κp,αs,αz,αc]
       refine A0 (i:=21) (v:=undef) rfl (by kernel_rfl) (λ _ _ _ h=>h) hHeld (Or.inr ⟨by kernel_rfl,rfl⟩) ?_;try simp only[Act.put,κg,κo,κp,αs,αz,αc]
       refine A0 (i:=22) (v:=undef) rfl (by kernel_rfl) (λ _ _ _ h=>h) hHeld (Or.inr ⟨by kernel_rfl,rfl⟩) ?_;try simp only[Act.put,κg,κo,κp,αs,αz,αc]
       refine A0 (i:=23) (v:=undef) rfl (by kernel_rfl) (λ _ _ _ h=>h) hHeld (Or.inr ⟨by kernel_rfl,rfl⟩) ?_;try simp only[Act.put,κg,κo,κp,αs,αz,αc]
       refine A0 (i:=24) (v:=undef) rfl (by kernel_rfl) (λ _ _ _ h=>h) hHeld (Or.inr ⟨by kernel_rfl,rfl⟩) ?_;try simp only[Act.put,κg,κo,κp,αs,αz,αc]
       refine A0 (i:=25) (v:=undef) rfl (by kernel_rfl) (λ _ _ _ h=>h) hHeld (Or.inr ⟨by kernel_rfl,rfl⟩) ?_;try simp only[Act.put,κg,κo,κp,αs,αz,αc]
       refine A0 (i:=26) (v:=undef) rfl (by kernel_rfl) (λ _ _ _ h=>h) hHeld (Or.inr ⟨by kernel_rfl,rfl⟩) ?_;try simp only[Act.put,κg,κo,κp,αs,αz,αc]
       refine A0 (i:=27) (v:=undef) rfl (by kernel_rfl) (λ _ _ _ h=>h) hHeld (Or.inr ⟨by kernel_rfl,rfl⟩) ?_;try simp only[Act.put,κg,κo,κp,αs,αz,αc]
       refine A0 (i:=28) (v:=undef) rfl (by kernel_rfl) (λ _ _ _ h=>h) hHeld (Or.inr ⟨by kernel_rfl,rfl⟩) ?_;try simp only[Act.put,κg,κo,κp,αs,αz,αc]
       refine κr 29 (λ K hK=>?_);go_simp;refine hK.out _ _ (λ _=>hHeld) ?_;clear hK K;try simp only[Act.put,κg,κo,κp,αs,αz,αc]
       refine A0 (i:=30) (v:=undef) rfl (by kernel_rfl) (λ _ _ _ h=>h) hHeld (Or.inr ⟨by kernel_rfl,rfl⟩) ?_;try simp only[Act.put,κg,κo,κp,αs,αz,αc]
       refine κt 31 ?_ hHeld ?_ ?_;rotate_left
       ·(intro w hSw;go_simp<;>with_reducible rfl)
       try simp only[Act.put,κg,κo,κp,αs,αz,αc]
       refine κt 32 ?_ hHeld ?_ ?_;rotate_left
       ·(intro w hSw;go_simp<;>with_reducible rfl)
       try simp only[Act.put,κg,κo,κp,αs,αz,αc]
       refine B1 (by kernel_rfl) ?_ _;go_wp2_with fail
       go_meet
       exact⟨rfl,hHeld⟩
     ·refine κt 10 ?_ hHeld ?_ ?_;rotate_left
      ·(intro w hSw;go_simp<;>with_reducible rfl)
      try simp only[Act.put,κg,κo,κp,αs,αz,αc]
      refine κt 11 ?_ hHeld ?_ ?_;rotate_left
      ·(intro w hSw;have l0:=Ac9 ((hSw.block _ (A2 H19.out) (by simp)).trans H19.out) hp1;go_simp<;>with_reducible rfl)
      try simp only[Act.put,κg,κo,κp,αs,αz,αc]
      refine κt 12 ?_ hHeld ?_ ?_;rotate_left
      ·(intro w hSw;have l0:=B2 (λ j v hv=>by rw[A4 ((hSw.block _ (A2 H13B.out) (by simp)).trans H13B.out),List.getElem?_toArray,Nat.zero_add];exact hv) hhi;go_simp<;>with_reducible rfl)
      try simp only[Act.put,κg,κo,κp,αs,αz,αc]
      refine κr 13 (λ K hK=>?_);go_simp;go_at_call 202
      (with_reducible refine(R5 p.1 hi hp1 hhi _).mono ?_)
      rintro e wl ⟨rfl,hul⟩;rw[HHI.out rfl];refine hK.out _ _ (λ _=>hHeld.trans hul) ?_;replace hHeld:=hHeld.trans hul;clear hul hK K;try simp only[Act.put,κg,κo,κp,αs,αz,αc]
      refine κt 14 ?_ hHeld ?_ ?_;rotate_left
      ·(intro w hSw;go_simp<;>with_reducible rfl)
      try simp only[Act.put,κg,κo,κp,αs,αz,αc]
      refine κt 15 ?_ hHeld ?_ ?_;rotate_left
      ·(intro w hSw;go_simp<;>with_reducible rfl)
      try simp only[Act.put,κg,κo,κp,αs,αz,αc]
      refine κt 16 ?_ hHeld ?_ ?_;rotate_left
      ·(intro w hSw;go_simp<;>with_reducible rfl)
      try simp only[Act.put,κg,κo,κp,αs,αz,αc]
      refine κt 17 ?_ hHeld ?_ ?_;rotate_left
      ·(intro w hSw;go_simp<;>with_reducible rfl)
      try simp only[Act.put,κg,κo,κp,αs,αz,αc]
      refine κt 18 ?_ hHeld ?_ ?_;rotate_left
      ·(intro w hSw;go_simp<;>with_reducible rfl)
      try simp only[Act.put,κg,κo,κp,αs,αz,αc]
      rcases Nat.lt_or_ge 0 q with hq0 | hq0
      ·have dz:decide ((q:Int) > 0)=true:=decide_eq_true (by omega);have dz':decide (0<(q:Int))=true:=decide_eq_true (by omega);obtain⟨q1,hq1⟩:∃x,x=q-1:=⟨_,rfl⟩;have HWK:Hid (IntKind.i64.wrap ((q:Int)-1)=(q1:Int)):=η (E5 (by omega) (by omega) (by omega)).1;have ka:(0:Int)<=(q1:Int):=by omega
       have kb':(q1:Int)<(q:Int):=by omega
       have kc:q1<q:=by omega
       obtain⟨p',hp'⟩:∃p',l[q1]?=some p':=⟨_,List.getElem?_eq_getElem (by have:=HN.out;omega)⟩;have HV':=η (HPV.out p' (by omega) (by rw[← hq1];exact hp'));have HTQ:Hid ((l.take q)[q1]?=some p'):=η (by rw[List.getElem?_take,if_pos kc];exact hp');have hp1':=(HPL.out p' (List.mem_of_getElem? hp')).1;clear hp' hq1;obtain⟨g',cap,e,_⟩:=F3 HPR6.out (by omega);cases e
       refine κt 19 ?_ hHeld ?_ ?_;rotate_left
       ·(intro w hSw;go_simp<;>with_reducible rfl)
       try simp only[Act.put,κg,κo,κp,αs,αz,αc]
       refine κt 20 ?_ hHeld ?_ ?_;rotate_left
       ·(intro w hSw;go_simp<;>with_reducible rfl)
       try simp only[Act.put,κg,κo,κp,αs,αz,αc]
       refine κt 21 ?_ hHeld ?_ ?_;rotate_left
       ·(intro w hSw;go_simp<;>with_reducible rfl)
       try simp only[Act.put,κg,κo,κp,αs,αz,αc]
       refine κt 22 ?_ hHeld ?_ ?_;rotate_left
       ·(intro w hSw;go_simp<;>with_reducible rfl)
       try simp only[Act.put,κg,κo,κp,αs,αz,αc]
       refine κt 23 ?_ hHeld ?_ ?_;rotate_left
       ·(intro w hSw;have wq:=HWK.out;go_simp<;>with_reducible rfl)
       try simp only[Act.put,κg,κo,κp,αs,αz,αc]
       refine κt 24 ?_ hHeld ?_ ?_;rotate_left
       ·(intro w hSw;go_simp<;>with_reducible rfl)
       try simp only[Act.put,κg,κo,κp,αs,αz,αc]
       refine κt 25 ?_ hHeld ?_ ?_;rotate_left
       ·(intro w hSw;go_simp<;>with_reducible rfl)
       try simp only[Act.put,κg,κo,κp,αs,αz,αc]
       refine κt 26 ?_ hHeld ?_ ?_;rotate_left
       ·(intro w hSw;have l0:=Al2 (B8 (S:=[]) HPR6.out hSw (by simp)) HTL.out (by omega) HTQ.out;go_simp<;>with_reducible rfl)
       try simp only[Act.put,κg,κo,κp,αs,αz,αc]
       refine κt 27 ?_ hHeld ?_ ?_;rotate_left
       ·(intro w hSw;go_simp<;>with_reducible rfl)
       try simp only[Act.put,κg,κo,κp,αs,αz,αc]
       refine κt 28 ?_ hHeld ?_ ?_;rotate_left
       ·(intro w hSw;have l0:=Ac9 ((hSw.block _ (A2 H19.out) (by simp)).trans H19.out) hp1;go_simp<;>with_reducible rfl)
       try simp only[Act.put,κg,κo,κp,αs,αz,αc]
       refine κr 29 (λ K hK=>?_);go_simp;go_at_call 202
       (with_reducible refine(R5 p'.1 p.1 hp1' hp1 _).mono ?_)
       rintro e wl ⟨rfl,hul⟩;rw[HV'.out];refine hK.out _ _ (λ _=>hHeld.trans hul) ?_;replace hHeld:=hHeld.trans hul;clear hul hK K;try simp only[Act.put,κg,κo,κp,αs,αz,αc]
       refine κt 30 ?_ hHeld ?_ ?_;rotate_left
       ·(intro w hSw;go_simp<;>with_reducible rfl)
       try simp only[Act.put,κg,κo,κp,αs,αz,αc]
       refine κt 31 ?_ hHeld ?_ ?_;rotate_left
       ·(intro w hSw;go_simp<;>with_reducible rfl)
       try simp only[Act.put,κg,κo,κp,αs,αz,αc]
       refine κt 32 ?_ hHeld ?_ ?_;rotate_left
       ·(intro w hSw;go_simp<;>with_reducible rfl)
       try simp only[Act.put,κg,κo,κp,αs,αz,αc]
       refine B1 (by kernel_rfl) ?_ _;go_wp2_with fail
       go_meet
       exact⟨rfl,hHeld⟩
      ·have dz:decide ((q:Int) > 0)=false:=decide_eq_false (by omega);have dz':decide (0<(q:Int))=false:=decide_eq_false (by omega);have dn:¬(0<q):=by omega
       refine κt 19 ?_ hHeld ?_ ?_;rotate_left
       ·(intro w hSw;go_simp<;>with_reducible rfl)
       try simp only[Act.put,κg,κo,κp,αs,αz,αc]
       refine κt 20 ?_ hHeld ?_ ?_;rotate_left
       ·(intro w hSw;go_simp<;>with_reducible rfl)
       try simp only[Act.put,κg,κo,κp,αs,αz,αc]
       refine A0 (i:=21) (v:=undef) rfl (by kernel_rfl) (λ _ _ _ h=>h) hHeld (Or.inr ⟨by kernel_rfl,rfl⟩) ?_;try simp only[Act.put,κg,κo,κp,αs,αz,αc]
       refine A0 (i:=22) (v:=undef) rfl (by kernel_rfl) (λ _ _ _ h=>h) hHeld (Or.inr ⟨by kernel_rfl,rfl⟩) ?_;try simp only[Act.put,κg,κo,κp,αs,αz,αc]
       refine A0 (i:=23) (v:=undef) rfl (by kernel_rfl) (λ _ _ _ h=>h) hHeld (Or.inr ⟨by kernel_rfl,rfl⟩) ?_;try simp only[Act.put,κg,κo,κp,αs,αz,αc]
       refine A0 (i:=24) (v:=undef) rfl (by kernel_rfl) (λ _ _ _ h=>h) hHeld (Or.inr ⟨by kernel_rfl,rfl⟩) ?_;try simp only[Act.put,κg,κo,κp,αs,αz,αc]
       refine A0 (i:=25) (v:=undef) rfl (by kernel_rfl) (λ _ _ _ h=>h) hHeld (Or.inr ⟨by kernel_rfl,rfl⟩) ?_;try simp only[Act.put,κg,κo,κp,αs,αz,αc]
       refine A0 (i:=26) (v:=undef) rfl (by kernel_rfl) (λ _ _ _ h=>h) hHeld (Or.inr ⟨by kernel_rfl,rfl⟩) ?_;try simp only[Act.put,κg,κo,κp,αs,αz,αc]
       refine A0 (i:=27) (v:=undef) rfl (by kernel_rfl) (λ _ _ _ h=>h) hHeld (Or.inr ⟨by kernel_rfl,rfl⟩) ?_;try simp only[Act.put,κg,κo,κp,αs,αz,αc]
       refine A0 (i:=28) (v:=undef) rfl (by kernel_rfl) (λ _ _ _ h=>h) hHeld (Or.inr ⟨by kernel_rfl,rfl⟩) ?_;try simp only[Act.put,κg,κo,κp,αs,αz,αc]
       refine κr 29 (λ K hK=>?_);go_simp;refine hK.out _ _ (λ _=>hHeld) ?_;clear hK K;try simp only[Act.put,κg,κo,κp,αs,αz,αc]
       refine A0 (i:=30) (v:=undef) rfl (by kernel_rfl) (λ _ _ _ h=>h) hHeld (Or.inr ⟨by kernel_rfl,rfl⟩) ?_;try simp only[Act.put,κg,κo,κp,αs,αz,αc]
       refine κt 31 ?_ hHeld ?_ ?_;rotate_left
       ·(intro w hSw;go_simp<;>with_reducible rfl)
       try simp only[Act.put,κg,κo,κp,αs,αz,αc]
       refine κt 32 ?_ hHeld ?_ ?_;rotate_left
       ·(intro w hSw;go_simp<;>with_reducible rfl)
       try simp only[Act.put,κg,κo,κp,αs,αz,αc]
       refine B1 (by kernel_rfl) ?_ _;go_wp2_with fail
       go_meet
       exact⟨rfl,hHeld⟩
    ·refine κt 2 ?_ hHeld ?_ ?_;rotate_left
     ·(intro w hSw;go_simp<;>with_reducible rfl)
     try simp only[Act.put,κg,κo,κp,αs,αz,αc]
     refine κt 3 ?_ hHeld ?_ ?_;rotate_left
     ·(intro w hSw;have l0:=Ac9 ((hSw.block _ (A2 H19.out) (by simp)).trans H19.out) hp1;go_simp<;>with_reducible rfl)
     try simp only[Act.put,κg,κo,κp,αs,αz,αc]
     refine κt 4 ?_ hHeld ?_ ?_;rotate_left
     ·(intro w hSw;have l0:=B2 (λ j v hv=>by rw[A4 ((hSw.block _ (A2 H12B.out) (by simp)).trans H12B.out),List.getElem?_toArray,Nat.zero_add];exact hv) hlo;go_simp<;>with_reducible rfl)
     try simp only[Act.put,κg,κo,κp,αs,αz,αc]
     refine κr 5 (λ K hK=>?_);go_simp;go_at_call 202
     (with_reducible refine(R5 p.1 lo hp1 hlo _).mono ?_)
     rintro e wl ⟨rfl,hul⟩;rw[HLO.out rfl];refine hK.out _ _ (λ _=>hHeld.trans hul) ?_;replace hHeld:=hHeld.trans hul;clear hul hK K;try simp only[Act.put,κg,κo,κp,αs,αz,αc]
     refine κt 6 ?_ hHeld ?_ ?_;rotate_left
     ·(intro w hSw;go_simp<;>with_reducible rfl)
     try simp only[Act.put,κg,κo,κp,αs,αz,αc]
     refine κt 7 ?_ hHeld ?_ ?_;rotate_left
     ·(intro w hSw;go_simp<;>with_reducible rfl)
     try simp only[Act.put,κg,κo,κp,αs,αz,αc]
     refine κt 8 ?_ hHeld ?_ ?_;rotate_left
     ·(intro w hSw;go_simp<;>with_reducible rfl)
     try simp only[Act.put,κg,κo,κp,αs,αz,αc]
     refine κt 9 ?_ hHeld ?_ ?_;rotate_left
     ·(intro w hSw;go_simp<;>with_reducible rfl)
     try simp only[Act.put,κg,κo,κp,αs,αz,αc]
     cases high
     ·refine A0 (i:=10) (v:=undef) rfl (by kernel_rfl) (λ _ _ _ h=>h) hHeld (Or.inr ⟨by kernel_rfl,rfl⟩) ?_;try simp only[Act.put,κg,κo,κp,αs,αz,αc]
      refine A0 (i:=11) (v:=undef) rfl (by kernel_rfl) (λ _ _ _ h=>h) hHeld (Or.inr ⟨by kernel_rfl,rfl⟩) ?_;try simp only[Act.put,κg,κo,κp,αs,αz,αc]
      refine A0 (i:=12) (v:=undef) rfl (by kernel_rfl) (λ _ _ _ h=>h) hHeld (Or.inr ⟨by kernel_rfl,rfl⟩) ?_;try simp only[Act.put,κg,κo,κp,αs,αz,αc]
      refine κr 13 (λ K hK=>?_);go_simp;refine hK.out _ _ (λ _=>hHeld) ?_;clear hK K;try simp only[Act.put,κg,κo,κp,αs,αz,αc]
      refine A0 (i:=14) (v:=undef) rfl (by kernel_rfl) (λ _ _ _ h=>h) hHeld (Or.inr ⟨by kernel_rfl,rfl⟩) ?_;try simp only[Act.put,κg,κo,κp,αs,αz,αc]
      refine κt 15 ?_ hHeld ?_ ?_;rotate_left
      ·(intro w hSw;go_simp<;>with_reducible rfl)
      try simp only[Act.put,κg,κo,κp,αs,αz,αc]
      refine κt 16 ?_ hHeld ?_ ?_;rotate_left
      ·(intro w hSw;go_simp<;>with_reducible rfl)
      try simp only[Act.put,κg,κo,κp,αs,αz,αc]
      refine κt 17 ?_ hHeld ?_ ?_;rotate_left
      ·(intro w hSw;go_simp<;>with_reducible rfl)
      try simp only[Act.put,κg,κo,κp,αs,αz,αc]
      refine κt 18 ?_ hHeld ?_ ?_;rotate_left
      ·(intro w hSw;go_simp<;>with_reducible rfl)
      try simp only[Act.put,κg,κo,κp,αs,αz,αc]
      rcases Nat.lt_or_ge 0 q with hq0 | hq0
      ·have dz:decide ((q:Int) > 0)=true:=decide_eq_true (by omega);have dz':decide (0<(q:Int))=true:=decide_eq_true (by omega);obtain⟨q1,hq1⟩:∃x,x=q-1:=⟨_,rfl⟩;have HWK:Hid (IntKind.i64.wrap ((q:Int)-1)=(q1:Int)):=η (E5 (by omega) (by omega) (by omega)).1;have ka:(0:Int)<=(q1:Int):=by omega
       have kb':(q1:Int)<(q:Int):=by omega
       have kc:q1<q:=by omega
       obtain⟨p',hp'⟩:∃p',l[q1]?=some p':=⟨_,List.getElem?_eq_getElem (by have:=HN.out;omega)⟩;have HV':=η (HPV.out p' (by omega) (by rw[← hq1];exact hp'));have HTQ:Hid ((l.take q)[q1]?=some p'):=η (by rw[List.getElem?_take,if_pos kc];exact hp');have hp1':=(HPL.out p' (List.mem_of_getElem? hp')).1;clear hp' hq1;obtain⟨g',cap,e,_⟩:=F3 HPR6.out (by omega);cases e
       refine κt 19 ?_ hHeld ?_ ?_;rotate_left
       ·(intro w hSw;go_simp<;>with_reducible rfl)
       try simp only[Act.put,κg,κo,κp,αs,αz,αc]
       refine κt 20 ?_ hHeld ?_ ?_;rotate_left
       ·(intro w hSw;go_simp<;>with_reducible rfl)
       try simp only[Act.put,κg,κo,κp,αs,αz,αc]
       refine κt 21 ?_ hHeld ?_ ?_;rotate_left
       ·(intro w hSw;go_simp<;>with_reducible rfl)
       try simp only[Act.put,κg,κo,κp,αs,αz,αc]
       refine κt 22 ?_ hHeld ?_ ?_;rotate_left
       ·(intro w hSw;go_simp<;>with_reducible rfl)
       try simp only[Act.put,κg,κo,κp,αs,αz,αc]
       refine κt 23 ?_ hHeld ?_ ?_;rotate_left
       ·(intro w hSw;have wq:=HWK.out;go_simp<;>with_reducible rfl)
       try simp only[Act.put,κg,κo,κp,αs,αz,αc]
       refine κt 24 ?_ hHeld ?_ ?_;rotate_left
       ·(intro w hSw;go_simp<;>with_reducible rfl)
       try simp only[Act.put,κg,κo,κp,αs,αz,αc]
       refine κt 25 ?_ hHeld ?_ ?_;rotate_left
       ·(intro w hSw;go_simp<;>with_reducible rfl)
       try simp only[Act.put,κg,κo,κp,αs,αz,αc]
       refine κt 26 ?_ hHeld ?_ ?_;rotate_left
       ·(intro w hSw;have l0:=Al2 (B8 (S:=[]) HPR6.out hSw (by simp)) HTL.out (by omega) HTQ.out;go_simp<;>with_reducible rfl)
       try simp only[Act.put,κg,κo,κp,αs,αz,αc]
       refine κt 27 ?_ hHeld ?_ ?_;rotate_left
       ·(intro w hSw;go_simp<;>with_reducible rfl)
       try simp only[Act.put,κg,κo,κp,αs,αz,αc]
       refine κt 28 ?_ hHeld ?_ ?_;rotate_left
       ·(intro w hSw;have l0:=Ac9 ((hSw.block _ (A2 H19.out) (by simp)).trans H19.out) hp1;go_simp<;>with_reducible rfl)
       try simp only[Act.put,κg,κo,κp,αs,αz,αc]
       refine κr 29 (λ K hK=>?_);go_simp;go_at_call 202
       (with_reducible refine(R5 p'.1 p.1 hp1' hp1 _).mono ?_)
       rintro e wl ⟨rfl,hul⟩;rw[HV'.out];refine hK.out _ _ (λ _=>hHeld.trans hul) ?_;replace hHeld:=hHeld.trans hul;clear hul hK K;try simp only[Act.put,κg,κo,κp,αs,αz,αc]
       refine κt 30 ?_ hHeld ?_ ?_;rotate_left
       ·(intro w hSw;go_simp<;>with_reducible rfl)
       try simp only[Act.put,κg,κo,κp,αs,αz,αc]
       refine κt 31 ?_ hHeld ?_ ?_;rotate_left
       ·(intro w hSw;go_simp<;>with_reducible rfl)
       try simp only[Act.put,κg,κo,κp,αs,αz,αc]
       refine κt 32 ?_ hHeld ?_ ?_;rotate_left
       ·(intro w hSw;go_simp<;>with_reducible rfl)
       try simp only[Act.put,κg,κo,κp,αs,αz,αc]
       refine B1 (by kernel_rfl) ?_ _;go_wp2_with fail
       go_meet
       exact⟨rfl,hHeld⟩
      ·have dz:decide ((q:Int) > 0)=false:=decide_eq_false (by omega);have dz':decide (0<(q:Int))=false:=decide_eq_false (by omega);have dn:¬(0<q):=by omega
       refine κt 19 ?_ hHeld ?_ ?_;rotate_left
       ·(intro w hSw;go_simp<;>with_reducible rfl)
       try simp only[Act.put,κg,κo,κp,αs,αz,αc]
       refine κt 20 ?_ hHeld ?_ ?_;rotate_left
       ·(intro w hSw;go_simp<;>with_reducible rfl)
       try simp only[Act.put,κg,κo,κp,αs,αz,αc]
       refine A0 (i:=21) (v:=undef) rfl (by kernel_rfl) (λ _ _ _ h=>h) hHeld (Or.inr ⟨by kernel_rfl,rfl⟩) ?_;try simp only[Act.put,κg,κo,κp,αs,αz,αc]
       refine A0 (i:=22) (v:=undef) rfl (by kernel_rfl) (λ _ _ _ h=>h) hHeld (Or.inr ⟨by kernel_rfl,rfl⟩) ?_;try simp only[Act.put,κg,κo,κp,αs,αz,αc]
       refine A0 (i:=23) (v:=undef) rfl (by kernel_rfl) (λ _ _ _ h=>h) hHeld (Or.inr ⟨by kernel_rfl,rfl⟩) ?_;try simp only[Act.put,κg,κo,κp,αs,αz,αc]
       refine A0 (i:=24) (v:=undef) rfl (by kernel_rfl) (λ _ _ _ h=>h) hHeld (Or.inr ⟨by kernel_rfl,rfl⟩) ?_;try simp only[Act.put,κg,κo,κp,αs,αz,αc]
       refine A0 (i:=25) (v:=undef) rfl (by kernel_rfl) (λ _ _ _ h=>h) hHeld (Or.inr ⟨by kernel_rfl,rfl⟩) ?_;try simp only[Act.put,κg,κo,κp,αs,αz,αc]
       refine A0 (i:=26) (v:=undef) rfl (by kernel_rfl) (λ _ _ _ h=>h) hHeld (Or.inr ⟨by kernel_rfl,rfl⟩) ?_;try simp only[Act.put,κg,κo,κp,αs,αz,αc]
       refine A0 (i:=27) (v:=undef) rfl (by kernel_rfl) (λ _ _ _ h=>h) hHeld (Or.inr ⟨by kernel_rfl,rfl⟩) ?_;try simp only[Act.put,κg,κo,κp,αs,αz,αc]
       refine A0 (i:=28) (v:=undef) rfl (by kernel_rfl) (λ _ _ _ h=>h) hHeld (Or.inr ⟨by kernel_rfl,rfl⟩) ?_;try simp only[Act.put,κg,κo,κp,αs,αz,αc]
       refine κr 29 (λ K hK=>?_);go_simp;refine hK.out _ _ (λ _=>hHeld) ?_;clear hK K;try simp only[Act.put,κg,κo,κp,αs,αz,αc]
       refine A0 (i:=30) (v:=undef) rfl (by kernel_rfl) (λ _ _ _ h=>h) hHeld (Or.inr ⟨by kernel_rfl,rfl⟩) ?_;try simp only[Act.put,κg,κo,κp,αs,αz,αc]
       refine κt 31 ?_ hHeld ?_ ?_;rotate_left
       ·(intro w hSw;go_simp<;>with_reducible rfl)
       try simp only[Act.put,κg,κo,κp,αs,αz,αc]
       refine κt 32 ?_ hHeld ?_ ?_;rotate_left
       ·(intro w hSw;go_simp<;>with_reducible rfl)
       try simp only[Act.put,κg,κo,κp,αs,αz,αc]
       refine B1 (by kernel_rfl) ?_ _;go_wp2_with fail
       go_meet
       exact⟨rfl,hHeld⟩
     ·refine κt 10 ?_ hHeld ?_ ?_;rotate_left
      ·(intro w hSw;go_simp<;>with_reducible rfl)
      try simp only[Act.put,κg,κo,κp,αs,αz,αc]
      refine κt 11 ?_ hHeld ?_ ?_;rotate_left
      ·(intro w hSw;have l0:=Ac9 ((hSw.block _ (A2 H19.out) (by simp)).trans H19.out) hp1;go_simp<;>with_reducible rfl)
      try simp only[Act.put,κg,κo,κp,αs,αz,αc]
      refine κt 12 ?_ hHeld ?_ ?_;rotate_left
      ·(intro w hSw;have l0:=B2 (λ j v hv=>by rw[A4 ((hSw.block _ (A2 H13B.out) (by simp)).trans H13B.out),List.getElem?_toArray,Nat.zero_add];exact hv) hhi;go_simp<;>with_reducible rfl)
      try simp only[Act.put,κg,κo,κp,αs,αz,αc]
      refine κr 13 (λ K hK=>?_);go_simp;go_at_call 202
      (with_reducible refine(R5 p.1 hi hp1 hhi _).mono ?_)
      rintro e wl ⟨rfl,hul⟩;rw[HHI.out rfl];refine hK.out _ _ (λ _=>hHeld.trans hul) ?_;replace hHeld:=hHeld.trans hul;clear hul hK K;try simp only[Act.put,κg,κo,κp,αs,αz,αc]
      refine κt 14 ?_ hHeld ?_ ?_;rotate_left
      ·(intro w hSw;go_simp<;>with_reducible rfl)
      try simp only[Act.put,κg,κo,κp,αs,αz,αc]
      refine κt 15 ?_ hHeld ?_ ?_;rotate_left
      ·(intro w hSw;go_simp<;>with_reducible rfl)
      try simp only[Act.put,κg,κo,κp,αs,αz,αc]
      refine κt 16 ?_ hHeld ?_ ?_;rotate_left
      ·(intro w hSw;go_simp<;>with_reducible rfl)
      try simp only[Act.put,κg,κo,κp,αs,αz,αc]
      refine κt 17 ?_ hHeld ?_ ?_;rotate_left
      ·(intro w hSw;go_simp<;>with_reducible rfl)
      try simp only[Act.put,κg,κo,κp,αs,αz,αc]
      refine κt 18 ?_ hHeld ?_ ?_;rotate_left
      ·(intro w hSw;go_simp<;>with_reducible rfl)
      try simp only[Act.put,κg,κo,κp,αs,αz,αc]
      rcases Nat.lt_or_ge 0 q with hq0 | hq0
      ·have dz:decide ((q:Int) > 0)=true:=decide_eq_true (by omega);have dz':decide (0<(q:Int))=true:=decide_eq_true (by omega);obtain⟨q1,hq1⟩:∃x,x=q-1:=⟨_,rfl⟩;have HWK:Hid (IntKind.i64.wrap ((q:Int)-1)=(q1:Int)):=η (E5 (by omega) (by omega) (by omega)).1;have ka:(0:Int)<=(q1:Int):=by omega
       have kb':(q1:Int)<(q:Int):=by omega
       have kc:q1<q:=by omega
       obtain⟨p',hp'⟩:∃p',l[q1]?=some p':=⟨_,List.getElem?_eq_getElem (by have:=HN.out;omega)⟩;have HV':=η (HPV.out p' (by omega) (by rw[← hq1];exact hp'));have HTQ:Hid ((l.take q)[q1]?=some p'):=η (by rw[List.getElem?_take,if_pos kc];exact hp');have hp1':=(HPL.out p' (List.mem_of_getElem? hp')).1;clear hp' hq1;obtain⟨g',cap,e,_⟩:=F3 HPR6.out (by omega);cases e
       refine κt 19 ?_ hHeld ?_ ?_;rotate_left
       ·(intro w hSw;go_simp<;>with_reducible rfl)
       try simp only[Act.put,κg,κo,κp,αs,αz,αc]
       refine κt 20 ?_ hHeld ?_ ?_;rotate_left
       ·(intro w hSw;go_simp<;>with_reducible rfl)
       try simp only[Act.put,κg,κo,κp,αs,αz,αc]
       refine κt 21 ?_ hHeld ?_ ?_;rotate_left
       ·(intro w hSw;go_simp<;>with_reducible rfl)
       try simp only[Act.put,κg,κo,κp,αs,αz,αc]
       refine κt 22 ?_ hHeld ?_ ?_;rotate_left
       ·(intro w hSw;go_simp<;>with_reducible rfl)
       try simp only[Act.put,κg,κo,κp,αs,αz,αc]
       refine κt 23 ?_ hHeld ?_ ?_;rotate_left
       ·(intro w hSw;have wq:=HWK.out;go_simp<;>with_reducible rfl)
       try simp only[Act.put,κg,κo,κp,αs,αz,αc]
       refine κt 24 ?_ hHeld ?_ ?_;rotate_left
       ·(intro w hSw;go_simp<;>with_reducible rfl)
       try simp only[Act.put,κg,κo,κp,αs,αz,αc]
       refine κt 25 ?_ hHeld ?_ ?_;rotate_left
       ·(intro w hSw;go_simp<;>with_reducible rfl)
       try simp only[Act.put,κg,κo,κp,αs,αz,αc]
       refine κt 26 ?_ hHeld ?_ ?_;rotate_left
       ·(intro w hSw;have l0:=Al2 (B8 (S:=[]) HPR6.out hSw (by simp)) HTL.out (by omega) HTQ.out;go_simp<;>with_reducible rfl)
       try simp only[Act.put,κg,κo,κp,αs,αz,αc]
       refine κt 27 ?_ hHeld ?_ ?_;rotate_left
       ·(intro w hSw;go_simp<;>with_reducible rfl)
       try simp only[Act.put,κg,κo,κp,αs,αz,αc]
       refine κt 28 ?_ hHeld ?_ ?_;rotate_left
       ·(intro w hSw;have l0:=Ac9 ((hSw.block _ (A2 H19.out) (by simp)).trans H19.out) hp1;go_simp<;>with_reducible rfl)
       try simp only[Act.put,κg,κo,κp,αs,αz,αc]
       refine κr 29 (λ K hK=>?_);go_simp;go_at_call 202
       (with_reducible refine(R5 p'.1 p.1 hp1' hp1 _).mono ?_)
       rintro e wl ⟨rfl,hul⟩;rw[HV'.out];refine hK.out _ _ (λ _=>hHeld.trans hul) ?_;replace hHeld:=hHeld.trans hul;clear hul hK K;try simp only[Act.put,κg,κo,κp,αs,αz,αc]
       refine κt 30 ?_ hHeld ?_ ?_;rotate_left
       ·(intro w hSw;go_simp<;>with_reducible rfl)
       try simp only[Act.put,κg,κo,κp,αs,αz,αc]
       refine κt 31 ?_ hHeld ?_ ?_;rotate_left
       ·(intro w hSw;go_simp<;>with_reducible rfl)
       try simp only[Act.put,κg,κo,κp,αs,αz,αc]
       refine κt 32 ?_ hHeld ?_ ?_;rotate_left
       ·(intro w hSw;go_simp<;>with_reducible rfl)
       try simp only[Act.put,κg,κo,κp,αs,αz,αc]
       refine B1 (by kernel_rfl) ?_ _;go_wp2_with fail
       go_meet
       exact⟨rfl,hHeld⟩
      ·have dz:decide ((q:Int) > 0)=false:=decide_eq_false (by omega);have dz':decide (0<(q:Int))=false:=decide_eq_false (by omega);have dn:¬(0<q):=by omega
       refine κt 19 ?_ hHeld ?_ ?_;rotate_left
       ·(intro w hSw;go_simp<;>with_reducible rfl)
       try simp only[Act.put,κg,κo,κp,αs,αz,αc]
       refine κt 20 ?_ hHeld ?_ ?_;rotate_left
       ·(intro w hSw;go_simp<;>with_reducible rfl)
       try simp only[Act.put,κg,κo,κp,αs,αz,αc]
       refine A0 (i:=21) (v:=undef) rfl (by kernel_rfl) (λ _ _ _ h=>h) hHeld (Or.inr ⟨by kernel_rfl,rfl⟩) ?_;try simp only[Act.put,κg,κo,κp,αs,αz,αc]
       refine A0 (i:=22) (v:=undef) rfl (by kernel_rfl) (λ _ _ _ h=>h) hHeld (Or.inr ⟨by kernel_rfl,rfl⟩) ?_;try simp only[Act.put,κg,κo,κp,αs,αz,αc]
       refine A0 (i:=23) (v:=undef) rfl (by kernel_rfl) (λ _ _ _ h=>h) hHeld (Or.inr ⟨by kernel_rfl,rfl⟩) ?_;try simp only[Act.put,κg,κo,κp,αs,αz,αc]
       refine A0 (i:=24) (v:=undef) rfl (by kernel_rfl) (λ _ _ _ h=>h) hHeld (Or.inr ⟨by kernel_rfl,rfl⟩) ?_;try simp only[Act.put,κg,κo,κp,αs,αz,αc]
       refine A0 (i:=25) (v:=undef) rfl (by kernel_rfl) (λ _ _ _ h=>h) hHeld (Or.inr ⟨by kernel_rfl,rfl⟩) ?_;try simp only[Act.put,κg,κo,κp,αs,αz,αc]
       refine A0 (i:=26) (v:=undef) rfl (by kernel_rfl) (λ _ _ _ h=>h) hHeld (Or.inr ⟨by kernel_rfl,rfl⟩) ?_;try simp only[Act.put,κg,κo,κp,αs,αz,αc]
       refine A0 (i:=27) (v:=undef) rfl (by kernel_rfl) (λ _ _ _ h=>h) hHeld (Or.inr ⟨by kernel_rfl,rfl⟩) ?_;try simp only[Act.put,κg,κo,κp,αs,αz,αc]
       refine A0 (i:=28) (v:=undef) rfl (by kernel_rfl) (λ _ _ _ h=>h) hHeld (Or.inr ⟨by kernel_rfl,rfl⟩) ?_;try simp only[Act.put,κg,κo,κp,αs,αz,αc]
       refine κr 29 (λ K hK=>?_);go_simp;refine hK.out _ _ (λ _=>hHeld) ?_;clear hK K;try simp only[Act.put,κg,κo,κp,αs,αz,αc]
       refine A0 (i:=30) (v:=undef) rfl (by kernel_rfl) (λ _ _ _ h=>h) hHeld (Or.inr ⟨by kernel_rfl,rfl⟩) ?_;try simp only[Act.put,κg,κo,κp,αs,αz,αc]
       refine κt 31 ?_ hHeld ?_ ?_;rotate_left
       ·(intro w hSw;go_simp<;>with_reducible rfl)
       try simp only[Act.put,κg,κo,κp,αs,αz,αc]
       refine κt 32 ?_ hHeld ?_ ?_;rotate_left
       ·(intro w hSw;go_simp<;>with_reducible rfl)
       try simp only[Act.put,κg,κo,κp,αs,αz,αc]
       refine B1 (by kernel_rfl) ?_ _;go_wp2_with fail
       go_meet
       exact⟨rfl,hHeld⟩
   case rest=>
    obtain⟨rfl,hu7⟩:=hcut;obtain⟨w7,rfl⟩:∃x,x=wc:=⟨_,rfl⟩;have hpcl:=L8 hp1 hp2;have l19:=A7 (n:=48) (cs:=pc p) ((hu7.block _ (A2 H19.out) (by simp)).trans H19.out) hpcl;have bP:=Av2 hp1 hp2;have hu07:=HU6A.out.trans hu7;obtain⟨a9,c9,w9,S9,hrun,hown9,hu9,hS9⟩:=V0 (T:=110) Tryz.underlying110 Ae3 rfl (by decide) (by decide) (w:=w7.alloc (.cells (pc p).toArray 169)) (B8 (S:=[]) HPR6.out (hu7.trans ((Upd.refl [] _).alloc _)) (by simp)) (by omega) (by have:=hu07.size;simp;omega) (ad:=⟨w7.heap.size,0,none⟩) (m:=1) (c:=1) (by omega) (by omega) (pc p) (by rw[hpcl]) (λ j u hj=>by rw[I5,A4 (A6 _),List.getElem?_toArray,Nat.zero_add];exact hj) (Ae4 p);have HF:Hid (E8 w9 wA.heap.size (.slice a9 (q+1) c9) (l.take (q+1))):=by
     show E8 _ _ _ _
     unfold E8;have e:l.take (q+1)=l.take q ++ [p]:=by rw[List.take_add_one,HPP.out];rfl
     rw[e,List.length_append,hlq,List.map_append,List.flatten_append];simpa using hown9
    have HU9:Hid (Upd [] wA w9):=η ((hu07.alloc _).late hu9 (λ k hk=> .inr (hS9 k hk).1));clear hown9 hu9 hS9 hu07 hu7;go_wp2_with (first | (at_builtin;refine B4 rfl _ _ _ rfl rfl rfl hrun ?_))
    repeat apply Exists.intro
    exact⟨⟨q+1,by omega,by go_num,HF.out,HU9.out⟩,by simp[intOf];omega⟩
  ·obtain rfl:q=n:=by omega
   have dq:decide ((q:Int)<(q:Int))=false:=decide_eq_false (by omega);have HF:Hid (E8 wr w.heap.size (.slice sa q sc) l):=by
    show E8 _ _ _ _
    have:l.take q=l:=List.take_of_length_le (by rw[HN.out];omega);unfold E8;rw[← HN.out];rw[this] at hP;exact L3 hP HUA.out.size
   have HU:=η (HUA.out.trans hu);clear hP hu;go_wp2_with fail
   refine bodyPost_ret (results_tmp3 (t:=14) (u:=15) (v:=16) (by rfl) _ _ _) (by rfl) ?_;exact⟨sa,sc,rfl,HF.out,HU.out⟩
end
end Go.Proofs.YtgfbepakonjbnaaGreat
end
