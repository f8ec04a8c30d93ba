/-
  KeepOrders, walked.
-/
import Derived.Test.YtgfbepakonjbnaaGreatW30
set_option maxRecDepth 100000
set_option maxHeartbeats 16000000
section
set_option linter.unusedSimpArgs false
set_option linter.unusedVariables false
namespace Go.Proofs.YtgfbepakonjbnaaGreat
open Go.RowKit Go.MapKept Go.ChangeMaps
def s14(pb n I A k x y:Nat):List (Nat × Nat × Value):=[(0,63,.slice (some ⟨pb,0,none⟩) n n),(1,64,.int .i64 (I:Int)),(2,65,.slice (some ⟨pb,0,none⟩) n n),(3,66,.int .i64 (n:Int)),(4,67,.int .i64 (A:Int)),(5,68,.slice (some ⟨pb,0,none⟩) n n),(6,69,.int .i64 (k:Int)),(7,70,.slice (some ⟨pb,0,none⟩) n n),(8,71,.int .i64 (k:Int)),(9,72,.pointer (some ⟨pb,k,none⟩)),(10,73,.int .i64 (y:Int)),(11,74,.slice (some ⟨pb,0,none⟩) n n),(12,75,.int .i64 (I:Int)),(13,76,.slice (some ⟨pb,0,none⟩) n n),(14,77,.int .i64 (n:Int)),(15,78,.int .i64 (A:Int)),(16,79,.pointer (some ⟨pb,A,none⟩)),(17,80,.int .i64 (x:Int)),(18,81,.pointer (some ⟨pb,A,none⟩)),(20,82,.pointer (some ⟨pb,k,none⟩))]
theorem Bi7(ks os:List Int)(v u:Value)(w:World)(hrd:RdL w [] v (ks.map λ i=> .int .i64 i))(hro:RdL w [] u (os.map λ i=> .int .i64 i)):Calls Tryz.prog 5 #[v,u] w λ e w'=>e=.returned (.bool true)/\Upd [] w w':=by
 obtain⟨av,cv,rfl,hcv⟩:=hrd.shape;obtain⟨au,cu,rfl,hcu⟩:=hro.shape;simp only[List.length_map] at hcv hcu hrd hro ⊢;obtain⟨n,hn⟩:∃n,n=ks.length:=⟨_,rfl⟩;obtain⟨no,hno⟩:∃n,n=os.length:=⟨_,rfl⟩;rw[← hn] at hrd ⊢;rw[← hno] at hro ⊢;have HRD:=η hrd;have HRO:=η hro;have HN:=η hn;have HNO:=η hno;obtain⟨c,hc⟩:∃c:Nat->Nat,c=λ n=>V4 ((ks[n]?).getD 0) 2000:=⟨_,rfl⟩;have HC:=η hc;have HM:=η (λ w=>Ay6 900 100 900 100 rfl rfl (by omega) (by omega) (by omega) (by omega) (by omega) w);clear hrd hro hn hno hc hcv hcu;go_enter Tryz.func5,Tryz.ntmps5
 go_wp2_with fail
 refine(Bo5 w).mono ?_;rintro e w1 ⟨rfl,hu1⟩;have HU1:=η hu1;clear hu1;rcases Nat.lt_or_ge 25 n with hgt | hle
 ·have hb1:decide ((25:Int)<(n:Int))=true:=decide_eq_true (by omega);have hb2:decide (25<n)=true:=decide_eq_true hgt;go_wp2_with fail
  go_ret;exact⟨rfl,HU1.out⟩
 have hb1:decide ((25:Int)<(n:Int))=false:=decide_eq_false (by omega);have hb2:decide (25<n)=false:=decide_eq_false (by omega);rcases Nat.lt_or_ge 25 no with hgo | hlo
 ·have ho1:decide ((25:Int)<(no:Int))=true:=decide_eq_true (by omega);have ho2:decide (25<no)=true:=decide_eq_true hgo;go_wp2_with fail
  go_ret;exact⟨rfl,HU1.out⟩
 have ho1:decide ((25:Int)<(no:Int))=false:=decide_eq_false (by omega);have ho2:decide (25<no)=false:=decide_eq_false (by omega);obtain⟨w2,hw2⟩:∃w2,w2=w1.alloc (.cells (icl (List.replicate n 0)).toArray 3):=⟨_,rfl⟩;obtain⟨pb,hpb⟩:∃b,b=w1.heap.size:=⟨_,rfl⟩;have hmk:=Bi6 n (by omega) w1;rw[← hw2,← hpb] at hmk;have b2:w2.heap[pb]?=some (.cells (icl (List.replicate n 0)).toArray 3 (0,0)):=by rw[hw2,hpb];exact A4 _
 have HB2:=η b2;have HU2:Hid (Upd [] w w2):=by show Upd _ _ _;rw[hw2];exact HU1.out.alloc _
 have HPW:Hid (w.heap.size<=pb):=by show _<=_;rw[hpb];exact HU1.out.size
 clear hw2 hpb b2;go_wp2_with fail
 clear hmk;go_loopw [6] (λ i wr=>∃(I:Nat) (P:List Nat),i=.int .i64 (I:Int)/\I<=n/\P.length=n/\Hid (∀k,k<I->P[k]?=some k)/\Hid (wr.heap[pb]?=some (.cells (icl P).toArray 3 (0,0)))/\Hid (Upd [] w wr)) (λ i _=>26-(intOf i).toNat)
 case atStart=>exact⟨0,List.replicate n 0,rfl,by omega,by simp,η (λ k h=>by omega),HB2,HU2⟩
 case round=>
  obtain⟨I,P,rfl,hI,hPl,HPK,HPB,HUW⟩:=hrel;rcases Nat.lt_or_ge I n with h4 | h4
  ·have cj:decide ((I:Int)<(n:Int))=true:=decide_eq_true (by omega);have hI0:(0:Int)<=(I:Int):=by omega
   have hI1:(I:Int)<(n:Int):=by omega
   obtain⟨x,hx⟩:∃x,P[I]?=some x:=⟨_,List.getElem?_eq_getElem (by omega)⟩;have c0:=Al0 HPB.out hx;have f0:=B7 HPB.out I;have HB1:=η (Bo8 HPB.out I I);have HUS:Hid (Upd [] w (wr.setCell ⟨pb,I,none⟩ (.int .i64 (I:Int)))):=η (HUW.out.set _ (.inr HPW.out));have HPK2:Hid (∀k,k<I+1->(P.set I I)[k]?=some k):=by
    show ∀k,_
    intro k hk;by_cases e:k=I
    ·subst e;rw[List.getElem?_set_self (by omega)]
    ·rw[List.getElem?_set_ne (by omega)];exact HPK.out k (by omega)
   clear hx;go_wp2_with fail
   exact⟨⟨I+1,P.set I I,by go_num,by omega,by rw[List.length_set];exact hPl,HPK2,HB1,HUS⟩,by simp[intOf];omega⟩
  ·have cj:decide ((I:Int)<(n:Int))=false:=decide_eq_false (by omega);have cj2:decide (I<n)=false:=decide_eq_false (by omega);have hPr:P=List.range n:=by
    refine List.ext_getElem? λ k=>?_;rcases Nat.lt_or_ge k n with h | h
    ·rw[HPK.out k (by omega),List.getElem?_range h]
    ·rw[List.getElem?_eq_none (by omega),List.getElem?_eq_none (by rw[List.length_range];exact h)]
   have hPp:P.Perm (List.range n):=by rw[hPr]
   clear hPr HPK;go_wp2_with fail
   go_loopw [7] (λ i wr=>∃(I:Nat) (Q:List Nat),i=.int .i64 (I:Int)/\I<=no/\Hid (Q.Perm (List.range n))/\Hid (wr.heap[pb]?=some (.cells (icl Q).toArray 3 (0,0)))/\Hid (Upd [] w wr)) (λ i _=>26-(intOf i).toNat)
   case atStart=>exact⟨0,P,rfl,by omega,η hPp,HPB,HUW⟩
   case round=>
    obtain⟨I,Q,rfl,hI,HQR,HQB,HUQ⟩:=hrel;obtain⟨wq,rfl⟩:∃wq:World,wq=wr:=⟨_,rfl⟩;by_cases hgo:I<no/\0<n
    ·obtain⟨h5,h0⟩:=hgo;have co:decide ((I:Int)<(no:Int))=true:=decide_eq_true (by omega);have co2:decide (I<no)=true:=decide_eq_true h5;have cn:decide ((0:Int)<(n:Int))=true:=decide_eq_true (by omega);have cn2:decide (0<n)=true:=decide_eq_true h0;have hI0:(0:Int)<=(I:Int):=by omega
     have hI1:(I:Int)<(no:Int):=by omega
     have hro3:RdL wq [] (.slice au no cu) (os.map λ i=> .int .i64 i):=HRO.out.upd HUQ.out (by simp);obtain⟨oz,hoz⟩:∃x,os[I]?=some x:=⟨_,List.getElem?_eq_getElem (by have:=HNO.out;omega)⟩;obtain⟨bo,oo,rfl,hc1⟩:=hro3.cell I (by rw[List.length_map];have:=HNO.out;omega);have hc1':wq.cell? ⟨bo,oo+I,none⟩=some (.int .i64 oz):=by
      rw[hc1,List.getElem_map];obtain⟨_,e⟩:=List.getElem?_eq_some_iff.1 hoz;rw[e]
     have hQl:Q.length=n:=by rw[HQR.out.length_eq,List.length_range]
     obtain⟨k,hk⟩:∃k,k=V4 oz n:=⟨_,rfl⟩;have hkn:k<n:=by rw[hk];exact Av0 h0
     have hpz:=λ W=>Ap6 oz n W h0 (by omega);rw[← hk] at hpz;have HPZ:=η hpz;obtain⟨A,hA⟩:∃A,A=I % n:=⟨_,rfl⟩;have hAn:A<n:=by rw[hA];exact Nat.mod_lt _ h0
     have hrem:Int.tmod (I:Int) (n:Int)=(A:Int):=by rw[hA,Int.ofNat_tmod]
     have hA0:(0:Int)<=(A:Int):=by omega
     have hA1:(A:Int)<(n:Int):=by omega
     have hk0:(0:Int)<=(k:Int):=by omega
     have hk1:(k:Int)<(n:Int):=by omega
     have hnz2:¬n=0:=by omega
     have hnz:((n:Int) == 0)=false:=by rw[beq_eq_false_iff_ne];omega
     have hwA:IntKind.i64.wrap (A:Int)=(A:Int):=by rw[IntKind.wrap_i64];omega
     obtain⟨x,hx⟩:∃x,Q[A]?=some x:=⟨_,List.getElem?_eq_getElem (by omega)⟩;obtain⟨y,hy⟩:∃x,Q[k]?=some x:=⟨_,List.getElem?_eq_getElem (by omega)⟩;have hqd:wq.drew.heap[pb]?=some (.cells (icl Q).toArray 3 (0,0)):=HQB.out;have HMK:=η (Al0 hqd hy);have HMA:=η (Al0 hqd hx);have HFA:=η (B7 hqd A);obtain⟨wa1,hwa1⟩:∃w',w'=(wq.setCell ⟨pb,A,none⟩ (.int .i64 (y:Int))).drew:=⟨_,rfl⟩;have b1:wa1.heap[pb]?=some (.cells (icl (Q.set A y)).toArray 3 (0,0)):=by rw[hwa1];exact Bo8 HQB.out A y
     obtain⟨z,hz⟩:∃x,(Q.set A y)[k]?=some x:=⟨_,List.getElem?_eq_getElem (by rw[List.length_set];omega)⟩;have HMK1:=η (Al0 b1 hz);have HFK:=η (B7 b1 k);obtain⟨wa2,hwa2⟩:∃w',w'=wa1.setCell ⟨pb,k,none⟩ (.int .i64 (x:Int)):=⟨_,rfl⟩;have b2:=Bo8 b1 k x;rw[← hwa2] at b2;have hua:Upd [] w wa2:=by
      rw[hwa2,hwa1];exact((HUQ.out.set _ (.inr HPW.out)).drew).set _ (.inr HPW.out)
     have HB2:=η b2;have HUA:=η hua;have HW1E:=η hwa1;have HW2E:=η hwa2;have HSP:=η ((Ci9 hx hy).trans HQR.out);clear hro3 hoz hc1 hQl hk hkn hpz hA hAn hx hy hqd hwa1 b1 hz hwa2 b2 hua;go_wp2_with fail
     refine(HPZ.out _).mono ?_;rintro e w' ⟨rfl,rfl⟩;go_upto_region 14 with(fail)
     clear hc1';refine Bu4 (λ L=>(if L 19=true then(if L 21=true then wa2 else wa1) else wq.drew)) (s14 pb n I A k x y) (by kernel_rfl) (by kernel_rfl) 153 rfl rfl rfl ?_ ?_
     ·intro i o L tmps w' ho hI hL hd hcl;have hi:i<22:=(Array.getElem?_eq_some_iff.1 ho).1;have t5:tmps[5]?.getD undef=.slice (some ⟨pb,0,none⟩) n n:=(hI.old 5 (by rfl)).trans rfl;have t7:tmps[7]?.getD undef=.int .i64 (I:Int):=(hI.old 7 (by rfl)).trans rfl;have t8:tmps[8]?.getD undef=.int .i64 (k:Int):=(hI.old 8 (by rfl)).trans rfl;obtain rfl | rfl | rfl | rfl | rfl | rfl | rfl | rfl | rfl | rfl | rfl | rfl | rfl | rfl | rfl | rfl | rfl | rfl | rfl | rfl | rfl | rfl:i=0∨i=1∨i=2∨i=3∨i=4∨i=5∨i=6∨i=7∨i=8∨i=9∨i=10∨i=11∨i=12∨i=13∨i=14∨i=15∨i=16∨i=17∨i=18∨i=19∨i=20∨i=21:=by omega
      ·cases ho
       have g19:L 19=false:=hcl.not_up (i:=0) (s:=19) 22 (by kernel_rfl) hL;have g21:L 21=false:=hcl.not_up (i:=0) (s:=21) 22 (by kernel_rfl) hL;have hw0:w'=wq.drew:=by rw[hI.wd];simp[g19,g21]
       have mk:w'.cell? ⟨pb,k,none⟩=some (.int .i64 (y:Int)):=by rw[hw0];exact HMK.out
       have ma:w'.cell? ⟨pb,A,none⟩=some (.int .i64 (x:Int)):=by rw[hw0];exact HMA.out
       have HW0:=η hw0;clear hw0;refine wpOp_step rfl (λ K hK=>?_);go_simp;exact hK _ _ (hI.val_step 0 63 (.slice (some ⟨pb,0,none⟩) n n) (by decide) (by rw[hI.wd];rfl) (by simp[s14]) (by kernel_rfl))
      ·cases ho
       have g19:L 19=false:=hcl.not_up (i:=1) (s:=19) 22 (by kernel_rfl) hL;have g21:L 21=false:=hcl.not_up (i:=1) (s:=21) 22 (by kernel_rfl) hL;have hw0:w'=wq.drew:=by rw[hI.wd];simp[g19,g21]
       have mk:w'.cell? ⟨pb,k,none⟩=some (.int .i64 (y:Int)):=by rw[hw0];exact HMK.out
       have ma:w'.cell? ⟨pb,A,none⟩=some (.int .i64 (x:Int)):=by rw[hw0];exact HMA.out
       have HW0:=η hw0;clear hw0;refine wpOp_step rfl (λ K hK=>?_);go_simp;exact hK _ _ (hI.val_step 1 64 (.int .i64 (I:Int)) (by decide) (by rw[hI.wd];rfl) (by simp[s14]) (by kernel_rfl))
      ·cases ho
       have g19:L 19=false:=hcl.not_up (i:=2) (s:=19) 22 (by kernel_rfl) hL;have g21:L 21=false:=hcl.not_up (i:=2) (s:=21) 22 (by kernel_rfl) hL;have hw0:w'=wq.drew:=by rw[hI.wd];simp[g19,g21]
       have mk:w'.cell? ⟨pb,k,none⟩=some (.int .i64 (y:Int)):=by rw[hw0];exact HMK.out
       have ma:w'.cell? ⟨pb,A,none⟩=some (.int .i64 (x:Int)):=by rw[hw0];exact HMA.out
       have HW0:=η hw0;clear hw0;refine wpOp_step rfl (λ K hK=>?_);go_simp;exact hK _ _ (hI.val_step 2 65 (.slice (some ⟨pb,0,none⟩) n n) (by decide) (by rw[hI.wd];rfl) (by simp[s14]) (by kernel_rfl))
      ·cases ho
       have t65:tmps[65]?.getD undef=.slice (some ⟨pb,0,none⟩) n n:=hI.val (2,65,_) (by simp[s14]) (hd ⟨2,.data⟩ (by simp) rfl);have g19:L 19=false:=hcl.not_up (i:=3) (s:=19) 22 (by kernel_rfl) hL;have g21:L 21=false:=hcl.not_up (i:=3) (s:=21) 22 (by kernel_rfl) hL;have hw0:w'=wq.drew:=by rw[hI.wd];simp[g19,g21]
       have mk:w'.cell? ⟨pb,k,none⟩=some (.int .i64 (y:Int)):=by rw[hw0];exact HMK.out
       have ma:w'.cell? ⟨pb,A,none⟩=some (.int .i64 (x:Int)):=by rw[hw0];exact HMA.out
       have HW0:=η hw0;clear hw0;refine wpOp_step rfl (λ K hK=>?_);go_simp;exact hK _ _ (hI.val_step 3 66 (.int .i64 (n:Int)) (by decide) (by rw[hI.wd];rfl) (by simp[s14]) (by kernel_rfl))
      ·cases ho
       have t64:tmps[64]?.getD undef=.int .i64 (I:Int):=hI.val (1,64,_) (by simp[s14]) (hd ⟨1,.data⟩ (by simp) rfl);have t66:tmps[66]?.getD undef=.int .i64 (n:Int):=hI.val (3,66,_) (by simp[s14]) (hd ⟨3,.data⟩ (by simp) rfl);have g19:L 19=false:=hcl.not_up (i:=4) (s:=19) 22 (by kernel_rfl) hL;have g21:L 21=false:=hcl.not_up (i:=4) (s:=21) 22 (by kernel_rfl) hL;have hw0:w'=wq.drew:=by rw[hI.wd];simp[g19,g21]
       have mk:w'.cell? ⟨pb,k,none⟩=some (.int .i64 (y:Int)):=by rw[hw0];exact HMK.out
       have ma:w'.cell? ⟨pb,A,none⟩=some (.int .i64 (x:Int)):=by rw[hw0];exact HMA.out
       have HW0:=η hw0;clear hw0;refine wpOp_step rfl (λ K hK=>?_);go_simp;exact hK _ _ (hI.val_step 4 67 (.int .i64 (A:Int)) (by decide) (by rw[hI.wd];rfl) (by simp[s14]) (by kernel_rfl))
      ·cases ho
       have g21:L 21=false:=hcl.not_up (i:=5) (s:=21) 22 (by kernel_rfl) hL;cases g19:L 19 with
       | false=>
        have g21:L 21=false:=hcl.not_up (i:=19) (s:=21) 22 (by kernel_rfl) g19;have hw0:w'=wq.drew:=by rw[hI.wd];simp[g19,g21]
        have mk:w'.cell? ⟨pb,k,none⟩=some (.int .i64 (y:Int)):=by rw[hw0];exact HMK.out
        have ma:w'.cell? ⟨pb,A,none⟩=some (.int .i64 (x:Int)):=by rw[hw0];exact HMA.out
        have HW0:=η hw0;clear hw0;refine wpOp_step rfl (λ K hK=>?_);go_simp;exact hK _ _ (hI.val_step 5 68 (.slice (some ⟨pb,0,none⟩) n n) (by decide) (by rw[hI.wd];rfl) (by simp[s14]) (by kernel_rfl))
       | true=>
        have hw0:w'=wa1:=by rw[hI.wd];simp[g19,g21]
        have HW0:=η hw0;clear hw0;refine wpOp_step rfl (λ K hK=>?_);go_simp;exact hK _ _ (hI.val_step 5 68 (.slice (some ⟨pb,0,none⟩) n n) (by decide) (by rw[hI.wd];rfl) (by simp[s14]) (by kernel_rfl))
      ·cases ho
       have g21:L 21=false:=hcl.not_up (i:=6) (s:=21) 22 (by kernel_rfl) hL;cases g19:L 19 with
       | false=>
        have g21:L 21=false:=hcl.not_up (i:=19) (s:=21) 22 (by kernel_rfl) g19;have hw0:w'=wq.drew:=by rw[hI.wd];simp[g19,g21]
        have mk:w'.cell? ⟨pb,k,none⟩=some (.int .i64 (y:Int)):=by rw[hw0];exact HMK.out
        have ma:w'.cell? ⟨pb,A,none⟩=some (.int .i64 (x:Int)):=by rw[hw0];exact HMA.out
        have HW0:=η hw0;clear hw0;refine wpOp_step rfl (λ K hK=>?_);go_simp;exact hK _ _ (hI.val_step 6 69 (.int .i64 (k:Int)) (by decide) (by rw[hI.wd];rfl) (by simp[s14]) (by kernel_rfl))
       | true=>
        have hw0:w'=wa1:=by rw[hI.wd];simp[g19,g21]
        have HW0:=η hw0;clear hw0;refine wpOp_step rfl (λ K hK=>?_);go_simp;exact hK _ _ (hI.val_step 6 69 (.int .i64 (k:Int)) (by decide) (by rw[hI.wd];rfl) (by simp[s14]) (by kernel_rfl))
      ·cases ho
       have g19:L 19=false:=hcl.not_up (i:=7) (s:=19) 22 (by kernel_rfl) hL;have g21:L 21=false:=hcl.not_up (i:=7) (s:=21) 22 (by kernel_rfl) hL;have hw0:w'=wq.drew:=by rw[hI.wd];simp[g19,g21]
       have mk:w'.cell? ⟨pb,k,none⟩=some (.int .i64 (y:Int)):=by rw[hw0];exact HMK.out
       have ma:w'.cell? ⟨pb,A,none⟩=some (.int .i64 (x:Int)):=by rw[hw0];exact HMA.out
       have HW0:=η hw0;clear hw0;refine wpOp_step rfl (λ K hK=>?_);go_simp;exact hK _ _ (hI.val_step 7 70 (.slice (some ⟨pb,0,none⟩) n n) (by decide) (by rw[hI.wd];rfl) (by simp[s14]) (by kernel_rfl))
      ·cases ho
       have g19:L 19=false:=hcl.not_up (i:=8) (s:=19) 22 (by kernel_rfl) hL;have g21:L 21=false:=hcl.not_up (i:=8) (s:=21) 22 (by kernel_rfl) hL;have hw0:w'=wq.drew:=by rw[hI.wd];simp[g19,g21]
       have mk:w'.cell? ⟨pb,k,none⟩=some (.int .i64 (y:Int)):=by rw[hw0];exact HMK.out
       have ma:w'.cell? ⟨pb,A,none⟩=some (.int .i64 (x:Int)):=by rw[hw0];exact HMA.out
       have HW0:=η hw0;clear hw0;refine wpOp_step rfl (λ K hK=>?_);go_simp;exact hK _ _ (hI.val_step 8 71 (.int .i64 (k:Int)) (by decide) (by rw[hI.wd];rfl) (by simp[s14]) (by kernel_rfl))
      ·cases ho
       have t70:tmps[70]?.getD undef=.slice (some ⟨pb,0,none⟩) n n:=hI.val (7,70,_) (by simp[s14]) (hd ⟨7,.data⟩ (by simp) rfl);have t71:tmps[71]?.getD undef=.int .i64 (k:Int):=hI.val (8,71,_) (by simp[s14]) (hd ⟨8,.data⟩ (by simp) rfl);have g19:L 19=false:=hcl.not_up (i:=9) (s:=19) 22 (by kernel_rfl) hL;have g21:L 21=false:=hcl.not_up (i:=9) (s:=21) 22 (by kernel_rfl) hL;have hw0:w'=wq.drew:=by rw[hI.wd];simp[g19,g21]
       have mk:w'.cell? ⟨pb,k,none⟩=some (.int .i64 (y:Int)):=by rw[hw0];exact HMK.out
       have ma:w'.cell? ⟨pb,A,none⟩=some (.int .i64 (x:Int)):=by rw[hw0];exact HMA.out
       have HW0:=η hw0;clear hw0;refine wpOp_step rfl (λ K hK=>?_);go_simp;exact hK _ _ (hI.val_step 9 72 (.pointer (some ⟨pb,k,none⟩)) (by decide) (by rw[hI.wd];rfl) (by simp[s14]) (by kernel_rfl))
      ·cases ho
       have t72:tmps[72]?.getD undef=.pointer (some ⟨pb,k,none⟩):=hI.val (9,72,_) (by simp[s14]) (hd ⟨9,.data⟩ (by simp) rfl);have g19:L 19=false:=hcl.not_up (i:=10) (s:=19) 22 (by kernel_rfl) hL;have g21:L 21=false:=hcl.not_up (i:=10) (s:=21) 22 (by kernel_rfl) hL;have hw0:w'=wq.drew:=by rw[hI.wd];simp[g19,g21]
       have mk:w'.cell? ⟨pb,k,none⟩=some (.int .i64 (y:Int)):=by rw[hw0];exact HMK.out
       have ma:w'.cell? ⟨pb,A,none⟩=some (.int .i64 (x:Int)):=by rw[hw0];exact HMA.out
       have HW0:=η hw0;clear hw0;refine wpOp_step rfl (λ K hK=>?_);go_simp;exact hK _ _ (hI.val_step 10 73 (.int .i64 (y:Int)) (by decide) (by rw[hI.wd];rfl) (by simp[s14]) (by kernel_rfl))
      ·cases ho
       have g19:L 19=false:=hcl.not_up (i:=11) (s:=19) 22 (by kernel_rfl) hL;have g21:L 21=false:=hcl.not_up (i:=11) (s:=21) 22 (by kernel_rfl) hL;have hw0:w'=wq.drew:=by rw[hI.wd];simp[g19,g21]
       have mk:w'.cell? ⟨pb,k,none⟩=some (.int .i64 (y:Int)):=by rw[hw0];exact HMK.out
       have ma:w'.cell? ⟨pb,A,none⟩=some (.int .i64 (x:Int)):=by rw[hw0];exact HMA.out
       have HW0:=η hw0;clear hw0;refine wpOp_step rfl (λ K hK=>?_);go_simp;exact hK _ _ (hI.val_step 11 74 (.slice (some ⟨pb,0,none⟩) n n) (by decide) (by rw[hI.wd];rfl) (by simp[s14]) (by kernel_rfl))
      ·cases ho
       have g19:L 19=false:=hcl.not_up (i:=12) (s:=19) 22 (by kernel_rfl) hL;have g21:L 21=false:=hcl.not_up (i:=12) (s:=21) 22 (by kernel_rfl) hL;have hw0:w'=wq.drew:=by rw[hI.wd];simp[g19,g21]
       have mk:w'.cell? ⟨pb,k,none⟩=some (.int .i64 (y:Int)):=by rw[hw0];exact HMK.out
       have ma:w'.cell? ⟨pb,A,none⟩=some (.int .i64 (x:Int)):=by rw[hw0];exact HMA.out
       have HW0:=η hw0;clear hw0;refine wpOp_step rfl (λ K hK=>?_);go_simp;exact hK _ _ (hI.val_step 12 75 (.int .i64 (I:Int)) (by decide) (by rw[hI.wd];rfl) (by simp[s14]) (by kernel_rfl))
      ·cases ho
       have g19:L 19=false:=hcl.not_up (i:=13) (s:=19) 22 (by kernel_rfl) hL;have g21:L 21=false:=hcl.not_up (i:=13) (s:=21) 22 (by kernel_rfl) hL;have hw0:w'=wq.drew:=by rw[hI.wd];simp[g19,g21]
       have mk:w'.cell? ⟨pb,k,none⟩=some (.int .i64 (y:Int)):=by rw[hw0];exact HMK.out
       have ma:w'.cell? ⟨pb,A,none⟩=some (.int .i64 (x:Int)):=by rw[hw0];exact HMA.out
       have HW0:=η hw0;clear hw0;refine wpOp_step rfl (λ K hK=>?_);go_simp;exact hK _ _ (hI.val_step 13 76 (.slice (some ⟨pb,0,none⟩) n n) (by decide) (by rw[hI.wd];rfl) (by simp[s14]) (by kernel_rfl))
      ·cases ho
       have t76:tmps[76]?.getD undef=.slice (some ⟨pb,0,none⟩) n n:=hI.val (13,76,_) (by simp[s14]) (hd ⟨13,.data⟩ (by simp) rfl);have g19:L 19=false:=hcl.not_up (i:=14) (s:=19) 22 (by kernel_rfl) hL;have g21:L 21=false:=hcl.not_up (i:=14) (s:=21) 22 (by kernel_rfl) hL;have hw0:w'=wq.drew:=by rw[hI.wd];simp[g19,g21]
       have mk:w'.cell? ⟨pb,k,none⟩=some (.int .i64 (y:Int)):=by rw[hw0];exact HMK.out
       have ma:w'.cell? ⟨pb,A,none⟩=some (.int .i64 (x:Int)):=by rw[hw0];exact HMA.out
       have HW0:=η hw0;clear hw0;refine wpOp_step rfl (λ K hK=>?_);go_simp;exact hK _ _ (hI.val_step 14 77 (.int .i64 (n:Int)) (by decide) (by rw[hI.wd];rfl) (by simp[s14]) (by kernel_rfl))
      ·cases ho
       have t75:tmps[75]?.getD undef=.int .i64 (I:Int):=hI.val (12,75,_) (by simp[s14]) (hd ⟨12,.data⟩ (by simp) rfl);have t77:tmps[77]?.getD undef=.int .i64 (n:Int):=hI.val (14,77,_) (by simp[s14]) (hd ⟨14,.data⟩ (by simp) rfl);have g19:L 19=false:=hcl.not_up (i:=15) (s:=19) 22 (by kernel_rfl) hL;have g21:L 21=false:=hcl.not_up (i:=15) (s:=21) 22 (by kernel_rfl) hL;have hw0:w'=wq.drew:=by rw[hI.wd];simp[g19,g21]
       have mk:w'.cell? ⟨pb,k,none⟩=some (.int .i64 (y:Int)):=by rw[hw0];exact HMK.out
       have ma:w'.cell? ⟨pb,A,none⟩=some (.int .i64 (x:Int)):=by rw[hw0];exact HMA.out
       have HW0:=η hw0;clear hw0;refine wpOp_step rfl (λ K hK=>?_);go_simp;exact hK _ _ (hI.val_step 15 78 (.int .i64 (A:Int)) (by decide) (by rw[hI.wd];rfl) (by simp[s14]) (by kernel_rfl))
      ·cases ho
       have t74:tmps[74]?.getD undef=.slice (some ⟨pb,0,none⟩) n n:=hI.val (11,74,_) (by simp[s14]) (hd ⟨11,.data⟩ (by simp) rfl);have t78:tmps[78]?.getD undef=.int .i64 (A:Int):=hI.val (15,78,_) (by simp[s14]) (hd ⟨15,.data⟩ (by simp) rfl);have g19:L 19=false:=hcl.not_up (i:=16) (s:=19) 22 (by kernel_rfl) hL;have g21:L 21=false:=hcl.not_up (i:=16) (s:=21) 22 (by kernel_rfl) hL;have hw0:w'=wq.drew:=by rw[hI.wd];simp[g19,g21]
       have mk:w'.cell? ⟨pb,k,none⟩=some (.int .i64 (y:Int)):=by rw[hw0];exact HMK.out
       have ma:w'.cell? ⟨pb,A,none⟩=some (.int .i64 (x:Int)):=by rw[hw0];exact HMA.out
       have HW0:=η hw0;clear hw0;refine wpOp_step rfl (λ K hK=>?_);go_simp;exact hK _ _ (hI.val_step 16 79 (.pointer (some ⟨pb,A,none⟩)) (by decide) (by rw[hI.wd];rfl) (by simp[s14]) (by kernel_rfl))
      ·cases ho
       have t79:tmps[79]?.getD undef=.pointer (some ⟨pb,A,none⟩):=hI.val (16,79,_) (by simp[s14]) (hd ⟨16,.data⟩ (by simp) rfl);have g19:L 19=false:=hcl.not_up (i:=17) (s:=19) 22 (by kernel_rfl) hL;have g21:L 21=false:=hcl.not_up (i:=17) (s:=21) 22 (by kernel_rfl) hL;have hw0:w'=wq.drew:=by rw[hI.wd];simp[g19,g21]
       have mk:w'.cell? ⟨pb,k,none⟩=some (.int .i64 (y:Int)):=by rw[hw0];exact HMK.out
       have ma:w'.cell? ⟨pb,A,none⟩=some (.int .i64 (x:Int)):=by rw[hw0];exact HMA.out
       have HW0:=η hw0;clear hw0;refine wpOp_step rfl (λ K hK=>?_);go_simp;exact hK _ _ (hI.val_step 17 80 (.int .i64 (x:Int)) (by decide) (by rw[hI.wd];rfl) (by simp[s14]) (by kernel_rfl))
      ·cases ho
       have t63:tmps[63]?.getD undef=.slice (some ⟨pb,0,none⟩) n n:=hI.val (0,63,_) (by simp[s14]) (hd ⟨0,.data⟩ (by simp) rfl);have t67:tmps[67]?.getD undef=.int .i64 (A:Int):=hI.val (4,67,_) (by simp[s14]) (hd ⟨4,.data⟩ (by simp) rfl);have g19:L 19=false:=hcl.not_up (i:=18) (s:=19) 22 (by kernel_rfl) hL;have g21:L 21=false:=hcl.not_up (i:=18) (s:=21) 22 (by kernel_rfl) hL;have hw0:w'=wq.drew:=by rw[hI.wd];simp[g19,g21]
       have mk:w'.cell? ⟨pb,k,none⟩=some (.int .i64 (y:Int)):=by rw[hw0];exact HMK.out
       have ma:w'.cell? ⟨pb,A,none⟩=some (.int .i64 (x:Int)):=by rw[hw0];exact HMA.out
       have HW0:=η hw0;clear hw0;refine wpOp_step rfl (λ K hK=>?_);go_simp;exact hK _ _ (hI.val_step 18 81 (.pointer (some ⟨pb,A,none⟩)) (by decide) (by rw[hI.wd];rfl) (by simp[s14]) (by kernel_rfl))
      ·cases ho
       have t81:tmps[81]?.getD undef=.pointer (some ⟨pb,A,none⟩):=hI.val (18,81,_) (by simp[s14]) (hd ⟨18,.data⟩ (by simp) rfl);have t73:tmps[73]?.getD undef=.int .i64 (y:Int):=hI.val (10,73,_) (by simp[s14]) (hd ⟨10,.data⟩ (by simp) rfl);have g19:L 19=false:=hcl.not_up (i:=19) (s:=19) 22 (by kernel_rfl) hL;have g21:L 21=false:=hcl.not_up (i:=19) (s:=21) 22 (by kernel_rfl) hL;have hw0:w'=wq.drew:=by rw[hI.wd];simp[g19,g21]
       have mk:w'.cell? ⟨pb,k,none⟩=some (.int .i64 (y:Int)):=by rw[hw0];exact HMK.out
       have ma:w'.cell? ⟨pb,A,none⟩=some (.int .i64 (x:Int)):=by rw[hw0];exact HMA.out
       have HW0:=η hw0;clear hw0;refine wpOp_step rfl (λ K hK=>?_);rw[HW0.out];have ma:=HMA.out;have fa:=HFA.out;go_simp;rw[← HW1E.out];exact hK _ _ (hI.none_step 19 (by simp[upL,g19,g21]) (by kernel_rfl))
      ·cases ho
       have t68:tmps[68]?.getD undef=.slice (some ⟨pb,0,none⟩) n n:=hI.val (5,68,_) (by simp[s14]) (hd ⟨5,.data⟩ (by simp) rfl);have t69:tmps[69]?.getD undef=.int .i64 (k:Int):=hI.val (6,69,_) (by simp[s14]) (hd ⟨6,.data⟩ (by simp) rfl);have g19:L 19=true:=hcl.dep_up (i:=20) (s:=19) rfl hd 22 (by kernel_rfl) (by decide);have g21:L 21=false:=hcl.not_up (i:=20) (s:=21) 22 (by kernel_rfl) hL;have hw0:w'=wa1:=by rw[hI.wd];simp[g19,g21]
       have HW0:=η hw0;clear hw0;refine wpOp_step rfl (λ K hK=>?_);go_simp;exact hK _ _ (hI.val_step 20 82 (.pointer (some ⟨pb,k,none⟩)) (by decide) (by rw[hI.wd];rfl) (by simp[s14]) (by kernel_rfl))
      ·cases ho
       have t82:tmps[82]?.getD undef=.pointer (some ⟨pb,k,none⟩):=hI.val (20,82,_) (by simp[s14]) (hd ⟨20,.data⟩ (by simp) rfl);have t80:tmps[80]?.getD undef=.int .i64 (x:Int):=hI.val (17,80,_) (by simp[s14]) (hd ⟨17,.data⟩ (by simp) rfl);have g19:L 19=true:=hcl.dep_up (i:=21) (s:=19) rfl hd 22 (by kernel_rfl) (by decide);have g21:L 21=false:=hcl.not_up (i:=21) (s:=21) 22 (by kernel_rfl) hL;have hw0:w'=wa1:=by rw[hI.wd];simp[g19,g21]
       have HW0:=η hw0;clear hw0;refine wpOp_step rfl (λ K hK=>?_);rw[HW0.out];have mk1:=HMK1.out;have fk:=HFK.out;go_simp;rw[← HW2E.out];exact hK _ _ (hI.none_step 21 (by simp[upL,g19,g21]) (by kernel_rfl))
     ·intro Lu tmps w9 hI hall;have hat:=hI.fin rfl (λ t ht=>hall _ (by have h9:=List.all_eq_true.1 (show((s14 pb n I A k x y).all λ t=>decide (t.1<22))=true from rfl) t ht;simpa using h9));have hw9:w9=wa2:=by rw[hI.wd];simp[hall 19 (by decide),hall 21 (by decide)]
      clear hI hall;simp only[s14,List.map_cons,List.map_nil,Ac0,αs,αz,αc] at hat;rw[hat];clear hat tmps;subst hw9;go_wp2_with fail
      exact⟨⟨I+1,(Q.set A y).set k x,by go_num,by omega,HSP,HB2,HUA⟩,by simp[intOf];omega⟩
    ·obtain⟨b9,hb9⟩:∃b,b=wq.heap.size:=⟨_,rfl⟩;obtain⟨w3,hw3⟩:∃w3,w3=wq.alloc (.cells #[.slice none 0 0,.slice none 0 0] 53):=⟨_,rfl⟩;have hk9:w3.heap[b9]?=some (.cells #[.slice none 0 0,.slice none 0 0] 53 (0,0)):=by rw[hw3,hb9];exact A4 _
     have hu3:Upd [] wq w3:=by rw[hw3];exact(Upd.refl _ _).alloc _
     have HK9:=η hk9;have HQ3:=η ((hu3.block _ (A3 HQB.out) (by simp)).trans HQB.out);have HU3:=η (HUQ.out.trans hu3);have HPB9:Hid (pb<b9):=by show _<_;rw[hb9];exact A3 HQB.out
     have HLT9:Hid (w.heap.size<=b9):=by show _<=_;rw[hb9];exact HUQ.out.size
     have HW3:=η hw3;have HB9:=η hb9;clear hk9 hu3 hw3 hb9;have hgo2:(decide ((I:Int)<(no:Int))=true/\decide (I<no)=true/\decide ((0:Int)<(n:Int))=false/\decide (0<n)=false)∨(decide ((I:Int)<(no:Int))=false/\decide (I<no)=false):=by
      rcases Nat.lt_or_ge I no with h | h
      ·have h0:¬0<n:=λ q=>hgo ⟨h,q⟩;exact .inl ⟨decide_eq_true (by omega),decide_eq_true h,decide_eq_false (by omega),decide_eq_false h0⟩
      ·exact .inr ⟨decide_eq_false (by omega),decide_eq_false (by omega)⟩
     clear hgo;rcases hgo2 with⟨co,co2,cn,cn2⟩ | ⟨co,co2⟩;all_goals
      go_wp2_with fail
      have hw3:=HW3.out;have hb9:=HB9.out;rw[← hw3,← hb9];clear hw3 hb9;go_loopw [10] (λ i wr=>∃(W:Nat) (v0 v1:Value) (L0:List (Bs × Bs)) (B0 B1:Nat),i=.int .i64 (W:Int)/\W<=2/\Hid (wr.heap[b9]?=some (.cells #[v0,v1] 53 (0,0)))/\
       Hid (1<=W->Af0 wr B0 v0 L0/\(∀a n c,v0=.slice (some a) n c->a.block≠b9)/\L0.length<=25/\∃(R:List Rc) (L:List Nat),L0=R.map Af8/\Ao2 c R L/\L.Perm (List.range n)/\Ao6 R)/\Hid (2<=W->Af0 wr B1 v1 L0)/\
       Hid (wr.heap[pb]?=some (.cells (icl Q).toArray 3 (0,0)))/\Hid (Upd [] w wr)) (λ i _=>3-(intOf i).toNat)
      case atStart=>exact⟨0,.slice none 0 0,.slice none 0 0,[],0,0,rfl,by omega,HK9,η (λ h=>by omega),η (λ h=>by omega),HQ3,HU3⟩
      case round=>
       obtain⟨W,v0,v1,L0,B0,B1,rfl,hW,HK9,HV0,HV1,HQP,HUP⟩:=hrel;obtain⟨wp,rfl⟩:∃wp:World,wp=wr:=⟨_,rfl⟩;rcases Nat.lt_or_ge W 2 with hW2 | hW2
       ·have cw:decide ((W:Int)<2)=true:=decide_eq_true (by omega);have cw2:decide (W<2)=true:=decide_eq_true hW2;obtain⟨O,HOP,HOC⟩:∃O:List Nat,Hid (O.Perm (List.range n))/\Hid ((((W:Int) == 1)=false/\O=List.range n)∨(((W:Int) == 1)=true/\O=Q)):=by
         rcases Nat.lt_or_ge W 1 with h | h
         ·exact⟨List.range n,η (.refl _),η (.inl ⟨by rw[beq_eq_false_iff_ne];omega,rfl⟩)⟩
         ·exact⟨Q,η HQR.out,η (.inr ⟨by rw[beq_iff_eq];omega,rfl⟩)⟩
        go_wp2_with fail
        refine(HM.out _).mono ?_;rintro e w4 ⟨j,H0,rfl,hj,hkj,hrow,hu4⟩;have HJ:=η hj;have HKJ:=η hkj;have HRM:=η hrow;have HU4:=η hu4;clear hj hkj hrow hu4;go_wp2_with fail
        go_loopw [13] (λ i wr=>∃(I m:Nat) (H:Nat->Sec) (S:List Nat) (K:Nat->Option Pk) (R:List Rc),i=.int .i64 (I:Int)/\I<=n/\m<=I/\Hid (Cb4 wr j 900 100 (2+I) H S K R)/\Hid (Ai9 S K (λ i=>Y5 (T6 (H 1)) i) m)/\Hid (Ao2 c R (O.take I))/\Hid (Upd [] wp wr)) (λ i _=>201-(intOf i).toNat)
        case atStart=>exact⟨0,0,H0,[],_,[],rfl,by omega,by omega,by have:=HKJ.out;simpa using HKJ,HRM,η (Ao2.zero c),HU4⟩
        case round=>
         obtain⟨I,mm,H,S,K,R,rfl,hI,hmI,HKJ2,HRM2,HOR,HUW⟩:=hrel;obtain⟨wi,rfl⟩:∃wi:World,wi=wr:=⟨_,rfl⟩;have hOl:O.length=n:=by rw[HOP.out.length_eq,List.length_range]
         have hRl:R.length=I:=by rw[HOR.out.len,List.length_take];omega
         have hS50:4*S.length<=I+3:=by
          have:=HKJ2.out.2.1.tr.size;rw[List.length_map,hRl] at this;exact this
         rcases Nat.lt_or_ge I n with h4 | h4
         ·have cj:decide ((I:Int)<(n:Int))=true:=decide_eq_true (by omega);have hI0:(0:Int)<=(I:Int):=by omega
          have hI1:(I:Int)<(n:Int):=by omega
          obtain⟨nn,hnn⟩:∃x,O[I]?=some x:=⟨_,List.getElem?_eq_getElem (by omega)⟩;have hnnn:nn<n:=List.mem_range.1 (HOP.out.mem_iff.1 (List.mem_of_getElem? hnn));have hnot:nn∉O.take I:=λ h=>by
           have nd:O.Nodup:=HOP.out.nodup_iff.2 List.nodup_range;obtain⟨hi2,e2⟩:=List.getElem?_eq_some_iff.1 hnn;have hd:O.drop I=nn :: O.drop (I+1):=by rw[← e2,List.getElem_cons_drop]
           rw[← List.take_append_drop I O,hd,List.nodup_append] at nd;exact nd.2.2 nn h nn (by simp) rfl
          have htk:O.take I ++ [nn]=O.take (I+1):=by rw[List.take_add_one,hnn];rfl
          have hqb:=(HUW.out.block _ (A3 HQP.out) (by simp)).trans HQP.out;have hrd3:RdL wi [] (.slice av n cv) (ks.map λ i=> .int .i64 i):=HRD.out.upd (HUP.out.trans HUW.out) (by simp);obtain⟨kz,hkz⟩:∃x,ks[nn]?=some x:=⟨_,List.getElem?_eq_getElem (by have:=HN.out;omega)⟩;obtain⟨bs,os9,rfl,hc1⟩:=hrd3.cell nn (by rw[List.length_map];have:=HN.out;omega);have hc1':wi.cell? ⟨bs,os9+nn,none⟩=some (.int .i64 kz):=by
           rw[hc1,List.getElem_map];obtain⟨_,e⟩:=List.getElem?_eq_some_iff.1 hkz;rw[e]
          obtain⟨p,hp⟩:∃p,p=V4 kz 2000:=⟨_,rfl⟩;have hp9:p<2000:=by rw[hp];exact Av0 (by omega)
          have hcp:c nn=p:=by rw[hp,HC.out];show V4 ((ks[nn]?).getD 0) 2000=_;rw[hkz];rfl
          have hpz:=λ W=>Ap6 kz 2000 W (by omega) (by omega);rw[← hp,show((2000:Nat):Int)=2000 from rfl] at hpz;have HPZ:=η hpz;obtain⟨wm,hwm⟩:∃wm,wm=wi.alloc (.cells (bts (List.replicate (1+p) 0)).toArray 5):=⟨_,rfl⟩;obtain⟨bb,hbb⟩:∃b,b=wi.heap.size:=⟨_,rfl⟩;have hmk:(Instr.makeSlice 32 (.int .i64 (1+(p:Int))) (.int .i64 (1+(p:Int)))).run Tryz.prog wi=.ok (.slice (some ⟨bb,0,none⟩) (1+p) (1+p)) wm:=by
           have:=Ax5 (1+p) (by omega) wi;rw[show((1+p:Nat):Int)=1+(p:Int) from by omega,← hwm,← hbb] at this;exact this
          have bm:wm.heap[bb]?=some (.cells (bts (List.replicate (1+p) 0)).toArray 5 (0,0)):=by rw[hwm,hbb];exact A4 _
          have cm:wm.cell? ⟨bb,0,none⟩=some (.int .u8 0):=by
           rw[A2 bm,Nat.add_comm,List.replicate_succ];rfl
          have fm:=B7 bm 0;obtain⟨wn,hwn⟩:∃wn,wn=wm.setCell ⟨bb,0,none⟩ (.int .u8 (nn:Int)):=⟨_,rfl⟩;have bn:wn.heap[bb]?=some (.cells (bts (Ak3 c nn)).toArray 5 (0,0)):=by
           rw[hwn,X7 bm 0 (by omega)];unfold Ak3;rw[hcp]
          have huin:Upd [] wi wn:=by rw[hwn,hwm,hbb];exact((Upd.refl _ _).alloc _).set _ (.inr (Nat.le_refl _))
          have hbl:(Ak3 c nn).length=1+p:=by rw[Bt6,hcp]
          have hrdn:Rd wn (.slice (some ⟨bb,0,none⟩) (1+p) (1+p)) (Ak3 c nn):=Bn5 bn hbl;have hkjn:Cb4 wn j 900 100 (2+I) H S K R:=⟨HKJ2.out.1.below huin,HKJ2.out.2⟩;have hnk:=HOR.out.none hnot (by omega);have hins:=λ a b=>HOR.out.ins hnot (by omega) a b;rw[htk] at hins;obtain⟨J,hJ⟩:∃J,J=I:=⟨_,rfl⟩;have HJI:=η hJ;have hbg:=hkjn.begin HJ.out (HUW.out.trans huin);rw[← hJ] at hbg hins;have HBG:=η hbg;have HINS:=η hins;have HNK:=η hnk;have HRDN:=η hrdn;have HRJ:Hid (∀w',Upd j.all wn w'->Rd w' (.slice (some ⟨bb,0,none⟩) (1+p) (1+p)) (Ak3 c nn)):=by
           obtain⟨J0,D0,t0,m0,hjr,_⟩:=hkjn.1;exact η λ w' hu=>Rd.jn hjr.at_ hrdn hu (λ k hk=>hk)
          have HWN:=η hwn;have HJB:Hid (J<n/\mm<=J/\4*S.length<=J+3/\R.length=J/\p<2000/\(Ak3 c nn).length=1+p/\nn<n/\n<=25):=η (by refine⟨by omega,by omega,by omega,by omega,hp9,hbl,hnnn,by omega⟩);have HSO:=η HKJ2.out.2.2;have HC1:=η hc1';have hn0:(0:Int)<=(nn:Int):=by omega
          have hn1:(nn:Int)<(n:Int):=by omega
          have HNN:=η hnn;have hoc:=HOC.out;have hcq:O=Q->wi.cell? ⟨pb,I,none⟩=some (.int .i64 (nn:Int)):=λ e=>Al0 hqb (by rw[← e];exact hnn);have hcr:O=List.range n->nn=I:=λ e=>by
           rw[e,List.getElem?_range h4] at hnn;exact(Option.some.inj hnn).symm
          have HCQ:=η hcq;have hwnn:IntKind.u8.wrap (nn:Int)=(nn:Int):=by rw[IntKind.wrap_u8];omega
          clear hnn hnot htk hqb hrd3 hkz hc1 hc1' hp hcp hpz hwm hbb bm hwn bn huin hrdn hkjn hnk hins hJ hbg hS50 hmI hcq hOl hRl hbl hnnn;rcases hoc with⟨cb,eO⟩ | ⟨cb,eO⟩
          all_goals
           first
           | (have e:=hcr eO;clear hcr eO;subst e;go_upto_region 28 with(fail))
           | (have cq:=HCQ.out eO;clear hcr eO;go_upto_region 28 with(fail);clear cq)
           have hc1:=HC1.out;go_wp2_with fail
           refine(HPZ.out _).mono ?_;rintro e w' ⟨rfl,rfl⟩;clear hc1;go_upto_region 30 with(fail)
           have hwn:=HWN.out;rw[← hwn];clear hwn cm fm hmk hp9 hwnn;go_wp2_with fail
           refine HBG.out.mono ?_;rintro e w3 ⟨g,rfl,hkt,hgT,hu3⟩;have HKTU:=η hu3;have hgh:g.h=798:=hkt.h;have hrm:Ai9 S K (g.T λ _=>none) mm:=by
            have e:(g.T λ _=>none)=λ i=>Y5 (T6 (H 1)) i:=funext hgT;rw[e];exact HRM2.out
           have hSS:=hkt.S HJ.out;have HKT:=η hkt;have HGH:=η hgh;have HRMg:=η hrm;have HSS:=η hSS;obtain⟨hJn,hmJ,hSJ,hRJ,hpJ,hbJ,hnJ,hn25⟩:=HJB.out;have hroom:4+S.length+16*mm+20<=g.h:=by omega
           have hkl:(T9 (nn:Int)).length=32:=R9 _;have hky:=λ W=>Bk5 nn (by omega) W;unfold arr at hky;have HKY:=η hky;have HRO:=η hroom;clear hkt hgT hgh hrm hSS hroom hky hJn hmJ hSJ hRJ hpJ hbJ hnJ hn25;go_wp2_with fail
           refine(HKY.out _).mono ?_;rintro e w6 ⟨rfl,hu6⟩;have hkt6:=HKT.out.below hu6;have hrd6:=(HRJ.out _ HKTU.out).below hu6;have hst:=An2 hkt6.sp (by have:=HGH.out;omega) (by have:=HGH.out;omega) hkt6.kp (by have:=HJB.out;omega) (T9 (nn:Int)) (Ak3 c nn) _ hrd6 hkl (by have:=HJB.out;omega) (Af9.fresh HRMg.out (by have:=HJB.out;omega) HRO.out HNK.out);unfold arr at hst;have HST:=η hst;have HKT6:=η hkt6;clear hu6 hkt6 hrd6 hkl hst;go_wp2_with fail
           refine HST.out.mono ?_;rintro e w7 ⟨M',S',K',y,rfl,h7,hso,hu7⟩;have hkt7:Ba3 wp w7 j 900 100 (2+J) g M' S' K' (V5 R ⟨y.1,y.2,T9 (nn:Int),Ak3 c nn⟩):=⟨HKT6.out.tx,h7,hso.kp,(Upd.refl [] wp).late ((HKT6.out.upd.mono (by simp)).trans hu7) λ i hi=> .inr (HSS.out.1 i hi)⟩;have hcm:=hkt7.commit (by omega) (by have:=HJB.out;omega) hso.cnt (by omega);obtain⟨m',hm',hrm'⟩:=hso.row HRMg.out HNK.out (by have:=HJB.out;omega) HRO.out;have HCM:=η hcm;have HRM':=η hrm';have HU7:=η hkt7.upd;have HM':=η hm';clear h7 hso hu7 hkt7 hcm hrm' hm';go_wp2_with fail
           refine HCM.out.mono ?_;rintro e w8 ⟨rfl,hkj8,hu8⟩;have HKJ8:=η hkj8;have HU8:=η (HU7.out.late hu8 λ i hi=>by
            rcases List.mem_cons.1 hi with rfl | q
            ·exact .inr HSS.out.2
            ·exact .inr (HJ.out i q))
           clear hkj8 hu8;go_wp2_with fail
           have hJI:=HJI.out;have hb:=HJB.out;have hm9:=HM'.out;refine⟨⟨J+1,m',g.cur M',S',K',V5 R ⟨y.1,y.2,T9 (nn:Int),Ak3 c nn⟩,by rw[← hJI];go_num,by omega,by omega,?_,HRM',η (HINS.out y.1 y.2),HU8⟩,?_⟩
           ·have:=HKJ8.out;rw[show(2:Int)+((J+1:Nat):Int)=2+(J:Int)+1 by omega];exact HKJ8
           ·rw[← hJI];simp[intOf];omega
         ·have cj:decide ((I:Int)<(n:Int))=false:=decide_eq_false (by omega);have e:I=n:=by omega
          have hOn:O.take I=O:=List.take_of_length_le (by omega);have hor:=HOR.out;rw[hOn] at hor;have HOR2:=η hor;have HBG:=η (HKJ2.out.begin HJ.out HUW.out);have HSO:=η HKJ2.out.2.2;clear hor hOn;go_wp2_with fail
          refine HBG.out.mono ?_;rintro e w5 ⟨g,rfl,hkt,_,_⟩;have hgh:g.h=798:=hkt.h;have hSS:=hkt.S HJ.out;have HAL:=η (Cb3 hkt.sp (by omega) (by omega) hkt.kp (by omega));have HUT:=η hkt.upd;have HSS:=η hSS;clear hkt hgh hSS;go_wp2_with fail
          refine HAL.out.mono ?_;rintro e w6 ⟨va,rfl,hva,h6,hu6⟩;have hup6:Upd [] wp w6:=(Upd.refl [] wp).late ((HUT.out.mono (by simp)).trans hu6) λ i hi=> .inr (HSS.out.1 i hi);obtain⟨aa,ca,rfl⟩:=hva.shape;have hab:=hva.lt;have hLl:(R.map Af8).length=n:=by rw[List.length_map];omega
          rw[hLl] at hva ⊢;have k9:=(hup6.block _ (A3 HK9.out) (by simp)).trans HK9.out;have h9lt:=A3 HK9.out;have hab9:∀a m c,Value.slice aa n ca=.slice (some a) m c->a.block≠b9:=λ a m c e=>by
           cases e
           have:=(hab a rfl).1;have:=HUT.out.size;omega
          obtain⟨vl,hvl⟩:∃vl,vl=Value.slice aa n ca:=⟨_,rfl⟩;rw[← hvl] at hva hab9;have hW01:W=0∨W=1:=by omega
          obtain⟨v0',hv0⟩:∃x,x=if W=0 then vl else v0:=⟨_,rfl⟩;obtain⟨v1',hv1⟩:∃x,x=if W=0 then v1 else vl:=⟨_,rfl⟩;obtain⟨vo,c9⟩:∃vo,w6.cell? ⟨b9,W,none⟩=some vo:=by
           rcases hW01 with rfl | rfl
           ·exact⟨v0,by rw[A2 k9];rfl⟩
           ·exact⟨v1,by rw[A2 k9];rfl⟩
          have f9:=B7 k9 W;obtain⟨w7,hw7⟩:∃w7,w7=w6.setCell ⟨b9,W,none⟩ vl:=⟨_,rfl⟩;have k97:w7.heap[b9]?=some (.cells #[v0',v1'] 53 (0,0)):=by
           rw[hw7,A8 k9];rcases hW01 with rfl | rfl
           ·rw[hv0,hv1];rfl
           ·rw[hv0,hv1];rfl
          have hu7:Upd [b9] w6 w7:=by rw[hw7];exact(Upd.refl _ _).set _ (.inl (by simp))
          have hupq:Upd [b9] wp w7:=(hup6.mono (by simp)).trans hu7;have hq7:w7.heap[pb]?=some (.cells (icl Q).toArray 3 (0,0)):=(hupq.block _ (A3 HQP.out) (by have:=HPB9.out;simp;omega)).trans HQP.out;have no9:∀W:World,(∃x,W.heap[b9]?=some (.cells x 53 (0,0)))->∀k,k∈[b9]->∀c,W.heap[k]?≠some (.cells c 5 (0,0)):=λ W ⟨x,hx⟩ k hk c e=>by
           simp at hk;subst hk;rw[hx] at e;injection e with e;injection e with _ e _;revert e;decide
          have hnew:Af0 w7 w5.heap.size vl (R.map Af8):=hva.read.turn hu7 (λ a n c e hk=>by simp at hk;exact hab9 a n c e hk) (λ k hk=> .inr (no9 w6 ⟨_,k9⟩ k hk));have hold:1<=W->Af0 w7 B0 v0 L0:=λ h=>(HV0.out h).1.turn hupq (λ a n c e hk=>by simp at hk;exact(HV0.out h).2.1 a n c e hk) (λ k hk=> .inr (no9 wp ⟨_,HK9.out⟩ k hk));have huw7:Upd [] w w7:=(HUP.out.trans hup6).late hu7 (λ i hi=> .inr (by simp at hi;subst hi;exact HLT9.out));have hfin:∃(L0':List (Bs × Bs)) (B0' B1':Nat),(1<=W+1->Af0 w7 B0' v0' L0'/\(∀a n c,v0'=.slice (some a) n c->a.block≠b9)/\L0'.length<=25/\∃(R:List Rc) (L:List Nat),L0'=R.map Af8/\Ao2 c R L/\L.Perm (List.range n)/\Ao6 R)/\(2<=W+1->Af0 w7 B1' v1' L0'):=by
           rcases hW01 with h | h
           ·rw[hv0,hv1,if_pos h,if_pos h];exact⟨R.map Af8,w5.heap.size,0,λ _=>⟨hnew,hab9,by omega,R,O,rfl,HOR2.out,HOP.out,HSO.out⟩,λ h2=>by omega⟩
           ·rw[hv0,hv1,if_neg (by omega),if_neg (by omega)];obtain⟨q1,q2,q3,R0,L,rfl,q4,q5,q6⟩:=HV0.out (by omega);have e:R.map Af8=R0.map Af8:=HOR2.out.same q4 HSO.out q6 (HOP.out.trans q5.symm);rw[e] at hnew;exact⟨R0.map Af8,B0,w5.heap.size,λ _=>⟨hold (by omega),q2,q3,R0,L,rfl,q4,q5,q6⟩,λ _=>hnew⟩
          obtain⟨L0',B0',B1',hf1,hf2⟩:=hfin;have HF1:=η hf1;have HF2:=η hf2;have HK97:=η k97;have HQ7:=η hq7;have HUW7:=η huw7;rw[hvl] at hw7;have HW7:=η hw7;have hW0:(0:Int)<=(W:Int):=by omega
          have hW12:(W:Int)<2:=by omega
          clear hf1 hf2 k97 hq7 huw7 hnew hold no9 hupq hu7 hw7 hv0 hv1 hW01 hLl hab9 k9 h9lt hab hva h6 hu6 hup6 hvl;go_wp2_with fail
          have hw7:=HW7.out;rw[← hw7];clear hw7;exact⟨⟨W+1,v0',v1',L0',B0',B1',by go_num,by omega,HK97,HF1,HF2,HQ7,HUW7⟩,by simp[intOf];omega⟩
       ·have cw:decide ((W:Int)<2)=false:=decide_eq_false (by omega);have cw2:decide (W<2)=false:=decide_eq_false (by omega);obtain⟨q1,_,q3,_⟩:=HV0.out (by omega);have q2:=HV1.out (by omega);have HAK:=η (Bo7 (by omega) q1 q2);have c0:wp.cell? ⟨b9,0,none⟩=some v0:=by rw[A2 HK9.out];rfl
        have c1:wp.cell? ⟨b9,1,none⟩=some v1:=by rw[A2 HK9.out];rfl
        obtain⟨a0,x0,rfl⟩:=q1.shape;obtain⟨a1,x1,rfl⟩:=q2.shape;clear q1 q2 q3;go_wp2_with fail
        refine HAK.out.mono ?_;rintro e we ⟨rfl,hue⟩;have HE:=η (HUP.out.trans hue);clear hue;go_wp2_with fail
        go_ret;exact⟨rfl,HE.out⟩
end Go.Proofs.YtgfbepakonjbnaaGreat
end
