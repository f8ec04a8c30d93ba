/-
  sha's Write, walked. sha's New, Sum and Of, walked. sha.Of, walked.
-/
import Derived.Test.YtgfbepakonjbnaaGreatX13
set_option maxRecDepth 100000
set_option maxHeartbeats 16000000
section
section
set_option linter.unusedSimpArgs false
set_option linter.unusedVariables false
namespace Go.Proofs.YtgfbepakonjbnaaGreat
open Go.RowKit Go.MapKept Go.ChangeMaps
attribute [-go_sem] loadCells storeCells Instr.build
theorem Ac4(l:List Int)(wait:List UInt8)(n:Nat):hcl l wait n=(.bool true :: wvs l)++(bts wait ++ [.int .u64 (n:Int)]):=by unfold hcl;rfl
theorem Cq9{l:List Int}{wait f:List UInt8}{n at_:Nat}(hl:l.length=8)(hw:wait.length=64)(h:at_+f.length<=64) :
  (hcl l wait n).take (9+at_)++bts f++(hcl l wait n).drop (9+at_+f.length)=hcl l (G8 wait at_ f) n:=by
 have hP:(Value.bool true :: wvs l).length=9:=by rw[List.length_cons,C8,hl]
 have hW:(bts wait).length=64:=by rw[A5,hw]
 rw[Ac4,Ac4];have e1:((Value.bool true :: wvs l)++(bts wait ++ [Value.int .u64 (n:Int)])).take (9+at_)=(.bool true :: wvs l)++(bts wait).take at_:=by
  rw[← hP,List.take_length_add_append,List.take_append_of_le_length (by omega)]
 have e2:((Value.bool true :: wvs l)++(bts wait ++ [Value.int .u64 (n:Int)])).drop (9+at_+f.length)=(bts wait).drop (at_+f.length) ++ [Value.int .u64 (n:Int)]:=by
  rw[Nat.add_assoc,← hP,List.drop_length_add_append,List.drop_append_of_le_length (by omega)]
 have e3:bts (G8 wait at_ f)=(bts wait).take at_++(bts f++(bts wait).drop (at_+f.length)):=by
  unfold G8 bts;simp only[List.map_append,List.map_take,List.map_drop]
 rw[e1,e2,e3];simp only[List.append_assoc]
theorem De4{l:List Int}{wait:List UInt8}{n:Nat}(hl:l.length=8)(hw:wait.length=64)(n':Nat):(hcl l wait n).set 73 (.int .u64 (n':Int))=hcl l wait n':=by
 have hP:(Value.bool true :: wvs l).length=9:=by rw[List.length_cons,C8,hl]
 have hW:(bts wait).length=64:=by rw[A5,hw]
 rw[Ac4,Ac4,List.set_append_right _ _ (by omega),List.set_append_right _ _ (by omega),hP,hW];rfl
theorem Ag9{l:List Int}{wait:List UInt8}{n:Nat}(hl:l.length=8)(hw:wait.length=64):(hcl l wait n)[73]?=some (.int .u64 (n:Int)):=by
 have hP:(Value.bool true :: wvs l).length=9:=by rw[List.length_cons,C8,hl]
 have hW:(bts wait).length=64:=by rw[A5,hw]
 rw[Ac4,List.getElem?_append_right (by omega),List.getElem?_append_right (by omega),hP,hW];rfl
theorem Aq2{l:List Int}{wait:List UInt8}{n:Nat}(hl:l.length=8)(hw:wait.length=64):(hcl l wait n).length=74:=by
 rw[Ac4,List.length_append,List.length_append,List.length_cons,C8,hl,A5,hw];rfl
theorem Am9{w w':World}{S:List Nat}{a:Addr}{v:Value}(h:w.cell? a=some v)(hu:Upd S w w')(hS:a.block∉S):w'.cell? a=some v:=by
 rw[World.cell?_of_block (w:=w) (hu.block _ (block_lt_of_cell h) hS)];exact h
theorem Bk7{w:World}{b:Nat}{H:Hs}(hb:w.heap[b]?=some (.cells (hsC H).toArray 358 (0,0))) :
  Calls Tryz.prog 272 #[.pointer (some ⟨b,0,none⟩)] w λ e w'=>e=.returned (.bool false)/\w=w':=by
 have m0:w.cell? ⟨b,0,none⟩=some (.bool true):=by rw[A2 hb];rfl
 clear hb;go_enter Tryz.func272,Tryz.ntmps272
 go_wp2_with fail
 go_ret;exact⟨rfl,rfl⟩
theorem W8.l_length(s:W8):s.l.length=8:=rfl
theorem Bk8{w:World}{b:Nat}{H:Hs}(hb:w.heap[b]?=some (.cells (hsC H).toArray 358 (0,0)))(hw:H.wait.length=64){v:Value}{l:List UInt8}(hr:Rd w v l)(hne:0<l.length->∀a n c,v=.slice (some a) n c->a.block≠b)(hn:H.n+l.length<=1000000000) :
  Calls Tryz.prog 257 #[.pointer (some ⟨b,0,none⟩),v] w λ e w'=>e=.returned (.tuple #[])/\
   w'.heap[b]?=some (.cells (hsC (H.more l)).toArray 358 (0,0))/\Upd [b] w w':=by
 have HNN:=η (Bk7 hb);have HB:=η hb;obtain⟨ao,cap,rfl,hc,hh⟩:=hr;clear hb;rcases Nat.eq_zero_or_pos l.length with h0 | hpos
 ·obtain rfl:l=[]:=List.length_eq_zero_iff.1 h0;clear hh hne;go_enter Tryz.func257,Tryz.ntmps257
  go_wp2_with fail
  refine HNN.out.mono ?_;rintro e w' ⟨rfl,rfl⟩;go_wp2_with fail
  go_loopw [1,4,5] (λ s1 _ _ wr=>s1=.slice ao 0 cap/\w=wr) (λ _ _ _ _=>0)
  case atStart=>exact⟨rfl,rfl⟩
  case round=>
   obtain⟨rfl,rfl⟩:=hrel;go_wp2_with fail
   go_end0
   exact⟨rfl,HB.out,Upd.refl _ _⟩
 ·obtain⟨bk,off,rfl,hcell⟩:=hh hpos;have hbk:bk≠b:=hne hpos _ _ _ rfl;clear hh hne;go_enter Tryz.func257,Tryz.ntmps257
  go_wp2_with fail
  refine HNN.out.mono ?_;rintro e w' ⟨rfl,rfl⟩;clear HNN;go_wp2_with fail
  go_loopw [1,4,5] (λ s1 _ _ wr=>∃q:Nat,q<=l.length/\(∃a c,s1=.slice a (l.length-q) c/\(q<l.length->a=some ⟨bk,off+q,none⟩/\l.length-q<=c))/\wr.heap[b]?=some (.cells (hsC (H.more (l.take q))).toArray 358 (0,0))/\Upd [b] w wr) (λ s1 _ _ _=>match s1 with | .slice _ k _=>k | _=>0)
  case atStart=>exact⟨0,by omega,⟨_,_,rfl,λ _=>⟨rfl,hc⟩⟩,HB.out,Upd.refl _ _⟩
  case round=>
   obtain⟨q,hq,⟨aq,cq,rfl,hac⟩,hb,hu⟩:=hrel;obtain⟨m,hm⟩:∃m,m=l.length-q:=⟨_,rfl⟩;obtain⟨oq,hoq⟩:∃m,m=off+q:=⟨_,rfl⟩;rw[← hm];rcases Nat.lt_or_ge q l.length with hlt | hge
   ·obtain⟨rfl,hcq⟩:=hac hlt;rw[← hm] at hcq;rw[← hoq];have hm0:decide ((0:Int)<(m:Int))=true:=decide_eq_true (by omega);obtain⟨K,hK⟩:∃K,K=H.more (l.take q):=⟨_,rfl⟩;have hKn:K.n=H.n+q:=by rw[hK,Hs.more_n,List.length_take];omega
    have hKw:K.wait.length=64:=by rw[hK,Hs.more_wait];exact hw
    rw[← hK] at hb;obtain⟨N,hN⟩:∃N,N=K.n:=⟨_,rfl⟩;obtain⟨t,ht⟩:∃t,t=N % 64:=⟨_,rfl⟩;obtain⟨k,hk⟩:∃k,k=min m (64-t):=⟨_,rfl⟩;have mN:wr.cell? ⟨b,73,none⟩=some (.int .u64 (N:Int)):=by
     rw[A2 hb,List.getElem?_toArray,hsC,Ag9 (W8.l_length _) hKw,hN]
    have eT:(N:Int) % 64=(t:Int):=by omega
    have t0:(0:Int)<=t:=by omega
    have t1:(t:Int)<=64:=by omega
    have t2:(t:Int)<64:=by omega
    have k0:(0:Int)<=k:=by omega
    have k1:(k:Int)<=m:=by omega
    have k2:(k:Int)<=cq:=by omega
    have hm1:decide (0<m)=true:=decide_eq_true (by omega);obtain⟨f,hf⟩:∃f,f=(l.drop q).take k:=⟨_,rfl⟩;have hfl:f.length=k:=by rw[hf,List.length_take,List.length_drop];omega
    have hfk:t+f.length<=64:=by omega
    obtain⟨W9,hW9⟩:∃W9,W9=wr.setRow b (hcl K.st.l (G8 K.wait t f) N).toArray:=⟨_,rfl⟩;have hbs:wr.heap[b]?=some (.cells (hcl K.st.l K.wait N).toArray 358 (0,0)):=by rw[hN];exact hb
    have hcp:∀ty,(Builtin.copy_ #[32,32] ty #[.slice (some ⟨b,9+t,none⟩) (64-t) (64-t),.slice (some ⟨bk,oq,none⟩) m cq]).run Tryz.prog wr=.ok (.int .i64 (k:Int)) W9:=λ ty=>by
     have hrun:=run_copy_row (P:=Tryz.prog) wr 32 32 ty 5 b (9+t) (64-t) (64-t) ⟨bk,oq,none⟩ m cq (hcl K.st.l K.wait N).toArray 358 (bts f) Tryz.underlying32 Ao8 hbs
      (by rw[A5,hfl];exact hk)
      (λ j u hj=>by
       rw[Ah6] at hj;obtain⟨c,hc',rfl⟩:=Option.map_eq_some_iff.1 hj;have hjk:j<k:=by rw[← hfl];exact(List.getElem?_eq_some_iff.1 hc').1
       rw[hf,List.getElem?_take_of_lt hjk,List.getElem?_drop] at hc';obtain⟨hlt2,rfl⟩:=List.getElem?_eq_some_iff.1 hc';have:=hcell (q+j) hlt2;rw[P9,hoq,Nat.add_assoc];exact Am9 this hu (by simpa using hbk))
      (by rw[List.size_toArray,Aq2 (W8.l_length _) hKw,A5];omega) (G5 _)
     rw[hrun,hW9,A5,hfl];have:=Cq9 (l:=K.st.l) (n:=N) (W8.l_length _) hKw hfk;rw[hfl] at this;simp only[List.toList_toArray];rw[this];rfl
    have h9:W9.heap[b]?=some (.cells (hcl K.st.l (G8 K.wait t f) N).toArray 358 (0,0)):=by rw[hW9];exact setRow_heap _ _ _ _ _ _ hbs
    have hu9:Upd [b] wr W9:=by rw[hW9];exact V7 (Upd.refl _ _) _ (.inl (by simp))
    have hol:(G8 K.wait t f).length=64:=by unfold G8;simp;omega
    obtain⟨N2,hN2⟩:∃N2,N2=N+k:=⟨_,rfl⟩;have m9:W9.cell? ⟨b,73,none⟩=some (.int .u64 (N:Int)):=by rw[A2 h9,List.getElem?_toArray,Ag9 (W8.l_length _) hol]
    have st9:∀x:Int,(storeCells ⟨b,73,none⟩ [.int .u64 x] 0).run Tryz.prog W9=.ok () (W9.setCell ⟨b,73,none⟩ (.int .u64 x)):=λ x=>As4 h9 73 (by rw[List.size_toArray,Aq2 (W8.l_length _) hol];omega) rfl;have h10:(W9.setCell ⟨b,73,none⟩ (.int .u64 (N2:Int))).heap[b]?=some (.cells (hsC ⟨K.st,G8 K.wait t f,N2⟩).toArray 358 (0,0)):=by
     rw[A8 h9,αs,De4 (W8.l_length _) hol];rfl
    have hu10:Upd [b] w (W9.setCell ⟨b,73,none⟩ (.int .u64 (N2:Int))):=hu.trans (hu9.set _ (.inl (by simp)));have hpc:=Hs.piece f K hKw (by omega) (by rw[← hN,← ht];exact hfk);rw[← hN,← ht,hfl,← hN2] at hpc;have hmore:H.more (l.take (q+k))=K.more f:=by rw[hK,hf,← Hs.more_app,← List.take_add]
    have eA:IntKind.u64.wrap ((N:Int)+(k:Int))=(N2:Int):=by rw[IntKind.wrap_u64];omega
    have eK:IntKind.u64.wrap (k:Int)=(k:Int):=by rw[IntKind.wrap_u64];omega
    have gN:N2<1000000001:=by omega
    obtain⟨W10,hW10⟩:∃W10,W10=W9.setCell ⟨b,73,none⟩ (.int .u64 (N2:Int)):=⟨_,rfl⟩;rw[← hW10] at h10 hu10;have H10:=η h10;have HU10:=η hu10;have HM:=η hm;have HCQ:=η hcq;have HT:=η ht;have HOQ:=η hoq;have HK2:=η hk;have HPC:=η hpc;have HMO:=η hmore;have HW10:=η hW10;have HOL:=η hol;have HLT:=η hlt;by_cases htk:t+k=64
    ·have eTK:IntKind.i64.wrap ((t:Int)+(k:Int))=64:=by rw[IntKind.wrap_i64];omega
     have HMX:=η (Cq8 h10 hol);rw[if_pos htk] at hpc;have HPC2:=η hpc;clear hm hoq hN ht hk hK hKn hf hfl hfk hW9 hbs hcell hb hu h9 hu9 hol hN2 h10 hu10 hpc hmore gN hW10 hlt hq htk hac hcq;go_wp2_with fail
     all_goals
      rw[← HW10.out];refine HMX.out.mono ?_;rintro e w' ⟨rfl,h',hu'⟩;have H':=η h';have HU':=η (HU10.out.trans hu');clear h' hu';go_wp2_with fail
      have e1:=HM.out;have e2:=HK2.out;have e3:=HLT.out;have e4:=HT.out;have e6:=HCQ.out;have e5:m-k=l.length-(q+k):=by omega
      have hfin:w'.heap[b]?=some (.cells (hsC (H.more (l.take (q+k)))).toArray 358 (0,0)):=by rw[HMO.out,HPC2.out];exact H'.out
      refine⟨⟨q+k,by omega,⟨_,_,by rw[e5],λ h=>?_⟩,hfin,HU'.out⟩,?_⟩
      ·first | (exfalso;omega) | exact⟨by rw[HOQ.out,Nat.add_assoc],by omega⟩
      ·show m-k<m
       omega
    ·have eTK:(((t:Int)+(k:Int)) == 64)=false:=by rw[beq_eq_false_iff_ne];omega
     have eTK2:IntKind.i64.wrap ((t:Int)+(k:Int))=(t:Int)+(k:Int):=by rw[IntKind.wrap_i64];omega
     rw[if_neg htk] at hpc;have HPC2:=η hpc;clear hm hoq hN ht hk hK hKn hf hfl hfk hW9 hbs hcell hb hu h9 hu9 hol hN2 h10 hu10 hpc hmore gN hW10 hlt hq htk hac hcq;go_wp2_with fail
     rw[← HW10.out];have e1:=HM.out;have e2:=HK2.out;have e3:=HLT.out;have e4:=HT.out;have e6:=HCQ.out;have e5:m-k=l.length-(q+k):=by omega
     have hfin:W10.heap[b]?=some (.cells (hsC (H.more (l.take (q+k)))).toArray 358 (0,0)):=by rw[HMO.out,HPC2.out];exact H10.out
     refine⟨⟨q+k,by omega,⟨_,_,by rw[e5],λ h=>?_⟩,hfin,HU10.out⟩,?_⟩
     ·rw[if_neg (by omega)];exact⟨by rw[HOQ.out,Nat.add_assoc],by omega⟩
     ·show m-k<m
      omega
   ·obtain rfl:q=l.length:=by omega
    obtain rfl:m=0:=by omega
    rw[List.take_length] at hb;have HBE:=η hb;have HUE:=η hu;clear hb hu hac hge hq hm hoq hcell hc hpos hn hw hbk;go_wp2_with fail
    go_end0
    exact⟨rfl,HBE.out,HUE.out⟩
end Go.Proofs.YtgfbepakonjbnaaGreat
end
section
set_option linter.unusedSimpArgs false
set_option linter.unusedVariables false
namespace Go.Proofs.YtgfbepakonjbnaaGreat
open Go.RowKit Go.MapKept Go.ChangeMaps
attribute [-go_sem] loadCells storeCells Instr.build
theorem Cj3(w:World):(Instr.build 358 #[(0,.bool true),(1,.agg #[.int .u32 1779033703,.int .u32 3144134277,.int .u32 1013904242,.int .u32 2773480762,.int .u32 1359893119,.int .u32 2600822924,.int .u32 528734635,.int .u32 1541459225])]).run Tryz.prog w=.ok (.agg (hsC hs0).toArray) w:=run_build w _ _ _ (by kernel_rfl)
theorem Cx0(w:World):Calls Tryz.prog 256 #[] w λ e w'=>∃b,e=.returned (.pointer (some ⟨b,0,none⟩))/\w.heap.size<=b/\w'.heap[b]?=some (.cells (hsC hs0).toArray 358 (0,0))/\Upd [] w w':=by
 have b8:=Cq7;have bh:=Cj3;go_enter Tryz.func256,Tryz.ntmps256
 go_wp2_with fail
 go_ret;exact⟨_,rfl,Nat.le_refl _,A4 _,(Upd.refl _ _).alloc _⟩
theorem Cr0(w:World)(x:Nat)(xi:Int)(hxi:xi=(x:Int))(hx:x<256):Rd (w.alloc (.cells #[.int .u8 xi] 5)) (.slice (some ⟨w.heap.size,0,none⟩) 1 1) [UInt8.ofNat x]:=by
 subst hxi;refine⟨_,_,rfl,Nat.le_refl _,λ _=>⟨_,_,rfl,λ i hi=>?_⟩⟩;obtain rfl:i=0:=by simp at hi;exact hi
 rw[A2 (A4 _)];show some (Value.int .u8 (x:Int))=some (bv (UInt8.ofNat x))
 unfold bv;rw[UInt8.toNat_ofNat',Nat.mod_eq_of_lt (by omega)]
theorem Av5{w:World}{b:Nat}{H:Hs}(hb:w.heap[b]?=some (.cells (hsC H).toArray 358 (0,0)))(hw:H.wait.length=64)(x:Nat)(xi:Int)(hxi:xi=(x:Int))(hx:x<256)(hn:H.n<=900000000) :
  Calls Tryz.prog 257 #[.pointer (some ⟨b,0,none⟩),.slice (some ⟨w.heap.size,0,none⟩) 1 1] (w.alloc (.cells #[.int .u8 xi] 5)) λ e w'=>e=.returned (.tuple #[])/\
   w'.heap[b]?=some (.cells (hsC (H.more [UInt8.ofNat x])).toArray 358 (0,0))/\Upd [b] w w':=by
 have hlt:=A3 hb;have hu:Upd [b] w (w.alloc (.cells #[.int .u8 xi] 5)):=(Upd.refl _ _).alloc _;refine(Bk8 (H:=H) ((A6 hlt).trans hb) hw (Cr0 w x xi hxi hx) (λ _ a n c e=>by cases e;exact λ e=>by simp at e;omega) (by simp;omega)).mono λ e w' ⟨h1,h2,h3⟩=>⟨h1,h2,hu.trans h3⟩
theorem Dc1(x0 x1 x2 x3 x4 x5 x6 x7:Int)(w:World):(Instr.index 355 (.agg #[.int .u32 x0,.int .u32 x1,.int .u32 x2,.int .u32 x3,.int .u32 x4,.int .u32 x5,.int .u32 x6,.int .u32 x7]) (.int .i64 0)).run Tryz.prog w=.ok (.int .u32 x0) w:=by kernel_rfl
theorem Dc2(x0 x1 x2 x3 x4 x5 x6 x7:Int)(w:World):(Instr.index 355 (.agg #[.int .u32 x0,.int .u32 x1,.int .u32 x2,.int .u32 x3,.int .u32 x4,.int .u32 x5,.int .u32 x6,.int .u32 x7]) (.int .i64 1)).run Tryz.prog w=.ok (.int .u32 x1) w:=by kernel_rfl
theorem Dc3(x0 x1 x2 x3 x4 x5 x6 x7:Int)(w:World):(Instr.index 355 (.agg #[.int .u32 x0,.int .u32 x1,.int .u32 x2,.int .u32 x3,.int .u32 x4,.int .u32 x5,.int .u32 x6,.int .u32 x7]) (.int .i64 2)).run Tryz.prog w=.ok (.int .u32 x2) w:=by kernel_rfl
theorem Dc4(x0 x1 x2 x3 x4 x5 x6 x7:Int)(w:World):(Instr.index 355 (.agg #[.int .u32 x0,.int .u32 x1,.int .u32 x2,.int .u32 x3,.int .u32 x4,.int .u32 x5,.int .u32 x6,.int .u32 x7]) (.int .i64 3)).run Tryz.prog w=.ok (.int .u32 x3) w:=by kernel_rfl
theorem Dc5(x0 x1 x2 x3 x4 x5 x6 x7:Int)(w:World):(Instr.index 355 (.agg #[.int .u32 x0,.int .u32 x1,.int .u32 x2,.int .u32 x3,.int .u32 x4,.int .u32 x5,.int .u32 x6,.int .u32 x7]) (.int .i64 4)).run Tryz.prog w=.ok (.int .u32 x4) w:=by kernel_rfl
theorem Dc6(x0 x1 x2 x3 x4 x5 x6 x7:Int)(w:World):(Instr.index 355 (.agg #[.int .u32 x0,.int .u32 x1,.int .u32 x2,.int .u32 x3,.int .u32 x4,.int .u32 x5,.int .u32 x6,.int .u32 x7]) (.int .i64 5)).run Tryz.prog w=.ok (.int .u32 x5) w:=by kernel_rfl
theorem Dc7(x0 x1 x2 x3 x4 x5 x6 x7:Int)(w:World):(Instr.index 355 (.agg #[.int .u32 x0,.int .u32 x1,.int .u32 x2,.int .u32 x3,.int .u32 x4,.int .u32 x5,.int .u32 x6,.int .u32 x7]) (.int .i64 6)).run Tryz.prog w=.ok (.int .u32 x6) w:=by kernel_rfl
theorem Dc8(x0 x1 x2 x3 x4 x5 x6 x7:Int)(w:World):(Instr.index 355 (.agg #[.int .u32 x0,.int .u32 x1,.int .u32 x2,.int .u32 x3,.int .u32 x4,.int .u32 x5,.int .u32 x6,.int .u32 x7]) (.int .i64 7)).run Tryz.prog w=.ok (.int .u32 x7) w:=by kernel_rfl
theorem Dc9{L:List Int}(hL:L.length=8){q:Nat}(hq:q<8)(w:World):(Instr.index 355 (.agg (wvs L).toArray) (.int .i64 (q:Int))).run Tryz.prog w=.ok (.int .u32 (L.getD q 0)) w:=by
 match L,hL with
 | [x0,x1,x2,x3,x4,x5,x6,x7],_=>
  match q,hq with
  | 0,_=>exact Dc1 x0 x1 x2 x3 x4 x5 x6 x7 w
  | 1,_=>exact Dc2 x0 x1 x2 x3 x4 x5 x6 x7 w
  | 2,_=>exact Dc3 x0 x1 x2 x3 x4 x5 x6 x7 w
  | 3,_=>exact Dc4 x0 x1 x2 x3 x4 x5 x6 x7 w
  | 4,_=>exact Dc5 x0 x1 x2 x3 x4 x5 x6 x7 w
  | 5,_=>exact Dc6 x0 x1 x2 x3 x4 x5 x6 x7 w
  | 6,_=>exact Dc7 x0 x1 x2 x3 x4 x5 x6 x7 w
  | 7,_=>exact Dc8 x0 x1 x2 x3 x4 x5 x6 x7 w
def As5:List UInt8:=List.replicate 32 0
theorem Ah0:(#[.int .u8 0,.int .u8 0,.int .u8 0,.int .u8 0,.int .u8 0,.int .u8 0,.int .u8 0,.int .u8 0,.int .u8 0,.int .u8 0,.int .u8 0,.int .u8 0,.int .u8 0,.int .u8 0,.int .u8 0,.int .u8 0,.int .u8 0,.int .u8 0,.int .u8 0,.int .u8 0,.int .u8 0,.int .u8 0,.int .u8 0,.int .u8 0,.int .u8 0,.int .u8 0,.int .u8 0,.int .u8 0,.int .u8 0,.int .u8 0,.int .u8 0,.int .u8 0]:Array Value)=(bts As5).toArray:=by rfl
def zHs:List Value:=.bool false :: (wvs (List.replicate 8 0)++(bts (List.replicate 64 0) ++ [.int .u64 0]))
theorem Bo4:Tryz.zeroCells358=zHs.toArray:=by kernel_rfl
theorem Bo5:(Tryz.prog.info? 35).map (·.size)=some 32:=by kernel_rfl
theorem Cx1{w:World}{b:Nat}{H:Hs}(hb:w.heap[b]?=some (.cells (hsC H).toArray 358 (0,0)))(hw:H.wait.length=64)(hn:H.n<=500000000) :
  Calls Tryz.prog 258 #[.pointer (some ⟨b,0,none⟩)] w λ e w'=>e=.returned (.agg (bts H.sum).toArray)/\Upd [] w w':=by
 obtain⟨wA,hwA⟩:∃wA,wA=(w.alloc (.cells (bts As5).toArray 35)).alloc (.cells (bts As5).toArray 35):=⟨_,rfl⟩;obtain⟨b2,hb2⟩:∃b,b=w.heap.size:=⟨_,rfl⟩;obtain⟨b3,hb3⟩:∃b,b=w.heap.size+1:=⟨_,rfl⟩;have h2:wA.heap[b2]?=some (.cells (bts As5).toArray 35 (0,0)):=by rw[hwA,hb2,A6 (by simp)];exact A4 _
 have h3:wA.heap[b3]?=some (.cells (bts As5).toArray 35 (0,0)):=by rw[hwA,hb3];have:=A4 (w:=w.alloc (.cells (bts As5).toArray 35)) (.cells (bts As5).toArray 35);simpa using this
 have huA:Upd [] w wA:=by rw[hwA];exact((Upd.refl _ _).alloc _).alloc _
 have hbA:=(huA.block _ (A3 hb) (by simp)).trans hb;have HNN:=η (Bk7 hbA);have hln:(hsC H).length=74:=Aq2 (W8.l_length _) hw;have ld:=Aq1 hbA hln;have mN:wA.cell? ⟨b,73,none⟩=some (.int .u64 (H.n:Int)):=by rw[A2 hbA,List.getElem?_toArray,hsC,Ag9 (W8.l_length _) hw]
 obtain⟨wB,hwB⟩:∃wB,wB=wA.alloc (.cells zHs.toArray 358):=⟨_,rfl⟩;obtain⟨b4,hb4⟩:∃b,b=wA.heap.size:=⟨_,rfl⟩;have h4:wB.heap[b4]?=some (.cells zHs.toArray 358 (0,0)):=by rw[hwB,hb4];exact A4 _
 have hzl:zHs.length=74:=by rfl
 have st4:=N5 h4 (l:=hsC H) (by rw[List.size_toArray,hln,hzl]) (by
  intro u hu;unfold hsC hcl at hu;simp only[List.mem_cons,List.mem_append,List.not_mem_nil,or_false] at hu;rcases hu with rfl | hu | hu | rfl
  ·rfl
  ·exact Am8 _ u hu
  ·exact G5 _ u hu
  ·rfl)
 have h4C:=setRow_heap wB b4 _ (hsC H).toArray 358 (0,0) h4;obtain⟨wC,hwC⟩:∃wC,wC=wB.setRow b4 (hsC H).toArray:=⟨_,rfl⟩;rw[← hwC] at h4C;have huC:Upd [] wA wC:=by
  have a1:Upd [] wA wB:=by rw[hwB];exact(Upd.refl _ _).alloc _
  rw[hwC];exact V7 a1 _ (.inr (by omega))
 have mC:wC.cell? ⟨b,73,none⟩=some (.int .u64 (H.n:Int)):=Am9 mN huC (by simp);rw[hwC,hwB,hb4,← Bo4] at mC;rw[hwB,hb4,← Bo4] at st4;have H2:=η h2;have H3:=η h3;have H4:=η h4C;have HUA:=η huA;have HUC:=η huC;have HWA:=η hwA;have HWB:=η hwB;have HWC:=η hwC;have HB2:=η hb2;have HB3:=η hb3;have HB4:=η hb4;have HN:=η hn;clear hb hbA h2 h3 h4 h4C huA huC hwA hwB hwC hb2 hb3 hb4 hn;go_enter Tryz.func258,Tryz.ntmps258
 go_wp2_with fail
 have hwA:=HWA.out;have hb2:=HB2.out;have hb3:=HB3.out;rw[Ah0,← hwA,← hb3,← hb2];clear hwA hb2 hb3;refine HNN.out.mono ?_;rintro e w' ⟨rfl,rfl⟩;clear HNN;obtain⟨N8,hN8⟩:∃N8,N8=8*H.n:=⟨_,rfl⟩;have eS:IntKind.u64.wrap ((H.n:Int)*8)=(N8:Int):=by have:=HN.out;rw[IntKind.wrap_u64];omega
 have HN8:=η hN8;clear hN8;go_wp2_with fail
 have hwB:=HWB.out;have hwC:=HWC.out;have hb4:=HB4.out;rw[Bo4,← hwB,← hb4,← hwC];clear hwB hwC hb4 st4 mC;have hsz:b4+1=wC.heap.size:=by have:=HB4.out;have e1:=HWC.out;have e2:=HWB.out;rw[e1,e2];simp;exact this
 rw[hsz];clear hsz eS;refine(Av5 H4.out hw 128 128 rfl (by omega) (by have:=HN.out;omega)).mono ?_;rintro e wD ⟨rfl,hD,huD⟩;obtain⟨Z,hZ⟩:∃Z,Z=Db8 H.n:=⟨_,rfl⟩;have hZ64:Z<64/\(H.n+1+Z) % 64=56/\∀q,q<Z->(H.n+1+q) % 64≠56:=by
  unfold Db8 at hZ;refine⟨by omega,by omega,λ q hq=>by omega⟩
 have HZ:=η hZ;have HZ64:=η hZ64;have HD:=η hD;have HUD:=η huD;clear hD huD hZ hZ64;go_wp2_with fail
 go_loopw [] (λ wr=>∃q:Nat,q<=Z/\wr.heap[b4]?=some (.cells (hsC (H.more (128 :: List.replicate q 0))).toArray 358 (0,0))/\Upd [b4] wC wr) (λ wr=>match wr.cell? ⟨b4,73,none⟩ with | some (.int _ x)=>H.n+1+Z-x.toNat | _=>0)
 case atStart=>exact⟨0,by omega,HD.out,HUD.out⟩
 case round=>
  obtain⟨q,hq,hb,hu⟩:=hrel;obtain⟨K,hK⟩:∃K,K=H.more (128 :: List.replicate q 0):=⟨_,rfl⟩;rw[← hK] at hb;have hKw:K.wait.length=64:=by rw[hK,Hs.more_wait];exact hw
  have hKn:K.n=H.n+1+q:=by rw[hK,Hs.more_n];simp;omega
  obtain⟨n1,hn1⟩:∃n1,n1=K.n:=⟨_,rfl⟩;have mn:wr.cell? ⟨b4,73,none⟩=some (.int .u64 (n1:Int)):=by rw[A2 hb,List.getElem?_toArray,hsC,Ag9 (W8.l_length _) hKw,hn1]
  obtain⟨t1,ht1⟩:∃t1,t1=n1 % 64:=⟨_,rfl⟩;have eT:(n1:Int) % 64=(t1:Int):=by omega
  rcases Nat.lt_or_ge q Z with hlt | hge
  ·have hne:((t1:Int) == 56)=false:=by
    rw[beq_eq_false_iff_ne];have:=HZ64.out.2.2 q hlt;omega
   have HWR:=η (Av5 hb hKw 0 0 rfl (by omega) (by have:=HN.out;have:=HZ64.out.1;omega));have HMN:=η mn;have HKK:=η hK;have HKN:=η hKn;have HN1:=η hn1;have HU:=η hu;have HLT:=η hlt;clear hb hu hq hK hKn hn1 ht1 hlt;go_wp2_with fail
   refine HWR.out.mono ?_;rintro e w' ⟨rfl,h',hu'⟩;have hst:K.more [UInt8.ofNat 0]=H.more (128 :: List.replicate (q+1) 0):=by
    rw[HKK.out,← Hs.more_app,List.replicate_succ'];rfl
   rw[hst] at h';have hmw:w'.cell? ⟨b4,73,none⟩=some (.int .u64 ((H.n+1+(q+1):Nat):Int)):=by
    rw[A2 h',List.getElem?_toArray,hsC,Ag9 (W8.l_length _) (by rw[Hs.more_wait];exact hw),Hs.more_n];simp;omega
   have H':=η h';have HU':=η (HU.out.trans hu');have HMW:=η hmw;clear h' hu' hmw mn;go_wp2_with fail
   have e1:=HLT.out;have e2:=HKN.out;have e3:=HN1.out;refine⟨⟨q+1,by omega,H'.out,HU'.out⟩,?_⟩;rw[HMW.out,HMN.out];show H.n+1+Z-((H.n+1+(q+1):Nat):Int).toNat<H.n+1+Z-(n1:Int).toNat
   omega
  ·have ht:t1=56:=by
    have:=HZ64.out.2.1;obtain rfl:q=Z:=by omega
    omega
   subst ht;obtain rfl:q=Z:=by omega
   have HK2:=η hb;have HKK:=η hK;have HKN:=η hKn;have HU:=η hu;have HKW:=η hKw;clear hb hu hK hKn hn1 ht1 hge hq hKw;go_wp2_with fail
   obtain⟨P,hP⟩:∃P,P=(128 :: List.replicate q 0:List UInt8):=⟨_,rfl⟩;rw[← hP] at HKK;have HPP:=η hP;clear hP eT;go_loopw [29] (λ i wr=>∃r:Nat,r<=8/\i=.int .i64 (r:Int)/\wr.heap[b4]?=some (.cells (hsC (H.more (P++(be 8 N8).take r))).toArray 358 (0,0))/\Upd [b4] wC wr) (λ i _=>8-(intOf i).toNat)
   case atStart=>
    refine⟨0,by omega,rfl,?_,HU.out⟩;have:=HK2.out;rw[HKK.out] at this;rw[List.take_zero,List.append_nil];exact this
   case round=>
    rename World=>wx
    obtain⟨r,hr,rfl,hb,hu⟩:=hrel;have hPl:P.length<=65:=by have:=HZ64.out.1;rw[HPP.out];simp;omega
    rcases Nat.lt_or_ge r 8 with hlt | hge
    ·have hlt':decide ((r:Int)<8)=true:=decide_eq_true (by omega);obtain⟨Y,hY⟩:∃Y,Y=N8 / 256 ^ (8-1-r) % 256:=⟨_,rfl⟩;have s0:decide ((56:Int)-8*(r:Int)<0)=false:=decide_eq_false (by omega);have hsh:(0:Int)<=56-8*(r:Int):=by omega
     have hsh2:56-8*(r:Int)<=56:=by omega
     have hYI:(N8:Int) / 2 ^ (56-8*r) % 256=(Y:Int):=by
      have e1:(2:Int) ^ (56-8*r)=((256 ^ (8-1-r):Nat):Int):=by
       rw[show(256:Nat)=2 ^ 8 from rfl,← Nat.pow_mul,Int.natCast_pow,show 56-8*r=8*(8-1-r) from by omega];rfl
      rw[e1,hY];omega
     have hLw:(H.more (P++(be 8 N8).take r)).wait.length=64:=by rw[Hs.more_wait];exact hw
     have hLn:(H.more (P++(be 8 N8).take r)).n<=900000000:=by
      have:=HN.out;rw[Hs.more_n,List.length_append,List.length_take,E5];omega
     have hwr:=Av5 hb hLw Y _ hYI (by omega) hLn;have hst:(H.more (P++(be 8 N8).take r)).more [UInt8.ofNat Y]=H.more (P++(be 8 N8).take (r+1)):=by
      have e2:UInt8.ofNat Y=UInt8.ofNat (N8 / 256 ^ (8-1-r)):=by
       apply UInt8.toNat_inj.1;rw[UInt8.toNat_ofNat',UInt8.toNat_ofNat',hY];omega
      have e3:(be 8 N8)[r]?=some (UInt8.ofNat (N8 / 256 ^ (8-1-r))):=by
       unfold be;rw[List.getElem?_map,List.getElem?_range (by omega)];rfl
      rw[← Hs.more_app,List.append_assoc,List.take_add_one,e3,e2];rfl
     have HWR:=η hwr;have HST:=η hst;have HU2:=η hu;have HLT:=η hlt;clear hb hu hr hlt hwr hst hY hYI hLw hLn hPl;go_wp2_with fail
     refine HWR.out.mono ?_;rintro e w' ⟨rfl,h',hu'⟩;rw[HST.out] at h';have H':=η h';have HU':=η (HU2.out.trans hu');clear h' hu';go_wp2_with fail
     go_roundw
     case rel=>exact⟨r+1,by have:=HLT.out;omega,by go_num,H'.out,HU'.out⟩
     case measure=>have:=HLT.out;simp[intOf];omega
    ·obtain rfl:r=8:=by omega
     have hbe:P++(be 8 N8).take 8=Db9 H.n:=by
      rw[List.take_of_length_le (by rw[E5];omega),HPP.out,HN8.out,HZ.out];rfl
     rw[hbe] at hb;obtain⟨F,hF⟩:∃F,F=H.more (Db9 H.n):=⟨_,rfl⟩;rw[← hF] at hb;have hld:=Cq6 hb;have HFF:=η hF;have HU2:=η hu;clear hb hu hge hr hbe hF hPl;have h3x:wx.heap[b3]?=some (.cells (bts (An7 F.st.l 0)).toArray 35 (0,0)):=by
      have g3:=HB3.out;have g4:=HB4.out;have hlt3:=A3 H3.out;have hne:b3≠b4:=by omega
      exact(HU2.out.block _ (Nat.lt_of_lt_of_le hlt3 HUC.out.size) (by simpa using hne)).trans ((HUC.out.block _ hlt3 (by simp)).trans H3.out)
     have H3X:=η h3x;obtain⟨L,hL⟩:∃L,L=F.st.l:=⟨_,rfl⟩;have hLl:L.length=8:=by rw[hL];rfl
     have hLl2:(wvs L).length=8:=by rw[C8];exact hLl
     rw[← hL] at hld;have HL:=η hL;clear h3x hL;go_wp2_with fail
     go_loopw [44] (λ i wy=>∃q:Nat,q<=8/\i=.int .i64 (q:Int)/\wy.heap[b3]?=some (.cells (bts (An7 L (4*q))).toArray 35 (0,0))/\Upd [b3] wx wy) (λ i _=>8-(intOf i).toNat)
     case atStart=>exact⟨0,by omega,rfl,by rw[HL.out];exact H3X.out,Upd.refl _ _⟩
     case round=>
      rename World=>wy
      obtain⟨q,hq,rfl,hb,hu⟩:=hrel;rcases Nat.lt_or_ge q 8 with hlt | hge
      ·have hlt':decide ((q:Int)<8)=true:=decide_eq_true (by omega);obtain⟨x,hx⟩:∃x,x=L.getD q 0:=⟨_,rfl⟩;have hix:∀w':World,(Instr.index 355 (.agg (wvs L).toArray) (.int .i64 (q:Int))).run Tryz.prog w'=.ok (.int .u32 x) w':=λ w'=>by rw[hx];exact Dc9 hLl hlt w'
       have gq:(0:Int)<=q:=by omega
       have kq:(q:Int)<8:=by omega
       have HBQ:=η hb;have HUQ:=η hu;have HX:=η hx;have HLT:=η hlt;clear hb hu hx hlt hq;go_wp2_with fail
       go_loopw [48] (λ i wz=>∃r:Nat,r<=4/\i=.int .i64 (r:Int)/\wz.heap[b3]?=some (.cells (bts (An7 L (4*q+r))).toArray 35 (0,0))/\Upd [b3] wx wz) (λ i _=>4-(intOf i).toNat)
       case atStart=>exact⟨0,by omega,rfl,HBQ.out,HUQ.out⟩
       case round=>
        rename World=>wz
        obtain⟨r,hr,rfl,hb,hu⟩:=hrel;rcases Nat.lt_or_ge r 4 with hlt | hge
        ·have hlt':decide ((r:Int)<4)=true:=decide_eq_true (by omega);obtain⟨p4,hp4⟩:∃p,p=4*q:=⟨_,rfl⟩;obtain⟨p5,hp5⟩:∃p,p=4*q+r:=⟨_,rfl⟩;have e4:IntKind.i64.wrap (4*(q:Int))=(p4:Int):=by rw[IntKind.wrap_i64];omega
         have e5:IntKind.i64.wrap ((p4:Int)+(r:Int))=(p5:Int):=by rw[IntKind.wrap_i64];omega
         have e6:(4*(q:Int))=(p4:Int):=by omega
         have e7:((p4:Int)+(r:Int))=(p5:Int):=by omega
         have s0:decide ((24:Int)-8*(r:Int)<0)=false:=decide_eq_false (by omega);have hsh:(0:Int)<=24-8*(r:Int):=by omega
         have hsh2:24-8*(r:Int)<=24:=by omega
         have g5:(0:Int)<=p5:=by omega
         have k5:(p5:Int)<32:=by omega
         have st:∀y:Int,(storeCells ⟨b3,p5,none⟩ [.int .u8 y] 0).run Tryz.prog wz=.ok () (wz.setCell ⟨b3,p5,none⟩ (.int .u8 y)):=λ y=>As4 hb p5 (by rw[List.size_toArray,A5,U5];omega) rfl;have hset:(wz.setCell ⟨b3,p5,none⟩ (.int .u8 (x / 2 ^ (24-8*r) % 256))).heap[b3]?=some (.cells (bts (An7 L (4*q+(r+1)))).toArray 35 (0,0)):=by
          rw[A8 hb,αs,show 4*q+(r+1)=(4*q+r)+1 by omega,An7,← hp5,show p5 / 4=q by omega,show p5 % 4=r by omega,← HX.out];congr 3
          unfold bts;rw[List.map_set];congr 1
          unfold bv oct;congr 1
          have h0:0<=x / 2 ^ (24-8*r) % 256:=Int.emod_nonneg _ (by decide);have h1:x / 2 ^ (24-8*r) % 256<256:=Int.emod_lt_of_pos _ (by decide);rw[UInt8.toNat_ofNat'];omega
         have hun:Upd [b3] wx (wz.setCell ⟨b3,p5,none⟩ (.int .u8 (x / 2 ^ (24-8*r) % 256))):=hu.set _ (.inl (by simp));have HSET:=η hset;have HUN:=η hun;have HLT2:=η hlt;clear hb hu hr hlt hp4 hp5 hset hun;go_wp2_with fail
         exact⟨⟨r+1,by have:=HLT2.out;omega,by simp,HSET.out,HUN.out⟩,by have:=HLT2.out;simp[intOf];omega⟩
        ·obtain rfl:r=4:=by omega
         have hb4:wz.heap[b3]?=some (.cells (bts (An7 L (4*(q+1)))).toArray 35 (0,0)):=by rw[show 4*(q+1)=4*q+4 by omega];exact hb
         have HB9:=η hb4;have HU9:=η hu;clear hb hb4 hu hr hge;go_wp2_with fail
         exact⟨⟨q+1,by have:=HLT.out;omega,by simp,HB9.out,HU9.out⟩,by have:=HLT.out;simp[intOf];omega⟩
      ·obtain rfl:q=8:=by omega
       rw[show 4*8=32 from rfl] at hb;have lf:=Aq1 (n:=32) hb (by rw[A5,U5]);have g2:=HB2.out;have g3:=HB3.out;have hne:b2≠b3:=by omega
       have a1:Upd [] wA wx:=HUC.out.late HU2.out (λ k hk=> .inr (by have:=HB4.out;simp at hk;omega));have a2:Upd [] w wy:=(HUA.out.trans a1).late hu (λ k hk=> .inr (by simp at hk;omega));have h2y:=(hu.block _ (Nat.lt_of_lt_of_le (A3 H2.out) a1.size) (by simpa using hne)).trans ((a1.block _ (A3 H2.out) (by simp)).trans H2.out);have st:=N5 h2y (l:=bts (An7 L 32)) (by rw[List.size_toArray,A5,A5,U5];rfl) (G5 _);have hik:(Tryz.prog.info? 35).map (·.size)=some (bts (An7 L 32)).toArray.size:=by rw[List.size_toArray,A5,U5];exact Bo5
       have hol:(bts (An7 L 32)).length=32:=by rw[A5,U5]
       have HU9:Hid (Upd [] w (wy.setRow b2 (bts (An7 L 32)).toArray)):=η (V7 a2 _ (.inr (by omega)));have H2Y:=η h2y;have hsum:H.sum=An7 L 32:=by unfold Hs.sum;rw[← HFF.out,← HL.out]
       have HSUM:=η hsum;clear hb hu h2y a1 a2 hge hq g2 g3 hne hsum;go_wp2_with fail
       refine bodyPost_ret (results_cell_row (p:=2) (ty:=35) ?_ _ _ b2 _ _ _ _ ?_ (setRow_heap _ _ _ _ _ _ H2Y.out) Tryz.underlying35 rfl hik) ?_ ?_
       ·rfl
       ·rfl
       ·rfl
       exact⟨by rw[HSUM.out],HU9.out⟩
end Go.Proofs.YtgfbepakonjbnaaGreat
end
section
set_option linter.unusedSimpArgs false
set_option linter.unusedVariables false
namespace Go.Proofs.YtgfbepakonjbnaaGreat
open Go.RowKit Go.MapKept Go.ChangeMaps
attribute [-go_sem] loadCells storeCells Instr.build
theorem RdL.cellW{w:World}{S:List Nat}{a:Option Addr}{n c:Nat}{cs:List Value}(h:RdL w S (.slice a n c) cs){i:Nat}{x:Value}(hi:cs[i]?=some x):∃b off,b∉S/\a=some ⟨b,off,none⟩/\w.cell? ⟨b,off+i,none⟩=some x:=by
 obtain⟨ao,cap,e,hc,hh⟩:=h;obtain⟨hlt,hx⟩:=List.getElem?_eq_some_iff.1 hi;obtain⟨b,off,hb,hab,hcell⟩:=hh (by omega);cases e
 exact⟨b,off,hb,hab,by rw[hcell i hlt,hx]⟩
theorem Rd.blockW{w:World}{v:Value}{l:List UInt8}(h:Rd w v l)(hp:0<l.length):∀a n c,v=.slice (some a) n c->a.block<w.heap.size:=by
 obtain⟨ao,cap,rfl,hc,hh⟩:=h;obtain⟨b,off,rfl,hcell⟩:=hh hp;intro a n c e;cases e
 exact block_lt_of_cell (hcell 0 hp)
theorem Cr1(b:List UInt8):Ay5 b=(hs0.more b).sum:=by unfold Ay5;rfl
def RdM(w:World)(vs:List Value)(ls:List (List UInt8)):Prop:=vs.length=ls.length/\∀(i:Nat) x l,vs[i]?=some x->ls[i]?=some l->Rd w x l
theorem Bo6:∀(ls:List (List UInt8)) (q:Nat),((ls.take q).flatten).length<=ls.flatten.length
 | [],q=>by simp
 | x :: ls,0=>by simp
 | x :: ls,q+1=>by have:=Bo6 ls q;simp only[List.take_succ_cons,List.flatten_cons,List.length_append];omega
theorem Dd0{w:World}{v:Value}{vs:List Value}{ls:List (List UInt8)}(hv:RdL w [] v vs)(hm:RdM w vs ls)(hl:ls.flatten.length<=100000000)(hvl:vs.length<=1000) :
  Calls Tryz.prog 228 #[v] w λ e w'=>e=.returned (.agg (bts (Ay5 ls.flatten)).toArray)/\Upd [] w w':=by
 obtain⟨av,cv,rfl,hcv⟩:∃av cv,v=.slice av vs.length cv/\vs.length<=cv:=by obtain⟨a,c,e,hc,_⟩:=hv;exact⟨a,c,e,hc⟩
 obtain⟨wA,hwA⟩:∃wA,wA=w.alloc (.cells (bts As5).toArray 35):=⟨_,rfl⟩;obtain⟨b2,hb2⟩:∃b,b=w.heap.size:=⟨_,rfl⟩;have h2:wA.heap[b2]?=some (.cells (bts As5).toArray 35 (0,0)):=by rw[hwA,hb2];exact A4 _
 have huA:Upd [] w wA:=by rw[hwA];exact(Upd.refl _ _).alloc _
 have HV:=η hv;have HM:=η hm;have HWA:=η hwA;have HB2:=η hb2;have H2:=η h2;have HUA:=η huA;clear hv hm hwA hb2 h2 huA;go_enter Tryz.func228,Tryz.ntmps228
 go_wp2_with fail
 have hwA:=HWA.out;have hb2:=HB2.out;rw[Ah0,← hwA,← hb2];clear hwA hb2;refine(Cx0 _).mono ?_;rintro e wB ⟨b,rfl,hbl,hb,huB⟩;have HBL:=η hbl;have HB:=η hb;have HUB:=η huB;clear hbl hb huB;go_wp2_with fail
 go_loopw [9] (λ i wr=>∃q:Nat,q<=vs.length/\i=.int .i64 (q:Int)/\wr.heap[b]?=some (.cells (hsC (hs0.more (ls.take q).flatten)).toArray 358 (0,0))/\Upd [b] wB wr) (λ i _=>vs.length-(intOf i).toNat)
 case atStart=>exact⟨0,by omega,rfl,HB.out,Upd.refl _ _⟩
 case round=>
  obtain⟨q,hq,rfl,hb,hu⟩:=hrel;rcases Nat.lt_or_ge q vs.length with hlt | hge
  ·have hlt':decide ((q:Int)<(vs.length:Int))=true:=decide_eq_true (by omega);have hlt2:(q:Int)<(vs.length:Int):=by omega
   have gq:(0:Int)<=q:=by omega
   have a2:Upd [] wA wr:=HUB.out.late hu (λ k hk=> .inr (by have:=HBL.out;simp at hk;omega));have a1:Upd [] w wr:=HUA.out.trans a2;obtain⟨x,hx⟩:∃x,vs[q]?=some x:=⟨_,List.getElem?_eq_getElem hlt⟩;obtain⟨l,hlq⟩:∃l,ls[q]?=some l:=⟨_,List.getElem?_eq_getElem (by rw[← HM.out.1];exact hlt)⟩;have hrx0:=HM.out.2 q x l hx hlq;have hrx:Rd wr x l:=hrx0.below a1;obtain⟨bk,off,_,rfl,hcell0⟩:=HV.out.cellW hx;have hcell:wr.cell? ⟨bk,off+q,none⟩=some x:=Am9 hcell0 a1 (by simp);have htk:(ls.take (q+1)).flatten=(ls.take q).flatten++l:=by rw[List.take_add_one,hlq];simp
   have hfl:=Bo6 ls (q+1);rw[htk,List.length_append] at hfl;have hwr:=Bk8 hb (by rw[Hs.more_wait];rfl) hrx (λ hp a n c e=>by have:=hrx0.blockW hp a n c e;have:=HBL.out;have:=HUA.out.size;omega) (by rw[Hs.more_n];show 0+_+_<=_;omega);rw[← Hs.more_app,← htk] at hwr;obtain⟨ax,cx,rfl,_⟩:=hrx;have HWR:=η hwr;have HU:=η hu;have HLT:=η hlt;clear hb hu hq hlt a1 a2 hx hlq hrx0 hcell0 htk hfl hwr;go_wp2_with fail
   refine HWR.out.mono ?_;rintro e w' ⟨rfl,h',hu'⟩;have H':=η h';have HU':=η (HU.out.trans hu');clear h' hu';go_wp2_with fail
   exact⟨⟨q+1,by have:=HLT.out;omega,by simp,H'.out,HU'.out⟩,by have:=HLT.out;simp[intOf];omega⟩
  ·obtain rfl:q=vs.length:=by omega
   have hfl:=Bo6 ls vs.length;rw[HM.out.1,List.take_length] at hb;have hsm:=Cx1 hb (by rw[Hs.more_wait];rfl) (by rw[Hs.more_n];show 0+_<=_;omega);have a2:Upd [] wA wr:=HUB.out.late hu (λ k hk=> .inr (by have:=HBL.out;simp at hk;omega));rw[← Cr1] at hsm;obtain⟨R,hR⟩:∃R,R=Ay5 ls.flatten:=⟨_,rfl⟩;have hRl:R.length=32:=by rw[hR];exact Ai7 _
   rw[← hR] at hsm;have HR:=η hR;have HSM:=η hsm;have HA2:=η a2;clear hb hu a2 hsm hfl hge hq hR;go_wp2_with fail
   refine HSM.out.mono ?_;rintro e w' ⟨rfl,hu'⟩;have h2':=(hu'.block _ (Nat.lt_of_lt_of_le (A3 H2.out) HA2.out.size) (by simp)).trans ((HA2.out.block _ (A3 H2.out) (by simp)).trans H2.out);have st:=N5 h2' (l:=bts R) (by rw[List.size_toArray,A5,A5,hRl];rfl) (G5 _);have hik:(Tryz.prog.info? 35).map (·.size)=some (bts R).toArray.size:=by rw[List.size_toArray,A5,hRl];exact Bo5
   have hol:(bts R).length=32:=by rw[A5,hRl]
   have g2:=HB2.out;have HU9:Hid (Upd [] w (w'.setRow b2 (bts R).toArray)):=η (V7 ((HUA.out.trans HA2.out).trans hu') _ (.inr (by omega)));have H2Y:=η h2';clear h2' hu' g2;go_wp2_with fail
   refine bodyPost_ret (results_cell_row (p:=2) (ty:=35) ?_ _ _ b2 _ _ _ _ ?_ (setRow_heap _ _ _ _ _ _ H2Y.out) Tryz.underlying35 rfl hik) ?_ ?_
   ·rfl
   ·rfl
   ·rfl
   exact⟨by rw[HR.out],HU9.out⟩
end Go.Proofs.YtgfbepakonjbnaaGreat
end
end
section
section
set_option linter.unusedSimpArgs false
set_option linter.unusedVariables false
namespace Go.Proofs.YtgfbepakonjbnaaGreat
open Go.RowKit Go.MapKept Go.ChangeMaps
attribute [-go_sem] loadCells storeCells Instr.build
def chk(key b:List UInt8):List UInt8:=(Ay5 (key++b)).take 8
theorem P4(key b:List UInt8):(chk key b).length=8:=by unfold chk;rw[List.length_take,Ai7];rfl
theorem Bb4{w:World}{va vb:Value}{key b:List UInt8}(ha:Rd w va key)(hb:Rd w vb b)(hl:key.length+b.length<=100000000) :
  Calls Tryz.prog 186 #[va,vb] w λ e w'=>∃g,e=.returned (.slice (some ⟨g,0,none⟩) 8 8)/\w.heap.size<=g/\Rd w' (.slice (some ⟨g,0,none⟩) 8 8) (chk key b)/\Upd [] w w':=by
 obtain⟨wA,hwA⟩:∃wA,wA=w.alloc (.cells #[va,vb] 32):=⟨_,rfl⟩;have huA:Upd [] w wA:=by rw[hwA];exact(Upd.refl _ _).alloc _
 have hrl:RdL wA [] (.slice (some ⟨w.heap.size,0,none⟩) 2 2) [va,vb]:=by
  refine⟨_,_,rfl,Nat.le_refl _,λ _=>⟨_,_,by simp,rfl,λ i hi=>?_⟩⟩;rw[hwA,A2 (A4 _),Nat.zero_add];simp at hi;rcases (by omega:i=0∨i=1) with rfl | rfl<;>rfl
 have hrm:RdM wA [va,vb] [key,b]:=⟨rfl,λ i x l hx hl=>by
  have hi:=(List.getElem?_eq_some_iff.1 hx).1;simp at hi;rcases (by omega:i=0∨i=1) with rfl | rfl
  ·simp at hx hl;subst hx hl;exact ha.below huA
  ·simp at hx hl;subst hx hl;exact hb.below huA⟩
 have hof:=Dd0 hrl hrm (by simp;omega) (by simp);rw[show([key,b]:List (List UInt8)).flatten=key++b by simp] at hof;obtain⟨R,hR⟩:∃R,R=Ay5 (key++b):=⟨_,rfl⟩;have hRl:R.length=32:=by rw[hR];exact Ai7 _
 rw[← hR,hwA] at hof;have hck:chk key b=R.take 8:=by rw[hR];rfl
 have HOF:=η hof;have HCK:=η hck;have HUA:=η huA;have HWA:=η hwA;clear hof hrl hrm huA hwA hR hck;obtain⟨aa,ca,rfl,_⟩:=ha;obtain⟨ab,cb,rfl,_⟩:=hb;go_enter Tryz.func186,Tryz.ntmps186
 go_wp2_with fail
 refine HOF.out.mono ?_;rintro e w1 ⟨rfl,hu1⟩;have hwA:=HWA.out;have hb5:(w1.alloc (.cells (bts As5).toArray 35)).heap[w1.heap.size]?=some (.cells (bts As5).toArray 35 (0,0)):=A4 _;have st:=N5 hb5 (l:=bts R) (by rw[List.size_toArray,A5,A5,hRl];rfl) (G5 _);have hset:=setRow_heap _ _ _ (bts R).toArray 35 (0,0) hb5;rw[← Ah0] at st;have hol:(bts R).length=32:=by rw[A5,hRl]
 have HSET:=η hset;have HU1:=η hu1;clear hset hu1 hb5 hwA;go_wp2_with fail
 rw[Ah0];go_ret;refine⟨_,rfl,?_,?_,?_⟩
 ·exact Nat.le_trans HUA.out.size (by have:=HU1.out.size;have e:=HWA.out;rw[e];exact this)
 ·rw[HCK.out];refine⟨_,_,by rw[List.length_take,hRl];rfl,by rw[List.length_take,hRl];decide,λ _=>⟨_,_,rfl,λ i hi=>?_⟩⟩;rw[A2 HSET.out,List.getElem?_toArray,Nat.zero_add,Ah6];rw[List.length_take,hRl] at hi;rw[List.getElem?_eq_getElem (by omega),List.getElem_take];rfl
 ·have h1:Upd [] w w1:=by have e:=HWA.out;have:=HU1.out;rw[← e] at this;exact HUA.out.trans this
  exact V7 (h1.alloc _) _ (.inr h1.size)
end Go.Proofs.YtgfbepakonjbnaaGreat
end
section
set_option linter.unusedSimpArgs false
set_option linter.unusedVariables false
namespace Go.Proofs.YtgfbepakonjbnaaGreat
open Go.RowKit Go.MapKept Go.ChangeMaps
attribute [local go_sem] loadCells storeCells
theorem Bm0{w:World}{a:Option Addr}{n c c2:Nat}(hn:n<=c)(ty:TypeId):(Builtin.append_ #[32,32] ty #[.slice a n c,.slice none 0 c2]).run Tryz.prog w=.ok (.slice a n c) w:=by
 obtain⟨i0,hi,hz,hz1,hz2⟩:=info_parts Ao7;cases a<;>simp[Builtin.append_,run_underlying Tryz.underlying32,sizeOf,typeInfo,zeroValue,hi,hz,Builtin.lenOf,hn,Question.forced,run_firstCells_none,storeCells]
def I7(w:World)(B:Nat)(v:Value)(l:List UInt8):Prop:=w.ownsRow B 5 1 v l.length (bts l)
theorem I7.nil(w:World)(B:Nat):I7 w B (.slice none 0 0) []:=World.ownsRow_nil _ _ _ _
theorem I7.shape{w:World}{B:Nat}{v:Value}{l:List UInt8}(h:I7 w B v l):∃a c,v=.slice a l.length c/\l.length<=c/\(0<l.length->∃g,a=some ⟨g,0,none⟩/\B<=g):=by
 rcases h.2 with⟨rfl,h0⟩ | ⟨g,cap,cur,rfl,hb,hg,hc,_⟩
 ·exact⟨none,0,by rw[h0],by omega,λ q=>by omega⟩
 ·exact⟨_,_,rfl,hc,λ _=>⟨g,rfl,hb⟩⟩
theorem I7.keep{w w':World}{B:Nat}{v:Value}{l:List UInt8}(h:I7 w B v l)(hu:Upd [] w w'):I7 w' B v l:=by
 refine⟨h.1,?_⟩;rcases h.2 with h | ⟨g,cap,cur,hv,hb,hg,r⟩
 ·exact .inl h
 ·exact .inr ⟨g,cap,cur,hv,hb,(hu.block g (A3 hg) (by simp)).trans hg,r⟩
theorem I7.rd{w:World}{B:Nat}{v:Value}{l:List UInt8}(h:I7 w B v l):Rd w v l:=(Ak0 h).rd
theorem Ac1{w:World}{B:Nat}{v x:Value}{l lx:List UInt8}(hp:I7 w B v l)(hx:Rd w x lx)(hln:l.length+lx.length<=100000)(hB:B<=w.heap.size) :
  ∃a c w',(∀ty,(Builtin.append_ #[32,32] ty #[v,x]).run Tryz.prog w=.ok (.slice a (l.length+lx.length) c) w')/\I7 w' B (.slice a (l.length+lx.length) c) (l++lx)/\
   (∀w0:World,w0.heap.size<=B->Upd [] w0 w->Upd [] w0 w'):=by
 obtain⟨ao,cap,rfl,hcx,hh⟩:=hx.cells;obtain⟨i0,hi0,hz0,hz1,hz2⟩:=info_parts Ao7;by_cases hao:ao=none
 ·subst hao;have h0:lx.length=0:=by
   rcases Nat.eq_zero_or_pos lx.length with q | q
   ·exact q
   ·obtain⟨_,e,_⟩:=hh q;cases e
  obtain rfl:lx=[]:=List.length_eq_zero_iff.1 h0;obtain⟨a,c,rfl,hc,_⟩:=hp.shape;exact⟨a,c,w,λ ty=>Bm0 hc ty,by rw[List.append_nil];exact hp,λ _ _ h=>h⟩
 ·obtain⟨ad,rfl⟩:∃ad,ao=some ad:=by cases ao with | none=>exact absurd rfl hao | some ad=>exact⟨ad,rfl⟩
  obtain⟨v',w',hrun,hown,hg,_⟩:=run_append_own (P:=Tryz.prog) w B 32 0 5 i0 (.int .u8 0) 1 1 Tryz.underlying32 hi0 hz0 hz1 hz2 rfl (by decide) v l.length _ hp ad lx.length cap (bts lx) (by rw[A5,Nat.mul_one])
   (λ k u hj=>by
    obtain⟨ad',e,hc⟩:=hh (by have:=(List.getElem?_eq_some_iff.1 hj).1;rw[A5] at this;omega);cases e;exact hc k u hj) (G5 _) (by unfold maxLen;omega) (by omega) hB
  have hsh:∃a c,v'=.slice a (l.length+lx.length) c:=by
   rcases hown.2 with⟨h,h0⟩ | ⟨g,cap,cur,h,_⟩
   ·exact⟨none,0,by rw[h,h0]⟩
   ·exact⟨_,_,h⟩
  obtain⟨a,c',rfl⟩:=hsh;refine⟨a,c',w',λ _=>hrun,?_,λ w0 h0 hu=>?_⟩
  ·unfold I7;rw[List.length_append,show bts (l++lx)=bts l++bts lx by simp[bts]];exact hown
  ·refine⟨hg.os.trans hu.os,hg.tape.trans hu.tape,hg.output.trans hu.output,Nat.le_trans hu.size hg.size,λ k hk hs=>?_⟩;have hk2:k<w.heap.size:=Nat.lt_of_lt_of_le hk hu.size;rw[hg.block k hk2 (λ e=>?_)]
   ·exact hu.block k hk hs
   ·rcases hp.2 with⟨rfl,_⟩ | ⟨g,cap,cur,rfl,hb,_⟩
    ·simp[Value.ownBlock] at e
    ·simp[Value.ownBlock] at e;omega
end Go.Proofs.YtgfbepakonjbnaaGreat
end
section
set_option linter.unusedSimpArgs false
set_option linter.unusedVariables false
namespace Go.Proofs.YtgfbepakonjbnaaGreat
open Go.RowKit Go.MapKept Go.ChangeMaps
theorem Cf5{w:World}{v:Value}{l:List UInt8}(hr:Rd w v l)(n:Nat)(hl:l.length+n<=50000) :
  Calls Tryz.prog 227 #[v,.int .i64 (n:Int)] w λ e w'=>∃a c,e=.returned (.slice a l.length c)/\I7 w' w.heap.size (.slice a l.length c) l/\Upd [] w w':=by
 obtain⟨C,hC⟩:∃C,C=l.length+n:=⟨_,rfl⟩;have hmk:=As7 C (by omega) w;have hrow:I7 (w.alloc (.cells (bts (List.replicate C 0)).toArray 5)) w.heap.size (.slice (some ⟨w.heap.size,0,none⟩) 0 C) []:=
  ⟨by simp,.inr ⟨w.heap.size,C,_,rfl,Nat.le_refl _,A4 _,by simp,by unfold maxLen;omega,by simp,by simp⟩⟩
 obtain⟨a,c,w',hrun,hown,hu⟩:=Ac1 hrow (hr.alloc _) (by simp;omega) (by simp);rw[List.length_nil,Nat.zero_add,List.nil_append] at hown;rw[List.length_nil,Nat.zero_add] at hrun;have hu2:=hu w (Nat.le_refl _) ((Upd.refl _ _).alloc _);have HO:=η hown;have HU:=η hu2;have eC:IntKind.i64.wrap ((l.length:Int)+(n:Int))=(C:Int):=by rw[IntKind.wrap_i64];omega
 have g1:(0:Int)<=C:=by omega
 obtain⟨av,cv,rfl,_⟩:=hr;clear hC hown hu hu2 hrow;generalize (bts (List.replicate C 0)).toArray=Z at *;go_enter Tryz.func227,Tryz.ntmps227
 go_wp2_with (at_builtin;refine C3 rfl _ _ _ rfl rfl rfl hrun ?_)
 go_ret;exact⟨_,_,rfl,HO.out,HU.out⟩
theorem Az9(V:Nat):be 4 V=[UInt8.ofNat (V / 16777216),UInt8.ofNat (V / 65536),UInt8.ofNat (V / 256),UInt8.ofNat (V / 1)]:=by rfl
theorem Cf6{w:World}{v:Value}{l:List UInt8}(hr:Rd w v l)(hl:l.length<=10000)(V:Nat)(hV:V<4294967296) :
  Calls Tryz.prog 185 #[v,.int .u64 (V:Int),.int .i64 4] w λ e w'=>∃a c,e=.returned (.tuple #[.slice a (l.length+4) c,.int .i64 0])/\I7 w' w.heap.size (.slice a (l.length+4) c) (l++be 4 V)/\Upd [] w w':=by
 have HO:=η (Cf5 hr 4 (by omega));have hz:(V:Int) / 4294967296=0:=by omega
 have HV:=η hV;clear hV;obtain⟨av,cv,rfl,_⟩:=hr;go_enter Tryz.func185,Tryz.ntmps185
 go_wp2_with fail
 refine HO.out.mono ?_;rintro e w1 ⟨a1,c1,rfl,h1,hu1⟩;have H1:=η h1;have HU1:=η hu1;clear h1 hu1;go_wp2_with fail
 go_loopw [8,9] (λ s8 s9 wr=>∃q:Nat,q<=4/\s9=.int .i64 (3-(q:Int))/\(∃a c,s8=.slice a (l.length+q) c/\I7 wr w.heap.size (.slice a (l.length+q) c) (l++(be 4 V).take q))/\Upd [] w wr) (λ _ s9 _=>(intOf s9+1).toNat)
 case atStart=>exact⟨0,by omega,rfl,⟨_,_,rfl,by rw[List.take_zero,List.append_nil];exact H1.out⟩,HU1.out⟩
 case round=>
  obtain⟨q,hq,rfl,⟨a,c,rfl,hb⟩,hu⟩:=hrel;obtain⟨m,hm⟩:∃m,m=l.length+q:=⟨_,rfl⟩;rw[← hm] at hb ⊢;have step:∀(x:Nat) (xi:Int),xi=(x:Int)->x<256->q<4->(be 4 V)[q]?=some (UInt8.ofNat x)->∃a' c' w',(∀ty,(Builtin.append_ #[32,32] ty #[.slice a m c,.slice (some ⟨wr.heap.size,0,none⟩) 1 1]).run Tryz.prog (wr.alloc (.cells #[.int .u8 xi] 5))=.ok (.slice a' (m+1) c') w')/\
    I7 w' w.heap.size (.slice a' (l.length+(q+1)) c') (l++(be 4 V).take (q+1))/\Upd [] w w':=λ x xi hxi hx hq4 hbe=>by
   have hlen:(l++(be 4 V).take q).length=m:=by rw[List.length_append,List.length_take,E5];omega
   have hb2:I7 wr w.heap.size (.slice a (l++(be 4 V).take q).length c) (l++(be 4 V).take q):=by rw[hlen];exact hb
   obtain⟨a',c',w',hrun,hown,hu'⟩:=Ac1 (hb2.keep ((Upd.refl [] wr).alloc (.cells #[.int .u8 xi] 5))) (Cr0 wr x xi hxi hx) (by rw[hlen];simp;omega) (by have:=hu.size;simp;omega);rw[hlen] at hrun hown;refine⟨a',c',w',hrun,?_,hu' w (Nat.le_refl _) (hu.alloc _)⟩;rw[List.take_add_one,hbe,show l.length+(q+1)=m+1 by omega];simpa [List.append_assoc] using hown
  have HBR:=η hb;have HU:=η hu;have HM:=η hm;rcases (by omega:q=0∨q=1∨q=2∨q=3∨q=4) with rfl | rfl | rfl | rfl | rfl
  ·obtain⟨a',c',w',hrun,hown,hu'⟩:=step (V / 16777216) ((V:Int) / 16777216) (by omega) (by have:=HV.out;omega) (by omega) (by rw[Az9];rfl);have HOW:=η hown;have HU':=η hu';clear hb hu step hown hu' hm hq;go_wp2_with (at_builtin;refine C3 rfl _ _ _ rfl rfl rfl hrun ?_)
   have hm:=HM.out;exact⟨⟨1,by omega,rfl,⟨_,_,by rw[hm],HOW.out⟩,HU'.out⟩,by simp[intOf]⟩
  ·obtain⟨a',c',w',hrun,hown,hu'⟩:=step (V / 65536 % 256) ((V:Int) / 65536 % 256) (by omega) (by omega) (by omega) (by rw[Az9];show some _=some _;congr 1;apply UInt8.toNat_inj.1;rw[UInt8.toNat_ofNat',UInt8.toNat_ofNat'];omega);have HOW:=η hown;have HU':=η hu';clear hb hu step hown hu' hm hq;go_wp2_with (at_builtin;refine C3 rfl _ _ _ rfl rfl rfl hrun ?_)
   have hm:=HM.out;exact⟨⟨2,by omega,rfl,⟨_,_,by rw[hm],HOW.out⟩,HU'.out⟩,by simp[intOf]⟩
  ·obtain⟨a',c',w',hrun,hown,hu'⟩:=step (V / 256 % 256) ((V:Int) / 256 % 256) (by omega) (by omega) (by omega) (by rw[Az9];show some _=some _;congr 1;apply UInt8.toNat_inj.1;rw[UInt8.toNat_ofNat',UInt8.toNat_ofNat'];omega);have HOW:=η hown;have HU':=η hu';clear hb hu step hown hu' hm hq;go_wp2_with (at_builtin;refine C3 rfl _ _ _ rfl rfl rfl hrun ?_)
   have hm:=HM.out;exact⟨⟨3,by omega,rfl,⟨_,_,by rw[hm],HOW.out⟩,HU'.out⟩,by simp[intOf]⟩
  ·obtain⟨a',c',w',hrun,hown,hu'⟩:=step (V / 1 % 256) ((V:Int) % 256) (by omega) (by omega) (by omega) (by rw[Az9];show some _=some _;congr 1;apply UInt8.toNat_inj.1;rw[UInt8.toNat_ofNat',UInt8.toNat_ofNat'];omega);have HOW:=η hown;have HU':=η hu';clear hb hu step hown hu' hm hq;go_wp2_with (at_builtin;refine C3 rfl _ _ _ rfl rfl rfl hrun ?_)
   have hm:=HM.out;exact⟨⟨4,by omega,rfl,⟨_,_,by rw[hm],HOW.out⟩,HU'.out⟩,by simp[intOf]⟩
  ·have hT:l++(be 4 V).take 4=l++be 4 V:=by rw[List.take_of_length_le (by rw[E5];omega)]
   rw[hT] at HBR;clear hb hu step hq hT;go_wp2_with fail
   go_ret2;have hm:=HM.out;subst hm;exact⟨_,_,rfl,HBR.out,HU.out⟩
end Go.Proofs.YtgfbepakonjbnaaGreat
end
section
set_option linter.unusedSimpArgs false
set_option linter.unusedVariables false
namespace Go.Proofs.YtgfbepakonjbnaaGreat
open Go.RowKit Go.MapKept Go.ChangeMaps
attribute [-go_sem] loadCells storeCells Instr.build
def D8(key b:List UInt8):List UInt8:=[199,70]++be 4 b.length++chk key b++key++b
theorem V3{key b:List UInt8}(hk:key.length=32):(D8 key b).length=46+b.length:=by
 unfold D8;simp only[List.length_append,E5,P4,hk];rfl
theorem I7.low{w:World}{B B':Nat}{v:Value}{l:List UInt8}(h:I7 w B v l)(hB:B'<=B):I7 w B' v l:=by
 refine⟨h.1,?_⟩;rcases h.2 with h | ⟨g,cap,cur,hv,hb,r⟩
 ·exact .inl h
 ·exact .inr ⟨g,cap,cur,hv,Nat.le_trans hB hb,r⟩
theorem Bx7{w:World}{b:Nat}{l:List UInt8}{T:TypeId}{n:Nat}(h:w.heap[b]?=some (.cells (bts l).toArray T (0,0)))(hn:l.length=n):Rd w (.slice (some ⟨b,0,none⟩) n n) l:=by
 subst hn;refine⟨_,_,rfl,Nat.le_refl _,λ _=>⟨_,_,rfl,λ i hi=>?_⟩⟩;rw[A2 h,List.getElem?_toArray,Nat.zero_add,Ah6,List.getElem?_eq_getElem hi];rfl
theorem Cf7{w:World}{v:Value}{key b:List UInt8}(hr:Rd w v b)(hk:key.length=32)(hb:b.length<=4200) :
  Calls Tryz.prog 112 #[.agg (bts key).toArray,v] w λ e w'=>∃a c,e=.returned (.tuple #[.slice a (46+b.length) c,.int .i64 0])/\I7 w' w.heap.size (.slice a (46+b.length) c) (D8 key b)/\Upd [] w w':=by
 obtain⟨w1,hw1⟩:∃w1,w1=w.alloc (.cells (bts key).toArray 35):=⟨_,rfl⟩;obtain⟨kb,hkb⟩:∃k,k=w.heap.size:=⟨_,rfl⟩;have hc1:w1.heap[kb]?=some (.cells (bts key).toArray 35 (0,0)):=by rw[hw1,hkb];exact A4 _
 have hu1:Upd [] w w1:=by rw[hw1];exact(Upd.refl _ _).alloc _
 obtain⟨w2,hw2⟩:∃w2,w2=w1.alloc (.cells #[.int .u8 199,.int .u8 70] 5):=⟨_,rfl⟩;have hu2:Upd [] w1 w2:=by rw[hw2];exact(Upd.refl _ _).alloc _
 have hr2:Rd w2 (.slice (some ⟨w1.heap.size,0,none⟩) 2 2) [199,70]:=Bx7 (b:=w1.heap.size) (T:=5) (by rw[hw2];exact A4 _) rfl;have hp4:=Cf6 hr2 (by simp) b.length (by omega);have hsz1:w1.heap.size=w.heap.size+1:=by rw[hw1];simp
 rw[hsz1,hw2,hw1] at hp4;have HP4:=η hp4;have HR:=η hr;have HC1:=η hc1;have HU2:=η (hu1.trans hu2);have HU1:=η hu1;have HU12:=η hu2;have HW1:=η hw1;have HW2:=η hw2;have HKB:=η hkb;have hn0:decide ((4200:Int)<(b.length:Int))=false:=decide_eq_false (by omega);have hn1:decide (4200<b.length)=false:=decide_eq_false (by omega);have hwl:IntKind.u64.wrap (b.length:Int)=(b.length:Int):=by rw[IntKind.wrap_u64];omega
 have hkl:(bts key).length=32:=by rw[A5,hk]
 obtain⟨av,cv,rfl,_⟩:=hr;clear hc1 hu1 hu2 hr2 hp4 hw1 hw2 hkb;go_enter Tryz.func112,Tryz.ntmps112
 go_wp2_with fail
 refine HP4.out.mono ?_;rintro e w3 ⟨a3,c3,rfl,h3,hu3⟩;have hw1:=HW1.out;have hw2:=HW2.out;have hkb:=HKB.out;rw[← hw1,← hw2] at h3 hu3;have hk3:w3.heap[kb]?=some (.cells (bts key).toArray 35 (0,0)):=by
  have hlt:=A3 HC1.out;exact(hu3.block _ (Nat.lt_of_lt_of_le hlt HU12.out.size) (by simp)).trans ((HU12.out.block _ hlt (by simp)).trans HC1.out)
 have hck:=Bb4 (Bx7 hk3 hk) (HR.out.below (HU2.out.trans hu3)) (by omega);have HCK:=η hck;have H3:=η h3;have HU3:=η hu3;have HK3:=η hk3;rw[hkb] at HCK;clear h3 hu3 hk3 hck hw1 hw2 hkb;go_wp2_with fail
 refine HCK.out.mono ?_;rintro e w4 ⟨g,rfl,hg,hr4,hu4⟩;have hsz2:w2.heap.size<=w4.heap.size:=Nat.le_trans HU3.out.size hu4.size;have h3':I7 w3 w2.heap.size (.slice a3 ([199,70]++be 4 b.length).length c3) ([199,70]++be 4 b.length):=by
  have:=H3.out;simpa [E5] using this
 obtain⟨a5,c5,w5,hrun5,h5,hu5⟩:=Ac1 (h3'.keep hu4) hr4 (by simp[E5,P4]) hsz2;have hw25:Upd [] w2 w5:=hu5 w2 (Nat.le_refl _) (HU3.out.trans hu4);have hk5:w5.heap[kb]?=some (.cells (bts key).toArray 35 (0,0)):=by
  have hlt:=A3 HC1.out;exact(hw25.block _ (Nat.lt_of_lt_of_le hlt HU12.out.size) (by simp)).trans ((HU12.out.block _ hlt (by simp)).trans HC1.out)
 have h5':I7 w5 w2.heap.size (.slice a5 ([199,70]++be 4 b.length++chk key b).length c5) ([199,70]++be 4 b.length++chk key b):=by rw[List.length_append];exact h5
 obtain⟨a6,c6,w6,hrun6,h6,hu6⟩:=Ac1 h5' (Bx7 hk5 hk) (by simp[E5,P4,hk]) hw25.size;have hw26:Upd [] w2 w6:=hu6 w2 (Nat.le_refl _) hw25;have h6':I7 w6 w2.heap.size (.slice a6 ([199,70]++be 4 b.length++chk key b++key).length c6) ([199,70]++be 4 b.length++chk key b++key):=by rw[List.length_append];exact h6
 obtain⟨a7,c7,w7,hrun7,h7,hu7⟩:=Ac1 h6' (HR.out.below (HU2.out.trans hw26)) (by simp[E5,P4,hk];omega) hw26.size;have hw27:Upd [] w2 w7:=hu7 w2 (Nat.le_refl _) hw26;have e5:([199,70]++be 4 b.length:List UInt8).length+(chk key b).length=14:=by simp[E5,P4]
 have e6:([199,70]++be 4 b.length++chk key b:List UInt8).length+key.length=46:=by simp[E5,P4,hk]
 have e7:([199,70]++be 4 b.length++chk key b++key:List UInt8).length+b.length=46+b.length:=by simp[E5,P4,hk]
 have e3:([199,70]++be 4 b.length:List UInt8).length=6:=by simp[E5]
 rw[e5,e3] at hrun5;rw[e6,List.length_append,e5] at hrun6;rw[e7,List.length_append,e6] at hrun7;rw[e7] at h7;have HF:=η (h7.low HU2.out.size);have HUF:=η (HU2.out.trans hw27);rw[HKB.out] at hrun6;clear hr4 hu4 hsz2 h3' h5 hu5 hw25 hk5 h5' h6 hu6 hw26 h6' h7 hu7 hw27 e5 e6 e7 e3;go_wp2_with (at_builtin;first | (refine C3 rfl _ _ _ rfl rfl rfl hrun5 ?_;clear hrun5) | (refine C3 rfl _ _ _ rfl rfl rfl hrun6 ?_;clear hrun6) | (refine C3 rfl _ _ _ rfl rfl rfl hrun7 ?_;clear hrun7))
 go_ret2;exact⟨_,_,rfl,HF.out,HUF.out⟩
end Go.Proofs.YtgfbepakonjbnaaGreat
end
end
