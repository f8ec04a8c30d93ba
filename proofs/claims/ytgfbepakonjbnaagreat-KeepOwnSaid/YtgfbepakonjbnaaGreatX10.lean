/-
  space.taken, turn, Take, Taken, Free, Left.
-/
import Derived.Test.YtgfbepakonjbnaaGreatX09
set_option maxRecDepth 100000
set_option maxHeartbeats 16000000
section
namespace Go.Proofs.YtgfbepakonjbnaaGreat
open Go.RowKit Go.MapKept Go.ChangeMaps
theorem Aj0{w:World}{k c:Nat}{F:Nat->Prop}{l:List UInt8}(h:Own w 5 F (.slice (some ⟨k,0,none⟩) 512 c) l)(hl:l.length=512){q:Nat}(hq:q<512){y:Nat}(hy:y<256):Own (w.setCell ⟨k,q,none⟩ (.int .u8 (y:Int))) 5 F (.slice (some ⟨k,0,none⟩) 512 c) (l.set q (UInt8.ofNat y)):=by
 rw[← hl] at h hq ⊢;exact Bo7 h hq hy
theorem Own.cell512{w:World}{k c:Nat}{F:Nat->Prop}{l:List UInt8}(h:Own w 5 F (.slice (some ⟨k,0,none⟩) 512 c) l)(hl:l.length=512){q:Nat}(hq:q<512):w.cell? ⟨k,q,none⟩=some (.int .u8 ((l.getD q 0).toNat:Int))/\w.frozen? ⟨k,q,none⟩=false:=by
 obtain⟨k',rest,_,e,hb⟩:=h;obtain⟨rfl,_⟩:k=k'/\_:=by simpa using e
 refine⟨?_,B6 hb q⟩;rw[A2 hb,List.getD_eq_getElem?_getD,List.getElem?_eq_getElem (by omega)];simp[List.getElem?_append_left,bts,show q<l.length from by omega,bv]
theorem Be7{w:World}{g:Sg}{M:Nat->Option Sec}(h:B7 w g M)(hh:1<g.h) :
  Calls Tryz.prog 122 #[.pointer (some ⟨g.x.tb,0,none⟩)] w λ e w'=>∃k c,e=.returned (.tuple #[.slice (some ⟨k,0,none⟩) 512 c,.int .i64 0])/\Own w' 5 (λ k=>w.heap.size<=k) (.slice (some ⟨k,0,none⟩) 512 c) (T6 (g.cur M 1))/\B7 w' g M/\Upd [g.j.jb] w w':=by
 have HR:Hid (Calls Tryz.prog 155 #[.pointer (some ⟨g.x.tb,0,none⟩),.int .i64 1] w λ e w'=>∃v,e=.returned (.tuple #[v,.int .i64 0])/\Y1 w' 5 (λ k=>w.heap.size<=k) v (g.cur M 1)/\B7 w' g M/\Upd [g.j.jb] w w'):=η (As6 h 1 hh);have hl:=h.cur_len 1;have H:=η h;clear h hh;generalize g.cur M 1=L at *;go_enter Tryz.func122,Tryz.ntmps122
 go_wp2_with fail
 refine HR.out.mono ?_;rintro e w1 ⟨v,rfl,ho,h1,hu⟩;obtain⟨k,c,rfl,_,hk,-⟩:=ho.sec hl;have ho1:=ho.own (by omega);obtain⟨hc,hf⟩:=ho1.cell512 hl (q:=0) (by omega);obtain⟨x,hx⟩:∃x,x=(L.getD 0 0).toNat:=⟨_,rfl⟩;rw[← hx] at hc;have hx8:x<256:=by rw[hx];exact UInt8.toNat_lt _
 obtain⟨y,hy⟩:∃y,y=x ||| 15:=⟨_,rfl⟩;have hor:bits BinOp.or IntKind.u8 (x:Int) 15=(y:Int):=by rw[show(15:Int)=((15:Nat):Int) from rfl,u8_or_nat x 15 hx8 (by decide),hy]
 have hy8:y<256:=by rw[hy];exact Nat.or_lt_two_pow (n:=8) hx8 (by decide)
 have o2:=Aj0 ho1 hl (q:=0) (by omega) hy8;have u2:Upd [k] w1 (w1.setCell ⟨k,0,none⟩ (.int .u8 (y:Int))):=(Upd.refl _ _).set _ (by simp);have HFX:Hid (T6 L=L.set 0 (UInt8.ofNat y)):=by show _=_;unfold T6;rw[hy,hx]
 have H2:=η (H.out.late h1 hu u2 (λ q hq=>by simp at hq;subst hq;exact hk));have HO2:=η o2;have HU2:=η (hu.late u2 (λ q hq=>by simp at hq;subst hq;exact .inr hk));clear ho ho1 h1 hu hx hy o2 u2;go_wp2_with fail
 go_ret2;exact⟨_,_,rfl,by rw[HFX.out];exact HO2.out,H2.out,HU2.out⟩
theorem Be8{w:World}{g:Sg}{M:Nat->Option Sec}(h:B7 w g M)(hh:1<g.h)(v:Value)(l:List UInt8)(hr:Rd w v l)(hl:l.length=512)(s n:Nat)(si:Int)(hsi:si=(s:Int))(on:Bool)(hn:s+n<=4096)(hc:(M 1).isSome=true∨E1 M g.h<40) :
  Calls Tryz.prog 124 #[.pointer (some ⟨g.x.tb,0,none⟩),v,.int .i64 si,.int .i64 (n:Int),.bool on] w λ e w'=>e=.returned (.int .i64 0)/\B7 w' g (λ k=>if k=1 then some (Ai8 l s on n) else M k)/\Upd g.S w w':=by
 subst hsi;obtain⟨av,cv,rfl,_⟩:=id hr;have H:=η h;have HR:=η hr;have HL:=η hl;have HC:=η hc;rw[hl] at HR ⊢;clear h hr hl hc;go_enter Tryz.func124,Tryz.ntmps124
 go_wp2_with fail
 go_loopw [1,11] (λ b i wr=>∃(q:Nat) (a:Option Addr) (c:Nat),q<=n/\i=.int .i64 ((s+q:Nat):Int)/\b=.slice a 512 c/\Rd wr (.slice a 512 c) (Ai8 l s on q)/\Upd [] w wr) (λ _ i _=>s+n-(intOf i).toNat)
 case atStart=>exact⟨0,av,cv,Nat.zero_le _,rfl,rfl,HR.out,Upd.refl _ _⟩
 case round=>
  obtain⟨q,a,c,hq,rfl,rfl,hrd,hu⟩:=hrel;have HRD:=η hrd;have HU:=η hu;clear hrd hu;obtain⟨I,hI⟩:∃I,I=s+q:=⟨_,rfl⟩;rw[← hI];by_cases hlt:q<n
  ·have hlt':decide ((I:Int)<(s:Int)+(n:Int))=true:=decide_eq_true (by omega);have hlen:(Ai8 l s on q).length=512:=by rw[X9];exact HL.out
   have HSB:=η (Bv5 _ _ I on wr HRD.out (by omega) (by omega));rw[hlen] at HSB;have HST:Hid (Ai8 l s on (q+1)=Be5 (Ai8 l s on q) I on):=by show _=_;rw[hI];rfl
   have HI:=η hI;have hI4:I<4096:=by omega
   clear hI hlen;go_wp2_with fail
   refine HSB.out.mono ?_;rintro e w1 ⟨k,c1,rfl,ho1,hu1⟩;have HO1:=η ho1.rd;have HU1:=η (HU.out.trans hu1);clear ho1 hu1;go_wp2_with fail
   exact⟨⟨q+1,_,_,by omega,by rw[HI.out];go_num,rfl,by rw[HST.out];exact HO1.out,HU1.out⟩,by have:=HI.out;simp[intOf];omega⟩
  ·obtain rfl:q=n:=by omega
   have hlt':decide ((I:Int)<(s:Int)+(q:Int))=false:=decide_eq_false (by omega);have HW:Hid (Calls Tryz.prog 140 #[.pointer (some ⟨g.x.tb,0,none⟩),.int .i64 1,.slice a 512 c] wr λ e w'=>e=.returned (.int .i64 0)/\B7 w' g (λ k=>if k=1 then some (Ai8 l s on q) else M k)/\Upd [g.x.wb] wr w'):=η (Ai9 (H.out.below HU.out) 1 hh _ _ HRD.out (by rw[X9];exact HL.out) HC.out);clear hI;go_wp2_with fail
   refine HW.out.mono ?_;rintro e w1 ⟨rfl,h1,hu1⟩;have H1:=η h1;have HU1:=η ((HU.out.mono (by simp)).trans (hu1.mono g.memw));clear h1 hu1;go_wp2_with fail
   go_ret;exact⟨rfl,H1.out,HU1.out⟩
def Sg.T(g:Sg)(M:Nat->Option Sec)(i:Nat):Bool:=Y9 (T6 (g.cur M 1)) i
def Al4(M:Nat->Option Sec)(s:Sec):Nat->Option Sec:=λ k=>if k=1 then some s else M k
theorem Sg.T_low{g:Sg}{M:Nat->Option Sec}(hl:(g.cur M 1).length=512){i:Nat}(hi:i<4):g.T M i=true:=by
 unfold Sg.T;rw[Al3 (by omega),decide_eq_true hi];rfl
theorem Sg.T_turn{g:Sg}{M:Nat->Option Sec}(hl:(g.cur M 1).length=512){s n:Nat}(on:Bool)(hs:4<=s)(hn:s+n<=4096)(i:Nat):g.T (Al4 M (Ai8 (T6 (g.cur M 1)) s on n)) i=if s<=i/\i<s+n then on else g.T M i:=by
 unfold Sg.T;have e:g.cur (Al4 M (Ai8 (T6 (g.cur M 1)) s on n)) 1=Ai8 (T6 (g.cur M 1)) s on n:=by unfold Sg.cur Al4;rw[if_pos rfl];rfl
 have hlen:(T6 (g.cur M 1)).length=512:=by rw[Af1];exact hl
 rw[e,Al3 (by rw[X9];omega),Bk9 on (by omega)];by_cases h4:i<4
 ·rw[decide_eq_true h4,if_neg (by omega),Al3 (by omega),decide_eq_true h4];rfl
 ·rw[decide_eq_false h4];rfl
def Be9(w:World)(g:Sg)(M:Nat->Option Sec)(k:Nat)(e:Ending)(w':World):Prop:=
 Upd g.S w w'/\((∃s,T3 (g.T M) g.h k (some s)/\e=.returned (.tuple #[.int .i64 (s:Int),.int .i64 0])/\B7 w' g (Al4 M (Ai8 (T6 (g.cur M 1)) s true k)))∨(T3 (g.T M) g.h k none/\e=.returned (.tuple #[.int .i64 0,.int .i64 7])/\B7 w' g M))
theorem Bl0{w:World}{g:Sg}{M:Nat->Option Sec}(h:B7 w g M)(hh:1<g.h)(hh2:g.h<=4096)(hc:(M 1).isSome=true∨E1 M g.h<40)(k:Nat)(hk:1<=k)(hk2:k<=64) :
  Calls Tryz.prog 50 #[.pointer (some ⟨g.x.tb,0,none⟩),.int .i64 (k:Int)] w (Be9 w g M k):=by
 have HH:=η (U6 h);have H:=η h;have HC:=η hc;have hb:((g.h:Int) == 0)=false:=by rw[beq_eq_false_iff_ne];omega
 have d1:decide ((k:Int)<1)=false:=decide_eq_false (by omega);have d2:decide (64<(k:Int))=false:=decide_eq_false (by omega);have hlf:(T6 (g.cur M 1)).length=512:=by rw[Af1];exact h.cur_len 1
 have HLF:=η hlf;have HT:Hid (∀i,g.T M i=Y9 (T6 (g.cur M 1)) i):=by show ∀i,_;exact λ _=>rfl
 obtain⟨hm,hhm⟩:∃hm,hm=g.h:=⟨_,rfl⟩;rw[← hhm] at hb HH hh hh2 HC;have HHM:=η hhm;clear h hc hlf hhm;go_enter Tryz.func50,Tryz.ntmps50
 go_wp2_with fail
 refine HH.out.mono ?_;rintro e w1 ⟨rfl,n1,hn1⟩;have hu1:Upd [] w w1:=by rw[hn1];exact(Upd.refl _ _).drewN _
 have HTK:=η (Be7 (H.out.below hu1) (by rw[← HHM.out];exact hh));have HU1:=η hu1;clear hn1 hu1;go_wp2_with fail
 refine HTK.out.mono ?_;rintro e w2 ⟨kb,c,rfl,ho2,h2,hu2⟩;have HH2:=η (U6 h2);rw[← HHM.out] at HH2;have HU2:=η ((HU1.out.mono (by simp)).trans (hu2.mono g.mem));have HO2:=η ho2;have H2:=η h2;clear ho2 h2 hu2;go_wp2_with fail
 refine HH2.out.mono ?_;rintro e w3 ⟨rfl,n3,hn3⟩;have hu3:Upd [] w2 w3:=by rw[hn3];exact(Upd.refl _ _).drewN _
 have HRD3:=η (HO2.out.rd.below hu3);have H3:=η (H2.out.below hu3);have HU3:=η (HU2.out.trans (hu3.mono (by simp)));clear hn3 hu3;go_wp2_with fail
 go_loopw [8,33] (λ run i wr=>∃q r:Nat,q<=hm/\i=.int .i64 (q:Int)/\run=.int .i64 (r:Int)/\Run (g.T M) k q r/\wr=w3) (λ _ i _=>hm-(intOf i).toNat)
 case atStart=>exact⟨0,0,Nat.zero_le _,rfl,rfl,Run.zero hk,rfl⟩
 case round=>
  obtain⟨q,r,hq,rfl,rfl,hrun,rfl⟩:=hrel;have hrl:=hrun.lt;have hrle:=hrun.le;have HRUN:=η hrun;clear hrun;by_cases hlt:q<hm
  ·have hlt':decide (q<hm)=true:=decide_eq_true hlt;have HSET:=η (Bv4 _ _ q wr HRD3.out (by rw[HLF.out];omega) (by rw[HLF.out];omega));rw[← HT.out q] at HSET;go_wp2_with fail
   refine HSET.out.mono ?_;rintro e w' ⟨rfl,rfl⟩;cases htq:g.T M q
   ·have HTQ:=η htq;clear htq;by_cases hfd:r+1=k
    ·have e1:(((r:Int)+1) == (k:Int))=true:=by rw[beq_iff_eq];omega
     obtain⟨s,hs⟩:∃s,s=q+1-k:=⟨_,rfl⟩;have HFF:=η (HRUN.out.found HTQ.out hfd hlt);rw[← hs] at HFF;have HTU:=η (Be8 H3.out (by rw[← HHM.out];exact hh) _ _ HRD3.out HLF.out s k ((q:Int)-(k:Int)+1) (by omega) true (by omega) (by rw[← HHM.out];exact HC.out));have HSI:Hid ((q:Int)-(k:Int)+1=(s:Int)):=by show _=_;omega
     clear hs hfd;go_wp2_with fail
     refine HTU.out.mono ?_;rintro e w5 ⟨rfl,h5,hu5⟩;have H5:=η h5;have HU5:=η (HU3.out.trans hu5);clear h5 hu5;go_wp2_with fail
     go_ret2;refine⟨HU5.out,.inl ⟨s,by rw[← HHM.out];exact HFF.out,by rw[← HSI.out];rfl,H5.out⟩⟩
    ·have e1:(((r:Int)+1) == (k:Int))=false:=by rw[beq_eq_false_iff_ne];omega
     go_wp2_with fail
     exact⟨⟨q+1,r+1,by omega,by go_num,by go_num,HRUN.out.next HTQ.out (by omega),trivial⟩,by simp[intOf];omega⟩
   ·have e1:((0:Int) == (k:Int))=false:=by rw[beq_eq_false_iff_ne];omega
    have HTQ:=η htq;clear htq;go_wp2_with fail
    exact⟨⟨q+1,0,by omega,by go_num,rfl,HRUN.out.set HTQ.out,trivial⟩,by simp[intOf];omega⟩
  ·obtain rfl:q=hm:=by omega
   have hlt':decide (q<q)=false:=decide_eq_false (by omega);go_wp2_with fail
   go_ret2;exact⟨HU3.out,.inr ⟨by rw[← HHM.out];exact HRUN.out.full,rfl,H3.out⟩⟩
theorem Cx3{w:World}{g:Sg}{M:Nat->Option Sec}(h:B7 w g M)(hh:1<g.h)(hh2:g.h<=4096)(hc:(M 1).isSome=true∨E1 M g.h<40)(s n:Nat)(hn:1<=n)(hn2:n<=64)(hs:4<=s)(hs2:s+n<=g.h)(ht:∀q,q<n->g.T M (s+q)=true) :
  Calls Tryz.prog 129 #[.pointer (some ⟨g.x.tb,0,none⟩),.int .i64 (s:Int),.int .i64 (n:Int)] w λ e w'=>e=.returned (.int .i64 0)/\B7 w' g (Al4 M (Ai8 (T6 (g.cur M 1)) s false n))/\Upd g.S w w':=by
 have HH:=η (U6 h);have H:=η h;have HC:=η hc;have HTT:=η ht;have hb:((g.h:Int) == 0)=false:=by rw[beq_eq_false_iff_ne];omega
 have d1:decide ((n:Int)<1)=false:=decide_eq_false (by omega);have d2:decide (64<(n:Int))=false:=decide_eq_false (by omega);have d3:decide ((s:Int)<4)=false:=decide_eq_false (by omega);have d4:decide ((g.h:Int)-(n:Int)<(s:Int))=false:=decide_eq_false (by omega);have hlf:(T6 (g.cur M 1)).length=512:=by rw[Af1];exact h.cur_len 1
 have HLF:=η hlf;have HT:Hid (∀i,g.T M i=Y9 (T6 (g.cur M 1)) i):=by show ∀i,_;exact λ _=>rfl
 clear h hc ht hlf;go_enter Tryz.func129,Tryz.ntmps129
 go_wp2_with fail
 refine HH.out.mono ?_;rintro e w1 ⟨rfl,n1,hn1⟩;have hu1:Upd [] w w1:=by rw[hn1];exact(Upd.refl _ _).drewN _
 have HTK:=η (Be7 (H.out.below hu1) hh);have HU1:=η hu1;clear hn1 hu1;go_wp2_with fail
 refine HTK.out.mono ?_;rintro e w2 ⟨kb,c,rfl,ho2,h2,hu2⟩;have HU2:=η ((HU1.out.mono (by simp)).trans (hu2.mono g.mem));have HRD2:=η ho2.rd;have H2:=η h2;clear ho2 h2 hu2;go_wp2_with fail
 go_loopw [10] (λ i wr=>∃q:Nat,q<=n/\i=.int .i64 ((s+q:Nat):Int)/\wr=w2) (λ i _=>s+n-(intOf i).toNat)
 case atStart=>exact⟨0,Nat.zero_le _,rfl,rfl⟩
 case round=>
  obtain⟨q,hq,rfl,rfl⟩:=hrel;obtain⟨I,hI⟩:∃I,I=s+q:=⟨_,rfl⟩;rw[← hI];by_cases hlt:q<n
  ·have hlt':decide ((I:Int)<(s:Int)+(n:Int))=true:=decide_eq_true (by omega);have HSET:=η (Bv4 _ _ I wr HRD2.out (by rw[HLF.out];omega) (by rw[HLF.out];omega));rw[← HT.out I,hI,HTT.out q hlt,← hI] at HSET;have HI:=η hI;have hI4:I<4096:=by omega
   clear hI;go_wp2_with fail
   refine HSET.out.mono ?_;rintro e w' ⟨rfl,rfl⟩;go_wp2_with fail
   exact⟨⟨q+1,by omega,by rw[HI.out];go_num,trivial⟩,by have:=HI.out;simp[intOf];omega⟩
  ·obtain rfl:q=n:=by omega
   have hlt':decide ((I:Int)<(s:Int)+(q:Int))=false:=decide_eq_false (by omega);have HTU:=η (Be8 H2.out hh _ _ HRD2.out HLF.out s q (s:Int) rfl false (by omega) HC.out);clear hI;go_wp2_with fail
   refine HTU.out.mono ?_;rintro e w5 ⟨rfl,h5,hu5⟩;have H5:=η h5;have HU5:=η (HU2.out.trans hu5);clear h5 hu5;go_wp2_with fail
   go_ret;exact⟨rfl,H5.out,HU5.out⟩
def L6(T:Nat->Bool):Nat->Nat
 | 0=>0
 | h+1=>if T h then L6 T h else L6 T h+1
def b15:Sec:=D9.set 0 15
theorem Aq3:b15.length=512:=by unfold b15;rw[List.length_set,B9]
def Ab9(q:Nat):Nat->Option Sec:=λ k=>if k<q then some (if k=1 then b15 else D9) else none
theorem Bf0{q:Nat}:(λ k=>if k=q then some (if q=1 then b15 else D9) else Ab9 q k)=Ab9 (q+1):=by
 funext k
 unfold Ab9;by_cases h1:k=q
 ·subst h1;rw[if_pos rfl,if_pos (show k<k+1 by omega)]
 ·rw[if_neg h1];by_cases h2:k<q
  ·rw[if_pos h2,if_pos (show k<q+1 by omega)]
  ·rw[if_neg h2,if_neg (show ¬k<q+1 by omega)]
theorem Bl1:Ab9 0=λ _=>none:=by funext k;unfold Ab9;rw[if_neg (by omega)]
theorem Ce7{q h:Nat}(hq:q<=h):MOk (Ab9 q) h:=by
 intro i x hx;unfold Ab9 at hx;split at hx
 ·cases hx
  refine⟨by omega,?_⟩;split
  ·exact Aq3
  ·exact B9
 ·simp at hx
theorem As8{h:Nat}:∀{q:Nat},q<=h->E1 (Ab9 q) h<=q
 | 0,_=>by rw[Bl1,Bi8];omega
 | q+1,hq=>by
  rw[← Bf0,Bc9 (Ce7 (by omega)) (by omega)];have:=As8 (q:=q) (h:=h) (by omega);split<;>omega
theorem Bv6{w:World}{g:Sg}(h:B7 w g (λ _=>none))(hh:4<=g.h) :
  Calls Tryz.prog 109 #[.pointer (some ⟨g.x.tb,0,none⟩)] w λ e w'=>e=.returned (.int .i64 0)/\B7 w' g (Ab9 4)/\Upd g.S w w':=by
 have H:=η h;have hmk:=L0;clear h;go_enter Tryz.func109,Tryz.ntmps109
 go_wp2_with fail
 go_loopw [6] (λ i wr=>∃q:Nat,q<=4/\i=.int .i64 (q:Int)/\B7 wr g (Ab9 q)/\Upd g.S w wr) (λ i _=>4-(intOf i).toNat)
 case atStart=>exact⟨0,by omega,rfl,by rw[Bl1];exact H.out,Upd.refl _ _⟩
 case round=>
  obtain⟨q,hq,rfl,hs,hu⟩:=hrel;by_cases hlt:q<4
  ·have hlt':decide ((q:Int)<4)=true:=decide_eq_true (by omega);have hcn:E1 (Ab9 q) g.h<40:=by have:=As8 (q:=q) (h:=g.h) (by omega);omega
   have hb1:(wr.alloc (.cells (bts D9).toArray 5)).heap[wr.heap.size]?=some (.cells (bts D9).toArray 5 (0,0)):=A4 _;have hu1:Upd [] wr (wr.alloc (.cells (bts D9).toArray 5)):=(Upd.refl _ _).alloc _;obtain⟨w1,hw1⟩:∃w1,w1=wr.alloc (.cells (bts D9).toArray 5):=⟨_,rfl⟩;have hmk1:(Instr.makeSlice 32 (.int .i64 512) (.int .i64 512)).run Tryz.prog wr=.ok (.slice (some ⟨wr.heap.size,0,none⟩) 512 512) w1:=by rw[hw1];exact L0 wr
   rw[← hw1] at hb1 hu1;have HS:=η hs;have HU:=η hu;clear hw1 hmk hs hu;by_cases h1:q=1
   ·subst h1;have o1:Own w1 5 (λ k=>wr.heap.size<=k) (.slice (some ⟨wr.heap.size,0,none⟩) 512 512) D9:=⟨wr.heap.size,[],Nat.le_refl _,by rw[B9];rfl,by simpa using hb1⟩;obtain⟨hc,hf⟩:=o1.cell512 B9 (q:=0) (by omega);have o2:=Aj0 o1 B9 (q:=0) (by omega) (y:=15) (by omega);have u2:Upd [] wr (w1.setCell ⟨wr.heap.size,0,none⟩ (.int .u8 ((15:Nat):Int))):=hu1.set _ (.inr (Nat.le_refl _));have HW:=η (Ai9 (HS.out.below u2) 1 (by omega) _ _ o2.rd Aq3 (.inr hcn));have HPM:=η (Bf0 (q:=1));have HU2:=η (HU.out.trans (u2.mono (by simp)));clear hb1 hu1 o1 o2 u2 hcn;go_wp2_with fail
    refine HW.out.mono ?_;rintro e w3 ⟨rfl,h3,hu3⟩;have H3:=η h3;have HU3:=η (HU2.out.trans (hu3.mono g.memw));clear h3 hu3;go_wp2_with fail
    exact⟨⟨1+1,by omega,by go_num,by rw[← HPM.out];exact H3.out,HU3.out⟩,by simp[intOf]⟩
   ·have d1:((q:Int) == 1)=false:=by rw[beq_eq_false_iff_ne];omega
    have HPM:Hid ((λ k=>if k=q then some D9 else Ab9 q k)=Ab9 (q+1)):=by
     show _=_
     rw[← Bf0];funext k;rw[if_neg h1]
    have HW:=η (Ai9 (HS.out.below hu1) q (by omega) _ _ (Cm2 hb1 B9) B9 (.inr hcn));have HU2:=η (HU.out.trans (hu1.mono (by simp)));clear hb1 hu1 hcn h1;go_wp2_with fail
    refine HW.out.mono ?_;rintro e w3 ⟨rfl,h3,hu3⟩;have H3:=η h3;have HU3:=η (HU2.out.trans (hu3.mono g.memw));clear h3 hu3;go_wp2_with fail
    exact⟨⟨q+1,by omega,by go_num,by rw[← HPM.out];exact H3.out,HU3.out⟩,by simp[intOf];omega⟩
  ·obtain rfl:q=4:=by omega
   have hlt':decide (((4:Nat):Int)<4)=false:=rfl;have HS:=η hs;have HU:=η hu;clear hs hu;go_wp2_with fail
   go_ret;exact⟨rfl,HS.out,HU.out⟩
theorem Cx4:b15=T6 D9:=by
 unfold b15 T6;congr 1
theorem Cr8(i:Nat):Y9 (T6 b15) i=decide (i<4):=by
 rw[Al3 (by rw[Aq3];omega),Cx4,Al3 (by rw[B9];omega),Cj5];simp
theorem Bf1{a b c:World}{S:List Nat}(h:Upd [] a b)(k:Upd S b c)(hS:∀i,i∈S->a.heap.size<=i):Upd [] a c:=h.late k λ i hi=> .inr (hS i hi)
theorem As9{T:Nat->Bool}{h k s:Nat}{r:Option Nat}(hr:T3 T h k r)(h1:s+k<=h)(h2:∀q,q<k->T (s+q)=false)(h3:∀s',s'<s->∃q,q<k/\T (s'+q)=true):r=some s:=
 hr.uniq (b:=some s) ⟨h1,h2,λ s' hs hf=>by obtain⟨q,hq,ht⟩:=h3 s' hs;rw[hf q hq] at ht;simp at ht⟩
theorem Be9.at{w:World}{g:Sg}{M:Nat->Option Sec}{k s:Nat}{e:Ending}{w':World}(h:Be9 w g M k e w')(h1:s+k<=g.h)(h2:∀q,q<k->g.T M (s+q)=false)(h3:∀s',s'<s->∃q,q<k/\g.T M (s'+q)=true) :
  e=.returned (.tuple #[.int .i64 (s:Int),.int .i64 0])/\B7 w' g (Al4 M (Ai8 (T6 (g.cur M 1)) s true k))/\Upd g.S w w':=by
 obtain⟨hu,⟨s',hf,he,hs⟩ | ⟨hf,_,_⟩⟩:=h
 ·have:=As9 hf h1 h2 h3;obtain rfl:s'=s:=by simpa using this
  exact⟨he,hs,hu⟩
 ·have:=As9 hf h1 h2 h3;simp at this
end Go.Proofs.YtgfbepakonjbnaaGreat
end
section
set_option linter.unusedSimpArgs false
set_option linter.unusedVariables false
namespace Go.Proofs.YtgfbepakonjbnaaGreat
open Go.RowKit Go.MapKept Go.ChangeMaps
structure Pk where
 start:Nat
 data:List UInt8
 live:Nat
def Bh6(l:Sec)(a:Nat):Nat × Nat × Nat:=(num l a 4,num l (a+4) 4,num l (a+8) 4)
def Ad7(l:Sec)(a s u v:Nat):Sec:=put (put (put (put l a 4 s) (a+4) 4 u) (a+8) 4 v) (a+12) 4 0
theorem Cy8{l:Sec}{a s u v:Nat}(h:a+16<=l.length):(Ad7 l a s u v).length=l.length:=by
 unfold Ad7;have h1:=E6 (b:=l) rfl (a:=a) (n:=4) (v:=s) (by omega);have h2:=E6 h1 (a:=a+4) (n:=4) (v:=u) (by omega);have h3:=E6 h2 (a:=a+8) (n:=4) (v:=v) (by omega);exact E6 h3 (a:=a+12) (n:=4) (v:=0) (by omega)
theorem Bt5{l:Sec}{a s u v:Nat}(h:a+16<=l.length)(hs:s<4294967296)(hu:u<4294967296)(hv:v<4294967296):Bh6 (Ad7 l a s u v) a=(s,u,v):=by
 unfold Bh6 Ad7;have h1:=E6 (b:=l) rfl (a:=a) (n:=4) (v:=s) (by omega);have h2:=E6 h1 (a:=a+4) (n:=4) (v:=u) (by omega);have h3:=E6 h2 (a:=a+8) (n:=4) (v:=v) (by omega);rw[E3 _ (by rw[h3];omega) (.inl (by omega)),E3 _ (by rw[h2];omega) (.inl (by omega)),E3 _ (by rw[h1];omega) (.inl (by omega)),O8 (by omega) (by omega),
  E3 _ (by rw[h3];omega) (.inl (by omega)),E3 _ (by rw[h2];omega) (.inl (by omega)),O8 (by rw[h1];omega) (by omega),
  E3 _ (by rw[h3];omega) (.inl (by omega)),O8 (by rw[h2];omega) (by omega)]
theorem Ce3{l:Sec}{a a' s u v:Nat}(h:a+16<=l.length)(hd:a'+16<=a∨a+16<=a'):Bh6 (Ad7 l a s u v) a'=Bh6 l a':=by
 unfold Bh6 Ad7;have h1:=E6 (b:=l) rfl (a:=a) (n:=4) (v:=s) (by omega);have h2:=E6 h1 (a:=a+4) (n:=4) (v:=u) (by omega);have h3:=E6 h2 (a:=a+8) (n:=4) (v:=v) (by omega);have key:∀b,(b+4<=a∨a+16<=b)->num (put (put (put (put l a 4 s) (a+4) 4 u) (a+8) 4 v) (a+12) 4 0) b 4=num l b 4:=λ b hb=>by
  rw[E3 _ (by rw[h3];omega) (by omega),E3 _ (by rw[h2];omega) (by omega),E3 _ (by rw[h1];omega) (by omega),E3 _ (by omega) (by omega)]
 rw[key a' (by omega),key (a'+4) (by omega),key (a'+8) (by omega)]
theorem Bk1{a:Nat}(ha:a+12<=512):Bh6 D9 a=(0,0,0):=by
 have key:∀b,num D9 b 4=0:=λ b=>by
  have:beN ((D9.drop b).take 4)=beN (List.replicate ((D9.drop b).take 4).length 0):=by
   congr 1
   apply List.ext_getElem?;intro i;by_cases hi:i<((D9.drop b).take 4).length
   ·rw[List.getElem?_replicate,if_pos hi];have hm:=List.getElem_mem hi;have h0:∀x,x∈D9->x=0:=λ x hx=>(List.mem_replicate.1 hx).2;rw[List.getElem?_eq_getElem hi,h0 _ (List.mem_of_mem_drop (List.mem_of_mem_take hm))]
   ·rw[List.getElem?_eq_none (by omega),List.getElem?_eq_none (by rw[List.length_replicate];omega)]
  unfold num;rw[this];have z:∀n,beN (List.replicate n 0)=0:=λ n=>by
   induction n with
   | zero=>rfl
   | succ n ih=>rw[List.replicate_succ',Af9,ih];rfl
  exact z _
 unfold Bh6;rw[key,key,key]
def Ak7(c:Nat->Sec)(h n:Nat):Nat × Nat × Nat:=
 if h-16<(Bh6 (c (2+n / 32)) (16*(n % 32))).1∨8192<(Bh6 (c (2+n / 32)) (16*(n % 32))).2.1 then(0,0,0) else Bh6 (c (2+n / 32)) (16*(n % 32))
def PkD(c:Nat->Sec)(s:Nat)(d:List UInt8):Prop:=∀j x,d[j]?=some x->(c (s+j / 512))[j % 512]?=some x
theorem PkD.nil(c:Nat->Sec)(s:Nat):PkD c s []:=λ j x h=>by simp at h
theorem PkD.congr{c c':Nat->Sec}{s:Nat}{d:List UInt8}(h:PkD c s d)(hl:d.length<=8192)(he:∀i,s<=i->i<s+16->c' i=c i):PkD c' s d:=λ j x hj=>by
 have:=(List.getElem?_eq_some_iff.1 hj).1;rw[he _ (by omega) (by omega)];exact h j x hj
def Av4(l:Sec)(o:Nat)(f:List UInt8):Sec:=G8 l o f
theorem Bt6{l f:Sec}{o:Nat}(h:o+f.length<=l.length)(i:Nat):(Av4 l o f)[i]?=if o<=i/\i<o+f.length then f[i-o]? else l[i]?:=V5 h i
end Go.Proofs.YtgfbepakonjbnaaGreat
end
section
section
set_option linter.unusedSimpArgs false
set_option linter.unusedVariables false
namespace Go.Proofs.YtgfbepakonjbnaaGreat
open Go.RowKit Go.MapKept Go.ChangeMaps
def Ab6(K:Nat->Option Pk)(n:Nat)(p:Option Pk):Nat->Option Pk:=λ m=>if m=n then p else K m
theorem E0(K:Nat->Option Pk)(n:Nat)(p:Option Pk):Ab6 K n p n=p:=by unfold Ab6;rw[if_pos rfl]
theorem F4(K:Nat->Option Pk){n m:Nat}(p:Option Pk)(h:m≠n):Ab6 K n p m=K m:=by unfold Ab6;rw[if_neg h]
def Ca5:Option Pk->Nat × Nat × Nat
 | none=>(0,0,0)
 | some p=>(p.start,p.data.length,p.live)
structure L9(c:Nat->Sec)(h:Nat)(T:Nat->Bool)(K:Nat->Option Pk):Prop where
 len:∀i,(c i).length=512
 look:∀n,n<64->Ak7 c h n=Ca5 (K n)
 high:∀n,64<=n->K n=Option.none
 data:∀n p,K n=some p->PkD c p.start p.data
 low:∀n p,K n=some p->4<=p.start/\p.start+16<=h/\p.data.length<=8192/\p.live<=p.data.length
 apart:∀n p m q,K n=some p->K m=some q->n≠m->p.start+16<=q.start∨q.start+16<=p.start
 taken:∀n p,K n=some p->∀i,i<16->T (p.start+i)=true
theorem L9.lt{c:Nat->Sec}{h:Nat}{T:Nat->Bool}{K:Nat->Option Pk}(k:L9 c h T K){n:Nat}{p:Pk}(hn:K n=some p):n<64:=by
 rcases Nat.lt_or_ge n 64 with h1 | h1
 ·exact h1
 ·rw[k.high n h1] at hn;cases hn
theorem Ak8{c c':Nat->Sec}{h n:Nat}(he:c' (2+n / 32)=c (2+n / 32)):Ak7 c' h n=Ak7 c h n:=by unfold Ak7;rw[he]
theorem L9.turn{c c':Nat->Sec}{h:Nat}{T T':Nat->Bool}{K:Nat->Option Pk}(k:L9 c h T K)(hl:∀i,(c' i).length=512)(h2:c' 2=c 2)(h3:c' 3=c 3)
  (hd:∀n p,K n=some p->∀i,p.start<=i->i<p.start+16->c' i=c i) (ht:∀n p,K n=some p->∀i,i<16->T' (p.start+i)=true):L9 c' h T' K:=by
 refine⟨hl,λ n hn=>?_,k.high,λ n p hp=>(k.data n p hp).congr (k.low n p hp).2.2.1 (hd n p hp),k.low,k.apart,ht⟩;rw[← k.look n hn];apply Ak8;have:n / 32=0∨n / 32=1:=by omega
 rcases this with e | e<;>rw[e]
 ·exact h2
 ·exact h3
structure Ext(c:Nat->Sec)(h:Nat)(T:Nat->Bool)(K:Nat->Option Pk)(n:Nat)(p:Pk):Prop where
 lt:n<64
 data:PkD c p.start p.data
 low:4<=p.start/\p.start+16<=h/\p.data.length<=8192/\p.live<=p.data.length
 apart:∀m q,K m=some q->m≠n->p.start+16<=q.start∨q.start+16<=p.start
 taken:∀i,i<16->T (p.start+i)=true
theorem L9.ext{c:Nat->Sec}{h:Nat}{T:Nat->Bool}{K:Nat->Option Pk}(k:L9 c h T K){n:Nat}{p:Pk}(hn:K n=some p):Ext c h T K n p:=
 ⟨k.lt hn,k.data n p hn,k.low n p hn,λ m q hq hm=>k.apart n p m q hn hq (Ne.symm hm),k.taken n p hn⟩
theorem L9.note{c c':Nat->Sec}{h:Nat}{T:Nat->Bool}{K:Nat->Option Pk}{n:Nat}{p p':Pk}(k:L9 c h T K)(hh:h<=4096)(e:Ext c h T K n p)(hs:p'.start=p.start)
  (hl:∀i,(c' i).length=512) (hlow:p'.data.length<=8192/\p'.live<=p'.data.length) (hd:PkD c' p.start p'.data)
  (hn:c' (2+n / 32)=Ad7 (c (2+n / 32)) (16*(n % 32)) p.start p'.data.length p'.live) (ho:∀i,i≠2+n / 32->¬(p.start<=i/\i<p.start+16)->c' i=c i):L9 c' h T (Ab6 K n (some p')):=by
 have hlt:=e.lt;have hlw:=e.low;have hcl:=k.len (2+n / 32);refine⟨hl,λ m hm=>?_,λ m hm=>?_,λ m q hq=>?_,λ m q hq=>?_,λ m q m' q' hq hq' hmm=>?_,λ m q hq=>?_⟩
 ·by_cases hmn:m=n
  ·subst hmn;rw[E0];unfold Ak7;rw[hn,Bt5 (by omega) (by omega) (by omega) (by omega)];dsimp only;rw[if_neg (by omega)];show(p.start,p'.data.length,p'.live)=(p'.start,p'.data.length,p'.live)
   rw[hs]
  ·rw[F4 _ _ hmn,← k.look m hm];by_cases hmd:m / 32=n / 32
   ·unfold Ak7;rw[hmd,hn,Ce3 (by omega) (by omega)]
   ·exact Ak8 (ho _ (by omega) (by omega))
 ·rw[F4 _ _ (by omega)];exact k.high m hm
 ·by_cases hmn:m=n
  ·subst hmn;rw[E0] at hq;cases hq;rw[hs];exact hd
  ·rw[F4 _ _ hmn] at hq;have h1:=e.apart m q hq hmn;have h2:=k.low m q hq;exact(k.data m q hq).congr h2.2.2.1 λ i i1 i2=>ho i (by omega) (by omega)
 ·by_cases hmn:m=n
  ·subst hmn;rw[E0] at hq;cases hq;exact⟨by omega,by omega,hlow.1,hlow.2⟩
  ·rw[F4 _ _ hmn] at hq;exact k.low m q hq
 ·by_cases hmn:m=n
  ·subst hmn;rw[E0] at hq;cases hq
   rw[F4 _ _ (Ne.symm hmm)] at hq';rw[hs];exact e.apart m' q' hq' (Ne.symm hmm)
  ·rw[F4 _ _ hmn] at hq;by_cases hmn':m'=n
   ·subst hmn';rw[E0] at hq';cases hq'
    rw[hs];exact(e.apart m q hq hmn).symm
   ·rw[F4 _ _ hmn'] at hq';exact k.apart m q m' q' hq hq' hmm
 ·by_cases hmn:m=n
  ·subst hmn;rw[E0] at hq;cases hq;rw[hs];exact e.taken
  ·rw[F4 _ _ hmn] at hq;exact k.taken m q hq
theorem L9.noteNo{c c':Nat->Sec}{h:Nat}{T T':Nat->Bool}{K:Nat->Option Pk}{n:Nat}(k:L9 c h T K)(hn64:n<64)
  (hl:∀i,(c' i).length=512) (hn:c' (2+n / 32)=Ad7 (c (2+n / 32)) (16*(n % 32)) 0 0 0) (ho:∀i,2<=i->i≠2+n / 32->c' i=c i)
  (ht:∀m p,K m=some p->m≠n->∀i,i<16->T' (p.start+i)=true):L9 c' h T' (Ab6 K n Option.none):=by
 have hcl:=k.len (2+n / 32);refine⟨hl,λ m hm=>?_,λ m hm=>?_,λ m q hq=>?_,λ m q hq=>?_,λ m q m' q' hq hq' hmm=>?_,λ m q hq=>?_⟩
 ·by_cases hmn:m=n
  ·subst hmn;rw[E0];unfold Ak7;rw[hn,Bt5 (by omega) (by omega) (by omega) (by omega)];dsimp only;rw[if_neg (by omega)];rfl
  ·rw[F4 _ _ hmn,← k.look m hm];by_cases hmd:m / 32=n / 32
   ·unfold Ak7;rw[hmd,hn,Ce3 (by omega) (by omega)]
   ·exact Ak8 (ho _ (by omega) (by omega))
 ·rw[F4 _ _ (by omega)];exact k.high m hm
 ·by_cases hmn:m=n
  ·subst hmn;rw[E0] at hq;cases hq
  ·rw[F4 _ _ hmn] at hq;have h2:=k.low m q hq;exact(k.data m q hq).congr h2.2.2.1 λ i i1 i2=>ho i (by omega) (by omega)
 ·by_cases hmn:m=n
  ·subst hmn;rw[E0] at hq;cases hq
  ·rw[F4 _ _ hmn] at hq;exact k.low m q hq
 ·by_cases hmn:m=n
  ·subst hmn;rw[E0] at hq;cases hq
  ·rw[F4 _ _ hmn] at hq;by_cases hmn':m'=n
   ·subst hmn';rw[E0] at hq';cases hq'
   ·rw[F4 _ _ hmn'] at hq';exact k.apart m q m' q' hq hq' hmm
 ·by_cases hmn:m=n
  ·subst hmn;rw[E0] at hq;cases hq
  ·rw[F4 _ _ hmn] at hq;exact ht m q hq hmn
theorem PkD.lay{c c':Nat->Sec}{s:Nat}{d f:List UInt8}{k o j:Nat}(h:PkD c s d)(hl:(c (s+j)).length=512)(ho:d.length=512*j+o)(hk:o+(f.take k).length<=512)
  (hc:c' (s+j)=Av4 (c (s+j)) o (f.take k)) (he:∀i,i≠s+j->c' i=c i):PkD c' s (d++f.take k):=by
 intro i x hx;have hlen:=(List.getElem?_eq_some_iff.1 hx).1;rw[List.length_append] at hlen;by_cases hi:i<d.length
 ·rw[List.getElem?_append_left hi] at hx;have h0:=h i x hx;by_cases hij:i / 512=j
  ·rw[hij] at h0 ⊢;rw[hc,Bt6 (by omega),if_neg (by omega)];exact h0
  ·rw[he _ (by omega)];exact h0
 ·rw[List.getElem?_append_right (by omega)] at hx;have hij:i / 512=j:=by omega
  rw[hij,hc,Bt6 (by omega),if_pos (by omega)];rw[← hx];congr 1;omega
theorem Ay1{l:Sec}{o:Nat}{f:List UInt8}(h:o+f.length<=l.length):(Av4 l o f).length=l.length:=Ab0 h
theorem PkD.part{c:Nat->Sec}{s:Nat}{d:List UInt8}{a k:Nat}(h:PkD c s d)(hk:a % 512+k<=512)(hd:a+k<=d.length)(hl:(c (s+a / 512)).length=512) :
  ((c (s+a / 512)).drop (a % 512)).take k=(d.drop a).take k:=by
 apply List.ext_getElem?;intro i;by_cases hi:i<k
 ·rw[List.getElem?_take_of_lt hi,List.getElem?_take_of_lt hi,List.getElem?_drop,List.getElem?_drop];have h1:a+i<d.length:=by omega
  have:=h (a+i) d[a+i] (List.getElem?_eq_getElem h1);rw[List.getElem?_eq_getElem h1,← this];have e1:(a+i) / 512=a / 512:=by omega
  have e2:(a+i) % 512=a % 512+i:=by omega
  rw[e1,e2]
 ·rw[List.getElem?_eq_none (by rw[List.length_take];omega),List.getElem?_eq_none (by rw[List.length_take];omega)]
def Bk3(K:Nat->Option Pk)(but:Int)(l n:Nat):Prop:=(n:Int)≠but/\∃p,K n=some p/\p.data.length+l<=8192
structure Be2(K:Nat->Option Pk)(but:Int)(l n free:Nat):Prop where
 le:n<=64
 fits:n<64->Bk3 K but l n
 first:∀m,m<n->¬Bk3 K but l m
 free_le:free<=64
 free_none:free<64->K free=Option.none
 free_first:∀m,m<n->m<free->K m≠Option.none
end Go.Proofs.YtgfbepakonjbnaaGreat
end
section
set_option linter.unusedSimpArgs false
set_option linter.unusedVariables false
namespace Go.Proofs.YtgfbepakonjbnaaGreat
open Go.RowKit Go.MapKept Go.ChangeMaps
def wr1(M:Nat->Option Sec)(i:Nat)(s:Sec):Nat->Option Sec:=λ k=>if k=i then some s else M k
theorem Y5(g:Sg)(M:Nat->Option Sec)(i:Nat)(s:Sec)(j:Nat):g.cur (wr1 M i s) j=if j=i then s else g.cur M j:=by
 unfold Sg.cur wr1;by_cases h:j=i
 ·rw[if_pos h,if_pos h];rfl
 ·rw[if_neg h,if_neg h]
theorem Ak9{M:Nat->Option Sec}{i j:Nat}{s:Sec}(h:j≠i):wr1 M i s j=M j:=by unfold wr1;rw[if_neg h]
theorem Db4(M:Nat->Option Sec)(i:Nat)(s:Sec):wr1 M i s i=some s:=by unfold wr1;rw[if_pos rfl]
theorem Cp9(g:Sg)(M:Nat->Option Sec){i:Nat}(s:Sec)(h:i≠1):g.T (wr1 M i s)=g.T M:=by
 funext k
 unfold Sg.T;rw[Y5,if_neg (Ne.symm h)]
theorem G9(g:Sg){M M':Nat->Option Sec}{i:Nat}(h:M' i=M i):g.cur M' i=g.cur M i:=by unfold Sg.cur;rw[h]
theorem Ba4(g:Sg){M M':Nat->Option Sec}(h:M' 1=M 1):g.T M'=g.T M:=by
 funext k
 unfold Sg.T;rw[G9 g h]
def Ag7(M M':Nat->Option Sec)(L:List Nat):Prop:=∀i,(M' i).isSome=true->(M i).isSome=true∨i∈L
theorem Be3:∀{A B:List Nat},A.Nodup->(∀a,a∈A->a∈B)->A.length<=B.length
 | [],B,_,_=>Nat.zero_le _
 | a :: A,B,hn,hs=>by
  have ha:=hs a (List.mem_cons_self ..);have hn':=List.nodup_cons.1 hn;have h1:A.length<=(B.erase a).length:=Be3 hn'.2 λ x hx=>by
   have hne:x≠a:=λ e=>hn'.1 (e ▸ hx);exact(List.mem_erase_of_ne hne).2 (hs x (List.mem_cons_of_mem _ hx))
  rw[List.length_erase_of_mem ha] at h1;have:=List.length_pos_of_mem ha;rw[List.length_cons];omega
structure Db5(M M':Nat->Option Sec)(L:List Nat):Prop where
 t:Ag7 M M' L
 s:∀i,i∉L->M' i=M i
def De1(M M':Nat->Option Sec)(K':Nat->Option Pk)(o:Option (Nat × Nat)):Prop:=∀i,i≠1->i≠2->i≠3->(∀x p,o=some x->K' x.1=some p->¬(p.start<=i/\i<p.start+16))->M' i=M i
theorem Ag7.cnt{M M':Nat->Option Sec}{L:List Nat}(h:Ag7 M M' L){n:Nat}(ho:MOk M n)(ho':MOk M' n):E1 M' n<=E1 M n+L.length:=by
 have:=Be3 (B:=M4 M n++L) (Q9 M' n) λ i hi=>by
  rw[List.mem_append];rcases h i ((Q0 ho').1 hi) with q | q
  ·exact .inl ((Q0 ho).2 q)
  ·exact .inr q
 rw[List.length_append] at this;exact this
theorem B7.turnedR{w w':World}{g:Sg}{M:Nat->Option Sec}(h:B7 w g M){S:List Nat}(hu:Upd S w w')(h1:∀k,k∈S->k∉g.S/\k≠g.x.tb)(h2:∀k,k∈S->∀c,w.heap[k]?≠some (.cells c 5 (0,0))):B7 w' g M:=by
 have hj:∀k,k∈g.j.all->k∉S:=λ k hk hs=>(h1 k hs).1 (by simp[Sg.S,hk]);have hl:=h.jr.at_.lt;have hd:=h.jr.at_.disk.lt;exact⟨h.jr.of (h.jr.at_.world (hu.block _ hl.1 (hj _ (by simp[JG.all]))) (hu.block _ hl.2 (hj _ (by simp[JG.all]))) (hu.block _ hd.1 (hj _ (by simp[JG.all]))) (hu.block _ hd.2.1 (hj _ (by simp[JG.all]))) (hu.block _ hd.2.2 (hj _ (by simp[JG.all])))
   (λ k c _ e=>hu.block _ (A3 e) (λ q=>h2 k q c e))) hu.size,
  h.tx.upd hu (λ q=>(h1 _ q).2 rfl) (λ q=>(h1 _ q).1 (by simp[Sg.S])) (λ k c hk=>h2 k hk c),h.ne,h.ok,h.len,h.fx⟩
theorem B7.lt{w:World}{g:Sg}{M:Nat->Option Sec}(h:B7 w g M):(∀k,k∈g.S->k<w.heap.size)/\g.x.tb<w.heap.size:=by
 have hl:=h.jr.at_.lt;have hd:=h.jr.at_.disk.lt;have ht:=h.tx.lt;refine⟨λ k hk=>?_,ht.1⟩;simp only[Sg.S,List.mem_cons,JG.all,List.not_mem_nil,or_false] at hk;rcases hk with rfl | rfl | rfl | rfl | rfl | rfl
 ·exact ht.2
 ·exact hl.1
 ·exact hl.2
 ·exact hd.1
 ·exact hd.2.1
 ·exact hd.2.2
end Go.Proofs.YtgfbepakonjbnaaGreat
end
section
set_option linter.unusedSimpArgs false
set_option linter.unusedVariables false
namespace Go.Proofs.YtgfbepakonjbnaaGreat
open Go.RowKit Go.MapKept Go.ChangeMaps
theorem K8{w w':World}{S:List Nat}{a:Addr}{v:Value}(h:w.cell? a=some v)(hu:Upd S w w')(hS:a.block∉S):w'.cell? a=some v:=by
 rw[World.cell?_of_block (w:=w) (hu.block _ (block_lt_of_cell h) hS)];exact h
def stV(x:Nat × Nat × Nat):Value:=.agg #[.int .i64 (x.1:Int),.int .i64 (x.2.1:Int),.int .i64 (x.2.2:Int)]
structure Ad8(K:Nat->Option Pk)(but:Int)(l q free:Nat):Prop where
 le:free<=64
 none_:free<64->K free=Option.none/\free<q
 some_:∀m,m<q->m<free->K m≠Option.none
 fit:∀m,m<q->¬Bk3 K but l m
theorem Ad8.zero(K:Nat->Option Pk)(but:Int)(l:Nat):Ad8 K but l 0 64:=⟨Nat.le_refl _,λ h=>by omega,λ _ h=>by omega,λ _ h=>by omega⟩
theorem Ad8.stepNone{K:Nat->Option Pk}{but:Int}{l q free:Nat}(h:Ad8 K but l q free)(hq:q<64)(hk:K q=Option.none):Ad8 K but l (q+1) (min free q):=by
 have hfit:∀m,m<q+1->¬Bk3 K but l m:=λ m hm=>by
  by_cases e:m=q
  ·subst e;rintro⟨_,p,hp,_⟩;rw[hk] at hp;cases hp
  ·exact h.fit m (by omega)
 by_cases hf:free<64
 ·obtain⟨h1,h2⟩:=h.none_ hf;have e:min free q=free:=by omega
  rw[e];exact⟨h.le,λ _=>⟨h1,by omega⟩,λ m hm hm2=>h.some_ m (by omega) hm2,hfit⟩
 ·have e:min free q=q:=by have:=h.le;omega
  rw[e];exact⟨by omega,λ _=>⟨hk,by omega⟩,λ m hm hm2=>h.some_ m hm2 (by have:=h.le;omega),hfit⟩
theorem Ad8.stepSome{K:Nat->Option Pk}{but:Int}{l q free:Nat}(h:Ad8 K but l q free){p:Pk}(hk:K q=some p)(hn:¬Bk3 K but l q):Ad8 K but l (q+1) free:=by
 refine⟨h.le,λ hf=>⟨(h.none_ hf).1,by have:=(h.none_ hf).2;omega⟩,λ m hm hm2=>?_,λ m hm=>?_⟩
 ·by_cases e:m=q
  ·subst e;rw[hk];exact λ e=>by cases e
  ·exact h.some_ m (by omega) hm2
 ·by_cases e:m=q
  ·subst e;exact hn
  ·exact h.fit m (by omega)
theorem Ad8.found{K:Nat->Option Pk}{but:Int}{l q free:Nat}(h:Ad8 K but l q free)(hq:q<64)(hf:Bk3 K but l q):Be2 K but l q free:=
 ⟨by omega,λ _=>hf,h.fit,h.le,λ hf=>(h.none_ hf).1,h.some_⟩
theorem Ad8.done{K:Nat->Option Pk}{but:Int}{l free:Nat}(h:Ad8 K but l 64 free):Be2 K but l 64 free:=
 ⟨Nat.le_refl _,λ h=>by omega,h.fit,h.le,λ hf=>(h.none_ hf).1,h.some_⟩
theorem Z3{fn:Func}{p u:Tmp}(h:fn.results=#[.cell p 200,.tmp u])(tmps:Array Value)(w:World)(g:Nat)(x y z:Value)
  (hp:tmps.getD p undef=.pointer (some ⟨g,0,none⟩)) (hg:w.heap[g]?=some (.cells #[x,y,z] 200 (0,0))) :
  (results fn tmps).run Tryz.prog w=.ok (.tuple #[.agg #[x,y,z],tmps.getD u undef]) w:=by
 have hp':tmps[p]?.getD undef=.pointer (some ⟨g,0,none⟩):=by simpa using hp
 have c0:w.cell? ⟨g,0,none⟩=some x:=by rw[A2 hg];rfl
 have c1:w.cell? ⟨g,1,none⟩=some y:=by rw[A2 hg];rfl
 have c2:w.cell? ⟨g,2,none⟩=some z:=by rw[A2 hg];rfl
 simp[results,h,hp',asAddr,go_sem,c0,c1,c2]
theorem Ay2{fn:Func}{p u v x:Tmp}(h:fn.results=#[.cell p 200,.tmp u,.tmp v,.tmp x])(tmps:Array Value)(w:World)(g:Nat)(a b c:Value)
  (hp:tmps.getD p undef=.pointer (some ⟨g,0,none⟩)) (hg:w.heap[g]?=some (.cells #[a,b,c] 200 (0,0))) :
  (results fn tmps).run Tryz.prog w=.ok (.tuple #[.agg #[a,b,c],tmps.getD u undef,tmps.getD v undef,tmps.getD x undef]) w:=by
 have hp':tmps[p]?.getD undef=.pointer (some ⟨g,0,none⟩):=by simpa using hp
 have c0:w.cell? ⟨g,0,none⟩=some a:=by rw[A2 hg];rfl
 have c1:w.cell? ⟨g,1,none⟩=some b:=by rw[A2 hg];rfl
 have c2:w.cell? ⟨g,2,none⟩=some c:=by rw[A2 hg];rfl
 simp[results,h,hp',asAddr,go_sem,c0,c1,c2]
end Go.Proofs.YtgfbepakonjbnaaGreat
end
end
section
set_option linter.unusedSimpArgs false
set_option linter.unusedVariables false
namespace Go.Proofs.YtgfbepakonjbnaaGreat
open Go.RowKit Go.MapKept Go.ChangeMaps
section
section
variable {P:Program} {ops:Array Oper} {Q:Exit->Act->World->Prop} {md:Region.Mode}
def upL(L:Nat->Bool)(i:Nat):Nat->Bool:=λ j=>if j=i then true else L j
theorem Q3(L:Nat->Bool)(i:Nat):upL L i i=true:=by simp[upL]
theorem F9(L:Nat->Bool){i j:Nat}(h:j≠i):upL L i j=L j:=by simp[upL,h]
theorem Av0{p p':Nat->Bool}(h:∀j,p' j=true->p j=true){i:Nat}(hi:p i=true)(hi':p' i=false):∀{l:List Nat},i∈l->l.countP p'<l.countP p
 | x :: l,hm=>by
  have hle:l.countP p'<=l.countP p:=List.countP_mono_left (λ x _ hx=>h x hx);rw[List.countP_cons,List.countP_cons];by_cases hx:x=i
  ·subst hx;rw[if_pos hi,if_neg (by rw[hi'];simp)];omega
  ·have hml:i∈l:=by simpa [Ne.symm hx] using hm
   have:=Av0 h hi hi' hml;by_cases hp':p' x=true
   ·rw[if_pos hp',if_pos (h x hp')];omega
   ·rw[if_neg hp'];split<;>omega
def Bn6(md:Region.Mode)(ops:Array Oper):Bool:=(List.range ops.size).all λ j=>((ops[j]?).map (·.after.all λ e=> !Region.binds md e || decide (e.on<j))).getD true
theorem Bj7{listed:Array Bool}(hlow:Bn6 md ops=true)(hs:listed.size=ops.size)(hr:Region.ready md ops listed=[]):∀i,i<ops.size->listed.getD i false=true:=by
 intro i;induction i using Nat.strongRecOn with
 | ind i ih=>
  intro hi;cases hq:listed.getD i false with
  | true=>rfl
  | false=>
   exfalso
   have hm:i∈Region.ready md ops listed:=by
    refine mem_ready.2 ⟨?_,ops[i],Array.getElem?_eq_getElem hi,λ e he hb=>?_⟩
    ·simp[Array.getD,hs,hi] at hq ⊢;exact hq
    ·have h1:=(List.all_eq_true.1 hlow) i (List.mem_range.2 hi);rw[Array.getElem?_eq_getElem hi] at h1;simp only[Option.map_some,Option.getD_some] at h1;have h2:=Array.all_eq_true_iff_forall_mem.1 h1 e he;rw[hb] at h2;have h3:e.on<i:=by simpa using h2
     exact ih e.on h3 (by omega)
   rw[hr] at hm;cases hm
theorem Bj8(Inv:(Nat->Bool)->Act->World->Prop)
  (hstep:∀i o L a w,ops[i]?=some o->Inv L a w->L i=false->(∀e∈o.after,Region.binds md e=true->L e.on=true)->wpOp P ops Q i (λ a' w'=>Inv (upL L i) a' w') a w)
  (hend:∀L a w,Inv L a w->(∀i,i<ops.size->L i=true)->Q .normal a w) (hlow:Bn6 md ops=true) :
  ∀(fuel:Nat) (listed:Array Bool) (a:Act) (w:World),listed.size=ops.size->(List.range ops.size).countP (λ i=> !listed.getD i false)<=fuel->Inv (λ i=>listed.getD i false) a w->wpAny P md ops Q fuel listed a w
 | 0,listed,a,w,hs,hc,hI=>by
  have hall:∀i,i<ops.size->listed.getD i false=true:=λ i hi=>by
   have:=List.countP_eq_zero.1 (Nat.le_zero.1 hc) i (List.mem_range.2 hi);simpa using this
  refine⟨?_,hend _ _ _ hI hall⟩;apply List.eq_nil_iff_forall_not_mem.2;intro i hi;obtain⟨h1,o,ho,_⟩:=mem_ready.1 hi;have hlt:=(Array.getElem?_eq_some_iff.1 ho).1;have:=hall i hlt;simp[Array.getD,hs,hlt] at h1 this;rw[this] at h1;cases h1
 | fuel+1,listed,a,w,hs,hc,hI=>by
  refine⟨λ hr=>hend _ _ _ hI (Bj7 hlow hs hr),λ i hi=>?_⟩;obtain⟨h1,o,ho,hdep⟩:=mem_ready.1 hi;have hlt:=(Array.getElem?_eq_some_iff.1 ho).1;have h0:listed.getD i false=false:=by simp[Array.getD,hs,hlt] at h1 ⊢;exact h1
  refine wpOp_mono (λ a' w' hI'=>?_) (hstep i o _ a w ho hI h0 hdep);have hL:(λ j=>(listed.setIfInBounds i true).getD j false)=upL (λ j=>listed.getD j false) i:=by
   funext j
   by_cases hj:j=i
   ·subst hj;rw[Q3];simp[Array.getD,hs,hlt]
   ·rw[F9 _ hj,getD_set_ne false (Ne.symm hj)]
  refine Bj8 Inv hstep hend hlow fuel (listed.setIfInBounds i true) a' w' (by simpa using hs) ?_ (by rw[hL];exact hI');have:=Av0 (p:=λ j=> !listed.getD j false) (p':=λ j=> !(listed.setIfInBounds i true).getD j false) (λ j hj=>by
   have e:(listed.setIfInBounds i true).getD j false=upL (λ j=>listed.getD j false) i j:=congrFun hL j;rw[e] at hj;by_cases hji:j=i
   ·subst hji;rw[Q3] at hj;simp at hj
   ·rwa [F9 _ hji] at hj) (i:=i) (by rw[h0];rfl) (by have e:(listed.setIfInBounds i true).getD i false=upL (λ j=>listed.getD j false) i i:=congrFun hL i;rw[e,Q3];rfl) (List.mem_range.2 hlt)
  omega
theorem Ao1{id:Nat}{a:Act}{w:World}(Inv:(Nat->Bool)->Act->World->Prop)(hm:P.follows .mixedOrders=true)(h0:Inv (λ _=>false) a w.drew)
  (hstep:∀i o L a w,ops[i]?=some o->Inv L a w->L i=false->(∀e∈o.after,Region.binds .any e=true->L e.on=true)->wpOp P ops Q i (λ a' w'=>Inv (upL L i) a' w') a w)
  (hend:∀L a w,Inv L a w->(∀i,i<ops.size->L i=true)->Q .normal a w) (hlow:Bn6 .any ops=true):(Code.region id ops true).wp P Q a w:=by
 refine wp_region_any hm (Bj8 Inv hstep hend hlow _ _ _ _ (by simp) (Nat.le_trans List.countP_le_length (by simp)) ?_);have:(λ i=>(Array.replicate ops.size false).getD i false)=λ _=>false:=by
  funext i;simp only[Array.getD,Array.size_replicate];split<;>simp
 rw[this];exact h0
end
def tm(a:Act)(i:Nat):Value:=a.tmps[i]?.getD undef
theorem Be0{a:Act}{d:Nat}(hd:d<a.tmps.size)(v:Value)(j:Nat):tm { a with tmps:=a.tmps.setIfInBounds d v } j=if j=d then v else tm a j:=by
 unfold tm;by_cases h:j=d
 ·subst h;simp[hd]
 ·rw[if_neg h];simp[Array.getElem?_setIfInBounds,Ne.symm h]
structure Ae4 where
 al:Nat
 slot:Nat
 st:Nat
 ty:TypeId
 zero:Array Value
 fin:Array Value
def okO(V:List (Nat × Nat × Value))(B:List Ae4)(j:Nat):Bool:=(V.all λ t=> !(t.2.1 == j)) && B.all λ t=> !(t.slot == j)
structure Ag6(w0:World)(n:Nat)(a0:Act)(V:List (Nat × Nat × Value))(B:List Ae4)(L:Nat->Bool)(a:Act)(w:World):Prop where
 dfs:a.defers=[]
 size:a.tmps.size=n
 old:∀j,okO V B j=true->tm a j=tm a0 j
 upd:Upd [] w0 w
 val:∀t,t∈V->L t.1=true->tm a t.2.1=t.2.2
 blk:∀t,t∈B->L t.al=true->∃bk,tm a t.slot=.pointer (some ⟨bk,0,none⟩)/\w0.heap.size<=bk/\w.heap[bk]?=some (.cells (if L t.st then t.fin else t.zero) t.ty (0,0))
 inj:∀t u,t∈B->u∈B->t.slot≠u.slot->L t.al=true->L u.al=true->tm a t.slot≠tm a u.slot
 ord:∀t,t∈B->L t.st=true->L t.al=true
def okV(V:List (Nat × Nat × Value))(B:List Ae4)(i d:Nat):Bool:=
 (V.all λ t=>if t.1=i then t.2.1 == d else !(t.2.1 == d)) && (B.all λ t=> !(t.slot == d) && !(t.al == i) && !(t.st == i)) && V.any (λ t=>t.2.1 == d)
theorem Ag6.val_step{w0 w w':World}{n:Nat}{a0:Act}{V:List (Nat × Nat × Value)}{B:List Ae4}{L:Nat->Bool}{a:Act}(h:Ag6 w0 n a0 V B L a w)(i d:Nat)(v:Value)
  (hd:d<n) (hu:Upd [] w w') (hv:∀t,t∈V->t.1=i->t.2.2=v) (hok:okV V B i d=true):Ag6 w0 n a0 V B (upL L i) { tmps:=a.tmps.setIfInBounds d v,defers:=[] } w':=by
 simp only[okV,Bool.and_eq_true] at hok;obtain⟨⟨h1,h2⟩,h3⟩:=hok;have hV:∀t,t∈V->if t.1=i then t.2.1=d else t.2.1≠d:=λ t ht=>by
  have:=(List.all_eq_true.1 h1) t ht;split at this<;>rename_i hq
  ·rw[if_pos hq];simpa using this
  ·rw[if_neg hq];simpa using this
 have hB:∀t,t∈B->t.slot≠d/\t.al≠i/\t.st≠i:=λ t ht=>by
  have:=(List.all_eq_true.1 h2) t ht;simp at this;exact⟨this.1.1,this.1.2,this.2⟩
 have hb:∀j,okO V B j=true->j≠d:=λ j hj e=>by
  subst e;obtain⟨t,ht,e⟩:=List.any_eq_true.1 h3;simp only[okO,Bool.and_eq_true] at hj;have:=(List.all_eq_true.1 hj.1) t ht;rw[e] at this;cases this
 have key:∀j,tm { tmps:=a.tmps.setIfInBounds d v,defers:=[] } j=if j=d then v else tm a j:=λ j=>by
  have:=Be0 (a:=a) (d:=d) (by rw[h.size];exact hd) v j;unfold tm at this ⊢;exact this
 refine⟨rfl,by simpa using h.size,λ j hj=>by rw[key,if_neg (hb j hj)];exact h.old j hj,h.upd.trans hu,λ t ht hl=>?_,λ t ht hl=>?_,λ t u ht hu' hne hl hl'=>?_,λ t ht hl=>?_⟩
 ·have:=hV t ht;by_cases hq:t.1=i
  ·rw[if_pos hq] at this;rw[key,if_pos this];exact(hv t ht hq).symm
  ·rw[if_neg hq] at this;rw[key,if_neg this];exact h.val t ht (by rwa [F9 _ hq] at hl)
 ·obtain⟨g1,g2,g3⟩:=hB t ht;rw[F9 _ g2] at hl;obtain⟨bk,e1,e2,e3⟩:=h.blk t ht hl;exact⟨bk,by rw[key,if_neg g1];exact e1,e2,by rw[F9 _ g3];exact(hu.block _ (A3 e3) (by simp)).trans e3⟩
 ·obtain⟨g1,g2,_⟩:=hB t ht;obtain⟨k1,k2,_⟩:=hB u hu';rw[F9 _ g2] at hl;rw[F9 _ k2] at hl';rw[key,key,if_neg g1,if_neg k1];exact h.inj t u ht hu' hne hl hl'
 ·obtain⟨_,g2,g3⟩:=hB t ht;rw[F9 _ g3] at hl;rw[F9 _ g2];exact h.ord t ht hl
def okA(V:List (Nat × Nat × Value))(B:List Ae4)(i d:Nat):Bool:=
 (V.all λ t=> !(t.1 == i) && !(t.2.1 == d)) && (B.all λ t=> !(t.st == i) && (t.al == i) == (t.slot == d)) && B.any (λ t=>t.slot == d)
theorem Ag6.alloc_step{w0 w:World}{n:Nat}{a0:Act}{V:List (Nat × Nat × Value)}{B:List Ae4}{L:Nat->Bool}{a:Act}(h:Ag6 w0 n a0 V B L a w)(i d:Nat)(z:Array Value)(ty:TypeId)
  (hd:d<n) (hL:L i=false) (hz:∀t,t∈B->t.al=i->t.zero=z/\t.ty=ty) (hok:okA V B i d=true) :
  Ag6 w0 n a0 V B (upL L i) { tmps:=a.tmps.setIfInBounds d (.pointer (some ⟨w.heap.size,0,none⟩)),defers:=[] } (w.alloc (.cells z ty)):=by
 simp only[okA,Bool.and_eq_true] at hok;obtain⟨⟨h1,h2⟩,h3⟩:=hok;have hV:∀t,t∈V->t.1≠i/\t.2.1≠d:=λ t ht=>by simpa using (List.all_eq_true.1 h1) t ht
 have hB:∀t,t∈B->t.st≠i/\(t.al=i↔t.slot=d):=λ t ht=>by
  have:=(List.all_eq_true.1 h2) t ht;simp only[Bool.and_eq_true,Bool.not_eq_true',beq_eq_false_iff_ne] at this;refine⟨this.1,?_⟩;have h:=this.2;by_cases ha:t.al=i<;>by_cases hs:t.slot=d<;>simp[ha,hs] at h ⊢
 have hb:∀j,okO V B j=true->j≠d:=λ j hj e=>by
  subst e;obtain⟨t,ht,e⟩:=List.any_eq_true.1 h3;simp only[okO,Bool.and_eq_true] at hj;have:=(List.all_eq_true.1 hj.2) t ht;rw[e] at this;cases this
 have key:∀j,tm { tmps:=a.tmps.setIfInBounds d (.pointer (some ⟨w.heap.size,0,none⟩)),defers:=[] } j=if j=d then .pointer (some ⟨w.heap.size,0,none⟩) else tm a j:=λ j=>by
  have:=Be0 (a:=a) (d:=d) (by rw[h.size];exact hd) (.pointer (some ⟨w.heap.size,0,none⟩)) j;unfold tm at this ⊢;exact this
 have hu:Upd [] w (w.alloc (.cells z ty)):=(Upd.refl _ _).alloc _;refine⟨rfl,by simpa using h.size,λ j hj=>by rw[key,if_neg (hb j hj)];exact h.old j hj,h.upd.trans hu,λ t ht hl=>?_,λ t ht hl=>?_,λ t u ht hu' hne hl hl'=>?_,λ t ht hl=>?_⟩
 ·obtain⟨g1,g2⟩:=hV t ht;rw[key,if_neg g2];exact h.val t ht (by rwa [F9 _ g1] at hl)
 ·obtain⟨g1,g2⟩:=hB t ht;rw[F9 _ g1];by_cases hq:t.al=i
  ·have hst:L t.st=false:=by
    cases hs:L t.st with
    | false=>rfl
    | true=>have:=h.ord t ht hs;rw[hq,hL] at this;cases this
   rw[hst,key,if_pos (g2.1 hq),(hz t ht hq).1,(hz t ht hq).2];exact⟨_,rfl,h.upd.size,A4 _⟩
  ·rw[F9 _ hq] at hl;obtain⟨bk,e1,e2,e3⟩:=h.blk t ht hl;exact⟨bk,by rw[key,if_neg (λ e=>hq (g2.2 e))];exact e1,e2,(hu.block _ (A3 e3) (by simp)).trans e3⟩
 ·have fresh:∀s,s∈B->L s.al=true->tm a s.slot≠.pointer (some ⟨w.heap.size,0,none⟩):=λ s hs hls e=>by
   obtain⟨bk,e1,e2,e3⟩:=h.blk s hs hls;rw[e1] at e;injection e with e;injection e with e;injection e with e;have:=A3 e3;omega
  obtain⟨g1,g2⟩:=hB t ht;obtain⟨k1,k2⟩:=hB u hu';rw[key,key];by_cases hq:t.al=i
  ·have hq2:u.al≠i:=λ e=>hne ((g2.1 hq).trans (k2.1 e).symm);rw[if_pos (g2.1 hq),if_neg (λ e=>hq2 (k2.2 e))];rw[F9 _ hq2] at hl';exact(fresh u hu' hl').symm
  ·rw[F9 _ hq] at hl;rw[if_neg (λ e=>hq (g2.2 e))];by_cases hq2:u.al=i
   ·rw[if_pos (k2.1 hq2)];exact fresh t ht hl
   ·rw[if_neg (λ e=>hq2 (k2.2 e))];rw[F9 _ hq2] at hl';exact h.inj t u ht hu' hne hl hl'
 ·obtain⟨g1,g2⟩:=hB t ht;rw[F9 _ g1] at hl;have:=h.ord t ht hl;by_cases hq:t.al=i
  ·rw[hq,Q3]
  ·rw[F9 _ hq];exact this
def okS(V:List (Nat × Nat × Value))(B:List Ae4)(i:Nat)(s:Nat):Bool:=
 (V.all λ t=> !(t.1 == i)) && (B.all λ t=> !(t.al == i) && (t.st == i) == (t.slot == s))
theorem Ag6.store_step{w0 w:World}{n:Nat}{a0:Act}{V:List (Nat × Nat × Value)}{B:List Ae4}{L:Nat->Bool}{a:Act}(h:Ag6 w0 n a0 V B L a w){t:Ae4}(ht:t∈B){bk:Nat}
  (hs:tm a t.slot=.pointer (some ⟨bk,0,none⟩)) (hla:L t.al=true) (hw0:w0.heap.size<=bk) (hfin:∀u,u∈B->u.slot=t.slot->u=t) (hok:okS V B t.st t.slot=true) :
  Ag6 w0 n a0 V B (upL L t.st) a (w.setRow bk t.fin):=by
 simp only[okS,Bool.and_eq_true] at hok;obtain⟨h1,h2⟩:=hok;have hV:∀u,u∈V->u.1≠t.st:=λ u hu=>by simpa using (List.all_eq_true.1 h1) u hu
 have hB:∀u,u∈B->u.al≠t.st/\(u.st=t.st↔u.slot=t.slot):=λ u hu=>by
  have:=(List.all_eq_true.1 h2) u hu;simp only[Bool.and_eq_true,Bool.not_eq_true',beq_eq_false_iff_ne] at this;refine⟨this.1,?_⟩;have h:=this.2;by_cases ha:u.st=t.st<;>by_cases hs:u.slot=t.slot<;>simp[ha,hs] at h ⊢
 obtain⟨bk',e1,e2,e3⟩:=h.blk t ht hla;obtain rfl:bk'=bk:=by rw[hs] at e1;injection e1 with e;injection e with e;injection e with e;exact e.symm
 have hu:Upd [] w0 (w.setRow bk' t.fin):=by
  have hu:=h.upd;exact⟨hu.os,hu.tape,hu.output,by simpa using hu.size,λ k hk hs=>by
   rw[setRow_other _ _ _ _ (by omega)];exact hu.block k hk hs⟩
 refine⟨h.dfs,h.size,h.old,hu,λ u hu' hl=>h.val u hu' (by rwa [F9 _ (hV u hu')] at hl),λ u hu' hl=>?_,λ u v hu1 hv hne hl hl'=>?_,λ u hu' hl=>?_⟩
 ·obtain⟨g1,g2⟩:=hB u hu';rw[F9 _ g1] at hl;obtain⟨bu,f1,f2,f3⟩:=h.blk u hu' hl;by_cases hq:u.slot=t.slot
  ·obtain rfl:=hfin u hu' hq;rw[Q3,hs];exact⟨_,rfl,e2,setRow_heap _ _ _ _ _ _ e3⟩
  ·have hne:bu≠bk':=by
    rintro rfl;exact h.inj u t hu' ht hq hl hla (by rw[f1,hs])
   exact⟨bu,f1,f2,by rw[F9 _ (λ e=>hq (g2.1 e)),setRow_other _ _ _ _ hne];exact f3⟩
 ·rw[F9 _ (hB u hu1).1] at hl;rw[F9 _ (hB v hv).1] at hl';exact h.inj u v hu1 hv hne hl hl'
 ·by_cases hq:u.st=t.st
  ·obtain rfl:=hfin u hu' ((hB u hu').2.1 hq);rw[F9 _ (hB u hu').1];exact hla
  ·rw[F9 _ hq] at hl;rw[F9 _ (hB u hu').1];exact h.ord u hu' hl
def Af6(A:Array Value):List (Nat × Value)->Array Value
 | []=>A
 | p :: l=>Af6 (A.setIfInBounds p.1 p.2) l
theorem Bj9:∀(l:List (Nat × Value)) (A:Array Value),(Af6 A l).size=A.size
 | [],_=>rfl
 | p :: l,A=>by rw[Af6,Bj9 l];simp
theorem Bt3:∀(l:List (Nat × Value)) (A:Array Value) (T:Nat->Value),(∀j,j<A.size->(l.all λ p=> !(p.1 == j))=true->A[j]?.getD undef=T j)->(∀p,p∈l->T p.1=p.2)->∀j,j<A.size->(Af6 A l)[j]?.getD undef=T j
 | [],A,T,h1,_,j,hj=>h1 j hj rfl
 | p :: l,A,T,h1,h2,j,hj=>by
  rw[Af6];refine Bt3 l _ T (λ k hk hn=>?_) (λ q hq=>h2 q (by simp[hq])) j (by simpa using hj);have hk':k<A.size:=by simpa using hk
  by_cases e:k=p.1
  ·subst e;have:=h2 p (by simp);simp[hk',this]
  ·have:=h1 k hk' (by rw[List.all_cons,hn];simp[Ne.symm e]);simp only[Array.getElem?_setIfInBounds,Ne.symm e,if_false];exact this
theorem Bn7{A A0:Array Value}{l:List (Nat × Value)}(hs:A.size=A0.size)(h1:∀j,(l.all λ p=> !(p.1 == j))=true->A[j]?.getD undef=A0[j]?.getD undef)(h2:∀p,p∈l->A[p.1]?.getD undef=p.2):A=Af6 A0 l:=by
 apply Array.ext (by rw[Bj9,hs]);intro j hj hj2;have:=Bt3 l A0 (λ j=>A[j]?.getD undef) (λ j _ hn=>(h1 j hn).symm) h2 j (by omega);simp only[Array.getElem?_eq_getElem hj,Array.getElem?_eq_getElem hj2,Option.getD_some] at this;exact this.symm
theorem Ag6.start(a:Act)(w:World)(V:List (Nat × Nat × Value))(B:List Ae4)(h:a.defers=[]):Ag6 w a.tmps.size a V B (λ _=>false) a w:=
 ⟨h,rfl,λ _ _=>rfl,Upd.refl _ _,(λ _ _ h=>(by cases h)),(λ _ _ h=>(by cases h)),(λ _ _ _ _ _ h=>(by cases h)),(λ _ _ h=>(by cases h))⟩
theorem Aa5{P:Program}{ops:Array Oper}{Q:Exit->Act->World->Prop}{id:Nat}{a:Act}{w:World}(V:List (Nat × Nat × Value))(B:List Ae4)(hm:P.follows .mixedOrders=true)(hlow:Bn6 .any ops=true)(n:Nat)(hn:a.tmps.size=n)(hdf:a.defers=[])
  (hstep:∀i o L tmps w',ops[i]?=some o->Ag6 w.drew n a V B L ⟨tmps,[]⟩ w'->L i=false->(∀e∈o.after,Region.binds .any e=true->L e.on=true)->wpOp P ops Q i (λ a' w'=>Ag6 w.drew n a V B (upL L i) a' w') ⟨tmps,[]⟩ w')
  (hend:∀L tmps w',Ag6 w.drew n a V B L ⟨tmps,[]⟩ w'->(∀i,i<ops.size->L i=true)->Q .normal ⟨tmps,[]⟩ w'):(Code.region id ops true).wp P Q a w:=by
 subst hn;refine Ao1 (Ag6 w.drew a.tmps.size a V B) hm (Ag6.start a w.drew V B hdf) ?_ ?_ hlow
 ·rintro i o L ⟨tmps,dfs⟩ w' ho hI hL hd;obtain rfl:dfs=[]:=hI.dfs;exact hstep i o L tmps w' ho hI hL hd
 ·rintro L ⟨tmps,dfs⟩ w' hI hall;obtain rfl:dfs=[]:=hI.dfs;exact hend L tmps w' hI hall
theorem Ag6.tmps_eq{w0 w:World}{n:Nat}{a0:Act}{V:List (Nat × Nat × Value)}{B:List Ae4}{L:Nat->Bool}{tmps:Array Value}(h:Ag6 w0 n a0 V B L ⟨tmps,[]⟩ w)(hn:a0.tmps.size=n)(l:List (Nat × Value))
  (h1:∀j,(l.all λ p=> !(p.1 == j))=true->okO V B j=true) (h2:∀p,p∈l->tmps[p.1]?.getD undef=p.2):tmps=Af6 a0.tmps l:=
 Bn7 (h.size.trans hn.symm) (λ j hj=>h.old j (h1 j hj)) h2
end
end Go.Proofs.YtgfbepakonjbnaaGreat
end
