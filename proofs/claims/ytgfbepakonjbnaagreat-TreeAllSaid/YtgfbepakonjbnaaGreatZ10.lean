/-
  space.taken, turn, Take, Taken, Free, Left.
-/
import Derived.Test.YtgfbepakonjbnaaGreatZ09
import Derived.Lib.BytesEntry
import Derived.Laws.Rows
import Derived.Deep.MidRow
import Derived.ChangeKeysEq
import Derived.Deep.RegionHeld3
set_option maxRecDepth 100000
set_option maxHeartbeats 16000000
section
namespace Go.Proofs.YtgfbepakonjbnaaGreat
open Go.RowKit Go.MapKept Go.ChangeMaps
theorem Ay1{w:World}{k c:Nat}{F:Nat->Prop}{l:List UInt8}(h:Own w 5 F (.slice (some ⟨k,0,none⟩) 512 c) l)(hl:l.length=512){q:Nat}(hq:q<512){y:Nat}(hy:y<256):Own (w.setCell ⟨k,q,none⟩ (.int .u8 (y:Int))) 5 F (.slice (some ⟨k,0,none⟩) 512 c) (l.set q (UInt8.ofNat y)):=by
 rw[← hl] at h hq ⊢;exact Bh6 h hq hy
theorem Own.cell512{w:World}{k c:Nat}{F:Nat->Prop}{l:List UInt8}(h:Own w 5 F (.slice (some ⟨k,0,none⟩) 512 c) l)(hl:l.length=512){q:Nat}(hq:q<512):w.cell? ⟨k,q,none⟩=some (.int .u8 ((l.getD q 0).toNat:Int))/\w.frozen? ⟨k,q,none⟩=false:=by
 obtain⟨k',rest,_,e,hb⟩:=h;obtain⟨rfl,_⟩:k=k'/\_:=by simpa using e
 refine⟨?_,E4 hb q⟩;rw[A4 hb,List.getD_eq_getElem?_getD,List.getElem?_eq_getElem (by omega)];simp[List.getElem?_append_left,bts,show q<l.length from by omega,bv]
theorem Am6{w:World}{g:Sg}{M:Nat->Option Sec}(h:B7 w g M)(hh:1<g.h) :
  Calls Tryz.prog 122 #[.pointer (some ⟨g.x.tb,0,none⟩)] w λ e w'=>∃k c,e=.returned (.tuple #[.slice (some ⟨k,0,none⟩) 512 c,.int .i64 0])/\Own w' 5 (λ k=>w.heap.size<=k) (.slice (some ⟨k,0,none⟩) 512 c) (Y5 (g.cur M 1))/\B7 w' g M/\Upd [g.j.jb] w w':=by
 have HR:Hid (Calls Tryz.prog 155 #[.pointer (some ⟨g.x.tb,0,none⟩),.int .i64 1] w λ e w'=>∃v,e=.returned (.tuple #[v,.int .i64 0])/\Aa1 w' 5 (λ k=>w.heap.size<=k) v (g.cur M 1)/\B7 w' g M/\Upd [g.j.jb] w w'):=η (Bl9 h 1 hh);have hl:=h.cur_len 1;have H:=η h;clear h hh;generalize g.cur M 1=L at *;go_enter Tryz.func122,Tryz.ntmps122
 go_wp2_with fail
 refine HR.out.mono ?_;rintro e w1 ⟨v,rfl,ho,h1,hu⟩;obtain⟨k,c,rfl,_,hk,-⟩:=ho.sec hl;have ho1:=ho.own (by omega);obtain⟨hc,hf⟩:=ho1.cell512 hl (q:=0) (by omega);obtain⟨x,hx⟩:∃x,x=(L.getD 0 0).toNat:=⟨_,rfl⟩;rw[← hx] at hc;have hx8:x<256:=by rw[hx];exact UInt8.toNat_lt _
 obtain⟨y,hy⟩:∃y,y=x ||| 15:=⟨_,rfl⟩;have hor:bits BinOp.or IntKind.u8 (x:Int) 15=(y:Int):=by rw[show(15:Int)=((15:Nat):Int) from rfl,u8_or_nat x 15 hx8 (by decide),hy]
 have hy8:y<256:=by rw[hy];exact Nat.or_lt_two_pow (n:=8) hx8 (by decide)
 have o2:=Ay1 ho1 hl (q:=0) (by omega) hy8;have u2:Upd [k] w1 (w1.setCell ⟨k,0,none⟩ (.int .u8 (y:Int))):=(Upd.refl _ _).set _ (by simp);have HFX:Hid (Y5 L=L.set 0 (UInt8.ofNat y)):=by show _=_;unfold Y5;rw[hy,hx]
 have H2:=η (H.out.late h1 hu u2 (λ q hq=>by simp at hq;subst hq;exact hk));have HO2:=η o2;have HU2:=η (hu.late u2 (λ q hq=>by simp at hq;subst hq;exact .inr hk));clear ho ho1 h1 hu hx hy o2 u2;go_wp2_with fail
 go_ret2;exact⟨_,_,rfl,by rw[HFX.out];exact HO2.out,H2.out,HU2.out⟩
theorem Ay2{w:World}{g:Sg}{M:Nat->Option Sec}(h:B7 w g M)(hh:1<g.h)(v:Value)(l:List UInt8)(hr:Rd w v l)(hl:l.length=512)(s n:Nat)(si:Int)(hsi:si=(s:Int))(on:Bool)(hn:s+n<=4096)(hc:(M 1).isSome=true∨F2 M g.h<40) :
  Calls Tryz.prog 124 #[.pointer (some ⟨g.x.tb,0,none⟩),v,.int .i64 si,.int .i64 (n:Int),.bool on] w λ e w'=>e=.returned (.int .i64 0)/\B7 w' g (λ k=>if k=1 then some (Ai6 l s on n) else M k)/\Upd g.S w w':=by
 subst hsi;obtain⟨av,cv,rfl,_⟩:=id hr;have H:=η h;have HR:=η hr;have HL:=η hl;have HC:=η hc;rw[hl] at HR ⊢;clear h hr hl hc;go_enter Tryz.func124,Tryz.ntmps124
 go_wp2_with fail
 go_loopw [1,11] (λ b i wr=>∃(q:Nat) (a:Option Addr) (c:Nat),q<=n/\i=.int .i64 ((s+q:Nat):Int)/\b=.slice a 512 c/\Rd wr (.slice a 512 c) (Ai6 l s on q)/\Upd [] w wr) (λ _ i _=>s+n-(intOf i).toNat)
 case atStart=>exact⟨0,av,cv,Nat.zero_le _,rfl,rfl,HR.out,Upd.refl _ _⟩
 case round=>
  obtain⟨q,a,c,hq,rfl,rfl,hrd,hu⟩:=hrel;have HRD:=η hrd;have HU:=η hu;clear hrd hu;obtain⟨I,hI⟩:∃I,I=s+q:=⟨_,rfl⟩;rw[← hI];by_cases hlt:q<n
  ·have hlt':decide ((I:Int)<(s:Int)+(n:Int))=true:=decide_eq_true (by omega);have hlen:(Ai6 l s on q).length=512:=by rw[U0];exact HL.out
   have HSB:=η (Bm1 _ _ I on wr HRD.out (by omega) (by omega));rw[hlen] at HSB;have HST:Hid (Ai6 l s on (q+1)=Ax8 (Ai6 l s on q) I on):=by show _=_;rw[hI];rfl
   have HI:=η hI;have hI4:I<4096:=by omega
   clear hI hlen;go_wp2_with fail
   refine HSB.out.mono ?_;rintro e w1 ⟨k,c1,rfl,ho1,hu1⟩;have HO1:=η ho1.rd;have HU1:=η (HU.out.trans hu1);clear ho1 hu1;go_wp2_with fail
   exact⟨⟨q+1,_,_,by omega,by rw[HI.out];go_num,rfl,by rw[HST.out];exact HO1.out,HU1.out⟩,by have:=HI.out;simp[intOf];omega⟩
  ·obtain rfl:q=n:=by omega
   have hlt':decide ((I:Int)<(s:Int)+(q:Int))=false:=decide_eq_false (by omega);have HW:Hid (Calls Tryz.prog 140 #[.pointer (some ⟨g.x.tb,0,none⟩),.int .i64 1,.slice a 512 c] wr λ e w'=>e=.returned (.int .i64 0)/\B7 w' g (λ k=>if k=1 then some (Ai6 l s on q) else M k)/\Upd [g.x.wb] wr w'):=η (Ax9 (H.out.below HU.out) 1 hh _ _ HRD.out (by rw[U0];exact HL.out) HC.out);clear hI;go_wp2_with fail
   refine HW.out.mono ?_;rintro e w1 ⟨rfl,h1,hu1⟩;have H1:=η h1;have HU1:=η ((HU.out.mono (by simp)).trans (hu1.mono g.memw));clear h1 hu1;go_wp2_with fail
   go_ret;exact⟨rfl,H1.out,HU1.out⟩
def Sg.T(g:Sg)(M:Nat->Option Sec)(i:Nat):Bool:=Af0 (Y5 (g.cur M 1)) i
def Ai0(M:Nat->Option Sec)(s:Sec):Nat->Option Sec:=λ k=>if k=1 then some s else M k
theorem Sg.T_low{g:Sg}{M:Nat->Option Sec}(hl:(g.cur M 1).length=512){i:Nat}(hi:i<4):g.T M i=true:=by
 unfold Sg.T;rw[Ai8 (by omega),decide_eq_true hi];rfl
theorem Sg.T_turn{g:Sg}{M:Nat->Option Sec}(hl:(g.cur M 1).length=512){s n:Nat}(on:Bool)(hs:4<=s)(hn:s+n<=4096)(i:Nat):g.T (Ai0 M (Ai6 (Y5 (g.cur M 1)) s on n)) i=if s<=i/\i<s+n then on else g.T M i:=by
 unfold Sg.T;have e:g.cur (Ai0 M (Ai6 (Y5 (g.cur M 1)) s on n)) 1=Ai6 (Y5 (g.cur M 1)) s on n:=by unfold Sg.cur Ai0;rw[if_pos rfl];rfl
 have hlen:(Y5 (g.cur M 1)).length=512:=by rw[X0];exact hl
 rw[e,Ai8 (by rw[U0];omega),Bd9 on (by omega)];by_cases h4:i<4
 ·rw[decide_eq_true h4,if_neg (by omega),Ai8 (by omega),decide_eq_true h4];rfl
 ·rw[decide_eq_false h4];rfl
def Ay3(w:World)(g:Sg)(M:Nat->Option Sec)(k:Nat)(e:Ending)(w':World):Prop:=
 Upd g.S w w'/\((∃s,Aa4 (g.T M) g.h k (some s)/\e=.returned (.tuple #[.int .i64 (s:Int),.int .i64 0])/\B7 w' g (Ai0 M (Ai6 (Y5 (g.cur M 1)) s true k)))∨(Aa4 (g.T M) g.h k none/\e=.returned (.tuple #[.int .i64 0,.int .i64 7])/\B7 w' g M))
theorem By9{w:World}{g:Sg}{M:Nat->Option Sec}(h:B7 w g M)(hh:1<g.h)(hh2:g.h<=4096)(hc:(M 1).isSome=true∨F2 M g.h<40)(k:Nat)(hk:1<=k)(hk2:k<=64) :
  Calls Tryz.prog 50 #[.pointer (some ⟨g.x.tb,0,none⟩),.int .i64 (k:Int)] w (Ay3 w g M k):=by
 have HH:=η (T3 h);have H:=η h;have HC:=η hc;have hb:((g.h:Int) == 0)=false:=by rw[beq_eq_false_iff_ne];omega
 have d1:decide ((k:Int)<1)=false:=decide_eq_false (by omega);have d2:decide (64<(k:Int))=false:=decide_eq_false (by omega);have hlf:(Y5 (g.cur M 1)).length=512:=by rw[X0];exact h.cur_len 1
 have HLF:=η hlf;have HT:Hid (∀i,g.T M i=Af0 (Y5 (g.cur M 1)) i):=by show ∀i,_;exact λ _=>rfl
 obtain⟨hm,hhm⟩:∃hm,hm=g.h:=⟨_,rfl⟩;rw[← hhm] at hb HH hh hh2 HC;have HHM:=η hhm;clear h hc hlf hhm;go_enter Tryz.func50,Tryz.ntmps50
 go_wp2_with fail
 refine HH.out.mono ?_;rintro e w1 ⟨rfl,n1,hn1⟩;have hu1:Upd [] w w1:=by rw[hn1];exact(Upd.refl _ _).drewN _
 have HTK:=η (Am6 (H.out.below hu1) (by rw[← HHM.out];exact hh));have HU1:=η hu1;clear hn1 hu1;go_wp2_with fail
 refine HTK.out.mono ?_;rintro e w2 ⟨kb,c,rfl,ho2,h2,hu2⟩;have HH2:=η (T3 h2);rw[← HHM.out] at HH2;have HU2:=η ((HU1.out.mono (by simp)).trans (hu2.mono g.mem));have HO2:=η ho2;have H2:=η h2;clear ho2 h2 hu2;go_wp2_with fail
 refine HH2.out.mono ?_;rintro e w3 ⟨rfl,n3,hn3⟩;have hu3:Upd [] w2 w3:=by rw[hn3];exact(Upd.refl _ _).drewN _
 have HRD3:=η (HO2.out.rd.below hu3);have H3:=η (H2.out.below hu3);have HU3:=η (HU2.out.trans (hu3.mono (by simp)));clear hn3 hu3;go_wp2_with fail
 go_loopw [8,33] (λ run i wr=>∃q r:Nat,q<=hm/\i=.int .i64 (q:Int)/\run=.int .i64 (r:Int)/\Run (g.T M) k q r/\wr=w3) (λ _ i _=>hm-(intOf i).toNat)
 case atStart=>exact⟨0,0,Nat.zero_le _,rfl,rfl,Run.zero hk,rfl⟩
 case round=>
  obtain⟨q,r,hq,rfl,rfl,hrun,rfl⟩:=hrel;have hrl:=hrun.lt;have hrle:=hrun.le;have HRUN:=η hrun;clear hrun;by_cases hlt:q<hm
  ·have hlt':decide (q<hm)=true:=decide_eq_true hlt;have HSET:=η (Ay0 _ _ q wr HRD3.out (by rw[HLF.out];omega) (by rw[HLF.out];omega));rw[← HT.out q] at HSET;go_wp2_with fail
   refine HSET.out.mono ?_;rintro e w' ⟨rfl,rfl⟩;cases htq:g.T M q
   ·have HTQ:=η htq;clear htq;by_cases hfd:r+1=k
    ·have e1:(((r:Int)+1) == (k:Int))=true:=by rw[beq_iff_eq];omega
     obtain⟨s,hs⟩:∃s,s=q+1-k:=⟨_,rfl⟩;have HFF:=η (HRUN.out.found HTQ.out hfd hlt);rw[← hs] at HFF;have HTU:=η (Ay2 H3.out (by rw[← HHM.out];exact hh) _ _ HRD3.out HLF.out s k ((q:Int)-(k:Int)+1) (by omega) true (by omega) (by rw[← HHM.out];exact HC.out));have HSI:Hid ((q:Int)-(k:Int)+1=(s:Int)):=by show _=_;omega
     clear hs hfd;go_wp2_with fail
     refine HTU.out.mono ?_;rintro e w5 ⟨rfl,h5,hu5⟩;have H5:=η h5;have HU5:=η (HU3.out.trans hu5);clear h5 hu5;go_wp2_with fail
     go_ret2;refine⟨HU5.out,.inl ⟨s,by rw[← HHM.out];exact HFF.out,by rw[← HSI.out];rfl,H5.out⟩⟩
    ·have e1:(((r:Int)+1) == (k:Int))=false:=by rw[beq_eq_false_iff_ne];omega
     go_wp2_with fail
     exact⟨⟨q+1,r+1,by omega,by go_num,by go_num,HRUN.out.next HTQ.out (by omega),trivial⟩,by simp[intOf];omega⟩
   ·have e1:((0:Int) == (k:Int))=false:=by rw[beq_eq_false_iff_ne];omega
    have HTQ:=η htq;clear htq;go_wp2_with fail
    exact⟨⟨q+1,0,by omega,by go_num,rfl,HRUN.out.set HTQ.out,trivial⟩,by simp[intOf];omega⟩
  ·obtain rfl:q=hm:=by omega
   have hlt':decide (q<q)=false:=decide_eq_false (by omega);go_wp2_with fail
   go_ret2;exact⟨HU3.out,.inr ⟨by rw[← HHM.out];exact HRUN.out.full,rfl,H3.out⟩⟩
theorem Ay4{w:World}{g:Sg}{M:Nat->Option Sec}(h:B7 w g M)(hh:1<g.h)(hh2:g.h<=4096)(i:Nat)(hi:i<g.h) :
  Calls Tryz.prog 199 #[.pointer (some ⟨g.x.tb,0,none⟩),.int .i64 (i:Int)] w λ e w'=>e=.returned (.tuple #[.bool (g.T M i),.int .i64 0])/\B7 w' g M/\Upd g.S w w':=by
 have HH:=η (T3 h);have H:=η h;have hb:((g.h:Int) == 0)=false:=by rw[beq_eq_false_iff_ne];omega
 have d1:decide ((i:Int)<0)=false:=decide_eq_false (by omega);have d2:decide (g.h<=i)=false:=decide_eq_false (by omega);have hlf:(Y5 (g.cur M 1)).length=512:=by rw[X0];exact h.cur_len 1
 have HLF:=η hlf;have HT:Hid (g.T M i=Af0 (Y5 (g.cur M 1)) i):=rfl;clear h hlf;go_enter Tryz.func199,Tryz.ntmps199
 go_wp2_with fail
 refine HH.out.mono ?_;rintro e w1 ⟨rfl,n1,hn1⟩;have hu1:Upd [] w w1:=by rw[hn1];exact(Upd.refl _ _).drewN _
 have HTK:=η (Am6 (H.out.below hu1) hh);have HU1:=η hu1;clear hn1 hu1;go_wp2_with fail
 refine HTK.out.mono ?_;rintro e w2 ⟨kb,c,rfl,ho2,h2,hu2⟩;have HSET:=η (Ay0 _ _ i w2 ho2.rd (by rw[HLF.out];omega) (by rw[HLF.out];omega));have HU2:=η ((HU1.out.mono (by simp)).trans (hu2.mono g.mem));have H2:=η h2;clear ho2 h2 hu2;go_wp2_with fail
 refine HSET.out.mono ?_;rintro e w' ⟨rfl,rfl⟩;go_wp2_with fail
 go_ret2;exact⟨by rw[HT.out];rfl,H2.out,HU2.out⟩
theorem Cl5{w:World}{g:Sg}{M:Nat->Option Sec}(h:B7 w g M)(hh:1<g.h)(hh2:g.h<=4096)(hc:(M 1).isSome=true∨F2 M g.h<40)(s n:Nat)(hn:1<=n)(hn2:n<=64)(hs:4<=s)(hs2:s+n<=g.h)(ht:∀q,q<n->g.T M (s+q)=true) :
  Calls Tryz.prog 129 #[.pointer (some ⟨g.x.tb,0,none⟩),.int .i64 (s:Int),.int .i64 (n:Int)] w λ e w'=>e=.returned (.int .i64 0)/\B7 w' g (Ai0 M (Ai6 (Y5 (g.cur M 1)) s false n))/\Upd g.S w w':=by
 have HH:=η (T3 h);have H:=η h;have HC:=η hc;have HTT:=η ht;have hb:((g.h:Int) == 0)=false:=by rw[beq_eq_false_iff_ne];omega
 have d1:decide ((n:Int)<1)=false:=decide_eq_false (by omega);have d2:decide (64<(n:Int))=false:=decide_eq_false (by omega);have d3:decide ((s:Int)<4)=false:=decide_eq_false (by omega);have d4:decide ((g.h:Int)-(n:Int)<(s:Int))=false:=decide_eq_false (by omega);have hlf:(Y5 (g.cur M 1)).length=512:=by rw[X0];exact h.cur_len 1
 have HLF:=η hlf;have HT:Hid (∀i,g.T M i=Af0 (Y5 (g.cur M 1)) i):=by show ∀i,_;exact λ _=>rfl
 clear h hc ht hlf;go_enter Tryz.func129,Tryz.ntmps129
 go_wp2_with fail
 refine HH.out.mono ?_;rintro e w1 ⟨rfl,n1,hn1⟩;have hu1:Upd [] w w1:=by rw[hn1];exact(Upd.refl _ _).drewN _
 have HTK:=η (Am6 (H.out.below hu1) hh);have HU1:=η hu1;clear hn1 hu1;go_wp2_with fail
 refine HTK.out.mono ?_;rintro e w2 ⟨kb,c,rfl,ho2,h2,hu2⟩;have HU2:=η ((HU1.out.mono (by simp)).trans (hu2.mono g.mem));have HRD2:=η ho2.rd;have H2:=η h2;clear ho2 h2 hu2;go_wp2_with fail
 go_loopw [10] (λ i wr=>∃q:Nat,q<=n/\i=.int .i64 ((s+q:Nat):Int)/\wr=w2) (λ i _=>s+n-(intOf i).toNat)
 case atStart=>exact⟨0,Nat.zero_le _,rfl,rfl⟩
 case round=>
  obtain⟨q,hq,rfl,rfl⟩:=hrel;obtain⟨I,hI⟩:∃I,I=s+q:=⟨_,rfl⟩;rw[← hI];by_cases hlt:q<n
  ·have hlt':decide ((I:Int)<(s:Int)+(n:Int))=true:=decide_eq_true (by omega);have HSET:=η (Ay0 _ _ I wr HRD2.out (by rw[HLF.out];omega) (by rw[HLF.out];omega));rw[← HT.out I,hI,HTT.out q hlt,← hI] at HSET;have HI:=η hI;have hI4:I<4096:=by omega
   clear hI;go_wp2_with fail
   refine HSET.out.mono ?_;rintro e w' ⟨rfl,rfl⟩;go_wp2_with fail
   exact⟨⟨q+1,by omega,by rw[HI.out];go_num,trivial⟩,by have:=HI.out;simp[intOf];omega⟩
  ·obtain rfl:q=n:=by omega
   have hlt':decide ((I:Int)<(s:Int)+(q:Int))=false:=decide_eq_false (by omega);have HTU:=η (Ay2 H2.out hh _ _ HRD2.out HLF.out s q (s:Int) rfl false (by omega) HC.out);clear hI;go_wp2_with fail
   refine HTU.out.mono ?_;rintro e w5 ⟨rfl,h5,hu5⟩;have H5:=η h5;have HU5:=η (HU2.out.trans hu5);clear h5 hu5;go_wp2_with fail
   go_ret;exact⟨rfl,H5.out,HU5.out⟩
def N3(T:Nat->Bool):Nat->Nat
 | 0=>0
 | h+1=>if T h then N3 T h else N3 T h+1
def b15:Sec:=F9.set 0 15
theorem Am7:b15.length=512:=by unfold b15;rw[List.length_set,C0]
def Ad9(q:Nat):Nat->Option Sec:=λ k=>if k<q then some (if k=1 then b15 else F9) else none
theorem Ay5{q:Nat}:(λ k=>if k=q then some (if q=1 then b15 else F9) else Ad9 q k)=Ad9 (q+1):=by
 funext k
 unfold Ad9;by_cases h1:k=q
 ·subst h1;rw[if_pos rfl,if_pos (show k<k+1 by omega)]
 ·rw[if_neg h1];by_cases h2:k<q
  ·rw[if_pos h2,if_pos (show k<q+1 by omega)]
  ·rw[if_neg h2,if_neg (show ¬k<q+1 by omega)]
theorem Be0:Ad9 0=λ _=>none:=by funext k;unfold Ad9;rw[if_neg (by omega)]
theorem Bv8{q h:Nat}(hq:q<=h):MOk (Ad9 q) h:=by
 intro i x hx;unfold Ad9 at hx;split at hx
 ·cases hx
  refine⟨by omega,?_⟩;split
  ·exact Am7
  ·exact C0
 ·simp at hx
theorem Ao3{h:Nat}:∀{q:Nat},q<=h->F2 (Ad9 q) h<=q
 | 0,_=>by rw[Be0,Ae8];omega
 | q+1,hq=>by
  rw[← Ay5,Ao2 (Bv8 (by omega)) (by omega)];have:=Ao3 (q:=q) (h:=h) (by omega);split<;>omega
theorem Bm2{w:World}{g:Sg}(h:B7 w g (λ _=>none))(hh:4<=g.h) :
  Calls Tryz.prog 109 #[.pointer (some ⟨g.x.tb,0,none⟩)] w λ e w'=>e=.returned (.int .i64 0)/\B7 w' g (Ad9 4)/\Upd g.S w w':=by
 have H:=η h;have hmk:=P7;clear h;go_enter Tryz.func109,Tryz.ntmps109
 go_wp2_with fail
 go_loopw [6] (λ i wr=>∃q:Nat,q<=4/\i=.int .i64 (q:Int)/\B7 wr g (Ad9 q)/\Upd g.S w wr) (λ i _=>4-(intOf i).toNat)
 case atStart=>exact⟨0,by omega,rfl,by rw[Be0];exact H.out,Upd.refl _ _⟩
 case round=>
  obtain⟨q,hq,rfl,hs,hu⟩:=hrel;by_cases hlt:q<4
  ·have hlt':decide ((q:Int)<4)=true:=decide_eq_true (by omega);have hcn:F2 (Ad9 q) g.h<40:=by have:=Ao3 (q:=q) (h:=g.h) (by omega);omega
   have hb1:(wr.alloc (.cells (bts F9).toArray 5)).heap[wr.heap.size]?=some (.cells (bts F9).toArray 5 (0,0)):=A6 _;have hu1:Upd [] wr (wr.alloc (.cells (bts F9).toArray 5)):=(Upd.refl _ _).alloc _;obtain⟨w1,hw1⟩:∃w1,w1=wr.alloc (.cells (bts F9).toArray 5):=⟨_,rfl⟩;have hmk1:(Instr.makeSlice 32 (.int .i64 512) (.int .i64 512)).run Tryz.prog wr=.ok (.slice (some ⟨wr.heap.size,0,none⟩) 512 512) w1:=by rw[hw1];exact P7 wr
   rw[← hw1] at hb1 hu1;have HS:=η hs;have HU:=η hu;clear hw1 hmk hs hu;by_cases h1:q=1
   ·subst h1;have o1:Own w1 5 (λ k=>wr.heap.size<=k) (.slice (some ⟨wr.heap.size,0,none⟩) 512 512) F9:=⟨wr.heap.size,[],Nat.le_refl _,by rw[C0];rfl,by simpa using hb1⟩;obtain⟨hc,hf⟩:=o1.cell512 C0 (q:=0) (by omega);have o2:=Ay1 o1 C0 (q:=0) (by omega) (y:=15) (by omega);have u2:Upd [] wr (w1.setCell ⟨wr.heap.size,0,none⟩ (.int .u8 ((15:Nat):Int))):=hu1.set _ (.inr (Nat.le_refl _));have HW:=η (Ax9 (HS.out.below u2) 1 (by omega) _ _ o2.rd Am7 (.inr hcn));have HPM:=η (Ay5 (q:=1));have HU2:=η (HU.out.trans (u2.mono (by simp)));clear hb1 hu1 o1 o2 u2 hcn;go_wp2_with fail
    refine HW.out.mono ?_;rintro e w3 ⟨rfl,h3,hu3⟩;have H3:=η h3;have HU3:=η (HU2.out.trans (hu3.mono g.memw));clear h3 hu3;go_wp2_with fail
    exact⟨⟨1+1,by omega,by go_num,by rw[← HPM.out];exact H3.out,HU3.out⟩,by simp[intOf]⟩
   ·have d1:((q:Int) == 1)=false:=by rw[beq_eq_false_iff_ne];omega
    have HPM:Hid ((λ k=>if k=q then some F9 else Ad9 q k)=Ad9 (q+1)):=by
     show _=_
     rw[← Ay5];funext k;rw[if_neg h1]
    have HW:=η (Ax9 (HS.out.below hu1) q (by omega) _ _ (Co5 hb1 C0) C0 (.inr hcn));have HU2:=η (HU.out.trans (hu1.mono (by simp)));clear hb1 hu1 hcn h1;go_wp2_with fail
    refine HW.out.mono ?_;rintro e w3 ⟨rfl,h3,hu3⟩;have H3:=η h3;have HU3:=η (HU2.out.trans (hu3.mono g.memw));clear h3 hu3;go_wp2_with fail
    exact⟨⟨q+1,by omega,by go_num,by rw[← HPM.out];exact H3.out,HU3.out⟩,by simp[intOf];omega⟩
  ·obtain rfl:q=4:=by omega
   have hlt':decide (((4:Nat):Int)<4)=false:=rfl;have HS:=η hs;have HU:=η hu;clear hs hu;go_wp2_with fail
   go_ret;exact⟨rfl,HS.out,HU.out⟩
theorem Cl6:b15=Y5 F9:=by
 unfold b15 Y5;congr 1
theorem Cf7(i:Nat):Af0 (Y5 b15) i=decide (i<4):=by
 rw[Ai8 (by rw[Am7];omega),Cl6,Ai8 (by rw[C0];omega),By8];simp
structure Bz0(w0 w:World)(g:Sg)(n ring:Nat):Prop where
 sp:B7 w g (λ _=>none)
 n:g.n=n
 ring:g.ring=ring
 T:∀i,g.T (λ _=>none) i=decide (i<4)
 zero:g.H 0=F9
 turn:g.turn=g.t-1
 t:g.t<=2
 m:g.m<=3
 late:∀k,k∈g.x.tb :: g.S->w0.heap.size<=k
 zer:∀i,i≠1->g.H i=F9
theorem U5{a b c:World}{S:List Nat}(h:Upd [] a b)(k:Upd S b c)(hS:∀i,i∈S->a.heap.size<=i):Upd [] a c:=h.late k λ i hi=> .inr (hS i hi)
theorem Cf8(n ring:Nat)(ni:Int)(hni:ni=(n:Int))(h0:32<=n)(h1:n<=4096)(r0:8<=ring)(r1:ring<=1024)(r2:ring+10<=n)(w:World) :
  Calls Tryz.prog 40 #[.int .i64 ni,.int .i64 (ring:Int)] w λ e w'=>∃g:Sg,e=.returned (.tuple #[.pointer (some ⟨g.j.jb,0,none⟩),.pointer (some ⟨g.x.tb,0,none⟩)])/\Bz0 w w' g n ring/\Upd [] w w':=by
 subst hni;have HN:=η (Ck9 n ring h0 h1 r0 r1 r2 w);go_enter Tryz.func40,Tryz.ntmps40
 go_wp2_with fail
 refine HN.out.mono ?_;rintro e w1 ⟨j,rfl,hj,⟨J1,D1,hr1,_⟩,hu1⟩;have HJ:=η hj;have HB:=η (Ax3 hr1);have HR1:=η hr1;have HU1:=η hu1;clear hj hr1 hu1;go_wp2_with fail
 refine HB.out.mono ?_;rintro e w2 ⟨x,rfl,hx1,hx2,hx,hr2,hu2,hfx⟩;have hsp:B7 w2 ⟨x,j,J1,D1,n,ring,1-1,1,2,λ _=>F9⟩ (λ _=>none):=⟨hr2,hx,HR1.out.at_.late hx2,MOk.none _,λ _=>C0,hfx⟩;have HXL:Hid (w.heap.size<=x.tb/\w.heap.size<=x.wb):=⟨Nat.le_trans HU1.out.size hx1,Nat.le_trans HU1.out.size hx2⟩;have HU2:=η (HU1.out.lateJ hu2 HJ.out);have HFM:=η (Bm2 hsp (by show 4<=n-2-ring;omega));clear hx1 hx2 hx hr2 hu2 hsp hfx;go_wp2_with fail
 refine HFM.out.mono ?_;rintro e w3 ⟨rfl,h3,hu3⟩;have hJall:∀k,k∈j.all->w.heap.size<=k:=λ k hk=>by
  obtain⟨k1,k2,k3,k4,k5⟩:=HJ.out;simp[JG.all] at hk;rcases hk with rfl | rfl | rfl | rfl | rfl
  ·exact k1
  ·exact k2
  ·exact k3
  ·exact k4
  ·exact k5
 have HJA:=η hJall;have HU3:=η (U5 HU2.out hu3 (λ k hk=>by
  simp[Sg.S] at hk;rcases hk with rfl | hk
  ·exact HXL.out.2
  ·exact hJall k hk))
 have HCM:=η (Bd7 h3.jr h3.tx h3.ne h3.ok (by show n<=5000;omega) (by have:=Ao3 (q:=4) (h:=n-2-ring) (by omega);show F2 (Ad9 4) (n-2-ring)<=40;omega) (by have:=Ao3 (q:=4) (h:=n-2-ring) (by omega);show F2 (Ad9 4) (n-2-ring)<ring;omega) (by show(1:Int)<1000000;omega) (by show(2:Int)<1000000;omega));clear h3 hu3 hJall;go_wp2_with fail
 refine HCM.out.mono ?_;rintro e w4 ⟨rfl,_,⟨J4,D4,t4,hr4,ht4⟩,hu4⟩;replace hr4:V4 w4 j J4 D4 n ring t4 (2+1) (λ i=>(Ad9 4 i).getD F9):=hr4;have HT4:Hid (t4<=2):=by
  show t4<=2
  rw[ht4];split
  ·show(1:Int)<=2;omega
  ·show(1:Int)+1<=2;omega
 have HU4:=η (U5 HU3.out hu4 (λ k hk=>by
  simp only[List.mem_cons] at hk;rcases hk with rfl | hk
  ·exact HXL.out.1
  ·exact HJA.out k hk))
 have HB4:=η (Ax3 hr4);have HR4:=η hr4;clear hr4 hu4 ht4;go_wp2_with fail
 refine HB4.out.mono ?_;rintro e w5 ⟨y,rfl,hy1,hy2,hy,hr5,hu5,hfy⟩;have hHl:∀i,((Ad9 4 i).getD F9).length=512:=λ i=>by
  cases hq:Ad9 4 i with
  | none=>exact C0
  | some s=>exact(Bv8 (q:=4) (h:=4) (Nat.le_refl _) i s hq).2
 have hbg:Bz0 w w5 ⟨y,j,J4,D4,n,ring,t4-1,t4,2+1,λ i=>(Ad9 4 i).getD F9⟩ n ring:=by
  refine⟨⟨hr5,hy,HR4.out.at_.late hy2,MOk.none _,hHl,hfy⟩,rfl,rfl,λ i=>?_,rfl,rfl,HT4.out,by show(2:Int)+1<=3;omega,λ k hk=>?_,λ i hi=>?_⟩
  ·exact Cf7 i
  ·simp only[List.mem_cons,Sg.S] at hk;rcases hk with rfl | rfl | hk
   ·exact Nat.le_trans HU4.out.size hy1
   ·exact Nat.le_trans HU4.out.size hy2
   ·exact HJA.out k hk
  ·show(Ad9 4 i).getD F9=F9
   unfold Ad9;by_cases h4:i<4
   ·rw[if_pos h4,if_neg hi];rfl
   ·rw[if_neg h4];rfl
 have HBG:=η hbg;have HU5:=η (U5 HU4.out hu5 HJA.out);clear hy1 hy2 hy hr5 hu5 hHl hbg;go_wp2_with fail
 go_ret2;exact⟨_,rfl,HBG.out,HU5.out⟩
theorem Ao4{T:Nat->Bool}{h k s:Nat}{r:Option Nat}(hr:Aa4 T h k r)(h1:s+k<=h)(h2:∀q,q<k->T (s+q)=false)(h3:∀s',s'<s->∃q,q<k/\T (s'+q)=true):r=some s:=
 hr.uniq (b:=some s) ⟨h1,h2,λ s' hs hf=>by obtain⟨q,hq,ht⟩:=h3 s' hs;rw[hf q hq] at ht;simp at ht⟩
theorem Ay3.at{w:World}{g:Sg}{M:Nat->Option Sec}{k s:Nat}{e:Ending}{w':World}(h:Ay3 w g M k e w')(h1:s+k<=g.h)(h2:∀q,q<k->g.T M (s+q)=false)(h3:∀s',s'<s->∃q,q<k/\g.T M (s'+q)=true) :
  e=.returned (.tuple #[.int .i64 (s:Int),.int .i64 0])/\B7 w' g (Ai0 M (Ai6 (Y5 (g.cur M 1)) s true k))/\Upd g.S w w':=by
 obtain⟨hu,⟨s',hf,he,hs⟩ | ⟨hf,_,_⟩⟩:=h
 ·have:=Ao4 hf h1 h2 h3;obtain rfl:s'=s:=by simpa using this
  exact⟨he,hs,hu⟩
 ·have:=Ao4 hf h1 h2 h3;simp at this
end Go.Proofs.YtgfbepakonjbnaaGreat
end
section
section
namespace Go.Proofs.YtgfbepakonjbnaaGreat
open Go.RowKit Go.MapKept Go.ChangeMaps
def arr(l:List UInt8):Value:=.agg (bts l).toArray
def ltB:List UInt8->List UInt8->Bool
 | [],[]=>false
 | [],_ :: _=>true
 | _ :: _,[]=>false
 | x :: a,y :: b=>if x.toNat<y.toNat then true else if y.toNat<x.toNat then false else ltB a b
theorem L5:∀a,ltB a a=false
 | []=>rfl
 | x :: a=>by unfold ltB;rw[if_neg (by omega),if_neg (by omega)];exact L5 a
theorem I8:∀{a b c},ltB a b=true->ltB b c=true->ltB a c=true
 | [],[],c,h,_=>by simp[ltB] at h
 | [],y :: b,[],_,h=>by simp[ltB] at h
 | [],y :: b,z :: c,_,_=>rfl
 | x :: a,[],c,h,_=>by simp[ltB] at h
 | x :: a,y :: b,[],_,h=>by simp[ltB] at h
 | x :: a,y :: b,z :: c,h,k=>by
  unfold ltB at h k ⊢;by_cases h1:x.toNat<y.toNat
  ·by_cases k1:y.toNat<z.toNat
   ·rw[if_pos (by omega)]
   ·rw[if_neg k1] at k;by_cases k2:z.toNat<y.toNat
    ·rw[if_pos k2] at k;simp at k
    ·rw[if_pos (by omega)]
  ·rw[if_neg h1] at h;by_cases h2:y.toNat<x.toNat
   ·rw[if_pos h2] at h;simp at h
   ·rw[if_neg h2] at h;by_cases k1:y.toNat<z.toNat
    ·rw[if_pos (by omega)]
    ·rw[if_neg k1] at k;by_cases k2:z.toNat<y.toNat
     ·rw[if_pos k2] at k;simp at k
     ·rw[if_neg k2] at k;rw[if_neg (by omega),if_neg (by omega)];exact I8 h k
theorem P3{a b:List UInt8}(h:ltB a b=true):ltB b a=false:=by
 cases q:ltB b a
 ·rfl
 ·have:=I8 h q;rw[L5] at this;simp at this
theorem X1:∀{a b:List UInt8},ltB a b=false->ltB b a=false->a=b
 | [],[],_,_=>rfl
 | [],y :: b,h,_=>by simp[ltB] at h
 | x :: a,[],_,h=>by simp[ltB] at h
 | x :: a,y :: b,h,k=>by
  unfold ltB at h k;by_cases h1:x.toNat<y.toNat
  ·rw[if_pos h1] at h;simp at h
  ·rw[if_neg h1] at h;by_cases h2:y.toNat<x.toNat
   ·rw[if_pos h2] at k;simp at k
   ·rw[if_neg h2] at h;rw[if_neg h2,if_neg h1] at k;rw[UInt8.toNat_inj.1 (show x.toNat=y.toNat by omega),X1 h k]
theorem Cf9:∀(a b:List UInt8),decide (Lib.compareBytes a b<0)=ltB a b
 | [],[]=>by simp[Lib.compareBytes,ltB]
 | [],y :: b=>by simp[Lib.compareBytes,ltB]
 | x :: a,[]=>by simp[Lib.compareBytes,ltB]
 | x :: a,y :: b=>by
  have ih:=Cf9 a b;unfold ltB Lib.compareBytes;simp only[UInt8.lt_iff_toNat_lt];by_cases h1:x.toNat<y.toNat
  ·rw[if_pos h1,if_pos h1];rfl
  ·rw[if_neg h1,if_neg h1];by_cases h2:y.toNat<x.toNat
   ·rw[if_pos h2,if_pos h2];rfl
   ·rw[if_neg h2,if_neg h2];exact ih
theorem At1{w:World}{v:Value}{l:List UInt8}(h:Rd w v l):(Extern.Bytes.bytesOf v).run Tryz.prog w=.ok ⟨l.toArray⟩ w:=by
 obtain⟨ao,cap,rfl,hc,hh⟩:=h;cases ao with
 | none=>
  cases l with
  | nil=>rfl
  | cons x l=>obtain⟨b,off,h,_⟩:=hh (by simp);simp at h
 | some a=>
  by_cases hp:0<l.length
  ·obtain⟨b,off,hab,hcell⟩:=hh hp;cases hab
   have:=Lib.run_loadBytesX (P:=Tryz.prog) w (l.map λ c=>(c.toNat:Int)) ⟨b,off,none⟩ .empty (λ j x hj=>by
    rw[List.getElem?_map] at hj;have hjl:j<l.length:=by
     rcases Nat.lt_or_ge j l.length with r | r
     ·exact r
     ·rw[List.getElem?_eq_none r] at hj;simp at hj
    rw[List.getElem?_eq_getElem hjl] at hj;simp at hj;rw[I5,hcell j hjl,← hj];rfl)
   rw[List.length_map] at this;show(Extern.Bytes.loadBytes ⟨b,off,none⟩ l.length .empty).run Tryz.prog w=_
   rw[this];congr 1
   apply ByteArray.ext;show(#[]:Array UInt8)++(Lib.bytesOf (l.map λ c=>(c.toNat:Int))).toArray=l.toArray
   simp[Lib.bytesOf];exact(List.map_congr_left λ c _=>by simp).trans (List.map_id _)
  ·have:l=[]:=by cases l with | nil=>rfl | cons x l=>simp at hp
   subst this;rfl
theorem Cl7{w:World}{v1 v2:Value}{a b:List UInt8}(h1:Rd w v1 a)(h2:Rd w v2 b):(Extern.BytealgCompare.compare #[v1,v2]).run Tryz.prog w=.ok (.int .i64 (Lib.compareBytes a b)) w:=by
 change Sem.run Tryz.prog (do pure (goInt (Extern.BytealgCompare.cmp (← Extern.Bytes.bytesOf v1) (← Extern.Bytes.bytesOf v2)))) w=_
 simp only[Sem.run_bind,At1 h1,At1 h2,Sem.run_pure,Result.andThen];rw[Lib.cmp_eq];rfl
theorem Bh7{w:World}{v1 v2:Value}{a b:List UInt8}(h1:Rd w v1 a)(h2:Rd w v2 b) :
  Calls Tryz.prog 212 #[v1,v2] w λ e w'=>e=.returned (.int .i64 (Lib.compareBytes a b))/\w=w':=by
 have hr:=Cl7 h1 h2;clear h1 h2;go_enter Tryz.func212,Tryz.ntmps212
 go_wp2
 rw[run_callFunc_extern Tryz.func239 (by kernel_rfl) (by kernel_rfl) (by kernel_rfl) (e:=Extern.BytealgCompare.compare) (by kernel_rfl),hr];simp only[Result.andThen];rw[Oper.upon_value];go_wp2
 go_ret;exact⟨rfl,rfl⟩
theorem Ay6{w:World}{b:Nat}{l:List UInt8}{T:TypeId}{fr:Nat × Nat}(h:w.heap[b]?=some (.cells (bts l).toArray T fr))(hl:l.length=32):Rd w (.slice (some ⟨b,0,none⟩) 32 32) l:=by
 refine⟨some ⟨b,0,none⟩,32,by rw[hl],by omega,λ _=>⟨b,0,rfl,λ i hi=>?_⟩⟩;rw[A4 h,List.getElem?_toArray,Nat.zero_add];simp[bts,hi]
theorem Be1(a b:List UInt8)(ha:a.length=32)(hb:b.length=32)(w:World) :
  Calls Tryz.prog 138 #[arr a,arr b] w λ e w'=>e=.returned (.bool (ltB a b))/\Upd [] w w':=by
 obtain⟨w2,hw2⟩:∃w2,w2=(w.alloc (.cells (bts a).toArray 35)).alloc (.cells (bts b).toArray 35):=⟨_,rfl⟩;have hu:Upd [] w w2:=by rw[hw2];exact((Upd.refl _ _).alloc _).alloc _
 have h1:w2.heap[w.heap.size]?=some (.cells (bts a).toArray 35 (0,0)):=by
  rw[hw2,A9 (by simp)];exact A6 _
 have h2:w2.heap[w.heap.size+1]?=some (.cells (bts b).toArray 35 (0,0)):=by
  rw[hw2];have:=A6 (w:=w.alloc (.cells (bts a).toArray 35)) (.cells (bts b).toArray 35);simpa using this
 have HC:=η (λ n=>Bh7 (w:=w2.drewN n) (Ay6 (b:=w.heap.size) h1 ha) (Ay6 (b:=w.heap.size+1) h2 hb));have HU:=η hu;have HW:=η hw2;have hlt:=Cf9 a b;clear hu h1 h2 hw2;unfold arr;go_enter Tryz.func138,Tryz.ntmps138
 go_wp2
 have hw2:=HW.out;rw[← hw2];clear hw2;go_quiet ((go_at_call 212;exact Calls.quiet_of_same ((HC.out _).mono λ _ _ ⟨a,b⟩=>⟨a,b.symm⟩)))
 all_goals
  go_wp2
  go_ret;exact⟨rfl,HU.out.drewN _⟩
end Go.Proofs.YtgfbepakonjbnaaGreat
end
section
namespace Go.Proofs.YtgfbepakonjbnaaGreat
open Go.RowKit Go.MapKept Go.ChangeMaps
theorem Am8:Tryz.prog.cellsOf 5=1:=by kernel_rfl
theorem Ai9(d:Nat)(a b:List UInt8)(w:World):∀is:List Nat,(∀i,i∈is->i<a.length/\i<b.length)->
  ∃r:Bool,(Op.eqItems (d+1) 5 1 (bts a).toArray (bts b).toArray is).run Tryz.prog w=.ok r w/\(r=true↔∀i,i∈is->a[i]?=b[i]?)
 | [],_=>⟨true,by simp[Op.eqItems],by simp⟩
 | i :: is,h=>by
  obtain⟨hi,hj⟩:=h i (by simp);obtain⟨r,hr,hiff⟩:=Ai9 d a b w is (λ k hk=>h k (by simp[hk]));have e1:(bts a).toArray[i]?=some (bv a[i]):=by simp[bts,hi]
  have e2:(bts b).toArray[i]?=some (bv b[i]):=by simp[bts,hj]
  have p1:=run_part_plain (P:=Tryz.prog) (w:=w) (e:=5) (by kernel_rfl) e1;have p2:=run_part_plain (P:=Tryz.prog) (w:=w) (e:=5) (by kernel_rfl) e2;have p3:=run_equalIn_int (P:=Tryz.prog) w d 5 .u8 .u8 (a[i].toNat:Int) (b[i].toNat:Int) Tryz.underlying5;unfold Op.eqItems;simp only[Nat.mul_one,Sem.run_bind,p1,p2,Result.andThen_ok];unfold bv;simp only[p3,Result.andThen_ok];by_cases hab:a[i]=b[i]
  ·refine⟨r,by simp[hab,hr],?_⟩;rw[hiff];simp only[List.mem_cons,forall_eq_or_imp,List.getElem?_eq_getElem hi,List.getElem?_eq_getElem hj,hab,true_and]
  ·have:((a[i].toNat:Int) == (b[i].toNat:Int))=false:=by
    rw[beq_eq_false_iff_ne];intro q;exact hab (UInt8.toNat_inj.1 (by omega))
   refine⟨false,by simp[this],?_⟩;simp only[Bool.false_eq_true,false_iff,List.mem_cons,forall_eq_or_imp,List.getElem?_eq_getElem hi,List.getElem?_eq_getElem hj,Option.some.injEq];exact λ q=>hab q.1
theorem Ak5{a b:List UInt8}(ha:a.length=32)(hb:b.length=32)(w:World):(Op.equalIn 10000 35 (.agg (bts a).toArray) (.agg (bts b).toArray)).run Tryz.prog w=.ok (decide (a=b)) w:=by
 obtain⟨r,hr,hiff⟩:=Ai9 9998 a b w (List.range 32) (λ i hi=>by have:=List.mem_range.1 hi;omega);have hu:=Tryz.underlying35;obtain⟨i0,hi0⟩:∃i0,Tryz.prog.info? 5=some i0:=Option.isSome_iff_exists.1 (by kernel_rfl);have h1:=run_equalIn_array (P:=Tryz.prog) w 9999 (t:=35) (bts a).toArray (bts b).toArray hu hi0;rw[Am8] at h1;rw[h1,hr];congr 1
 cases hr':r
 ·symm;rw[decide_eq_false_iff_not]
  rintro rfl;rw[hr'] at hiff;simp at hiff
 ·symm;rw[decide_eq_true_eq]
  apply List.ext_getElem?;intro i;by_cases hi:i<32
  ·exact hiff.1 hr' i (List.mem_range.2 hi)
  ·rw[List.getElem?_eq_none (by omega),List.getElem?_eq_none (by omega)]
theorem D7{w w':World}{S:List Nat}{a:Addr}{v:Value}(h:w.cell? a=some v)(hu:Upd S w w')(hS:a.block∉S):w'.cell? a=some v:=by
 rw[World.cell?_of_block (w:=w) (hu.block _ (block_lt_of_cell h) hS)];exact h
theorem E9{w w':World}{S:List Nat}{b o:Nat}{cs:List Value}(h:w.rangeAt b o cs)(hu:Upd S w w')(hS:b∉S):w'.rangeAt b o cs:=λ j v hv=>D7 (h j v hv) hu hS
def RRd(w:World)(v:Value)(sz:Nat)(es:List (List Value)):Prop:=
 ∃ao cap,v=.slice ao es.length cap/\es.length<=cap/\(0<es.length->∃b off,ao=some ⟨b,off,none⟩/\∀i e,es[i]?=some e->w.rangeAt b (off+i*sz) e)
theorem RRd.keep{w w':World}{v:Value}{sz:Nat}{es:List (List Value)}(h:RRd w v sz es){S:List Nat}(hu:Upd S w w')(hS:∀a l c,v=.slice (some a) l c->a.block∉S):RRd w' v sz es:=by
 obtain⟨ao,cap,rfl,hc,hh⟩:=h;refine⟨ao,cap,rfl,hc,λ hp=>?_⟩;obtain⟨b,off,rfl,hr⟩:=hh hp;exact⟨b,off,rfl,λ i e he=>E9 (hr i e he) hu (hS _ _ _ rfl)⟩
theorem RRd.shape{w:World}{v:Value}{sz:Nat}{es:List (List Value)}(h:RRd w v sz es):∃a c,v=.slice a es.length c:=by
 obtain⟨ao,cap,rfl,_⟩:=h;exact⟨_,_,rfl⟩
def F4:List (List UInt8)->List UInt8->Nat
 | [],_=>0
 | k :: ks,key=>if ltB k key then F4 ks key+1 else 0
theorem Z9:∀(ks:List (List UInt8)) (key:List UInt8),F4 ks key<=ks.length
 | [],_=>Nat.le_refl _
 | k :: ks,key=>by
  have:=Z9 ks key;unfold F4;split
  ·simp;omega
  ·simp
theorem Af1{key:List UInt8}:∀{ks:List (List UInt8)} {q:Nat},q<=ks.length->(∀p k,p<q->ks[p]?=some k->ltB k key=true)->(∀k,ks[q]?=some k->ltB k key=false)->F4 ks key=q
 | [],q,hq,_,_=>by simp at hq;rw[hq];rfl
 | x :: ks,q,hq,h1,h2=>by
  unfold F4;cases q with
  | zero=>rw[h2 x (by simp)];rfl
  | succ q=>
   rw[h1 0 x (by omega) (by simp),Af1 (ks:=ks) (q:=q) (by simpa using hq) (λ p k hp e=>h1 (p+1) k (by omega) (by simpa using e)) (λ k e=>h2 k (by simpa using e))];rfl
def I4(ks:List (List UInt8))(key:List UInt8):Bool:=decide (ks[F4 ks key]?=some key)
def ld3:Op:=.load 35 (.tmp 3)
theorem Cp2:Op.load 35 (.tmp 3)=ld3:=rfl
attribute [local go_sem] ld3
attribute [-go_sem] loadCells
theorem B2{w:World}{b o:Nat}{l:List UInt8}(h:w.rangeAt b o (bts l))(hl:l.length=32):(loadCells ⟨b,o,none⟩ 32).run Tryz.prog w=.ok (bts l).toArray w:=by
 have:=run_loadCells_list (P:=Tryz.prog) w ⟨b,o,none⟩ (bts l) (λ j v hv=>by rw[Addr.add_mid];exact h j v hv);rw[A8,hl] at this;exact this
theorem A7{w:World}{b n:Nat}{cs:List Value}{T:TypeId}{fr:Nat × Nat}(h:w.heap[b]?=some (.cells cs.toArray T fr))(hn:cs.length=n):(loadCells ⟨b,0,none⟩ n).run Tryz.prog w=.ok cs.toArray w:=by
 have:=run_loadCells_list (P:=Tryz.prog) w ⟨b,0,none⟩ cs (λ j v hv=>by rw[Addr.add_mid,A4 h,List.getElem?_toArray,Nat.zero_add];exact hv);rw[hn] at this;exact this
theorem Ae0:(Tryz.prog.info? 35).map (·.size)=some 32:=by kernel_rfl
theorem Af2{w:World}{vk vv vd:Value}(kd:Int){ks:List (List UInt8)}(hk:RRd w vk 32 (ks.map bts))(hl:∀k,k∈ks->k.length=32)(hn:ks.length<=100)(key:List UInt8)(hkey:key.length=32) :
  Calls Tryz.prog 134 #[.agg #[.int .i64 kd,vk,vv,vd],arr key] w λ e w'=>e=.returned (.tuple #[.int .i64 (F4 ks key:Int),.bool (I4 ks key)])/\Upd [] w w':=by
 obtain⟨ak,ck,rfl⟩:=hk.shape;rw[List.length_map] at hk ⊢;obtain⟨wA,hwA⟩:∃wA,wA=(w.alloc (.cells #[.int .i64 kd,.slice ak ks.length ck,vv,vd] 220)).alloc (.cells (bts key).toArray 35):=⟨_,rfl⟩;have hu:Upd [] w wA:=by rw[hwA];exact((Upd.refl _ _).alloc _).alloc _
 obtain⟨b2,hb2⟩:∃b,b=w.heap.size:=⟨_,rfl⟩;obtain⟨b3,hb3⟩:∃b,b=w.heap.size+1:=⟨_,rfl⟩;have h1:wA.heap[b2]?=some (.cells #[.int .i64 kd,.slice ak ks.length ck,vv,vd] 220 (0,0)):=by
  rw[hwA,hb2,A9 (by simp)];exact A6 _
 have h2:wA.heap[b3]?=some (.cells (bts key).toArray 35 (0,0)):=by
  rw[hwA,hb3];have:=A6 (w:=w.alloc (.cells #[.int .i64 kd,.slice ak ks.length ck,vv,vd] 220)) (.cells (bts key).toArray 35);simpa using this
 have HK:=η (hk.keep hu (λ _ _ _ _=>by simp));have HU:=η hu;have HW:=η hwA;have H1:=η h1;have H2:=η h2;have HL:=η hl;have HB2:=η hb2;have HB3:=η hb3;have hu35:=Tryz.underlying35;have hi35:∀k:List UInt8,k.length=32->(Tryz.prog.info? 35).map (·.size)=some (bts k).length:=λ k hk=>by
  rw[A8,hk];exact Ae0
 have hikey:=hi35 key hkey;have HI:=η hi35;clear hk hl hu h1 h2 hwA hb2 hb3 hi35;unfold arr;go_enter Tryz.func134,Tryz.ntmps134
 go_wp2
 have hwA:=HW.out;have hb2:=HB2.out;have hb3:=HB3.out;rw[← hwA,← hb3,← hb2];clear hwA hb2 hb3;go_loopw [6] (λ i wr=>∃q:Nat,q<=ks.length/\i=.int .i64 (q:Int)/\(∀p k,p<q->ks[p]?=some k->ltB k key=true)/\Upd [] wA wr) (λ i _=>ks.length-(intOf i).toNat)
 case atStart=>exact⟨0,Nat.zero_le _,rfl,λ p k hp=>by omega,Upd.refl _ _⟩
 case round=>
  obtain⟨q,hq,rfl,hall,hu⟩:=hrel;have HAll:=η hall;have HUr:=η hu;have c1:wr.cell? ⟨b2,1,none⟩=some (.slice ak ks.length ck):=by rw[A4 ((hu.block _ (A2 H1.out) (by simp)).trans H1.out)];rfl
  have rkey:wr.rangeAt b3 0 (bts key):=λ j v hv=>by rw[A4 ((hu.block _ (A2 H2.out) (by simp)).trans H2.out),← hv];simp
  have HKr:=η (HK.out.keep hu (λ _ _ _ _=>by simp));clear hall hu;by_cases hlt:q<ks.length
  ·have hlt':decide ((q:Int)<(ks.length:Int))=true:=decide_eq_true (by omega);have hlt2:decide (q<ks.length)=true:=decide_eq_true hlt;obtain⟨ao,cap,hv,_,hh⟩:=HKr.out;rw[List.length_map] at hv hh;cases hv
   obtain⟨bk,off,rfl,hr⟩:=hh (by omega);have hkq:ks[q]?=some ks[q]:=List.getElem?_eq_getElem hlt;have rk:=hr q (bts ks[q]) (by rw[List.getElem?_map,hkq];rfl);have hlk:=HL.out _ (List.getElem_mem hlt);clear hh hr;generalize ks[q]=kq at *;have hik:=HI.out kq hlk;have HKQ:=η hkq;have hls:∀w,Calls Tryz.prog 138 #[.agg (bts kq).toArray,.agg (bts key).toArray] w λ e w'=>e=.returned (.bool (ltB kq key))/\Upd [] w w':=λ w=>Be1 kq key hlk hkey w;have HLS:=η hls;have i0:(0:Int)<=(q:Int):=by omega
   have i1:(q:Int)<(ks.length:Int):=by omega
   have hld:=B2 (E9 rkey (Upd.refl [] _).drew (by simp)) hkey;clear hls hkq;rw[Cp2];cases hlb:ltB kq key
   ·rw[hlb] at HLS;have HLB:=η hlb;clear hlb;go_wp2_with fail
    go_region_held3 (λ w'=>w'.cell? ⟨b2,1,none⟩=some (.slice (some ⟨bk,off,none⟩) ks.length ck)/\w'.rangeAt bk (off+q*32) (bts kq)/\w'.rangeAt b3 0 (bts key)) (refine⟨?_,?_,?_⟩<;>first | assumption | (exact D7 (by assumption) ((Upd.refl [] _).drew) (by simp)) | (exact E9 (by assumption) ((Upd.refl [] _).drew) (by simp)))
     (first | (go_at_call 138;(with_reducible refine(HLS.out _).mono ?_);rintro e w5 ⟨rfl,hu5⟩;have c15:=D7 (D7 c1 (Upd.refl [] _).drew (by simp)) hu5 (by simp);have rk5:=E9 (E9 rk (Upd.refl [] _).drew (by simp)) hu5 (by simp);have rkey5:=E9 (E9 rkey (Upd.refl [] _).drew (by simp)) hu5 (by simp);have hld5:=B2 rkey5 hkey;have HU5:=η hu5;clear hu5))
    all_goals
     have hp:F4 ks key=q:=Af1 (by omega) HAll.out (λ k e=>by rw[HKQ.out] at e;cases e;exact HLB.out);have hh:I4 ks key=decide (kq=key):=by
      unfold I4;rw[hp,HKQ.out];exact decide_eq_decide.2 ⟨λ q=>Option.some.inj q,λ q=>by rw[q]⟩
     have HP:=η hp;have HHH:=η hh;have hldk:∀n,(loadCells ⟨bk,off+q*32,none⟩ 32).run Tryz.prog (w5.drewN n)=.ok (bts kq).toArray (w5.drewN n):=λ n=>B2 rk5 hlk;have hldy:∀n,(loadCells ⟨b3,0,none⟩ 32).run Tryz.prog (w5.drewN n)=.ok (bts key).toArray (w5.drewN n):=λ n=>B2 rkey5 hkey;have heq:=λ w=>Ak5 hlk hkey w;clear hp hh;go_wp2_with fail
     go_quiet (fail)
     all_goals
      go_wp2_with fail
      go_ret2;exact⟨by rw[HP.out,HHH.out];rfl,((HU.out.trans HUr.out).drew.trans HU5.out).drewN _⟩
   ·rw[hlb] at HLS;have HLB:=η hlb;clear hlb;go_wp2_with fail
    go_region_held3 (λ w'=>w'.cell? ⟨b2,1,none⟩=some (.slice (some ⟨bk,off,none⟩) ks.length ck)/\w'.rangeAt bk (off+q*32) (bts kq)/\w'.rangeAt b3 0 (bts key)) (refine⟨?_,?_,?_⟩<;>first | assumption | (exact D7 (by assumption) ((Upd.refl [] _).drew) (by simp)) | (exact E9 (by assumption) ((Upd.refl [] _).drew) (by simp)))
     (first | (go_at_call 138;(with_reducible refine(HLS.out _).mono ?_);rintro e w5 ⟨rfl,hu5⟩;have c15:=D7 (D7 c1 (Upd.refl [] _).drew (by simp)) hu5 (by simp);have rk5:=E9 (E9 rk (Upd.refl [] _).drew (by simp)) hu5 (by simp);have rkey5:=E9 (E9 rkey (Upd.refl [] _).drew (by simp)) hu5 (by simp);have hld5:=B2 rkey5 hkey;have HU5:=η hu5;clear hu5))
    all_goals
     go_wp2_with fail
     exact⟨⟨q+1,by omega,by go_num,λ p k hp e=>(by
      by_cases e2:p=q
      ·subst e2;rw[HKQ.out] at e;cases e;exact HLB.out
      ·exact HAll.out p k (by omega) e),(HUr.out.trans (Upd.refl [] _).drew).trans HU5.out⟩,by simp[intOf];omega⟩
  ·obtain rfl:q=ks.length:=by omega
   have hlt':decide ((ks.length:Int)<(ks.length:Int))=false:=by simp
   have hp:F4 ks key=ks.length:=Af1 (by omega) HAll.out (λ k e=>by rw[List.getElem?_eq_none (by omega)] at e;cases e);have hh:I4 ks key=false:=by
    unfold I4;rw[hp,List.getElem?_eq_none (by omega)];rfl
   have HP:=η hp;have HHH:=η hh;clear hp hh;go_wp2_with fail
   go_quiet (fail)
   all_goals
    go_wp2_with fail
    go_quiet (fail)
    all_goals
     go_wp2_with fail
     go_ret2;exact⟨by rw[HP.out,HHH.out];rfl,((HU.out.trans HUr.out).drewN _).drewN _⟩
def chK(ks:List (List UInt8))(key:List UInt8):Nat:=if I4 ks key then F4 ks key+1 else F4 ks key
theorem Ag8{w:World}{vk vv vd:Value}(kd:Int){ks:List (List UInt8)}(hk:RRd w vk 32 (ks.map bts))(hl:∀k,k∈ks->k.length=32)(hn:ks.length<=100)(key:List UInt8)(hkey:key.length=32) :
  Calls Tryz.prog 135 #[.agg #[.int .i64 kd,vk,vv,vd],arr key] w λ e w'=>e=.returned (.int .i64 (chK ks key:Int))/\Upd [] w w':=by
 obtain⟨wA,hwA⟩:∃wA,wA=(w.alloc (.cells #[.int .i64 kd,vk,vv,vd] 220)).alloc (.cells (bts key).toArray 35):=⟨_,rfl⟩;have hu:Upd [] w wA:=by rw[hwA];exact((Upd.refl _ _).alloc _).alloc _
 have h1:wA.heap[w.heap.size]?=some (.cells #[.int .i64 kd,vk,vv,vd] 220 (0,0)):=by
  rw[hwA,A9 (by simp)];exact A6 _
 have h2:wA.heap[w.heap.size+1]?=some (.cells (bts key).toArray 35 (0,0)):=by
  rw[hwA];have:=A6 (w:=w.alloc (.cells #[.int .i64 kd,vk,vv,vd] 220)) (.cells (bts key).toArray 35);simpa using this
 have l1:=A7 (n:=4) (cs:=[.int .i64 kd,vk,vv,vd]) h1 rfl;have l2:=A7 (n:=32) h2 (by rw[A8,hkey]);have HF:=η (Af2 (vv:=vv) (vd:=vd) kd (hk.keep hu (λ _ _ _ _=>by simp)) hl hn key hkey);have HU:=η hu;have HW:=η hwA;have hp:=Z9 ks key;unfold chK;rw[hwA] at l1 l2;clear hk hu h1 h2 hwA;unfold arr at *;generalize F4 ks key=P at *;cases hh:I4 ks key
 all_goals
  rw[hh] at HF;clear hh;go_enter Tryz.func135,Tryz.ntmps135
  go_wp2_with fail
  have hwA:=HW.out;rw[← hwA];clear hwA;refine HF.out.mono ?_;rintro e w1 ⟨rfl,hu⟩;go_wp2_with fail
  go_ret;exact⟨by go_num,HU.out.trans hu⟩
end Go.Proofs.YtgfbepakonjbnaaGreat
end
section
namespace Go.Proofs.YtgfbepakonjbnaaGreat
open Go.RowKit Go.MapKept Go.ChangeMaps
theorem At2{w:World}{v:Value}{l:List UInt8}(hr:Rd w v l)(a:Nat)(ai:Int)(hai:ai=(a:Int))(ha:a+4<=l.length)(hl:l.length<=1000) :
  Calls Tryz.prog 211 #[v,.int .i64 ai] w λ e w'=>e=.returned (.int .u32 (num l a 4:Int))/\w=w':=by
 subst hai;have hat:=Bv0 v l a 4 w hr (by omega) (by omega) (by omega) (by omega);obtain⟨N,hN⟩:∃N:Int,N=(num l a 4:Int):=⟨_,rfl⟩;have hN0:0<=N:=by omega
 have hN1:N<4294967296:=by have:=Bg2 l a 4;omega
 have hwr:IntKind.u32.wrap N=N:=by rw[IntKind.wrap_u32];omega
 rw[← hN,show((4:Nat):Int)=4 from rfl] at hat;rw[← hN];have HAT:=η hat;clear hat hN hr;go_enter Tryz.func211,Tryz.ntmps211
 go_wp2_with fail
 refine HAT.out.mono ?_;rintro e w' ⟨rfl,rfl⟩;go_wp2_with fail
 go_ret;exact⟨rfl,rfl⟩
theorem Bv9(l:List UInt8)(i:Nat){y:Nat}(hy:y<256):(bts l).set i (.int .u8 (y:Int))=bts (l.set i (UInt8.ofNat y)):=by
 unfold bts;rw[List.map_set];congr 1
 unfold bv;rw[UInt8.toNat_ofNat',Nat.mod_eq_of_lt (by omega)]
theorem Y6{w:World}{b:Nat}{l:List UInt8}{T:TypeId}(h:w.heap[b]?=some (.cells (bts l).toArray T (0,0)))(i:Nat){y:Nat}(hy:y<256):(w.setCell ⟨b,i,none⟩ (.int .u8 (y:Int))).heap[b]?=some (.cells (bts (l.set i (UInt8.ofNat y))).toArray T (0,0)):=by
 rw[B3 h,αs,Bv9 _ _ hy]
theorem Ay7{w:World}{b:Nat}{l:List UInt8}{T:TypeId}(h:w.heap[b]?=some (.cells (bts l).toArray T (0,0))){i:Nat}(hi:i<l.length):w.cell? ⟨b,i,none⟩=some (.int .u8 ((l.getD i 0).toNat:Int))/\w.frozen? ⟨b,i,none⟩=false:=by
 refine⟨?_,E4 h i⟩;rw[A4 h,List.getElem?_toArray,bts,List.getElem?_map,List.getElem?_eq_getElem hi,List.getD_eq_getElem?_getD,List.getElem?_eq_getElem hi];rfl
theorem Be2{w:World}{kb:Nat}{l:List UInt8}(hb:w.heap[kb]?=some (.cells (bts l).toArray 5 (0,0)))(hl:l.length=512)(c:Nat)(a:Nat)(ai:Int)(hai:ai=(a:Int))(ha:a+4<=512)(V:Nat) :
  Calls Tryz.prog 198 #[.slice (some ⟨kb,0,none⟩) 512 c,.int .i64 ai,.int .u32 (V:Int)] w λ e w'=>e=.returned (.tuple #[])/\w'.heap[kb]?=some (.cells (bts (put l a 4 V)).toArray 5 (0,0))/\Upd [kb] w w':=by
 subst hai;have HB:=η hb;clear hb;go_enter Tryz.func198,Tryz.ntmps198
 go_wp2_with fail
 go_loopw [7] (λ i wr=>∃q:Nat,q<=4/\i=.int .i64 (q:Int)/\wr.heap[kb]?=some (.cells (bts (Ap9 l a 4 V q)).toArray 5 (0,0))/\Upd [kb] w wr) (λ i _=>4-(intOf i).toNat)
 case atStart=>exact⟨0,by omega,rfl,by rw[Bd0];exact HB.out,Upd.refl _ _⟩
 case round=>
  obtain⟨q,hq,rfl,ho,hu⟩:=hrel;by_cases hlt:q<4
  ·have hlt':decide ((q:Int)<4)=true:=decide_eq_true (by omega);have hlen:(Ap9 l a 4 V q).length=512:=by rw[As5 (by omega) (by omega)];exact hl
   have hst:=Bd2 (b:=l) (a:=a) (n:=4) (v:=V) hlt (by omega);obtain⟨I,hI⟩:∃I,I=a+q:=⟨_,rfl⟩;have hIk:(a:Int)+(q:Int)=(I:Int):=by omega
   obtain⟨hcl,hf⟩:=Ay7 ho (i:=I) (by omega);obtain⟨Y,hY⟩:∃Y,Y=V / 256 ^ (4-1-q) % 256:=⟨_,rfl⟩;have o2:=Y6 ho I (y:=Y) (by omega);have eY:UInt8.ofNat Y=UInt8.ofNat (V / 256 ^ (4-1-q)):=by
    apply UInt8.toNat_inj.1;rw[UInt8.toNat_ofNat',UInt8.toNat_ofNat',hY];omega
   rw[eY,hI,hst,← hI] at o2;have u2:Upd [kb] wr (wr.setCell ⟨kb,I,none⟩ (.int .u8 (Y:Int))):=(Upd.refl _ _).set _ (by simp);have HO:=η o2;have HUx:=η (hu.trans u2);have i0:(0:Int)<=(I:Int):=by omega
   have i1:(I:Int)<512:=by omega
   have s0:decide ((24:Int)-8*(q:Int)<0)=false:=decide_eq_false (by omega);have hsh:(0:Int)<=24-8*(q:Int):=by omega
   have hsh2:24-8*(q:Int)<=24:=by omega
   have hYI:(V:Int) / 2 ^ (24-8*q) % 256=(Y:Int):=by
    have e1:(2:Int) ^ (24-8*q)=((256 ^ (4-1-q):Nat):Int):=by
     rw[show(256:Nat)=2 ^ 8 from rfl,← Nat.pow_mul,Int.natCast_pow,show 24-8*q=8*(4-1-q) from by omega];rfl
    rw[e1,hY];omega
   have HYI:=η hYI;clear ho hu hlen hst hI eY o2 u2 hYI hY;go_wp2_with fail
   exact⟨⟨q+1,by omega,by go_num,by rw[HYI.out];exact HO.out,by rw[HYI.out];exact HUx.out⟩,by simp[intOf];omega⟩
  ·obtain rfl:q=4:=by omega
   have hlt':decide (((4:Nat):Int)<4)=false:=rfl;rw[Bd1] at ho;have HO:=η ho;have HU:=η hu;clear ho hu;go_wp2_with fail
   go_end0
   exact⟨rfl,HO.out,HU.out⟩
theorem O0{l x:List UInt8}{a b n:Nat}(h:a+x.length<=l.length)(hd:b+n<=a∨a+x.length<=b):((N4 l a x).drop b).take n=(l.drop b).take n:=
 Aq3 λ i h1 h2=>by rw[X7 h,if_neg (by omega)]
theorem Q1{l x:List UInt8}{a:Nat}(h:a+x.length<=l.length):(N4 l a x).length=l.length:=by unfold N4;simp;omega
theorem Bh8{l x:List UInt8}{a i:Nat}(h:a+x.length<=l.length)(hi:i<a):(N4 l a x)[i]?=l[i]?:=by rw[X7 h,if_neg (by omega)]
def hdN(kd n:Nat):Sec:=(F9.set 0 (UInt8.ofNat kd)).set 1 (UInt8.ofNat n)
theorem V9(kd n:Nat):(hdN kd n).length=512:=by unfold hdN;rw[List.length_set,List.length_set,C0]
theorem Bw0(kd n:Nat):(hdN kd n)[0]?=some (UInt8.ofNat kd):=by
 unfold hdN;rw[List.getElem?_set_ne (by omega),List.getElem?_set_self (by rw[C0];omega)]
theorem Bw1(kd n:Nat):(hdN kd n)[1]?=some (UInt8.ofNat n):=by
 unfold hdN;rw[List.getElem?_set_self (by rw[List.length_set,C0];omega)]
abbrev Bs:=List UInt8
def Af3(ks vs:List Bs):Nat->Sec
 | 0=>hdN 1 ks.length
 | k+1=>N4 (N4 (Af3 ks vs k) (8+48*k) (ks.getD k [])) (8+48*k+32) (vs.getD k [])
def X9(ks:List Bs)(ds:List Nat):Nat->Sec
 | 0=>put (hdN 2 ks.length) 8 4 (ds.getD 0 0)
 | k+1=>put (N4 (X9 ks ds k) (12+36*k) (ks.getD k [])) (12+36*k+32) 4 (ds.getD (k+1) 0)
structure K5(ks vs:List Bs):Prop where
 k:∀x,x∈ks->x.length=32
 v:∀x,x∈vs->x.length=16
 n:vs.length=ks.length
 most:ks.length<=10
structure G0(ks:List Bs)(ds:List Nat):Prop where
 k:∀x,x∈ks->x.length=32
 d:∀x,x∈ds->x<4294967296
 n:ds.length=ks.length+1
 most:ks.length<=13
theorem Q9{ls:List Bs}{n:Nat}(h:∀x,x∈ls->x.length=n){k:Nat}(hk:k<ls.length):(ls.getD k []).length=n:=by
 rw[List.getD_eq_getElem?_getD,List.getElem?_eq_getElem hk];exact h _ (List.getElem_mem hk)
section
variable {ks vs:List Bs} {ds:List Nat}
theorem K6(h:K5 ks vs):∀{k:Nat},k<=ks.length->(Af3 ks vs k).length=512
 | 0,_=>V9 _ _
 | k+1,hk=>by
  have ih:=K6 h (k:=k) (by omega);have h1:=Q9 h.k (k:=k) (by omega);have h2:=Q9 h.v (k:=k) (by rw[h.n];omega);have:=h.most;show(N4 (N4 _ _ _) _ _).length=512
  rw[Q1 (by rw[Q1 (by omega)];omega),Q1 (by omega)];exact ih
theorem Ab4(h:K5 ks vs){i:Nat}(hi:i<8):∀{k:Nat},k<=ks.length->(Af3 ks vs k)[i]?=(hdN 1 ks.length)[i]?
 | 0,_=>rfl
 | k+1,hk=>by
  have ih:=Ab4 h hi (k:=k) (by omega);have hl:=K6 h (k:=k) (by omega);have h1:=Q9 h.k (k:=k) (by omega);have h2:=Q9 h.v (k:=k) (by rw[h.n];omega);have:=h.most;show(N4 (N4 _ _ _) _ _)[i]?=_
  rw[Bh8 (by rw[Q1 (by omega)];omega) (by omega),Bh8 (by omega) (by omega)];exact ih
theorem Ay8(h:K5 ks vs){j:Nat}:∀{k:Nat},k<=ks.length->j<k->((Af3 ks vs k).drop (8+48*j)).take 32=ks.getD j []/\((Af3 ks vs k).drop (8+48*j+32)).take 16=vs.getD j []
 | 0,_,hj=>by omega
 | k+1,hk,hj=>by
  have hl:=K6 h (k:=k) (by omega);have h1:=Q9 h.k (k:=k) (by omega);have h2:=Q9 h.v (k:=k) (by rw[h.n];omega);have hm:=h.most;have e1:8+48*k+(ks.getD k []).length<=(Af3 ks vs k).length:=by omega
  have e2:8+48*k+32+(vs.getD k []).length<=(N4 (Af3 ks vs k) (8+48*k) (ks.getD k [])).length:=by rw[Q1 e1];omega
  show((N4 (N4 _ _ _) _ _).drop _).take _=_/\((N4 (N4 _ _ _) _ _).drop _).take _=_
  by_cases hjk:j=k
  ·subst hjk;refine⟨?_,?_⟩
   ·rw[O0 e2 (.inl (by omega))];have:=Ao0 e1;rw[h1] at this;exact this
   ·have:=Ao0 e2;rw[h2] at this;exact this
  ·obtain⟨i1,i2⟩:=Ay8 h (k:=k) (j:=j) (by omega) (by omega);refine⟨?_,?_⟩
   ·rw[O0 e2 (.inl (by omega)),O0 e1 (.inl (by omega))];exact i1
   ·rw[O0 e2 (.inl (by omega)),O0 e1 (.inl (by omega))];exact i2
theorem J6(h:G0 ks ds):∀{k:Nat},k<=ks.length->(X9 ks ds k).length=512
 | 0,_=>by show(put _ _ _ _).length=512;rw[Ag0 (by rw[V9];omega)];exact V9 _ _
 | k+1,hk=>by
  have ih:=J6 h (k:=k) (by omega);have h1:=Q9 h.k (k:=k) (by omega);have:=h.most;show(put (N4 _ _ _) _ _ _).length=512
  rw[Ag0 (by rw[Q1 (by omega)];omega),Q1 (by omega)];exact ih
theorem Y7(h:G0 ks ds){i:Nat}(hi:i<8):∀{k:Nat},k<=ks.length->(X9 ks ds k)[i]?=(hdN 2 ks.length)[i]?
 | 0,_=>by show(put _ _ _ _)[i]?=_;rw[Z7 _ (by rw[V9];omega),if_neg (by omega)]
 | k+1,hk=>by
  have ih:=Y7 h hi (k:=k) (by omega);have hl:=J6 h (k:=k) (by omega);have h1:=Q9 h.k (k:=k) (by omega);have:=h.most;show(put (N4 _ _ _) _ _ _)[i]?=_
  rw[Z7 _ (by rw[Q1 (by omega)];omega),if_neg (by omega),Bh8 (by omega) (by omega)];exact ih
theorem Ag9(h:G0 ks ds):∀{k:Nat},k<=ks.length->num (X9 ks ds k) 8 4=ds.getD 0 0
 | 0,_=>by
  have hd:ds.getD 0 0<256 ^ 4:=by
   rw[List.getD_eq_getElem?_getD,List.getElem?_eq_getElem (by rw[h.n];omega)];exact h.d _ (List.getElem_mem _)
  exact Z8 (by rw[V9];omega) hd
 | k+1,hk=>by
  have ih:=Ag9 h (k:=k) (by omega);have hl:=J6 h (k:=k) (by omega);have h1:=Q9 h.k (k:=k) (by omega);have:=h.most;show num (put (N4 _ _ _) _ _ _) _ _=_
  rw[N5 _ (by rw[Q1 (by omega)];omega) (.inl (by omega)),← ih];unfold num;rw[O0 (by omega) (.inl (by omega))]
theorem Ak6(h:G0 ks ds){j:Nat}:∀{k:Nat},k<=ks.length->j<k->((X9 ks ds k).drop (12+36*j)).take 32=ks.getD j []/\num (X9 ks ds k) (12+36*j+32) 4=ds.getD (j+1) 0
 | 0,_,hj=>by omega
 | k+1,hk,hj=>by
  have hl:=J6 h (k:=k) (by omega);have h1:=Q9 h.k (k:=k) (by omega);have hm:=h.most;have e1:12+36*k+(ks.getD k []).length<=(X9 ks ds k).length:=by omega
  have e2:12+36*k+32+4<=(N4 (X9 ks ds k) (12+36*k) (ks.getD k [])).length:=by rw[Q1 e1];omega
  show((put (N4 _ _ _) _ _ _).drop _).take _=_/\num (put (N4 _ _ _) _ _ _) _ _=_
  by_cases hjk:j=k
  ·subst hjk;refine⟨?_,?_⟩
   ·rw[An9,O0 (by rw[P0];exact e2) (.inl (by omega))];have:=Ao0 e1;rw[h1] at this;exact this
   ·refine Z8 e2 ?_;rw[List.getD_eq_getElem?_getD,List.getElem?_eq_getElem (by rw[h.n];omega)];exact h.d _ (List.getElem_mem _)
  ·obtain⟨i1,i2⟩:=Ak6 h (k:=k) (j:=j) (by omega) (by omega);refine⟨?_,?_⟩
   ·rw[An9,O0 (by rw[P0];exact e2) (.inl (by omega)),O0 e1 (.inl (by omega))];exact i1
   ·rw[N5 _ e2 (.inl (by omega)),← i2];unfold num;rw[O0 e1 (.inl (by omega))]
end
def C8(ks vs:List Bs):Sec:=Af3 ks vs ks.length
def B5(ks:List Bs)(ds:List Nat):Sec:=X9 ks ds ks.length
end Go.Proofs.YtgfbepakonjbnaaGreat
end
end
