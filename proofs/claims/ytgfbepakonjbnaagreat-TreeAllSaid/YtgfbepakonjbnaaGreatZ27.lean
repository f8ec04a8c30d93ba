/-
  cofferlaw9.below, by the floors; cofferlaw9.Walk.
-/
import Derived.Test.YtgfbepakonjbnaaGreatZ26
import Derived.Test.YtgfbepakonjbnaaGreatZ23
import Derived.Test.YtgfbepakonjbnaaGreatZ24
set_option maxRecDepth 100000
set_option maxHeartbeats 16000000
section
set_option linter.unusedSimpArgs false
set_option linter.unusedVariables false
namespace Go.Proofs.YtgfbepakonjbnaaGreat
open Go.RowKit Go.MapKept Go.ChangeMaps
theorem Bb6:∀(d:Nat) {w:World} {g:Sg} {M:Nat->Option Sec} (_:B7 w g M) (_:1<g.h) (_:g.h<=4096) (root low high:Bool) (a:Nat) {l:List B0} {S:List Nat} (_:E3 (g.cur M) root d a l S) (_:∀s,s∈S->(4<=s/\s<g.h)/\g.T M s=true) (lo hi:Bs) (_:lo.length=32) (_:hi.length=32) (_:low=true->∀p,p∈l->ltB p.1 lo=false) (_:high=true->∀p,p∈l->ltB p.1 hi=true) (left:Nat) (_:d<left/\left<=9) (_:l.length<490),
  Calls Tryz.prog 130 #[.pointer (some ⟨g.x.tb,0,none⟩),.int .i64 (a:Int),.bool root,.bool low,.bool high,arr lo,arr hi,.int .i64 (left:Int)] w (Af9 g M d l w)
 | 0,w,g,M,h,h1,h2,root,low,high,a,l,S,hs,hh,lo,hi,hlo,hhi,hlow,hhigh,left,hleft,hln=>Bu8 h h1 h2 root low high a hs hh lo hi hlo hhi hlow hhigh left hleft
 | d+1,w,g,M,h,h1,h2,root,low,high,a,l,S,hs,hh,lo,hi,hlo,hhi,hlow,hhigh,left,hleft,hln=>
  Bq5 h h1 h2 root low high a hs hh lo hi hlo hhi hlow hhigh left hleft hln
   (fun {c lc Sc} hs' hh' hl' w' h' low' high' lo' hi' q1 q2 q3 q4=>Bb6 d h' h1 h2 false low' high' c hs' hh' lo' hi' q1 q2 q3 q4 (left-1) ⟨by omega,by omega⟩ hl')

end Go.Proofs.YtgfbepakonjbnaaGreat
end
section
set_option linter.unusedSimpArgs false
set_option linter.unusedVariables false
namespace Go.Proofs.YtgfbepakonjbnaaGreat
theorem N0.drop{g:Sg}{M M':Nat->Option Sec}{r r':Nat}{l:List B0}{S:List Nat}{key:Bs}{m:Nat}(ht:N0 (g.cur M) g.h r l S)(hp:Al1 g M M' r' l S key m):∃S',N0 (g.cur M') g.h r' (N7 l key) S'/\M7 g M M' S S' m:=by
 obtain⟨S',h1,h3⟩:=hp;have hh:=h3.held ht.held;refine⟨S',⟨h1,hh.nd,hh.low,λ i=>?_⟩,h3⟩;show g.T M' i=_
 rw[h3.T,ht.sgT];by_cases e:i∈S'
 ·simp[e,h3.sub i e]
 ·by_cases e2:i∈S
  ·have h4:=(ht.low i e2).1;have:decide (i<4)=false:=decide_eq_false (by omega);simp[e,e2,this]
  ·simp[e,e2]
end Go.Proofs.YtgfbepakonjbnaaGreat
end
section
set_option linter.unusedSimpArgs false
set_option linter.unusedVariables false
namespace Go.Proofs.YtgfbepakonjbnaaGreat
open Go.RowKit Go.MapKept Go.ChangeMaps
section
def upN(q:Nat):List Int:=(List.range q).map fun(i:Nat)=>(i:Int)
theorem Ch5(q:Nat):upN (q+1)=upN q ++ [(q:Int)]:=by unfold upN;rw[List.range_succ,List.map_append];rfl
theorem Bt3(q:Nat):(upN q).length=q:=by simp[upN]
theorem Bo0:(Aj4 [] (upN 11)).length=11:=by decide +kernel
theorem Ca6:G9 (Aj4 [] (upN 11)) (Ad0 3)=some (Ah5 3):=by decide +kernel
theorem Bz0.tree{w0 w:World}{g:Sg}{n ring:Nat}(h:Bz0 w0 w g n ring):N0 (g.cur λ _=>none) g.h 0 [] []:=
 ⟨.inl ⟨rfl,rfl,rfl⟩,by simp,by simp,λ i=>by have:=h.T i;simpa [Sg.T] using this⟩
attribute [-go_sem] loadCells storeCells Instr.build Instr.buildSlice
theorem Bo1(w:World):Calls Tryz.prog 54 #[] w λ e w'=>e=.returned (.bool true)/\Upd [] w w':=by
 have HB:Hid (Calls Tryz.prog 40 #[.int .i64 128,.int .i64 60] w λ e w'=>∃g:Sg,e=.returned (.tuple #[.pointer (some ⟨g.j.jb,0,none⟩),.pointer (some ⟨g.x.tb,0,none⟩)])/\Bz0 w w' g 128 60/\Upd [] w w'):=η (Cf8 128 60 128 rfl (by omega) (by omega) (by omega) (by omega) (by omega) w);go_enter Tryz.func54,Tryz.ntmps54
 go_wp2_with fail
 refine HB.out.mono ?_;rintro e w1 ⟨g,rfl,hg,hu1⟩;have hgh:g.h=66:=by unfold Sg.h;rw[hg.n,hg.ring]
 have HLT:Hid (∀k,k∈g.S->w.heap.size<=k):=by show ∀k,_;exact λ k hk=>hg.late k (by simp[hk])
 have HT:=η hg.tree;have HSP:=η hg.sp;have HU1:=η hu1;have HGH:=η hgh;clear hg hu1 hgh;go_wp2_with fail
 go_loopw [5,3,4] (λ i ro er wr=>∃(q r:Nat) (S:List Nat) (M:Nat->Option Sec),q<=11/\i=.int .i64 (q:Int)/\ro=.int .u32 (r:Int)/\er=.int .i64 0/\B7 wr g M/\N0 (g.cur M) g.h r (Aj4 [] (upN q)) S/\(∀i,(M i).isSome=true->i=1∨i∈S)/\Upd [] w wr) (λ i _ _ _=>11-(intOf i).toNat)
 case atStart=>exact⟨0,0,[],λ _=>none,by omega,rfl,rfl,rfl,HSP.out,HT.out,by simp,HU1.out⟩
 case round=>
  obtain⟨q,r,S,M,hq,rfl,rfl,rfl,hsp,ht,hs,hu⟩:=hrel;rcases Nat.lt_or_ge q 11 with hlt | hge
  ·have hqb:decide ((q:Int)<11)=true:=decide_eq_true (by omega);have hsz:4*S.length<=(Aj4 [] (upN q)).length+3:=ht.at_.size;have hln:=Be7 (upN q) [];rw[Bt3] at hln;simp only[List.length_nil] at hln;have hlf:=ht.left;have hcn:=Bn6 hsp.ok hs;have HGH':=HGH.out;have HKY:Hid (∀w',Calls Tryz.prog 20 #[.int .i64 (q:Int)] w' λ e w''=>e=.returned (.agg (bts (Ad0 (q:Int))).toArray)/\Upd [] w' w''):=by
    show ∀w',_
    exact λ w'=>Ba0 (q:Int) w'
   have hPT:∀w',B7 w' g M->Calls Tryz.prog 58 #[.pointer (some ⟨g.x.tb,0,none⟩),.int .u32 (r:Int),.agg (bts (Ad0 (q:Int))).toArray,.agg (bts (Ah5 (q:Int))).toArray] w' (λ e w''=>∃M' r',e=.returned (.tuple #[.int .u32 ((r':Nat):Int),.int .i64 0])/\Aj2 g M M' r r' (Aj4 [] (upN q)) S (Ad0 (q:Int)) (Ah5 (q:Int)) 7/\B7 w'' g M'/\Upd g.S w' w''):=
    λ w' h'=>Bw8 h' (by omega) (by omega) ht (by omega) (Ad0 (q:Int)) (Ah5 (q:Int)) (X2 _) (Aj3 _) (by omega) (by omega)
   have bw:∀w',(Instr.build 115 #[(0,.int .u8 (q:Int))]).run Tryz.prog w'=.ok (.agg (bts (Ah5 (q:Int))).toArray) w':=λ w'=>by have:=Bc6 (q:Int) w';rwa [Int.emod_eq_of_lt (by omega) (by omega)] at this
   have HPT:=η hPT;have HTR:=η ht;have HSS:=η hs;have HU:=η hu;have HS:=η hsp;clear hsp ht hs hu hsz hln hlf hcn HGH' hPT;go_wp2_with fail
   refine(HKY.out _).mono ?_;rintro e w2 ⟨rfl,hu2⟩;have HS2:=η (HS.out.below hu2);have HU2:=η (HU.out.trans hu2);clear hu2;go_wp2_with fail
   refine(HPT.out _ HS2.out).mono ?_;rintro e w4 ⟨M',r',rfl,hpt,h4,hu4⟩;have HPU:=η hpt;have H4:=η h4;have HU4:=η (U5 HU2.out hu4 HLT.out);clear hpt h4 hu4;go_wp2_with fail
   obtain⟨S',hT',hGn⟩:=HTR.out.put HPU.out;refine⟨⟨q+1,r',S',M',by omega,by go_num,rfl,rfl,H4.out,?_,hGn.some HSS.out,HU4.out⟩,by simp[intOf];omega⟩;rw[Ch5,Bt2];exact hT'
  ·obtain rfl:q=11:=by omega
   have hqb:decide ((11:Int)<11)=false:=rfl;rcases ht.at_ with⟨_,hnil,_⟩ | ⟨hr0,d,hsh⟩
   ·rw[← List.length_eq_zero_iff,Bo0] at hnil;omega
   have hd1:d=1:=by
    have hl:=Bo0;cases d with
    | zero=>have:=hsh.2.2.1.most;rw[List.length_map] at this;omega
    | succ d=>
     have:=hsh.manyR;cases d with
     | zero=>rfl
     | succ d=>
      have h7:1<=7 ^ d:=Nat.pos_of_ne_zero (by simp);rw[Nat.pow_succ] at this;omega
   subst hd1;have hlow:=ht.low;have HGT:Hid (∀w',B7 w' g M->Calls Tryz.prog 61 #[.pointer (some ⟨g.x.tb,0,none⟩),.int .u32 (r:Int),.agg (bts (Ad0 3)).toArray] w' λ e w''=>e=.returned (.tuple #[.agg (bts (Ah5 3)).toArray,.int .i64 0])/\B7 w'' g M/\Upd [g.j.jb] w' w''):=by
    show ∀w',_
    intro w' h';have:=Bm7 h' hsh hlow (by omega) (Ad0 3) (X2 _);rw[Ca6] at this;exact this
   have HDP:Hid (∀w',B7 w' g M->Calls Tryz.prog 67 #[.pointer (some ⟨g.x.tb,0,none⟩),.int .u32 (r:Int)] w' λ e w''=>e=.returned (.tuple #[.int .i64 2,.int .i64 0])/\B7 w'' g M/\Upd [g.j.jb] w' w''):=by
    show ∀w',_
    exact λ w' h'=>Az3 h' hsh hlow (by omega)
   have HS:=η hsp;have HU:=η hu;have HK3:=η (Ba0 3 wr);unfold arr at HK3;clear hlow hsh hsp hu ht hs;go_wp2_with fail
   refine HK3.out.mono ?_;rintro e w2 ⟨rfl,hu2⟩;have HS2:=η (HS.out.below hu2);have HU2:=η (HU.out.trans hu2);clear hu2;go_wp2_with fail
   refine(HGT.out _ HS2.out).mono ?_;rintro e w3 ⟨rfl,h3,hu3⟩;obtain⟨w4,hw4⟩:∃w4,w4=(w3.alloc (.cells #[.int .u8 0,.int .u8 0,.int .u8 0,.int .u8 0,.int .u8 0,.int .u8 0,.int .u8 0,.int .u8 0,.int .u8 0,.int .u8 0,.int .u8 0,.int .u8 0,.int .u8 0,.int .u8 0,.int .u8 0,.int .u8 0] 115)).setRow w3.heap.size (bts (Ah5 3)).toArray:=⟨_,rfl⟩;have s6:=C7 (A6 (w:=w3) (.cells #[.int .u8 0,.int .u8 0,.int .u8 0,.int .u8 0,.int .u8 0,.int .u8 0,.int .u8 0,.int .u8 0,.int .u8 0,.int .u8 0,.int .u8 0,.int .u8 0,.int .u8 0,.int .u8 0,.int .u8 0,.int .u8 0] 115)) (l:=bts (Ah5 3)) (by rw[A8,Aj3];rfl) (G7 _);rw[← hw4] at s6;have c6:w4.heap[w3.heap.size]?=some (.cells (bts (Ah5 3)).toArray 115 (0,0)):=by rw[hw4];exact setRow_heap _ _ _ _ _ _ (A6 _)
   have hu4:Upd [] w3 w4:=by
    rw[hw4,N8];exact(Upd.refl _ _).alloc _
   have hz6:(Ah5 3).length=16:=Aj3 3;have H4:=η (h3.below hu4);have C6:=η c6;have HU4:=η (U5 (U5 HU2.out hu3 (λ k hk=>HLT.out k (g.mem k hk))) (hu4.mono (T:=[]) (by simp)) (by simp));clear h3 hu3 hw4 c6 hu4;go_wp2_with fail
   refine(HDP.out _ H4.out).mono ?_;rintro e w5 ⟨rfl,h5,hu5⟩;have m6:w5.cell? ⟨w3.heap.size,0,none⟩=some (.int .u8 3):=(A4 ((hu5.block _ (A2 C6.out) (λ q=>H4.out.other9 C6.out (.inr (.inr (.inr (.inl rfl)))) (g.mem _ q))).trans C6.out) 0).trans rfl;have HU5:=η (U5 HU4.out hu5 (λ k hk=>HLT.out k (g.mem k hk)));clear h5 hu5;go_wp2_with fail
   go_ret;exact⟨rfl,HU5.out⟩
end
theorem Cj0{w0 w:World}{j:JG}{n ring r:Nat}{l:List B0}{S:List Nat}{b:Int}{g:Sg}{M:Nat->Option Sec}(hg:TxG w0 j n ring b g)(h:B7 w g M)(ht:N0 g.H g.h r l S) :
  Calls Tryz.prog 33 #[.pointer (some ⟨g.x.tb,0,none⟩)] w λ e w'=>e=.returned (.tuple #[])/\Ca4 w' j n ring r l S b/\Upd [g.x.tb] w w':=by
 refine(Aw9 h.tx).mono ?_;rintro e w1 ⟨rfl,_,_,hu⟩;have hj:=h.jr.own hu (λ k hk=>by simp at hk;subst hk;exact⟨_,_,_,h.tx.st,by decide,by decide,by decide,by decide⟩);have e1:=hg.j;have e2:=hg.n;have e3:=hg.ring;refine⟨rfl,⟨g.J,g.D,g.t,g.m,g.H,?_,h.len,?_,hg.t,hg.m⟩,hu⟩
 ·rw[← e1,← e2,← e3];exact hj
 ·rw[← e2,← e3];exact ht

section
theorem An2(d:Nat){T:TypeId}{n:Nat}(hu:Tryz.prog.underlying T=some (.array n 5)){a:List UInt8}(ha:a.length=n)(w:World):(Op.equalIn (d+2) T (.agg (bts a).toArray) (.agg (bts a).toArray)).run Tryz.prog w=.ok true w:=by
 obtain⟨r,hr,hiff⟩:=Ai9 d a a w (List.range n) (λ i hi=>by have:=List.mem_range.1 hi;omega);obtain⟨i0,hi0⟩:∃i0,Tryz.prog.info? 5=some i0:=Option.isSome_iff_exists.1 (by kernel_rfl);have h1:=run_equalIn_array (P:=Tryz.prog) w (d+1) (t:=T) (bts a).toArray (bts a).toArray hu hi0;rw[Am8] at h1;rw[h1,hr,hiff.2 (λ _ _=>rfl)]
theorem Ap3{T:TypeId}{n:Nat}(hu:Tryz.prog.underlying T=some (.array n 5))(hi:(Tryz.prog.info? T).map (·.size)=some n)(hc:Tryz.prog.cellsOf T=n)(xs:List Value)(off:Nat)(w:World):(part T xs.toArray off).run Tryz.prog w=.ok (.agg ((xs.drop off).take n).toArray) w:=by
 obtain⟨i0,hi0,hi1⟩:=Option.map_eq_some_iff.1 hi;have h1:=run_sizeOf (P:=Tryz.prog) w hi0;have h2:xs.toArray.extract off (off+n)=((xs.drop off).take n).toArray:=by
  rw[List.extract_toArray,List.extract_eq_take_drop,Nat.add_sub_cancel_left]
 rw[hc] at h1;simp only[part,isAgg,Sem.run_bind,run_underlying hu,Result.andThen_ok,Sem.run_pure,h1,if_true];rw[h2]
theorem Bo4:(Tryz.prog.fieldsOf TP).toList.map (λ f=>(f.name,f.type,f.offset))=[("Key",35,0),("Val",115,32)]:=by kernel_rfl
theorem Bo5:Tryz.prog.underlying TP=some (.struct (Tryz.prog.fieldsOf TP)):=by kernel_rfl
theorem Cb3:Tryz.prog.stoodInHeld TP=false:=by kernel_rfl
theorem Ch8:(Tryz.prog.info? 115).map (·.size)=some 16:=by kernel_rfl
theorem Cn4{P:Program}{A B:Sem Value}{C:Value->Value->Sem Bool}{rest:Sem Bool}{w:World}{x y:Value}{r:Result Bool}(ha:A.run P w=.ok x w)(hb:B.run P w=.ok y w)(hc:(C x y).run P w=.ok true w)(hr:rest.run P w=r) :
  (do let a ← A;let b ← B;let r ← C a b;if(!r)=true then pure false else rest:Sem Bool).run P w=r:=by
 rw[Sem.run_bind,ha,Result.andThen_ok,Sem.run_bind,hb,Result.andThen_ok,Sem.run_bind,hc,Result.andThen_ok];exact hr
theorem Bt6{p:B0}(h1:p.1.length=32)(h2:p.2.length=16)(w:World):(Op.equalIn 10000 TP (.agg (pc p).toArray) (.agg (pc p).toArray)).run Tryz.prog w=.ok true w:=by
 rw[run_equalIn_struct w 9999 TP _ _ Bo5 Cb3];have hf:=Bo4;generalize (Tryz.prog.fieldsOf TP).toList=fl at hf ⊢;obtain⟨f1,fl1,rfl,g1,g2⟩:=List.map_eq_cons_iff.1 hf;obtain⟨f2,fl2,rfl,g3,g4⟩:=List.map_eq_cons_iff.1 g2;cases List.map_eq_nil_iff.1 g4
 ·simp only[Prod.mk.injEq] at g1 g3;obtain⟨n1,t1,o1⟩:=g1;obtain⟨n2,t2,o2⟩:=g3;clear hf g2 g4;have a1:=Ap3 Tryz.underlying35 Ae0 (by kernel_rfl) (pc p) 0 w;have a2:=Ap3 Tryz.underlying115 Ch8 (by kernel_rfl) (pc p) 32 w;have x1:((pc p).drop 0).take 32=bts p.1:=by
   unfold pc;rw[List.drop_zero];exact List.take_left' (by rw[A8,h1])
  have x2:((pc p).drop 32).take 16=bts p.2:=by
   unfold pc;rw[List.drop_left' (by rw[A8,h1])];exact List.take_of_length_le (by rw[A8,h2];exact Nat.le_refl _)
  rw[x1] at a1;rw[x2] at a2;have e1:(Op.equalIn 9999 35 (.agg (bts p.1).toArray) (.agg (bts p.1).toArray)).run Tryz.prog w=.ok true w:=An2 9997 Tryz.underlying35 h1 w;have e2:(Op.equalIn 9999 115 (.agg (bts p.2).toArray) (.agg (bts p.2).toArray)).run Tryz.prog w=.ok true w:=An2 9997 Tryz.underlying115 h2 w;have m1:f1.name≠"_" :=by rw[n1];decide
  have m2:f2.name≠"_" :=by rw[n2];decide
  unfold Op.eqFields;rw[if_pos m1,t1,o1];unfold Op.eqFields;rw[if_pos m2,t2,o2];unfold Op.eqFields;exact Cn4 a1 a1 e1 (Cn4 a2 a2 e2 (by rw[Sem.run_pure]))
theorem Aj6{w:World}{b o:Nat}{p:B0}(h:w.rangeAt b o (pc p))(h1:p.1.length=32)(h2:p.2.length=16):(loadCells ⟨b,o,none⟩ 48).run Tryz.prog w=.ok (pc p).toArray w:=by
 have:=run_loadCells_list (P:=Tryz.prog) w ⟨b,o,none⟩ (pc p) (λ j v hv=>by rw[Addr.add_mid];exact h j v hv);rw[L8 h1 h2] at this;exact this
attribute [-go_sem] loadCells storeCells Instr.build Instr.buildSlice Op.eqFields run_equalIn_agg Program.fieldsOf
theorem Ba7{w:World}{l:List B0}(hle:l.length<=1000)(hlen:∀p,p∈l->p.1.length=32/\p.2.length=16){va vb:Value}(ha:RRd w va 48 (l.map pc))(hb:RRd w vb 48 (l.map pc)) :
  Calls Tryz.prog 64 #[va,vb] w λ e w'=>e=.returned (.bool true)/\Upd [] w w':=by
 obtain⟨aa,ca,rfl⟩:=ha.shape;obtain⟨ab,cb,rfl⟩:=hb.shape;have hlm:(l.map pc).length=l.length:=List.length_map _;rw[hlm];rw[hlm] at ha hb;clear hlm;have HA:=η ha;have HB:=η hb;have HL:=η hlen;clear ha hb hlen;have hnb:(((l.length:Nat):Int) == (l.length:Int))=true:=beq_self_eq_true _;go_enter Tryz.func64,Tryz.ntmps64
 go_wp2_with fail
 go_loopw [5] (λ i wr=>∃q:Nat,q<=l.length/\i=.int .i64 (q:Int)/\Upd [] w wr) (λ i _=>l.length-(intOf i).toNat)
 case atStart=>exact⟨0,by omega,rfl,Upd.refl _ _⟩
 case round=>
  obtain⟨q,hq,rfl,hu⟩:=hrel;have HU:=η hu;rcases Nat.lt_or_ge q l.length with hlt | hge
  ·have hqb:decide ((q:Int)<(l.length:Int))=true:=decide_eq_true (by omega);have hqi:(q:Int)<(l.length:Int):=by omega
   obtain⟨p,hp⟩:∃p,l[q]?=some p:=⟨_,List.getElem?_eq_getElem hlt⟩;obtain⟨hp1,hp2⟩:=HL.out p (List.mem_of_getElem? hp);obtain⟨ba,oa,rfl,hra⟩:=HA.out.at (i:=q) (e:=pc p) (by rw[List.getElem?_map,hp];rfl);obtain⟨bb,ob,rfl,hrb⟩:=HB.out.at (i:=q) (e:=pc p) (by rw[List.getElem?_map,hp];rfl);have hra':=E9 hra hu (by simp);have hrb':=E9 hrb hu (by simp);have l1:∀n,(loadCells ⟨ba,oa+q*48,none⟩ 48).run Tryz.prog (wr.drewN n)=.ok (pc p).toArray (wr.drewN n):=λ n=>Aj6 hra' hp1 hp2;have l2:∀n,(loadCells ⟨bb,ob+q*48,none⟩ 48).run Tryz.prog (wr.drewN n)=.ok (pc p).toArray (wr.drewN n):=λ n=>Aj6 hrb' hp1 hp2;have heq:∀w,(Op.equalIn 10000 169 (.agg (pc p).toArray) (.agg (pc p).toArray)).run Tryz.prog w=.ok true w:=λ w=>Bt6 hp1 hp2 w;clear hp hra hrb hra' hrb' hu;go_wp2_with fail
   generalize pc p=PP at *;go_quiet (fail)
   all_goals
    go_wp2_with fail
    exact⟨⟨q+1,by omega,by go_num,HU.out.drewN _⟩,by simp[intOf];omega⟩
  ·obtain rfl:q=l.length:=by omega
   have hqb:decide ((l.length:Int)<(l.length:Int))=false:=decide_eq_false (by omega);clear hu;go_wp2_with fail
   go_ret;exact⟨rfl,HU.out⟩
end
section
def Ab3(l:List B0):Prop:=∀p,p∈l->p.1.length=32/\p.2.length=16
def R4(w:World)(v:Value)(l:List B0):Prop:=RRd w v 48 (l.map pc)
theorem R4.nil(w:World):R4 w (.slice none 0 0) []:=⟨none,0,rfl,Nat.le_refl _,λ q=>by simp at q⟩
theorem R4.shape{w:World}{v:Value}{l:List B0}(h:R4 w v l):∃a c,v=.slice a l.length c/\l.length<=c:=by
 obtain⟨ao,cap,e,hc,_⟩:=h;rw[List.length_map] at e hc;exact⟨ao,cap,e,hc⟩
theorem R4.below{w w':World}{v:Value}{l:List B0}(h:R4 w v l)(hu:Upd [] w w'):R4 w' v l:=h.keep hu (λ _ _ _ _=>by simp)
theorem E8.row{w:World}{B:Nat}{v:Value}{l:List B0}(h:E8 w B v l)(hl:Ab3 l):R4 w v l:=
 Au9 h (by rw[List.length_map]) (λ e he=>by
  obtain⟨p,hp,rfl⟩:=List.mem_map.1 he;exact L8 (hl p hp).1 (hl p hp).2)
theorem R4.at_{w:World}{a:Option Addr}{n c:Nat}{l:List B0}(h:R4 w (.slice a n c) l){i:Nat}{p:B0}(hp:l[i]?=some p):∃b off,a=some ⟨b,off,none⟩/\w.rangeAt b (off+i*48) (pc p):=
 RRd.at h (by rw[List.getElem?_map,hp];rfl)
theorem pcK{w:World}{b o:Nat}{p:B0}(h:w.rangeAt b o (pc p)):w.rangeAt b o (bts p.1):=λ j v hv=>h j v (by
 unfold pc;rw[List.getElem?_append_left (List.getElem?_eq_some_iff.1 hv).1];exact hv)
theorem pcV{w:World}{b o:Nat}{p:B0}(h:w.rangeAt b o (pc p))(h1:p.1.length=32):w.rangeAt b (o+32) (bts p.2):=λ j v hv=>by
 have:=h (32+j) v (by
  unfold pc;rw[List.getElem?_append_right (by rw[A8];omega),A8,h1,show 32+j-32=j by omega];exact hv)
 rw[← this];congr 2
 omega
theorem Ar9(a:Addr):a.add 0=a:=by unfold Addr.add;split<;>simp_all
theorem Cn8:Tryz.prog.underlying 110=some (.slice (Tryz.prog.elem 110)):=by kernel_rfl
theorem Ci5(w:World):(Go.sizeOf (Tryz.prog.elem 110)).run Tryz.prog w=.ok 48 w:=by kernel_rfl
theorem Al9(w:World):(Instr.buildSlice 110 0 #[]).run Tryz.prog w=.ok (.slice (some ⟨w.heap.size,0,none⟩) 0 0) (w.alloc (.cells #[] 169)):=by kernel_rfl
theorem Bq0(a:Option Addr)(k n c:Nat)(hk:k<=c)(w:World):(Instr.slice 110 (.slice a n c) none (some (.int .i64 (k:Int))) none).run Tryz.prog w=.ok (.slice a k c) w:=by
 rw[run_slice_h (P:=Tryz.prog) w 110 a n c Cn8 .i64 (k:Int) (by omega) (by omega),Ci5];have e:a.map (·.add (0*48))=a:=by cases a with
  | none=>rfl
  | some a=>simp[Ar9]
 simp[Result.andThen,sliced];intro _;cases a with
 | none=>rfl
 | some a=>simp[Ar9]
def At9(a:Option Addr)(k c:Nat):Option Addr:=if c=k then a else a.map (·.add (k*48))
theorem Av3(a:Option Addr)(k n c:Nat)(hk:k<=n)(w:World):(Instr.slice 110 (.slice a n c) (some (.int .i64 (k:Int))) none none).run Tryz.prog w=.ok (.slice (At9 a k c) (n-k) (c-k)) w:=by
 rw[run_slice_l (P:=Tryz.prog) w 110 a n c Cn8 .i64 (k:Int) (by omega) (by omega),Ci5];simp[Result.andThen,sliced,At9]
theorem R4.front{w:World}{a:Option Addr}{n c:Nat}{l:List B0}(h:R4 w (.slice a n c) l){i:Nat}(hi:i<=l.length):R4 w (.slice a i c) (l.take i):=by
 unfold R4 at *;rw[List.map_take];exact RRd.take h (by rw[List.length_map];exact hi)
theorem R4.back{w:World}{a:Option Addr}{n c:Nat}{l:List B0}(h:R4 w (.slice a n c) l){i:Nat}(hi:i<=l.length):R4 w (.slice (At9 a i c) (n-i) (c-i)) (l.drop i):=by
 obtain⟨ao,cap,e,hc,hh⟩:=h;rw[List.length_map] at e hc hh;injection e with e1 e2 e3;subst e1 e2 e3;refine⟨_,_,by rw[List.length_map,List.length_drop],by rw[List.length_map,List.length_drop];omega,λ hp=>?_⟩;rw[List.length_map,List.length_drop] at hp;obtain⟨b,off,rfl,hr⟩:=hh (by omega);refine⟨b,off+i*48,by unfold At9;rw[if_neg (by omega)];simp[I5],λ j x hx=>?_⟩;rw[List.map_drop,List.getElem?_drop] at hx;have:=hr (i+j) x hx;rw[show off+i*48+j*48=off+(i+j)*48 by omega];exact this
theorem R4.flat{w:World}{a:Option Addr}{n c:Nat}{l:List B0}(h:R4 w (.slice a n c) l)(hl:Ab3 l)(hp:0<l.length):∃b off,a=some ⟨b,off,none⟩/\∀(k:Nat) u,(l.map pc).flatten[k]?=some u->w.cell? ⟨b,off+k,none⟩=some u:=by
 obtain⟨ao,cap,e,_,hh⟩:=h;cases e
 rw[List.length_map] at hh;obtain⟨b,off,rfl,hr⟩:=hh hp;refine⟨b,off,rfl,λ k u hk=>?_⟩;have hes:∀e,e∈l.map pc->e.length=48:=λ e he=>by
  obtain⟨p,hp,rfl⟩:=List.mem_map.1 he;exact L8 (hl p hp).1 (hl p hp).2
 have hkl:=(List.getElem?_eq_some_iff.1 hk).1;rw[M5 hes,List.length_map] at hkl;have hi:k / 48<l.length:=Nat.div_lt_of_lt_mul (by omega);have hg:=Ao5 hes (i:=k / 48) (j:=k % 48) (e:=pc l[k / 48]) (by rw[List.getElem?_map,List.getElem?_eq_getElem hi];rfl) (Nat.mod_lt _ (by decide));have hkk:k / 48*48+k % 48=k:=Nat.div_add_mod' k 48;rw[hkk,hk] at hg;have:=hr (k / 48) _ (by rw[List.getElem?_map,List.getElem?_eq_getElem hi];rfl) (k % 48) u hg.symm;rw[← this];congr 2
 omega
theorem Bj0{w:World}{a:Option Addr}{n c cx:Nat}(hn:n<=c)(ty:TypeId):(Builtin.append_ #[110,110] ty #[.slice a n c,.slice none 0 cx]).run Tryz.prog w=.ok (.slice a n c) w:=by
 obtain⟨i0,hi,hz,hz1,hz2⟩:=info_parts Ae3;cases a<;>simp[Builtin.append_,run_underlying Tryz.underlying110,sizeOf,typeInfo,zeroValue,hi,hz,Builtin.lenOf,hn,Question.forced,run_firstCells_none,storeCells]
theorem Cm6{w:World}{B n sz:Nat}{e:TypeId}{a:Option Addr}{m c:Nat}{xs:List Value}(h:w.ownsRow B e sz (.slice a m c) n xs):n<=c:=by
 rcases h.2 with⟨e1,h0⟩ | ⟨g,cap,cur,e1,_,_,hc,_⟩
 ·omega
 ·cases e1;exact hc
theorem Z4{w:World}{B:Nat}{v x:Value}{l lx:List B0}(hp:E8 w B v l)(hx:R4 w x lx)(hlx:Ab3 lx)(hln:l.length+lx.length<=1000)(hB:B<=w.heap.size) :
  ∃a c w' S,(∀ty,(Builtin.append_ #[110,110] ty #[v,x]).run Tryz.prog w=.ok (.slice a (l.length+lx.length) c) w')/\E8 w' B (.slice a (l.length+lx.length) c) (l++lx)/\
   Upd S w w'/\(∀k,k∈S->B<=k/\∃c,w.heap[k]?=some (.cells c TP (0,0))):=by
 obtain⟨ax,cx,rfl,hcx⟩:=hx.shape;have key:∀ad:Addr,ax=some ad->(∀(k:Nat) u,(lx.map pc).flatten[k]?=some u->w.cell? (ad.add k)=some u)->∃a c w' S,(∀ty,(Builtin.append_ #[110,110] ty #[v,.slice ax lx.length cx]).run Tryz.prog w=.ok (.slice a (l.length+lx.length) c) w')/\E8 w' B (.slice a (l.length+lx.length) c) (l++lx)/\
   Upd S w w'/\(∀k,k∈S->B<=k/\∃c,w.heap[k]?=some (.cells c TP (0,0))):=λ ad e hcell=>by
  subst e;obtain⟨i0,hi0,hz0,hz1,hz2⟩:=info_parts Ae3;have h1:∀u∈(lx.map pc).flatten,u.oneCell'=true:=by
   intro u hu;rw[List.mem_flatten] at hu;obtain⟨e,he,hue⟩:=hu;rw[List.mem_map] at he;obtain⟨p,_,rfl⟩:=he;exact Ae4 p u hue
  have hfl:(lx.map pc).flatten.length=lx.length*48:=by
   rw[M5 (sz:=48) (λ e he=>by obtain⟨p,hp,rfl⟩:=List.mem_map.1 he;exact L8 (hlx p hp).1 (hlx p hp).2),List.length_map]
  have hmul:(l.length+lx.length)*48<=140737488355328:=Nat.le_trans (Nat.mul_le_mul hln (Nat.le_refl _)) (by decide);obtain⟨v',w',hrun,hown,hg,_⟩:=run_append_own (P:=Tryz.prog) w B 110 0 TP i0 _ 48 48 Tryz.underlying110 hi0 hz0 hz1 hz2 rfl (by decide) v l.length _ hp ad lx.length cx (lx.map pc).flatten hfl
   hcell h1 (by unfold maxLen;omega) hmul hB
  obtain⟨a,c',rfl⟩:=C4 hown;have hP:E8 w' B (.slice a (l.length+lx.length) c') (l++lx):=by
   unfold E8;rw[List.length_append,List.map_append,List.flatten_append];exact hown
  rcases hp.2 with⟨rfl,_⟩ | ⟨gv,capv,cur,rfl,hb,hgb,_⟩
  ·exact⟨a,c',w',[],λ _=>hrun,hP,⟨hg.os,hg.tape,hg.output,hg.size,λ k hk _=>hg.block k hk (by simp[Value.ownBlock])⟩,by simp⟩
  ·exact⟨a,c',w',[gv],λ _=>hrun,hP,⟨hg.os,hg.tape,hg.output,hg.size,λ k hk hS=>hg.block k hk (by simp[Value.ownBlock];rintro rfl;exact hS (by simp))⟩,λ k hk=>by simp at hk;subst hk;exact⟨hb,_,hgb⟩⟩
 rcases Nat.eq_zero_or_pos lx.length with h0 | h0
 ·obtain rfl:lx=[]:=List.length_eq_zero_iff.1 h0;cases ax with
  | none=>
   obtain⟨a,c,rfl⟩:=hp.shape;exact⟨a,c,w,[],λ ty=>Bj0 (Cm6 hp) ty,by rw[List.append_nil];exact hp,Upd.refl _ _,by simp⟩
  | some ad=>exact key ad rfl (by simp)
 ·obtain⟨b,off,e,hcell⟩:=hx.flat hlx h0;exact key _ e (λ k u hk=>by rw[I5];exact hcell k u hk)
theorem Au0(w:World)(B:Nat)(hB:B<=w.heap.size):E8 (w.alloc (.cells #[] 169)) B (.slice (some ⟨w.heap.size,0,none⟩) 0 0) []:=
 ⟨by simp,.inr ⟨w.heap.size,0,#[],rfl,hB,A6 _,Nat.le_refl _,by unfold maxLen;omega,by simp,by simp⟩⟩
theorem Bb3{w:World}{B:Nat}{v:Value}{l:List B0}(hp:E8 w B v l)(p:B0)(h1:p.1.length=32)(h2:p.2.length=16)(hl:l.length<=1000)(hB:B<=w.heap.size) :
  ∃a b c' w' S,(∀ty,(Builtin.append_ #[110,110] ty #[v,.slice (some ⟨w.heap.size,0,none⟩) 1 1]).run Tryz.prog (w.alloc (.cells (pc p).toArray 169))=.ok (.slice a b c') w')/\E8 w' B (.slice a b c') (l ++ [p])/\b=l.length+1/\
   Upd S w w'/\(∀k,k∈S->B<=k/\∃c,w.heap[k]?=some (.cells c TP (0,0))):=by
 obtain⟨a,b,c',w',S,hrun,hown,hu,hS⟩:=Af4 (T:=110) (e:=169) Tryz.underlying110 Ae3 rfl (by decide) (by decide) hp hl hB (pc p) (L8 h1 h2) (Ae4 p);have hb:b=l.length+1:=by
  obtain⟨a2,c2,e⟩:=C4 hown;injection e
 refine⟨a,b,c',w',S,hrun,?_,hb,hu,hS⟩;unfold E8;rw[List.length_append,List.map_append,List.flatten_append];simpa using hown
theorem Bq1:∀(l:List B0) (key v:Bs),J8 l key v=(l.take (F4 (l.map (·.1)) key) ++ [(key,v)])++l.drop (if I4 (l.map (·.1)) key then F4 (l.map (·.1)) key+1 else F4 (l.map (·.1)) key)
 | [],key,v=>by simp[J8,F4,I4]
 | p :: l,key,v=>by
  have ih:=Bq1 l key v;unfold J8;by_cases h:ltB p.1 key=true
  ·have hp:F4 ((p :: l).map (·.1)) key=F4 (l.map (·.1)) key+1:=by simp[F4,h]
   have hh:I4 ((p :: l).map (·.1)) key=I4 (l.map (·.1)) key:=by unfold I4;rw[hp];simp
   rw[if_pos h,hp,hh,ih];cases I4 (l.map (·.1)) key<;>simp
  ·have hp:F4 ((p :: l).map (·.1)) key=0:=by simp[F4,h]
   rw[if_neg h,hp];by_cases e:p.1=key
   ·have hh:I4 ((p :: l).map (·.1)) key=true:=by unfold I4;rw[hp];simp[e]
    rw[if_pos e,hh];simp
   ·have hh:I4 ((p :: l).map (·.1)) key=false:=by unfold I4;rw[hp];simp[e]
    rw[if_neg e,hh];simp
theorem Bq2:∀{l:List B0} {key:Bs},(l.map (·.1)).Pairwise (λ x y=>ltB x y=true)->I4 (l.map (·.1)) key=true->N7 l key=l.take (F4 (l.map (·.1)) key)++l.drop (F4 (l.map (·.1)) key+1)
 | [],key,_,h=>by simp[I4] at h
 | p :: l,key,hs,hh=>by
  rw[List.map_cons,List.pairwise_cons] at hs;by_cases h:ltB p.1 key=true
  ·have hp:F4 ((p :: l).map (·.1)) key=F4 (l.map (·.1)) key+1:=by simp[F4,h]
   have hh2:I4 (l.map (·.1)) key=true:=by unfold I4 at hh ⊢;rw[hp] at hh;simpa using hh
   rw[hp];have ih:=Bq2 hs.2 hh2;have:N7 (p :: l) key=p :: N7 l key:=by
    unfold N7;rw[List.filter_cons_of_pos (by simpa using Bi6 h)]
   rw[this,ih];simp
  ·have hp:F4 ((p :: l).map (·.1)) key=0:=by simp[F4,h]
   have e:p.1=key:=by unfold I4 at hh;rw[hp] at hh;simpa using hh
   rw[hp];have:N7 (p :: l) key=l:=by
    unfold N7;rw[List.filter_cons_of_neg (by simpa using e)];exact Ar4 λ q hq=>by rw[← e];exact hs.1 q.1 (List.mem_map_of_mem hq)
   rw[this];simp
theorem Au1:∀{l:List B0} {key:Bs},(l.map (·.1)).Pairwise (λ x y=>ltB x y=true)->(l.filter λ x=> !ltB x.1 key)=l.drop (F4 (l.map (·.1)) key)
 | [],key,_=>by simp
 | p :: l,key,hs=>by
  rw[List.map_cons,List.pairwise_cons] at hs;by_cases h:ltB p.1 key=true
  ·have hp:F4 ((p :: l).map (·.1)) key=F4 (l.map (·.1)) key+1:=by simp[F4,h]
   rw[hp,List.filter_cons_of_neg (by simp[h]),Au1 hs.2];simp
  ·have hp:F4 ((p :: l).map (·.1)) key=0:=by simp[F4,h]
   rw[hp,List.drop_zero];refine List.filter_eq_self.2 λ q hq=>?_;have h':ltB p.1 key=false:=by simpa using h
   rcases List.mem_cons.1 hq with rfl | hq
   ·rw[h'];rfl
   ·cases hc:ltB q.1 key
    ·rfl
    ·have:=I8 (hs.1 q.1 (List.mem_map_of_mem hq)) hc;rw[h'] at this;cases this
theorem Ab3.take{l:List B0}(h:Ab3 l)(i:Nat):Ab3 (l.take i):=λ p hp=>h p (List.mem_of_mem_take hp)
theorem Ab3.drop{l:List B0}(h:Ab3 l)(i:Nat):Ab3 (l.drop i):=λ p hp=>h p (List.mem_of_mem_drop hp)
attribute [-go_sem] loadCells storeCells Instr.build Instr.buildSlice
theorem Ap6{w:World}{v:Value}{l:List B0}(hv:R4 w v l)(hl:Ab3 l)(hn:l.length<=1000)(key:Bs)(hkey:key.length=32) :
  Calls Tryz.prog 132 #[v,.agg (bts key).toArray] w λ e w'=>e=.returned (.int .i64 (F4 (l.map (·.1)) key:Int))/\Upd [] w w':=by
 obtain⟨av,cv,rfl,hcv⟩:=hv.shape;obtain⟨wA,hwA⟩:∃wA,wA=w.alloc (.cells (bts key).toArray 35):=⟨_,rfl⟩;have huA:Upd [] w wA:=by rw[hwA];exact(Upd.refl _ _).alloc _
 obtain⟨b3,hb3⟩:∃b,b=w.heap.size:=⟨_,rfl⟩;have h3:wA.heap[b3]?=some (.cells (bts key).toArray 35 (0,0)):=by rw[hwA,hb3];exact A6 _
 have H3:=η h3;have HV:=η (hv.below huA);have HUA:=η huA;have HW:=η hwA;have HB:=η hb3;have HL:=η hl;clear hv huA h3 hwA hb3 hl;go_enter Tryz.func132,Tryz.ntmps132
 go_wp2_with fail
 rw[← HW.out,← HB.out];go_loopw [5] (λ i wr=>∃q:Nat,q<=l.length/\i=.int .i64 (q:Int)/\(∀p k,p<q->(l.map (·.1))[p]?=some k->ltB k key=true)/\Upd [] wA wr) (λ i _=>l.length-(intOf i).toNat)
 case atStart=>exact⟨0,Nat.zero_le _,rfl,λ p k hp=>by omega,Upd.refl _ _⟩
 case round=>
  obtain⟨q,hq,rfl,hall,hu⟩:=hrel;have HAll:=η hall;have HUr:=η hu;have h3r:=(hu.block _ (A2 H3.out) (by simp)).trans H3.out;have H3r:=η h3r;have HVr:=η (HV.out.below hu);clear hall hu h3r;rcases Nat.lt_or_ge q l.length with hlt | hge
  ·have hlt':decide ((q:Int)<(l.length:Int))=true:=decide_eq_true (by omega);have hlt2:decide (q<l.length)=true:=decide_eq_true hlt;have i0:(0:Int)<=(q:Int):=by omega
   have i1:(q:Int)<(l.length:Int):=by omega
   obtain⟨p,hp⟩:∃p,l[q]?=some p:=⟨_,List.getElem?_eq_getElem hlt⟩;obtain⟨hp1,hp2⟩:=HL.out p (List.mem_of_getElem? hp);obtain⟨bv,off,rfl,hr⟩:=HVr.out.at_ hp;have HR:=η (pcK hr);have HPQ:Hid ((l.map (·.1))[q]?=some p.1):=η (by rw[List.getElem?_map,hp];rfl);clear hp hr;go_wp2_with fail
   refine B6 (λ w'=>Upd [] wr w') [] (by kernel_rfl) (Upd.refl _ _).drew (λ hHeld=>?_);generalize wr.drew=w0 at hHeld ⊢;refine κt 0 ?_ hHeld ?_ ?_;rotate_left
   ·(intro w hSw;go_simp<;>with_reducible rfl)
   try simp only[Act.put,κg,κo,κp,αs,αz,αc]
   refine κt 1 ?_ hHeld ?_ ?_;rotate_left
   ·(intro w hSw;go_simp<;>with_reducible rfl)
   try simp only[Act.put,κg,κo,κp,αs,αz,αc]
   refine κt 2 ?_ hHeld ?_ ?_;rotate_left
   ·(intro w hSw;go_simp<;>with_reducible rfl)
   try simp only[Act.put,κg,κo,κp,αs,αz,αc]
   refine κt 3 ?_ hHeld ?_ ?_;rotate_left
   ·(intro w hSw;go_simp<;>with_reducible rfl)
   try simp only[Act.put,κg,κo,κp,αs,αz,αc]
   refine κt 4 ?_ hHeld ?_ ?_;rotate_left
   ·(intro w hSw;go_simp<;>with_reducible rfl)
   try simp only[Act.put,κg,κo,κp,αs,αz,αc]
   refine κt 5 ?_ hHeld ?_ ?_;rotate_left
   ·(intro w hSw;go_simp<;>with_reducible rfl)
   try simp only[Act.put,κg,κo,κp,αs,αz,αc]
   refine κt 6 ?_ hHeld ?_ ?_;rotate_left
   ·(intro w hSw;go_simp<;>with_reducible rfl)
   try simp only[Act.put,κg,κo,κp,αs,αz,αc]
   refine κt 7 ?_ hHeld ?_ ?_;rotate_left
   ·(intro w hSw;go_simp<;>with_reducible rfl)
   try simp only[Act.put,κg,κo,κp,αs,αz,αc]
   refine κt 8 ?_ hHeld ?_ ?_;rotate_left
   ·(intro w hSw;go_simp<;>with_reducible rfl)
   try simp only[Act.put,κg,κo,κp,αs,αz,αc]
   refine κt 9 ?_ hHeld ?_ ?_;rotate_left
   ·(intro w hSw;have l0:=B2 (E9 HR.out hSw (by simp)) hp1;go_simp<;>with_reducible rfl)
   try simp only[Act.put,κg,κo,κp,αs,αz,αc]
   refine κt 10 ?_ hHeld ?_ ?_;rotate_left
   ·(intro w hSw;have l0:=A7 (n:=32) ((hSw.block _ (A2 H3r.out) (by simp)).trans H3r.out) (by rw[A8,hkey]);go_simp<;>with_reducible rfl)
   try simp only[Act.put,κg,κo,κp,αs,αz,αc]
   obtain⟨lb,hlb⟩:∃lb,ltB p.1 key=lb:=⟨_,rfl⟩;refine κr 11 (λ K hK=>?_);go_simp;go_at_call 202
   (with_reducible refine(R5 p.1 key hp1 hkey _).mono ?_)
   rintro e wl ⟨rfl,hul⟩;rw[hlb];refine hK.out _ _ (λ _=>hHeld.trans hul) ?_;replace hHeld:=hHeld.trans hul;clear hul hK K;try simp only[Act.put,κg,κo,κp,αs,αz,αc]
   refine κt 12 ?_ hHeld ?_ ?_;rotate_left
   ·(intro w hSw;go_simp<;>with_reducible rfl)
   try simp only[Act.put,κg,κo,κp,αs,αz,αc]
   refine B1 (by kernel_rfl) ?_ _;have HLB:=η hlb;have HU2:=η ((HUr.out.trans hHeld));clear hlb hHeld;cases lb
   ·have hpk:F4 (l.map (·.1)) key=q:=Af1 (by rw[List.length_map];omega) HAll.out (λ k e=>by rw[HPQ.out] at e;cases e;exact HLB.out);have HP:=η hpk;clear hpk;go_wp2_with fail
    go_ret;exact⟨by rw[HP.out];rfl,HUA.out.trans HU2.out⟩
   ·go_wp2_with fail
    exact⟨⟨q+1,by omega,by go_num,λ p' k hp' e=>(by
     by_cases e2:p'=q
     ·subst e2;rw[HPQ.out] at e;cases e;exact HLB.out
     ·exact HAll.out p' k (by omega) e),HU2.out⟩,by simp[intOf];omega⟩
  ·obtain rfl:q=l.length:=by omega
   have hlt':decide ((l.length:Int)<(l.length:Int))=false:=by simp
   have hpk:F4 (l.map (·.1)) key=l.length:=Af1 (by rw[List.length_map];omega) HAll.out (λ k e=>by rw[List.getElem?_eq_none (by rw[List.length_map];omega)] at e;cases e);have HP:=η hpk;clear hpk;go_wp2_with fail
   refine B6 (λ w'=>Upd [] wr w') [] (by kernel_rfl) (Upd.refl _ _).drew (λ hHeld=>?_);generalize wr.drew=w0 at hHeld ⊢;refine κt 0 ?_ hHeld ?_ ?_;rotate_left
   ·(intro w hSw;go_simp<;>with_reducible rfl)
   try simp only[Act.put,κg,κo,κp,αs,αz,αc]
   refine κt 1 ?_ hHeld ?_ ?_;rotate_left
   ·(intro w hSw;go_simp<;>with_reducible rfl)
   try simp only[Act.put,κg,κo,κp,αs,αz,αc]
   refine κt 2 ?_ hHeld ?_ ?_;rotate_left
   ·(intro w hSw;go_simp<;>with_reducible rfl)
   try simp only[Act.put,κg,κo,κp,αs,αz,αc]
   refine κt 3 ?_ hHeld ?_ ?_;rotate_left
   ·(intro w hSw;go_simp<;>with_reducible rfl)
   try simp only[Act.put,κg,κo,κp,αs,αz,αc]
   refine κt 4 ?_ hHeld ?_ ?_;rotate_left
   ·(intro w hSw;go_simp<;>with_reducible rfl)
   try simp only[Act.put,κg,κo,κp,αs,αz,αc]
   refine A0 (i:=5) (v:=undef) rfl (by kernel_rfl) (λ _ _ _ h=>h) hHeld (Or.inr ⟨by kernel_rfl,rfl⟩) ?_;try simp only[Act.put,κg,κo,κp,αs,αz,αc]
   refine A0 (i:=6) (v:=undef) rfl (by kernel_rfl) (λ _ _ _ h=>h) hHeld (Or.inr ⟨by kernel_rfl,rfl⟩) ?_;try simp only[Act.put,κg,κo,κp,αs,αz,αc]
   refine A0 (i:=7) (v:=undef) rfl (by kernel_rfl) (λ _ _ _ h=>h) hHeld (Or.inr ⟨by kernel_rfl,rfl⟩) ?_;try simp only[Act.put,κg,κo,κp,αs,αz,αc]
   refine A0 (i:=8) (v:=undef) rfl (by kernel_rfl) (λ _ _ _ h=>h) hHeld (Or.inr ⟨by kernel_rfl,rfl⟩) ?_;try simp only[Act.put,κg,κo,κp,αs,αz,αc]
   refine A0 (i:=9) (v:=undef) rfl (by kernel_rfl) (λ _ _ _ h=>h) hHeld (Or.inr ⟨by kernel_rfl,rfl⟩) ?_;try simp only[Act.put,κg,κo,κp,αs,αz,αc]
   refine A0 (i:=10) (v:=undef) rfl (by kernel_rfl) (λ _ _ _ h=>h) hHeld (Or.inr ⟨by kernel_rfl,rfl⟩) ?_;try simp only[Act.put,κg,κo,κp,αs,αz,αc]
   refine κr 11 (λ K hK=>?_);go_simp;refine hK.out _ _ (λ _=>hHeld) ?_;clear hK K;try simp only[Act.put,κg,κo,κp,αs,αz,αc]
   refine κt 12 ?_ hHeld ?_ ?_;rotate_left
   ·(intro w hSw;go_simp<;>with_reducible rfl)
   try simp only[Act.put,κg,κo,κp,αs,αz,αc]
   refine B1 (by kernel_rfl) ?_ _;have HU2:=η ((HUr.out.trans hHeld));clear hHeld;go_wp2_with fail
   go_ret;exact⟨by rw[HP.out];rfl,HUA.out.trans HU2.out⟩
end
end Go.Proofs.YtgfbepakonjbnaaGreat
end
