/-
  cofferlaw9.below, by the floors; cofferlaw9.Walk.
-/
import Derived.Test.YtgfbepakonjbnaaGreatY25
import Derived.Test.YtgfbepakonjbnaaGreatY23
set_option maxRecDepth 100000
set_option maxHeartbeats 16000000
section
set_option linter.unusedSimpArgs false
set_option linter.unusedVariables false
namespace Go.Proofs.YtgfbepakonjbnaaGreat
open Go.RowKit Go.MapKept Go.ChangeMaps
theorem Ax9:∀(d:Nat) {w:World} {g:Sg} {M:Nat->Option Sec} (_:B8 w g M) (_:1<g.h) (_:g.h<=4096) (root low high:Bool) (a:Nat) {l:List B0} {S:List Nat} (_:E6 (g.cur M) root d a l S) (_:∀s,s∈S->(4<=s/\s<g.h)/\g.T M s=true) (lo hi:Bs) (_:lo.length=32) (_:hi.length=32) (_:low=true->∀p,p∈l->ltB p.1 lo=false) (_:high=true->∀p,p∈l->ltB p.1 hi=true) (left:Nat) (_:d<left/\left<=9) (_:l.length<490),
  Calls Tryz.prog 130 #[.pointer (some ⟨g.x.tb,0,none⟩),.int .i64 (a:Int),.bool root,.bool low,.bool high,arr lo,arr hi,.int .i64 (left:Int)] w (Ad6 g M d l w)
 | 0,w,g,M,h,h1,h2,root,low,high,a,l,S,hs,hh,lo,hi,hlo,hhi,hlow,hhigh,left,hleft,hln=>Bp2 h h1 h2 root low high a hs hh lo hi hlo hhi hlow hhigh left hleft
 | d+1,w,g,M,h,h1,h2,root,low,high,a,l,S,hs,hh,lo,hi,hlo,hhi,hlow,hhigh,left,hleft,hln=>
  Bl4 h h1 h2 root low high a hs hh lo hi hlo hhi hlow hhigh left hleft hln
   (fun {c lc Sc} hs' hh' hl' w' h' low' high' lo' hi' q1 q2 q3 q4=>Ax9 d h' h1 h2 false low' high' c hs' hh' lo' hi' q1 q2 q3 q4 (left-1) ⟨by omega,by omega⟩ hl')
theorem Ay0{w:World}{g:Sg}{M:Nat->Option Sec}(h:B8 w g M)(h1:1<g.h)(h2:g.h<=4096){r:Nat}{l:List B0}{S:List Nat}(ht:Y8 (g.cur M) r l S)(hh:K5 g M S)(hl:l.length<490) :
  Calls Tryz.prog 57 #[.pointer (some ⟨g.x.tb,0,none⟩),.int .u32 (r:Int)] w λ e w'=>∃a c' k,e=.returned (.tuple #[.slice a l.length c',.int .i64 (k:Int),.bool true])/\K1 w' w.heap.size (.slice a l.length c') l/\B8 w' g M/\Upd g.S w w':=by
 rcases ht with⟨rfl,rfl,rfl⟩ | ⟨hr,d,hs⟩
 ·have H:=η h;clear h;go_enter Tryz.func57,Tryz.ntmps57
  go_wp2_with fail
  refine bodyPost_ret (results_tmp3 (t:=4) (u:=5) (v:=6) (by rfl) _ _ _) (by rfl) ?_;exact⟨none,0,0,rfl,Ai2 _ _ _ _,H.out,Upd.refl _ _⟩
 ·have hd2:=hs.flat hl;have hB:=Ax9 d h h1 h2 true false false r hs (λ s q=>⟨hh.low s q,hh.T s q⟩) (List.replicate 32 0) (List.replicate 32 0) (by simp) (by simp) (by simp) (by simp) 9 ⟨by omega,by omega⟩ hl;have HB:=η hB;have hr4:=hs.mem.2;have d1:((r:Int) == 0)=false:=by rw[beq_eq_false_iff_ne];omega
  obtain⟨hw1,hw2⟩:=Ah5 hr4;clear hB hs hh hl h hr;go_enter Tryz.func57,Tryz.ntmps57
  go_wp2_with fail
  refine HB.out.mono ?_;rintro e w1 ⟨a,c,rfl,hP,hs1,hu1⟩;have HP:=η hP;have HS:=η hs1;have HU:=η hu1;clear hP hs1 hu1;go_wp2_with fail
  refine bodyPost_ret (results_tmp3 (t:=4) (u:=5) (v:=6) (by rfl) _ _ _) (by rfl) ?_;exact⟨a,c,((d+1:Nat):Int),rfl,HP.out,HS.out,HU.out⟩
end Go.Proofs.YtgfbepakonjbnaaGreat
end
section
set_option linter.unusedSimpArgs false
set_option linter.unusedVariables false
namespace Go.Proofs.YtgfbepakonjbnaaGreat
theorem Q3.drop{g:Sg}{M M':Nat->Option Sec}{r r':Nat}{l:List B0}{S:List Nat}{key:Bs}{m:Nat}(ht:Q3 (g.cur M) g.h r l S)(hp:Ai8 g M M' r' l S key m):∃S',Q3 (g.cur M') g.h r' (S4 l key) S'/\L9 g M M' S S' m:=by
 obtain⟨S',h1,h3⟩:=hp;have hh:=h3.held ht.held;refine⟨S',⟨h1,hh.nd,hh.low,λ i=>?_⟩,h3⟩;show g.T M' i=_
 rw[h3.T,ht.sgT];by_cases e:i∈S'
 ·simp[e,h3.sub i e]
 ·by_cases e2:i∈S
  ·have h4:=(ht.low i e2).1;have:decide (i<4)=false:=decide_eq_false (by omega);simp[e,e2,this]
  ·simp[e,e2]
end Go.Proofs.YtgfbepakonjbnaaGreat
end
section
set_option linter.unusedSimpArgs false
set_option linter.unusedVariables false
namespace Go.Proofs.YtgfbepakonjbnaaGreat
open Go.RowKit Go.MapKept Go.ChangeMaps
section
def upN(q:Nat):List Int:=(List.range q).map fun(i:Nat)=>(i:Int)
theorem Ca7(q:Nat):upN (q+1)=upN q ++ [(q:Int)]:=by unfold upN;rw[List.range_succ,List.map_append];rfl
theorem Bo6(q:Nat):(upN q).length=q:=by simp[upN]
theorem Bj8:(P8 [] (upN 11)).length=11:=by decide +kernel
theorem Bv1:J9 (P8 [] (upN 11)) (Q2 3)=some (Z5 3):=by decide +kernel
theorem Bt6.tree{w0 w:World}{g:Sg}{n ring:Nat}(h:Bt6 w0 w g n ring):Q3 (g.cur λ _=>none) g.h 0 [] []:=
 ⟨.inl ⟨rfl,rfl,rfl⟩,by simp,by simp,λ i=>by have:=h.T i;simpa [Sg.T] using this⟩
attribute [-go_sem] loadCells storeCells Instr.build Instr.buildSlice
theorem Bj9(w:World):Calls Tryz.prog 54 #[] w λ e w'=>e=.returned (.bool true)/\Upd [] w w':=by
 have HB:Hid (Calls Tryz.prog 40 #[.int .i64 128,.int .i64 60] w λ e w'=>∃g:Sg,e=.returned (.tuple #[.pointer (some ⟨g.j.jb,0,none⟩),.pointer (some ⟨g.x.tb,0,none⟩)])/\Bt6 w w' g 128 60/\Upd [] w w'):=η (Bz0 128 60 128 rfl (by omega) (by omega) (by omega) (by omega) (by omega) w);go_enter Tryz.func54,Tryz.ntmps54
 go_wp2_with fail
 refine HB.out.mono ?_;rintro e w1 ⟨g,rfl,hg,hu1⟩;have hgh:g.h=66:=by unfold Sg.h;rw[hg.n,hg.ring]
 have HLT:Hid (∀k,k∈g.S->w.heap.size<=k):=by show ∀k,_;exact λ k hk=>hg.late k (by simp[hk])
 have HT:=η hg.tree;have HSP:=η hg.sp;have HU1:=η hu1;have HGH:=η hgh;clear hg hu1 hgh;go_wp2_with fail
 go_loopw [5,3,4] (λ i ro er wr=>∃(q r:Nat) (S:List Nat) (M:Nat->Option Sec),q<=11/\i=.int .i64 (q:Int)/\ro=.int .u32 (r:Int)/\er=.int .i64 0/\B8 wr g M/\Q3 (g.cur M) g.h r (P8 [] (upN q)) S/\(∀i,(M i).isSome=true->i=1∨i∈S)/\Upd [] w wr) (λ i _ _ _=>11-(intOf i).toNat)
 case atStart=>exact⟨0,0,[],λ _=>none,by omega,rfl,rfl,rfl,HSP.out,HT.out,by simp,HU1.out⟩
 case round=>
  obtain⟨q,r,S,M,hq,rfl,rfl,rfl,hsp,ht,hs,hu⟩:=hrel;rcases Nat.lt_or_ge q 11 with hlt | hge
  ·have hqb:decide ((q:Int)<11)=true:=decide_eq_true (by omega);have hsz:4*S.length<=(P8 [] (upN q)).length+3:=ht.at_.size;have hln:=Ai7 (upN q) [];rw[Bo6] at hln;simp only[List.length_nil] at hln;have hlf:=ht.left;have hcn:=Bj4 hsp.ok hs;have HGH':=HGH.out;have HKY:Hid (∀w',Calls Tryz.prog 20 #[.int .i64 (q:Int)] w' λ e w''=>e=.returned (.agg (bts (Q2 (q:Int))).toArray)/\Upd [] w' w''):=by
    show ∀w',_
    exact λ w'=>Am4 (q:Int) w'
   have hPT:∀w',B8 w' g M->Calls Tryz.prog 58 #[.pointer (some ⟨g.x.tb,0,none⟩),.int .u32 (r:Int),.agg (bts (Q2 (q:Int))).toArray,.agg (bts (Z5 (q:Int))).toArray] w' (λ e w''=>∃M' r',e=.returned (.tuple #[.int .u32 ((r':Nat):Int),.int .i64 0])/\Af2 g M M' r r' (P8 [] (upN q)) S (Q2 (q:Int)) (Z5 (q:Int)) 7/\B8 w'' g M'/\Upd g.S w' w''):=
    λ w' h'=>Br5 h' (by omega) (by omega) ht (by omega) (Q2 (q:Int)) (Z5 (q:Int)) (Q5 _) (Ac3 _) (by omega) (by omega)
   have bw:∀w',(Instr.build 115 #[(0,.int .u8 (q:Int))]).run Tryz.prog w'=.ok (.agg (bts (Z5 (q:Int))).toArray) w':=λ w'=>by have:=Aj5 (q:Int) w';rwa [Int.emod_eq_of_lt (by omega) (by omega)] at this
   have HPT:=η hPT;have HTR:=η ht;have HSS:=η hs;have HU:=η hu;have HS:=η hsp;clear hsp ht hs hu hsz hln hlf hcn HGH' hPT;go_wp2_with fail
   refine(HKY.out _).mono ?_;rintro e w2 ⟨rfl,hu2⟩;have HS2:=η (HS.out.below hu2);have HU2:=η (HU.out.trans hu2);clear hu2;go_wp2_with fail
   refine(HPT.out _ HS2.out).mono ?_;rintro e w4 ⟨M',r',rfl,hpt,h4,hu4⟩;have HPU:=η hpt;have H4:=η h4;have HU4:=η (G7 HU2.out hu4 HLT.out);clear hpt h4 hu4;go_wp2_with fail
   obtain⟨S',hT',hGn⟩:=HTR.out.put HPU.out;refine⟨⟨q+1,r',S',M',by omega,by go_num,rfl,rfl,H4.out,?_,hGn.some HSS.out,HU4.out⟩,by simp[intOf];omega⟩;rw[Ca7,Ax0];exact hT'
  ·obtain rfl:q=11:=by omega
   have hqb:decide ((11:Int)<11)=false:=rfl;rcases ht.at_ with⟨_,hnil,_⟩ | ⟨hr0,d,hsh⟩
   ·rw[← List.length_eq_zero_iff,Bj8] at hnil;omega
   have hd1:d=1:=by
    have hl:=Bj8;cases d with
    | zero=>have:=hsh.2.2.1.most;rw[List.length_map] at this;omega
    | succ d=>
     have:=hsh.manyR;cases d with
     | zero=>rfl
     | succ d=>
      have h7:1<=7 ^ d:=Nat.pos_of_ne_zero (by simp);rw[Nat.pow_succ] at this;omega
   subst hd1;have hlow:=ht.low;have HGT:Hid (∀w',B8 w' g M->Calls Tryz.prog 61 #[.pointer (some ⟨g.x.tb,0,none⟩),.int .u32 (r:Int),.agg (bts (Q2 3)).toArray] w' λ e w''=>e=.returned (.tuple #[.agg (bts (Z5 3)).toArray,.int .i64 0])/\B8 w'' g M/\Upd [g.j.jb] w' w''):=by
    show ∀w',_
    intro w' h';have:=Ca0 h' hsh hlow (by omega) (Q2 3) (Q5 _);rw[Bv1] at this;exact this
   have HDP:Hid (∀w',B8 w' g M->Calls Tryz.prog 67 #[.pointer (some ⟨g.x.tb,0,none⟩),.int .u32 (r:Int)] w' λ e w''=>e=.returned (.tuple #[.int .i64 2,.int .i64 0])/\B8 w'' g M/\Upd [g.j.jb] w' w''):=by
    show ∀w',_
    exact λ w' h'=>Bo0 h' hsh hlow (by omega)
   have HS:=η hsp;have HU:=η hu;have HK3:=η (Am4 3 wr);unfold arr at HK3;clear hlow hsh hsp hu ht hs;go_wp2_with fail
   refine HK3.out.mono ?_;rintro e w2 ⟨rfl,hu2⟩;have HS2:=η (HS.out.below hu2);have HU2:=η (HU.out.trans hu2);clear hu2;go_wp2_with fail
   refine(HGT.out _ HS2.out).mono ?_;rintro e w3 ⟨rfl,h3,hu3⟩;obtain⟨w4,hw4⟩:∃w4,w4=(w3.alloc (.cells #[.int .u8 0,.int .u8 0,.int .u8 0,.int .u8 0,.int .u8 0,.int .u8 0,.int .u8 0,.int .u8 0,.int .u8 0,.int .u8 0,.int .u8 0,.int .u8 0,.int .u8 0,.int .u8 0,.int .u8 0,.int .u8 0] 115)).setRow w3.heap.size (bts (Z5 3)).toArray:=⟨_,rfl⟩;have s6:=C9 (A6 (w:=w3) (.cells #[.int .u8 0,.int .u8 0,.int .u8 0,.int .u8 0,.int .u8 0,.int .u8 0,.int .u8 0,.int .u8 0,.int .u8 0,.int .u8 0,.int .u8 0,.int .u8 0,.int .u8 0,.int .u8 0,.int .u8 0,.int .u8 0] 115)) (l:=bts (Z5 3)) (by rw[A9,Ac3];rfl) (I9 _);rw[← hw4] at s6;have c6:w4.heap[w3.heap.size]?=some (.cells (bts (Z5 3)).toArray 115 (0,0)):=by rw[hw4];exact setRow_heap _ _ _ _ _ _ (A6 _)
   have hu4:Upd [] w3 w4:=by
    rw[hw4,V5];exact(Upd.refl _ _).alloc _
   have hz6:(Z5 3).length=16:=Ac3 3;have H4:=η (h3.below hu4);have C6:=η c6;have HU4:=η (G7 (G7 HU2.out hu3 (λ k hk=>HLT.out k (g.mem k hk))) (hu4.mono (T:=[]) (by simp)) (by simp));clear h3 hu3 hw4 c6 hu4;go_wp2_with fail
   refine(HDP.out _ H4.out).mono ?_;rintro e w5 ⟨rfl,h5,hu5⟩;have m6:w5.cell? ⟨w3.heap.size,0,none⟩=some (.int .u8 3):=(A3 ((hu5.block _ (A4 C6.out) (λ q=>H4.out.other9 C6.out (.inr (.inr (.inr (.inl rfl)))) (g.mem _ q))).trans C6.out) 0).trans rfl;have HU5:=η (G7 HU4.out hu5 (λ k hk=>HLT.out k (g.mem k hk)));clear h5 hu5;go_wp2_with fail
   go_ret;exact⟨rfl,HU5.out⟩
end
def Q7(l:List B0)(ks:List Int):List B0:=ks.foldl (λ l k=>S4 l (Q2 k)) l
theorem Z7(l:List B0)(ks:List Int)(k:Int):Q7 l (ks ++ [k])=S4 (Q7 l ks) (Q2 k):=by unfold Q7;rw[List.foldl_append];rfl
theorem Ar1:∀(ks:List Int) (l:List B0),(Q7 l ks).length<=l.length
 | [],l=>Nat.le_refl _
 | k :: ks,l=>Nat.le_trans (Ar1 ks (S4 l (Q2 k))) (Am5 l (Q2 k))
theorem Ar2:∀(ks:List Int) (l:List B0) {p:B0},p∈Q7 l ks->p∈l/\∀k,k∈ks->p.1≠Q2 k
 | [],l,p,h=>⟨h,by simp⟩
 | k :: ks,l,p,h=>by
  obtain⟨h1,h2⟩:=Ar2 ks (S4 l (Q2 k)) h;refine⟨Y6 h1,λ k' q=>?_⟩;rcases List.mem_cons.1 q with rfl | q
  ·exact of_decide_eq_true (List.mem_filter.1 h1).2
  ·exact h2 k' q
theorem Ay1:∀(ks:List Int) (l:List B0) {p:B0},p∈P8 l ks->p∈l∨∃k,k∈ks/\p.1=Q2 k
 | [],l,p,h=> .inl h
 | k :: ks,l,p,h=>by
  rcases Ay1 ks (N2 l (Q2 k) (Z5 k)) h with q | ⟨k',q1,q2⟩
  ·rcases Ah0 q with e | e
   ·exact .inr ⟨k,by simp,by rw[e]⟩
   ·exact .inl e
  ·exact .inr ⟨k',by simp[q1],q2⟩
theorem Bl5(gs ks:List Int):Q7 (P8 [] ks) (gs++ks)=[]:=by
 cases q:Q7 (P8 [] ks) (gs++ks) with
 | nil=>rfl
 | cons p l=>
  have hp:p∈Q7 (P8 [] ks) (gs++ks):=by rw[q];simp
  obtain⟨h1,h2⟩:=Ar2 _ _ hp;rcases Ay1 ks [] h1 with x | ⟨k,x1,x2⟩
  ·simp at x
  ·exact absurd x2 (h2 k (by simp[x1]))
theorem Bb9:∀{l:List B0} {key:Bs},(l.map (·.1)).Pairwise (λ x y=>ltB x y=true)->J9 l key=none->∀p,p∈l->p.1≠key
 | [],_,_,_=>by simp
 | x :: l,key,hs,h=>by
  rw[List.map_cons,List.pairwise_cons] at hs;unfold J9 at h;intro p hp;rcases List.mem_cons.1 hp with rfl | q
  ·intro e;subst e;rw[K6] at h;simp at h
  ·by_cases e:ltB x.1 key=true
   ·rw[if_pos e] at h;exact Bb9 hs.2 h p q
   ·intro e2;subst e2;exact e (hs.1 p.1 (List.mem_map_of_mem q))
theorem Ah6{l:List B0}{key:Bs}(hs:(l.map (·.1)).Pairwise (λ x y=>ltB x y=true))(h:J9 l key=none):S4 l key=l:=Ax2 (Bb9 hs h)
theorem Y8.nil_{C:Nat->Sec}{r:Nat}{S:List Nat}(h:Y8 C r [] S):r=0/\S=[]:=by
 rcases h with⟨h1,_,h2⟩ | ⟨_,d,h⟩
 ·exact⟨h1,h2⟩
 ·exact absurd rfl h.ne
theorem RdL.late9{w w':World}{v:Value}{cs:List Value}{S:List Nat}(h:RdL w [] v cs)(hu:Upd [] w w')(hS:∀k,k∈S->w.heap.size<=k):RdL w' S v cs:=by
 obtain⟨ao,cap,e,hc,hh⟩:=h;refine⟨ao,cap,e,hc,λ hp=>?_⟩;obtain⟨b,off,_,hab,hcell⟩:=hh hp;have hb:b<w.heap.size:=block_lt_of_cell (hcell 0 hp);refine⟨b,off,λ q=>by have:=hS b q;omega,hab,λ i hi=>?_⟩;rw[World.cell?_of_block (w:=w) (hu.block _ hb (by simp))];exact hcell i hi
theorem Ah2.le{w:World}{j:JG}{n ring r:Nat}{l:List B0}{S:List Nat}{b b':Int}(h:Ah2 w j n ring r l S b)(hb:b<=b'):Ah2 w j n ring r l S b':=by
 obtain⟨J,D,t,m,H,h1,h2,h3,h4,h5⟩:=h;exact⟨J,D,t,m,H,h1,h2,h3,by omega,by omega⟩
theorem B8.gr{w:World}{g:Sg}{M:Nat->Option Sec}{n ring r:Nat}{l:List B0}{S:List Nat}{b:Int}(h:B8 w g M)(hn:g.n=n)(hr:g.ring=ring)(ht:g.t<=b)(hm:g.m<=b+1)(hT:Q3 g.H g.h r l S):Ah2 w g.j n ring r l S b:=by
 have h1:=h.jr;rw[hn,hr] at h1;have e:g.h=n-2-ring:=by unfold Sg.h;rw[hn,hr]
 exact⟨g.J,g.D,g.t,g.m,g.H,h1,h.len,by rw[← e];exact hT,ht,hm⟩
theorem Bl6{w0 w:World}{j:JG}{n ring r:Nat}{l:List B0}{S:List Nat}{b:Int}{g:Sg}{M:Nat->Option Sec}(hg:TxG w0 j n ring b g)(h:B8 w g M)(ht:Q3 g.H g.h r l S) :
  Calls Tryz.prog 33 #[.pointer (some ⟨g.x.tb,0,none⟩)] w λ e w'=>e=.returned (.tuple #[])/\Ah2 w' j n ring r l S b/\Upd [g.x.tb] w w':=by
 refine(At7 h.tx).mono ?_;rintro e w1 ⟨rfl,_,_,hu⟩;have hj:=h.jr.own hu (λ k hk=>by simp at hk;subst hk;exact⟨_,_,_,h.tx.st,by decide,by decide,by decide,by decide⟩);have e1:=hg.j;have e2:=hg.n;have e3:=hg.ring;refine⟨rfl,⟨g.J,g.D,g.t,g.m,g.H,?_,h.len,?_,hg.t,hg.m⟩,hu⟩
 ·rw[← e1,← e2,← e3];exact hj
 ·rw[← e2,← e3];exact ht
section
attribute [-go_sem] loadCells storeCells Instr.build Instr.buildSlice
theorem Bl7(ks gs:List Int)(v u:Value)(w:World)(hk:RdL w [] v (ks.map λ i=> .int .i64 i))(hgs:RdL w [] u (gs.map λ i=> .int .i64 i)):Calls Tryz.prog 12 #[v,u] w λ e w'=>e=.returned (.bool true)/\Upd [] w w':=by
 obtain⟨av,cv,rfl,hcv⟩:=hk.shape;obtain⟨au,cu,rfl,hcu⟩:=hgs.shape;rw[List.length_map] at hcv hcu hk hgs ⊢;rw[List.length_map];have HK:=η hk;have HG:=η hgs;clear hk hgs;go_enter Tryz.func12,Tryz.ntmps12
 go_wp2_with fail
 refine(Bj9 _).mono ?_;rintro e w1 ⟨rfl,hu1⟩;have HU1:=η hu1;clear hu1;rcases Nat.lt_or_ge 120 ks.length with hgt | hle
 ·have hb100:decide ((120:Int)<(ks.length:Int))=true:=decide_eq_true (by omega);have hb101:decide (120<ks.length)=true:=decide_eq_true hgt;go_wp2_with fail
  go_ret;exact⟨rfl,HU1.out⟩
 have hb100:decide ((120:Int)<(ks.length:Int))=false:=decide_eq_false (by omega);have hb101:decide (120<ks.length)=false:=decide_eq_false (by omega);rcases Nat.lt_or_ge 120 gs.length with hgt2 | hle2
 ·have hb102:decide ((120:Int)<(gs.length:Int))=true:=decide_eq_true (by omega);have hb103:decide (120<gs.length)=true:=decide_eq_true hgt2;go_wp2_with fail
  go_ret;exact⟨rfl,HU1.out⟩
 have hb102:decide ((120:Int)<(gs.length:Int))=false:=decide_eq_false (by omega);have hb103:decide (120<gs.length)=false:=decide_eq_false (by omega);have HB:Hid (Calls Tryz.prog 40 #[.int .i64 400,.int .i64 60] w1 λ e w'=>∃g:Sg,e=.returned (.tuple #[.pointer (some ⟨g.j.jb,0,none⟩),.pointer (some ⟨g.x.tb,0,none⟩)])/\Bt6 w1 w' g 400 60/\Upd [] w1 w'):=η (Bz0 400 60 400 rfl (by omega) (by omega) (by omega) (by omega) (by omega) w1);go_wp2_with fail
 refine HB.out.mono ?_;rintro e w3 ⟨g0,rfl,hg0,hu3⟩;have hh0:g0.h=338:=by unfold Sg.h;rw[hg0.n,hg0.ring]
 have hSl:∀k,k∈g0.S->w.heap.size<=k:=λ k hk=>by have:=hg0.late k (by simp[hk]);have:=HU1.out.size;omega
 have hL0:I6 (g0.T λ _=>none) g0.h=334:=by have:=hg0.tree.left;simp only[List.length_nil] at this;omega
 have HL:=η (Ba3 hg0.sp (by omega) (by omega));rw[hL0] at HL;have HU3:=η (HU1.out.trans hu3);have HSL:=η hSl;have HT0:=η hg0.tree;have HN0:=η (And.intro hg0.n (And.intro hg0.ring (And.intro hg0.t hg0.m)));clear hg0 hu3 hSl hh0 hL0;go_wp2_with fail
 refine HL.out.mono ?_;rintro e w4 ⟨rfl,h4,hu4⟩;have HU4:=η (G7 HU3.out hu4 HSL.out);have hgr4:Ah2 w4 g0.j 400 60 0 [] [] 2:=h4.gr HN0.out.1 HN0.out.2.1 HN0.out.2.2.1 HN0.out.2.2.2 HT0.out;have HJL:Hid (∀k,k∈g0.j.all->w.heap.size<=k):=by show ∀k,_;exact λ k hk=>HSL.out k (by simp[Sg.S,hk])
 have HGR:=η (Bo5 w4 hgr4 (by omega) (by omega) (by omega) (by omega) ks (RdL.late9 HK.out HU4.out HJL.out) (by omega));clear h4 hu4 hgr4;go_wp2_with fail
 refine HGR.out.mono ?_;rintro e w5 ⟨r0,S0,rfl,hgr5,hu5⟩;have HU5:=η (G7 HU4.out hu5 HJL.out);have HG5:=η hgr5;clear hgr5 hu5;obtain⟨tot,htot⟩:∃tot,tot=gs.length+ks.length:=⟨_,rfl⟩;have hwt:wrap64 ((gs.length:Int)+(ks.length:Int))=(tot:Int):=by unfold wrap64;omega
 have hwt2:IntKind.i64.wrap ((gs.length:Int)+(ks.length:Int))=(tot:Int):=by rw[IntKind.wrap_i64];omega
 have htl:tot<=240:=by omega
 have HTOT:=η htot;clear htot;go_wp2_with fail
 go_loopw [11,9] (λ i ro wr=>∃(q r:Nat) (S:List Nat),q<=tot/\i=.int .i64 (q:Int)/\ro=.int .u32 (r:Int)/\Ah2 wr g0.j 400 60 r (Q7 (P8 [] ks) ((gs++ks).take q)) S (2+ks.length+q)/\Upd [] w wr) (λ i _ _=>tot-(intOf i).toNat)
 case atStart=>exact⟨0,r0,S0,by omega,rfl,rfl,by have:=HG5.out;simpa [Q7] using this,HU5.out⟩
 case round=>
  obtain⟨q,r,S,hq,rfl,rfl,hgr,hu⟩:=hrel;rcases Nat.lt_or_ge q tot with hlt | hge
  ·have hqb:decide ((q:Int)<(tot:Int))=true:=decide_eq_true (by omega);have hqc:decide (q<tot)=true:=decide_eq_true hlt;obtain⟨kq,hkq⟩:∃kq,(gs++ks)[q]?=some kq:=⟨_,List.getElem?_eq_getElem (by rw[List.length_append];have:=HTOT.out;omega)⟩;obtain⟨L,hL⟩:∃L,Q7 (P8 [] ks) ((gs++ks).take q)=L:=⟨_,rfl⟩;have hln:=Ai7 ks [];have hln2:=Ar1 ((gs++ks).take q) (P8 [] ks);simp only[List.length_nil] at hln;rw[hL] at hgr hln2;have hLn:L.length<=120:=by omega
   have hbq:2+(ks.length:Int)+(q:Int)<=400:=by omega
   have HBQ:=η hbq;have HB2:=η (Ax1 hgr);have HU:=η hu;have HKQ:=η hkq;have HLL:=η (And.intro hL hLn);have HKY:Hid (∀w',Calls Tryz.prog 20 #[.int .i64 kq] w' λ e w''=>e=.returned (.agg (bts (Q2 kq)).toArray)/\Upd [] w' w''):=by
    show ∀w',_
    exact λ w'=>Am4 kq w'
   clear hgr hu hkq hL hLn hln hln2 hbq;rcases Nat.lt_or_ge q gs.length with hq1 | hq1
   ·have d1:decide ((q:Int)<(gs.length:Int))=true:=decide_eq_true (by omega);have d2:decide (q<gs.length)=true:=decide_eq_true hq1;obtain⟨vb,off,_,rfl,hc0⟩:=(HG.out.upd HU.out (by simp)).cellS (i:=q) (x:=.int .i64 kq) (by
     have:=HKQ.out;rw[List.getElem?_append_left hq1] at this;rw[List.getElem?_map,this];rfl)
    go_wp2_with fail
    refine HB2.out.mono ?_;rintro e w6 ⟨g,rfl,hg,h6,ht,hu6⟩;have hgh:g.h=338:=hg.h;have HGL:Hid (∀k,k∈g.S->w.heap.size<=k):=by
     show ∀k,_
     intro k hk;rcases hg.S k hk with x | x
     ·exact HJL.out k x
     ·have:=HU.out.size;omega
    have HDR:Hid (∀w',B8 w' g (λ _=>none)->Calls Tryz.prog 56 #[.pointer (some ⟨g.x.tb,0,none⟩),.int .u32 (r:Int),.agg (bts (Q2 kq)).toArray] w' (Be8 g (λ _=>none) L S (Q2 kq) w')):=by
     show ∀w',_
     intro w' h';exact Bl2 h' (by omega) (by omega) ht.at_ ht.held (by have:=HLL.out.2;omega) (Q2 kq) (Q5 _) (by rw[W8];show 0+1+8<=40;omega)
    have HTX:=η hg;have HTR:=η ht;have H6:=η h6;have HU6:=η (G7 HU.out hu6 HJL.out);have HTB:Hid (w.heap.size<=g.x.tb):=by show _<=_;have:=hg.tb;have:=HU.out.size;omega
    have HGH:=η hgh;clear hg h6 ht hu6 hgh;go_wp2_with fail
    refine(HKY.out _).mono ?_;rintro e w7 ⟨rfl,hu7⟩;have H7:=η (H6.out.below hu7);have HU7:=η (HU6.out.trans hu7);clear hu7;go_wp2_with fail
    refine(HDR.out _ H7.out).mono ?_;rintro e w8 hdr;rcases hdr with⟨hlk,rfl,h8,hu8⟩ | ⟨hlk,M',r',rfl,hdt,h8,hu8⟩
    ·have HLK:=η hlk;have HU8:=η (G7 HU7.out hu8 HGL.out);have HAB:=η (Bl6 HTX.out h8 HTR.out);clear hlk h8 hu8;go_wp2_with fail
     refine HAB.out.mono ?_;rintro e w9 ⟨rfl,hgr9,hu9⟩;have HG9:=η hgr9;have HU9:=η (G7 HU8.out hu9 (λ k hk=>by simp at hk;subst hk;exact HTB.out));clear hgr9 hu9;go_wp2_with fail
     refine⟨⟨q+1,r,S,by omega,by go_num,rfl,?_,HU9.out⟩,by simp[intOf];omega⟩;rw[List.take_add_one,HKQ.out];show Ah2 w9 g0.j 400 60 r (Q7 (P8 [] ks) ((gs++ks).take q ++ [kq])) S _
     rw[Z7,HLL.out.1,Ah6 HTR.out.at_.sorted HLK.out];exact HG9.out.le (by omega)
    ·obtain⟨S',hT',hSh⟩:=HTR.out.drop hdt;have hcn:=hSh.cnt;rw[W8] at hcn;have hc1:c1M (λ _=>none)=1:=rfl;rw[hc1] at hcn;have hcn2:F3 M' g.h<=9:=by omega
     have HCN:=η hcn2;have hdl:=Am5 L (Q2 kq);have HWK:=η (Ay0 h8 (by have:=HGH.out;omega) (by have:=HGH.out;omega) hT'.at_ hT'.held (by have:=HLL.out.2;omega));have HT8:=η hT';have HU8:=η (G7 HU7.out hu8 HGL.out);clear hlk hdt h8 hu8 hT' hSh hcn hc1 hcn2 hdl;go_wp2_with fail
     refine HWK.out.mono ?_;rintro e w9 ⟨aw,cw,dw,rfl,_,h9,hu9⟩;have HU9:=η (G7 HU8.out hu9 HGL.out);have HCM:=η (Ao3 HTX.out h9 HT8.out (by omega) (by have:=HBQ.out;omega) (by have:=HCN.out;omega) (by have:=HCN.out;omega));clear h9 hu9;go_wp2_with fail
     refine HCM.out.mono ?_;rintro e w10 ⟨rfl,hgr10,hu10⟩;have HG10:=η hgr10;have HU10:=η (G7 HU9.out hu10 (λ k hk=>by
      rcases List.mem_cons.1 hk with rfl | x
      ·exact HTB.out
      ·exact HJL.out k x))
     clear hgr10 hu10;go_wp2_with fail
     refine⟨⟨q+1,r',S',by omega,by go_num,rfl,?_,HU10.out⟩,by simp[intOf];omega⟩;rw[List.take_add_one,HKQ.out];show Ah2 w10 g0.j 400 60 r' (Q7 (P8 [] ks) ((gs++ks).take q ++ [kq])) S' _
     rw[Z7,HLL.out.1];exact HG10.out.le (by omega)
   ·have d1:decide ((q:Int)<(gs.length:Int))=false:=decide_eq_false (by omega);have d2:decide (q<gs.length)=false:=decide_eq_false (by omega);obtain⟨p,hp⟩:∃p,p=q-gs.length:=⟨_,rfl⟩;have hpk:p<ks.length:=by have:=HTOT.out;omega
    have hwp:wrap64 ((q:Int)-(gs.length:Int))=(p:Int):=by unfold wrap64;omega
    have hwp2:IntKind.i64.wrap ((q:Int)-(gs.length:Int))=(p:Int):=by rw[IntKind.wrap_i64];omega
    have hwp3:(q:Int)-(gs.length:Int)=(p:Int):=by omega
    obtain⟨vb,off,_,rfl,hc0⟩:=(HK.out.upd HU.out (by simp)).cellS (i:=p) (x:=.int .i64 kq) (by
     have:=HKQ.out;rw[List.getElem?_append_right hq1,← hp] at this;rw[List.getElem?_map,this];rfl)
    clear hp;go_wp2_with fail
    refine HB2.out.mono ?_;rintro e w6 ⟨g,rfl,hg,h6,ht,hu6⟩;have hgh:g.h=338:=hg.h;have HGL:Hid (∀k,k∈g.S->w.heap.size<=k):=by
     show ∀k,_
     intro k hk;rcases hg.S k hk with x | x
     ·exact HJL.out k x
     ·have:=HU.out.size;omega
    have HDR:Hid (∀w',B8 w' g (λ _=>none)->Calls Tryz.prog 56 #[.pointer (some ⟨g.x.tb,0,none⟩),.int .u32 (r:Int),.agg (bts (Q2 kq)).toArray] w' (Be8 g (λ _=>none) L S (Q2 kq) w')):=by
     show ∀w',_
     intro w' h';exact Bl2 h' (by omega) (by omega) ht.at_ ht.held (by have:=HLL.out.2;omega) (Q2 kq) (Q5 _) (by rw[W8];show 0+1+8<=40;omega)
    have HTX:=η hg;have HTR:=η ht;have H6:=η h6;have HU6:=η (G7 HU.out hu6 HJL.out);have HTB:Hid (w.heap.size<=g.x.tb):=by show _<=_;have:=hg.tb;have:=HU.out.size;omega
    have HGH:=η hgh;clear hg h6 ht hu6 hgh;go_wp2_with fail
    refine(HKY.out _).mono ?_;rintro e w7 ⟨rfl,hu7⟩;have H7:=η (H6.out.below hu7);have HU7:=η (HU6.out.trans hu7);clear hu7;go_wp2_with fail
    refine(HDR.out _ H7.out).mono ?_;rintro e w8 hdr;rcases hdr with⟨hlk,rfl,h8,hu8⟩ | ⟨hlk,M',r',rfl,hdt,h8,hu8⟩
    ·have HLK:=η hlk;have HU8:=η (G7 HU7.out hu8 HGL.out);have HAB:=η (Bl6 HTX.out h8 HTR.out);clear hlk h8 hu8;go_wp2_with fail
     refine HAB.out.mono ?_;rintro e w9 ⟨rfl,hgr9,hu9⟩;have HG9:=η hgr9;have HU9:=η (G7 HU8.out hu9 (λ k hk=>by simp at hk;subst hk;exact HTB.out));clear hgr9 hu9;go_wp2_with fail
     refine⟨⟨q+1,r,S,by omega,by go_num,rfl,?_,HU9.out⟩,by simp[intOf];omega⟩;rw[List.take_add_one,HKQ.out];show Ah2 w9 g0.j 400 60 r (Q7 (P8 [] ks) ((gs++ks).take q ++ [kq])) S _
     rw[Z7,HLL.out.1,Ah6 HTR.out.at_.sorted HLK.out];exact HG9.out.le (by omega)
    ·obtain⟨S',hT',hSh⟩:=HTR.out.drop hdt;have hcn:=hSh.cnt;rw[W8] at hcn;have hc1:c1M (λ _=>none)=1:=rfl;rw[hc1] at hcn;have hcn2:F3 M' g.h<=9:=by omega
     have HCN:=η hcn2;have hdl:=Am5 L (Q2 kq);have HWK:=η (Ay0 h8 (by have:=HGH.out;omega) (by have:=HGH.out;omega) hT'.at_ hT'.held (by have:=HLL.out.2;omega));have HT8:=η hT';have HU8:=η (G7 HU7.out hu8 HGL.out);clear hlk hdt h8 hu8 hT' hSh hcn hc1 hcn2 hdl;go_wp2_with fail
     refine HWK.out.mono ?_;rintro e w9 ⟨aw,cw,dw,rfl,_,h9,hu9⟩;have HU9:=η (G7 HU8.out hu9 HGL.out);have HCM:=η (Ao3 HTX.out h9 HT8.out (by omega) (by have:=HBQ.out;omega) (by have:=HCN.out;omega) (by have:=HCN.out;omega));clear h9 hu9;go_wp2_with fail
     refine HCM.out.mono ?_;rintro e w10 ⟨rfl,hgr10,hu10⟩;have HG10:=η hgr10;have HU10:=η (G7 HU9.out hu10 (λ k hk=>by
      rcases List.mem_cons.1 hk with rfl | x
      ·exact HTB.out
      ·exact HJL.out k x))
     clear hgr10 hu10;go_wp2_with fail
     refine⟨⟨q+1,r',S',by omega,by go_num,rfl,?_,HU10.out⟩,by simp[intOf];omega⟩;rw[List.take_add_one,HKQ.out];show Ah2 w10 g0.j 400 60 r' (Q7 (P8 [] ks) ((gs++ks).take q ++ [kq])) S' _
     rw[Z7,HLL.out.1];exact HG10.out.le (by omega)
  ·obtain rfl:q=tot:=by omega
   have hqb:decide ((q:Int)<(q:Int))=false:=decide_eq_false (by omega);have hqc:decide (q<q)=false:=decide_eq_false (by omega);have hfull:(gs++ks).take q=gs++ks:=List.take_of_length_le (by rw[List.length_append];have:=HTOT.out;omega);rw[hfull,Bl5] at hgr;obtain⟨hr0,hS0⟩:r=0/\S=[]:=by obtain⟨_,_,_,_,_,_,_,h3,_⟩:=hgr;exact h3.at_.nil_
   have hrb:((r:Int) == 0)=true:=by rw[hr0];rfl
   have HS0:=η hS0;have HB2:=η (Ax1 hgr);have HU:=η hu;clear hgr hu hfull hr0 hS0;go_wp2_with fail
   refine HB2.out.mono ?_;rintro e w6 ⟨g,rfl,hg,h6,ht,hu6⟩;have hgh:g.h=338:=hg.h;have hL6:I6 (g.T λ _=>none) g.h=334:=by have:=ht.left;rw[HS0.out] at this;simp only[List.length_nil] at this;omega
   have HL6:=η (Ba3 h6 (by omega) (by omega));rw[hL6] at HL6;have HGL:Hid (∀k,k∈g.S->w.heap.size<=k):=by
    show ∀k,_
    intro k hk;rcases hg.S k hk with x | x
    ·exact HJL.out k x
    ·have:=HU.out.size;omega
   have HU6:=η (G7 HU.out hu6 HJL.out);clear hg h6 ht hu6 hgh hL6;go_wp2_with fail
   refine HL6.out.mono ?_;rintro e w7 ⟨rfl,_,hu7⟩;have HU7:=η (G7 HU6.out hu7 HGL.out);clear hu7;go_wp2_with fail
   go_ret;exact⟨rfl,HU7.out⟩
end
end Go.Proofs.YtgfbepakonjbnaaGreat
end
