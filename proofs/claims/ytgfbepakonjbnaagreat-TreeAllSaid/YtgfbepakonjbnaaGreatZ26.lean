/-
  cofferlaw9.below: a sector's pairs, and that what hangs below it keeps the rules. (Written by tools/put/twC.py.)
-/
import Derived.Test.YtgfbepakonjbnaaGreatZ25
set_option maxRecDepth 100000
set_option maxHeartbeats 16000000
section
set_option linter.unusedSimpArgs false
set_option linter.unusedVariables false
namespace Go.Proofs.YtgfbepakonjbnaaGreat
open Go.RowKit Go.MapKept Go.ChangeMaps
section
attribute [-go_sem] loadCells storeCells Instr.build Instr.buildSlice
attribute [local go_sem] Ad5
theorem B7.anyS{w:World}{g:Sg}{M:Nat->Option Sec}(h:B7 w g M){b:Nat}{c:Array Value}{T:TypeId}{fr:Nat × Nat}(hb:w.heap[b]?=some (.cells c T fr))(h1:T≠189)(h2:T≠184)(h3:T≠32):b∉g.S:=by
 simp only[Sg.S,List.mem_cons,not_or];exact⟨by rintro rfl;exact h.tx.map hb,h.jr.at_.kind hb h1 h2 h3⟩
def Af9(g:Sg)(M:Nat->Option Sec)(d:Nat)(l:List B0)(w:World)(e:Ending)(w':World):Prop:=
 ∃a c',e=.returned (.tuple #[.slice a l.length c',.int .i64 ((d+1:Nat):Int),.bool true])/\E8 w' w.heap.size (.slice a l.length c') l/\B7 w' g M/\Upd g.S w w'
theorem Ap8{w:World}{kb:Nat}{E:Sec}(hE:E.length=512)(h:∀i (q:i<512),w.cell? ⟨kb,i,none⟩=some (bv (E[i]'(by omega)))){i m:Nat}(hi:i<512)(hm:m<256)(he:E[i]?=some (UInt8.ofNat m)):w.cell? ⟨kb,i,none⟩=some (.int .u8 (m:Int)):=by
 rw[h i hi];rw[List.getElem?_eq_getElem (by omega)] at he;rw[Option.some.inj he];unfold bv;rw[UInt8.toNat_ofNat',Nat.mod_eq_of_lt (by omega)]
theorem Bu8{w:World}{g:Sg}{M:Nat->Option Sec}(h:B7 w g M)(h1:1<g.h)(h2:g.h<=4096)(root low high:Bool)(a:Nat){l:List B0}{S:List Nat}(hs:E3 (g.cur M) root 0 a l S)(hh:∀s,s∈S->(4<=s/\s<g.h)/\g.T M s=true)(lo hi:Bs)(hlo:lo.length=32)(hhi:hi.length=32)(hlow:low=true->∀p,p∈l->ltB p.1 lo=false)(hhigh:high=true->∀p,p∈l->ltB p.1 hi=true)(left:Nat)(hleft:0<left/\left<=9) :
  Calls Tryz.prog 130 #[.pointer (some ⟨g.x.tb,0,none⟩),.int .i64 (a:Int),.bool root,.bool low,.bool high,arr lo,arr hi,.int .i64 (left:Int)] w (Af9 g M 0 l w):=by
 obtain⟨_,_,hok,hcur,hmin,hsrt⟩:=id hs;have hm:=hs.mem;have har:=(hh a hm.1).1;have hta:=(hh a hm.1).2;have hal:=hm.2;obtain⟨wA,hwA⟩:∃wA,wA=(w.alloc (.cells (bts lo).toArray 35)).alloc (.cells (bts hi).toArray 35):=⟨_,rfl⟩;have huA:Upd [] w wA:=by rw[hwA];exact((Upd.refl _ _).alloc _).alloc _
 obtain⟨b13,hb13⟩:∃x,x=w.heap.size:=⟨_,rfl⟩;obtain⟨b14,hb14⟩:∃x,x=w.heap.size+1:=⟨_,rfl⟩;obtain⟨h13,h14⟩:=Aa0 w (bts lo).toArray (bts hi).toArray 35 35;rw[← hwA,← hb13] at h13;rw[← hwA,← hb14] at h14;have H13:=η h13;have H14:=η h14;have HA:=η (h.below huA);have HUA:=η huA;have HW:=η hwA;have HB:=η (And.intro hb13 hb14);have HRD:=η (Bl9 (h.below huA) a har.2);rw[hcur] at HRD;obtain⟨E,hE⟩:∃E,E=C8 (l.map (·.1)) (l.map (·.2)):=⟨_,rfl⟩;have HEL:Hid (E.length=512):=by show E.length=512;rw[hE];exact K6 hok (Nat.le_refl _)
 have HE0:Hid (E[0]?=some (UInt8.ofNat 1)):=by show E[0]?=_;rw[hE];exact(Ab4 hok (by omega) (Nat.le_refl _)).trans (Bw0 _ _)
 have HE1:Hid (E[1]?=some (UInt8.ofNat l.length)):=by show E[1]?=_;rw[hE];exact(Ab4 hok (by omega) (Nat.le_refl _)).trans (by rw[Bw1];try simp)
 rw[← hE] at HRD;have HE:=η hE;have HTK:Hid (∀w',B7 w' g M->Calls Tryz.prog 199 #[.pointer (some ⟨g.x.tb,0,none⟩),.int .i64 (a:Int)] w' λ e w''=>e=.returned (.tuple #[.bool true,.int .i64 0])/\B7 w'' g M/\Upd g.S w' w''):=by
  show ∀w',_
  intro w' h';have:=Ay4 h' h1 h2 a har.2;rw[hta] at this;exact this
 have d1:decide ((a:Int)<4)=false:=decide_eq_false (by omega);have d1':¬(a<4):=by omega
 have d2:((left:Int) == 0)=false:=by rw[beq_eq_false_iff_ne];omega
 have d3:¬(left=0):=by omega
 have HOK:=η hok;have HSH:=η hs;have HHD:=η hh;have HLW:=η hlow;have HHG:=η hhigh;have HLF:=η hleft;have HCR:=η hcur;have HGH:=η (And.intro h1 h2);have HMN:=η (And.intro hmin hsrt);have hn10:l.length<=10:=by have:=hok.most;rwa [List.length_map] at this
 obtain⟨hw1,hw2⟩:=Aj9 (s:=l.length) (by omega);have HL:Hid (∀w2 kb c,Rd w2 (.slice (some ⟨kb,0,none⟩) 512 c) E->512<=c->Calls Tryz.prog 200 #[.slice (some ⟨kb,0,none⟩) 512 c,.int .i64 (l.length:Int),.bool root,.bool low,.bool high,.agg (bts lo).toArray,.agg (bts hi).toArray] w2 λ e w'=>∃a c',e=.returned (.tuple #[.slice a l.length c',.int .i64 1,.bool true])/\E8 w' w2.heap.size (.slice a l.length c') l/\Upd [] w2 w'):=by
  show ∀w2 kb c,_
  intro w2 kb c hr hc;rw[hE] at hr;exact Bu7 hr hok hc root low high lo hi hlo hhi hmin hsrt hlow hhigh
 clear h hs hh hlow hhigh hleft hcur h1 h2 hok hm har hta hal hwA huA h13 h14 hb13 hb14 hE hmin hsrt;unfold arr;go_enter Tryz.func130,Tryz.ntmps130
 go_wp2_with fail
 rw[← HW.out,← HB.out.2,← HB.out.1];refine HRD.out.mono ?_;rintro e w1 ⟨v,rfl,ho,hs1,hu1⟩;have HO:=η ho;have HS1:=η hs1;have HU1:=η hu1;clear ho hs1 hu1;go_wp2_with fail
 refine(HTK.out _ HS1.out).mono ?_;rintro e w2 ⟨rfl,hs2,hu2⟩;have ho2:=HO.out.world (λ k c _ e=>hu2.block _ (A2 e) (HS1.out.anyS e (by decide) (by decide) (by decide)));have HU2:Hid (Upd g.S wA w2):=η ((HU1.out.mono g.mem).trans hu2);obtain⟨kb,c,rfl,hc,hkb,hcells⟩:=ho2.sec HEL.out;have z0:=Ap8 HEL.out hcells (i:=0) (by omega) (by omega) HE0.out;have z1:=Ap8 HEL.out hcells (i:=1) (by omega) (by have:=HOK.out.most;simp at this ⊢;omega) HE1.out;have HR:=η ho2.rd;have HO2:=η ho2;have HS2:=η hs2;have c13:=HA.out.lateS H13.out (by unfold Ty9;simp) HU2.out;have c14:=HA.out.lateS H14.out (by unfold Ty9;simp) HU2.out;have HC13:=η c13;have HC14:=η c14;have HKB:=η hkb;have HC:=η hc;clear c13 c14 hs2 hu2 ho2 hcells hkb hc;have l13:=B2 (λ j v hv=>by rw[A4 HC13.out,List.getElem?_toArray,Nat.zero_add];exact hv) hlo;have l14:=B2 (λ j v hv=>by rw[A4 HC14.out,List.getElem?_toArray,Nat.zero_add];exact hv) hhi;go_wp2_with fail
 refine(HL.out _ _ _ HR.out HC.out).mono ?_;rintro e w3 ⟨a3,c3,rfl,hP,hu3⟩;go_wp2_with fail
 refine bodyPost_ret (results_tmp3 (t:=16) (u:=17) (v:=18) (by rfl) _ _ _) (by rfl) ?_;exact⟨a3,c3,rfl,L3 hP (Nat.le_trans HUA.out.size HU2.out.size),HS2.out.below hu3,((HUA.out.mono (by simp)).trans HU2.out).trans (hu3.mono (by simp))⟩
theorem Bq5{d:Nat}{w:World}{g:Sg}{M:Nat->Option Sec}(h:B7 w g M)(h1:1<g.h)(h2:g.h<=4096)(root low high:Bool)(a:Nat){l:List B0}{S:List Nat}(hs:E3 (g.cur M) root (d+1) a l S)(hh:∀s,s∈S->(4<=s/\s<g.h)/\g.T M s=true)(lo hi:Bs)(hlo:lo.length=32)(hhi:hi.length=32)(hlow:low=true->∀p,p∈l->ltB p.1 lo=false)(hhigh:high=true->∀p,p∈l->ltB p.1 hi=true)(left:Nat)(hleft:d+1<left/\left<=9)(hln:l.length<490)
  (hI:∀{c:Nat} {lc:List B0} {Sc:List Nat},E3 (g.cur M) false d c lc Sc->(∀s,s∈Sc->(4<=s/\s<g.h)/\g.T M s=true)->lc.length<490->∀w',B7 w' g M->∀(low high:Bool) (lo hi:Bs),lo.length=32->hi.length=32->(low=true->∀p,p∈lc->ltB p.1 lo=false)->(high=true->∀p,p∈lc->ltB p.1 hi=true)->
   Calls Tryz.prog 130 #[.pointer (some ⟨g.x.tb,0,none⟩),.int .i64 (c:Int),.bool false,.bool low,.bool high,.agg (bts lo).toArray,.agg (bts hi).toArray,.int .i64 ((left-1:Nat):Int)] w' (Af9 g M d lc w')) :
  Calls Tryz.prog 130 #[.pointer (some ⟨g.x.tb,0,none⟩),.int .i64 (a:Int),.bool root,.bool low,.bool high,arr lo,arr hi,.int .i64 (left:Int)] w (Af9 g M (d+1) l w):=by
 obtain⟨_,ks,ds,S',hS,hok,hcur,hmin,hsrt,hkids⟩:=id hs;obtain⟨n,hn⟩:∃n,n=ks.length:=⟨_,rfl⟩;have hn13:n<=13:=by rw[hn];exact hok.most
 have HN13:=η hn13;obtain⟨L,hL1,hL2,hL3⟩:=hkids.split;have hm:=hs.mem;have har:=(hh a hm.1).1;have hta:=(hh a hm.1).2;have hal:=hm.2;obtain⟨wA,hwA⟩:∃wA,wA=(w.alloc (.cells (bts lo).toArray 35)).alloc (.cells (bts hi).toArray 35):=⟨_,rfl⟩;have huA:Upd [] w wA:=by rw[hwA];exact((Upd.refl _ _).alloc _).alloc _
 obtain⟨b13,hb13⟩:∃x,x=w.heap.size:=⟨_,rfl⟩;obtain⟨b14,hb14⟩:∃x,x=w.heap.size+1:=⟨_,rfl⟩;obtain⟨h13,h14⟩:=Aa0 w (bts lo).toArray (bts hi).toArray 35 35;rw[← hwA,← hb13] at h13;rw[← hwA,← hb14] at h14;have H13:=η h13;have H14:=η h14;have HA:=η (h.below huA);have HUA:=η huA;have HW:=η hwA;have HB:=η (And.intro hb13 hb14);have HRD:=η (Bl9 (h.below huA) a har.2);rw[hcur] at HRD;obtain⟨E,hE⟩:∃E,E=B5 ks ds:=⟨_,rfl⟩;have HEL:Hid (E.length=512):=by show E.length=512;rw[hE];exact J6 hok (Nat.le_refl _)
 have HE0:Hid (E[0]?=some (UInt8.ofNat 2)):=by show E[0]?=_;rw[hE];exact(Y7 hok (by omega) (Nat.le_refl _)).trans (Bw0 _ _)
 have HE1:Hid (E[1]?=some (UInt8.ofNat ks.length)):=by show E[1]?=_;rw[hE];exact(Y7 hok (by omega) (Nat.le_refl _)).trans (by rw[Bw1];try simp)
 rw[← hE] at HRD;have HE:=η hE;have HTK:Hid (∀w',B7 w' g M->Calls Tryz.prog 199 #[.pointer (some ⟨g.x.tb,0,none⟩),.int .i64 (a:Int)] w' λ e w''=>e=.returned (.tuple #[.bool true,.int .i64 0])/\B7 w'' g M/\Upd g.S w' w''):=by
  show ∀w',_
  intro w' h';have:=Ay4 h' h1 h2 a har.2;rw[hta] at this;exact this
 have d1:decide ((a:Int)<4)=false:=decide_eq_false (by omega);have d1':¬(a<4):=by omega
 have d2:((left:Int) == 0)=false:=by rw[beq_eq_false_iff_ne];omega
 have d3:¬(left=0):=by omega
 have HOK:=η hok;have HSH:=η hs;have HHD:=η hh;have HLW:=η hlow;have HHG:=η hhigh;have HLF:=η hleft;have HCR:=η hcur;have HGH:=η (And.intro h1 h2);have hdl:ds.length=n+1:=by rw[hok.n,hn]
 have HDL:=η hdl;have HL1:Hid (L.length=n+1):=η (hL1.trans hdl);have HFL:=η hL2;have HLN:=η hln;have HK32:Hid (∀x,x∈ks->x.length=32):=η hok.k;have HZ1:Hid (∀k,2<=k->k<8->E[k]?=some 0):=by show ∀k,_;intro k h1 h2;rw[hE];exact(Y7 hok h2 (Nat.le_refl _)).trans (Ap7 h1 (by omega))
 obtain⟨J,hJ⟩:∃J,J=12+36*n:=⟨_,rfl⟩;have HZ2:Hid (∀k,J<=k->k<512->E[k]?=some 0):=by show ∀k,_;intro k h1 h2;rw[hE];exact Au2 hok h2 (Nat.le_refl _) (by omega)
 have HN0:Hid (num E 8 4=ds.getD 0 0):=by show num E 8 4=_;rw[hE];exact Ag9 hok (Nat.le_refl _)
 have HKY:Hid (∀(q:Nat) (x:Bs),ks[q]?=some x->(E.drop (12+36*q)).take 32=x):=by
  show ∀q x,_
  intro q x hx;rw[hE];have:=(Ak6 hok (j:=q) (k:=ks.length) (Nat.le_refl _) (List.getElem?_eq_some_iff.1 hx).1).1;rw[List.getD_eq_getElem?_getD,hx] at this;exact this
 have HNM:Hid (∀(q c:Nat),ds[q+1]?=some c->num E (12+36*q+32) 4=c):=by
  show ∀q c,_
  intro q x hx;rw[hE];have:=(Ak6 hok (j:=q) (k:=ks.length) (Nat.le_refl _) (by have:=(List.getElem?_eq_some_iff.1 hx).1;omega)).2;rw[List.getD_eq_getElem?_getD,hx] at this;exact this
 have HSUB:Hid (∀(q:Nat) (lc:List B0),L[q]?=some lc->∀p,p∈lc->p∈l):=by
  show ∀q lc,_
  intro q lc hq p hp;rw[← hL2];exact List.mem_flatten.2 ⟨lc,List.mem_of_getElem? hq,hp⟩
 have HPL:Hid (∀p,p∈l->p.1.length=32/\p.2.length=16):=η hs.pairs;have HCH:Hid (∀(q c:Nat),ds[q]?=some c->∃lc,L[q]?=some lc/\0<lc.length/\(∀p,p∈lc->p∈l)/\(∀x,ks[q]?=some x->∀p,p∈lc->ltB p.1 x=true)/\(∀x,0<q->ks[q-1]?=some x->∀p,p∈lc->ltB p.1 x=false)/\
   ∀w',B7 w' g M->∀(low high:Bool) (lo hi:Bs),lo.length=32->hi.length=32->(low=true->∀p,p∈lc->ltB p.1 lo=false)->(high=true->∀p,p∈lc->ltB p.1 hi=true)->
    Calls Tryz.prog 130 #[.pointer (some ⟨g.x.tb,0,none⟩),.int .i64 (c:Int),.bool false,.bool low,.bool high,.agg (bts lo).toArray,.agg (bts hi).toArray,.int .i64 ((left-1:Nat):Int)] w' (Af9 g M d lc w')):=by
  show ∀q c,_
  intro q c hc;obtain⟨lc,Sc,f1,f2,f3,f4,f5,f6⟩:=hL3 q c hc;have hsz:=f2.size;refine⟨lc,f1,by simp at hsz;have:=List.length_pos_of_mem f2.mem.1;omega,f4,f5,f6,hI f2 (λ s hs'=>hh s (by rw[hS];simp[f3 s hs'])) ?_⟩;have h3:=(List.sublist_flatten_of_mem (List.mem_of_getElem? f1)).length_le;rw[hL2] at h3;omega
 have HD3:Hid (root=false->decide ((n:Int)<6)=false):=η (λ e=>by subst e;exact decide_eq_false (by simp at hmin;omega));have hn1:1<=n:=by split at hmin<;>omega
 have HN1:=η hn1;have d4:decide (13<(n:Int))=false:=decide_eq_false (by omega);have d5:decide ((n:Int)<1)=false:=decide_eq_false (by omega);have HZA:Hid (∀w kb c,Rd w (.slice (some ⟨kb,0,none⟩) 512 c) E->Calls Tryz.prog 201 #[.slice (some ⟨kb,0,none⟩) 512 c,.int .i64 2,.int .i64 8] w λ e w'=>e=.returned (.bool true)/\w=w'):=by show ∀w kb c,_;exact λ w kb c hr=>Ah7 hr HEL.out 2 8 (by omega) (by omega) HZ1.out
 have HZB:Hid (∀w kb c,Rd w (.slice (some ⟨kb,0,none⟩) 512 c) E->Calls Tryz.prog 201 #[.slice (some ⟨kb,0,none⟩) 512 c,.int .i64 (J:Int),.int .i64 512] w λ e w'=>e=.returned (.bool true)/\w=w'):=by show ∀w kb c,_;exact λ w kb c hr=>Ah7 hr HEL.out J 512 (by omega) (by omega) HZ2.out
 have hw1:=(E5 (a:=36*(n:Int)) (b:=((36*n:Nat):Int)) (by omega) (by omega) (by omega)).2;have hw2:=(E5 (a:=12+((36*n:Nat):Int)) (b:=(J:Int)) (by omega) (by omega) (by omega)).2;obtain⟨J0,hJ0⟩:∃x,x=36*n:=⟨_,rfl⟩;rw[← hJ0] at hw1 hw2;have HHW:=η (And.intro hw1 hw2);clear hw1 hw2;have HWLF:Hid (IntKind.i64.wrap ((left:Int)-1)=((left-1:Nat):Int)/\wrap64 ((left:Int)-1)=((left-1:Nat):Int)):=η (E5 (by omega) (by omega) (by omega));rw[← hn] at HE1;have HNN:=η hn;have HMST:Hid (∀k:Nat,k<14->k<256):=by show ∀k:Nat,_;intro k hk;omega
 clear hL1 hL2 hL3 hkids hS hmin hsrt hdl hJ hJ0 hn hI hln;clear h hs hh hlow hhigh hleft hcur h1 h2 hok hm har hta hal hwA huA h13 h14 hb13 hb14 hE;unfold arr;go_enter Tryz.func130,Tryz.ntmps130
 go_wp2_with fail
 rw[← HW.out,← HB.out.2,← HB.out.1];refine HRD.out.mono ?_;rintro e w1 ⟨v,rfl,ho,hs1,hu1⟩;have HO:=η ho;have HS1:=η hs1;have HU1:=η hu1;clear ho hs1 hu1;go_wp2_with fail
 refine(HTK.out _ HS1.out).mono ?_;rintro e w2 ⟨rfl,hs2,hu2⟩;have ho2:=HO.out.world (λ k c _ e=>hu2.block _ (A2 e) (HS1.out.anyS e (by decide) (by decide) (by decide)));have HU2:Hid (Upd g.S wA w2):=η ((HU1.out.mono g.mem).trans hu2);obtain⟨kb,c,rfl,hc,hkb,hcells⟩:=ho2.sec HEL.out;have z0:=Ap8 HEL.out hcells (i:=0) (by omega) (by omega) HE0.out;have z1:=Ap8 HEL.out hcells (i:=1) (by omega) (by omega) HE1.out;have HR:=η ho2.rd;have HO2:=η ho2;have HS2:=η hs2;have c13:=HA.out.lateS H13.out (by unfold Ty9;simp) HU2.out;have c14:=HA.out.lateS H14.out (by unfold Ty9;simp) HU2.out;have HC13:=η c13;have HC14:=η c14;have HKB:=η hkb;have HC:=η hc;clear c13 c14 hs2 hu2 ho2 hcells hkb hc;clear hn13 hn1;obtain⟨hwn1,hwn2⟩:=Aj9 (s:=n) (by have:=HN13.out;omega);have HRX:Hid (∀w',Upd g.S w2 w'->Rd w' (.slice (some ⟨kb,0,none⟩) 512 c) E):=by show ∀w',_;exact λ w' hu=>(HO2.out.world (λ k c _ e=>hu.block _ (A2 e) (HS2.out.anyS e (by decide) (by decide) (by decide)))).rd
 go_upto_region 8 with(fail)
 go_cut [116] (λ s wz=>s=.bool false/\wz=w2)
 case first=>
  have d3r:=HD3.out;cases root
  all_goals
   simp only[forall_const,false_implies,reduceCtorEq] at d3r;go_wp2_with fail
   refine(HZA.out _ _ _ HR.out).mono ?_;rintro e w3 ⟨rfl,rfl⟩;obtain⟨hw1,hw2⟩:=HHW.out;go_wp2_with fail
   clear hw1 hw2;refine(HZB.out _ _ _ HR.out).mono ?_;rintro e w3 ⟨rfl,rfl⟩;go_wp2_with fail
   go_meet
   exact⟨rfl,rfl⟩
 case rest=>
 obtain⟨rfl,hwc⟩:=hcut;replace hwc:=hwc.symm;subst hwc;go_wp2_with fail
 clear d1 d1' d2 d3 d4 d5 z0 z1 hwn1 hwn2;go_loopw [26,24,25] (λ k ou dp wr=>∃q:Nat,q<=n+1/\k=.int .i64 (q:Int)/\E8 wr w2.heap.size ou (L.take q).flatten/\dp=.int .i64 ((if q=0 then 0 else d+1:Nat):Int)/\B7 wr g M/\Upd g.S w2 wr) (λ k _ _ _=>n+1-(intOf k).toNat)
 case atStart=>exact⟨0,by omega,rfl,Y0 _ _ _ _,rfl,HS2.out,Upd.refl _ _⟩
 case round=>
  obtain⟨q,hq,rfl,hP,rfl,hsr,hu⟩:=hrel;obtain⟨sa,sc,rfl⟩:=hP.shape;unfold E8 at hP;generalize hml:(L.take q).flatten.length=ml at hP ⊢;rcases Nat.lt_or_ge n q with hge | hlt
  ·have hfl2:(L.take q).flatten=l:=by rw[List.take_of_length_le (by rw[HL1.out];omega)];exact HFL.out
   rw[hfl2] at hP hml;subst hml;have hdq:decide ((q:Int)<=(n:Int))=false:=decide_eq_false (by omega);have hdq':decide (q<=n)=false:=decide_eq_false (by omega);have hdq2:¬(q<=n):=by omega
   have hq0:¬(q=0):=by omega
   rw[if_neg hq0];obtain⟨D,hD⟩:∃D,D=d+1:=⟨_,rfl⟩;rw[← hD];have hwd:wrap64 ((D:Int)+1)=(D:Int)+1:=(E5 rfl (by omega) (by have:=HLF.out;omega)).2;have HDD:=η hD;have HF:Hid (E8 wr w.heap.size (.slice sa l.length sc) l):=η (L3 hP (Nat.le_trans HUA.out.size HU2.out.size));have HSR:=η hsr;have HU:=η ((HUA.out.mono (by simp)).trans (HU2.out.trans hu));clear hP hsr hu hfl2 hD hq0 hge hq;go_wp2_with fail
   refine bodyPost_ret (results_tmp3 (t:=16) (u:=17) (v:=18) (by rfl) _ _ _) (by rfl) ?_;refine⟨sa,sc,?_,HF.out,HSR.out,HU.out⟩;have hD:=HDD.out;subst hD;have hw9:wrap64 (((d+1:Nat):Int)+1)=((d+1+1:Nat):Int):=(E5 (by omega) (by omega) (by have:=HLF.out;omega)).2;show Ending.returned (Value.tuple #[Value.slice sa l.length sc,Value.int .i64 (wrap64 (((d+1:Nat):Int)+1)),Value.bool true])=_
   rw[hw9]
  ·rcases Nat.eq_or_lt_of_le (Nat.zero_le q) with h0 | h0
   ·have hlt1:q<n:=by have:=HN1.out;omega
    have h01:q<1:=by omega
    clear h0;cases low
    ·obtain⟨ch,hch⟩:∃ch,ds[q]?=some ch:=⟨_,List.getElem?_eq_getElem (by have:=HDL.out;omega)⟩;obtain⟨lc,hlc,hlc0,hlcl,hup,hdn,hIH⟩:=HCH.out q ch hch;have hlm:0<lc.length:=hlc0;have e1:(L.take (q+1)).flatten=(L.take q).flatten++lc:=by rw[List.take_add_one,hlc,Option.toList_some,List.flatten_append];simp
     have HE1:=η e1;have HML:=η hml;have HBND:Hid (ml+lc.length<490):=by
      show _<_
      rw[← hml];have h3:((L.take (q+1)).flatten++(L.drop (q+1)).flatten)=l:=by rw[← List.flatten_append,List.take_append_drop];exact HFL.out
      have h4:=congrArg List.length h3;rw[e1] at h4;simp only[List.length_append] at h4;have:=HLN.out;omega
     have HUA2:=η hu;have HSR:=η hsr;have HIH:=η hIH;have HLC0:=η hlc0;have HPP:=η hP;have c13:=HS2.out.lateS HC13.out (by unfold Ty9;simp) hu;have c14:=HS2.out.lateS HC14.out (by unfold Ty9;simp) hu;have HC14R:=η c14;have HRR:=η (HRX.out _ hu);have hn13:=HN13.out;have hnn:=HNN.out;obtain⟨HI,hHI⟩:∃x,ks[q]?=some x:=⟨_,List.getElem?_eq_getElem (by omega)⟩;have hhi':HI.length=32:=HK32.out HI (List.mem_of_getElem? hHI);have hkyB:=HKY.out q HI hHI;obtain⟨K2,hK2⟩:∃x,x=36*q:=⟨_,rfl⟩;obtain⟨J1,hJ1⟩:∃x,x=12+36*q:=⟨_,rfl⟩;obtain⟨J3,hJ3⟩:∃x,x=44+36*q:=⟨_,rfl⟩;have HWV:Hid (IntKind.i64.wrap (36*(q:Int))=(K2:Int)/\IntKind.i64.wrap (12+(K2:Int))=(J1:Int)/\IntKind.i64.wrap (44+(K2:Int))=(J3:Int)):=η ⟨(E5 (by omega) (by omega) (by omega)).1,(E5 (by omega) (by omega) (by omega)).1,(E5 (by omega) (by omega) (by omega)).1⟩;have HWX:Hid (wrap64 (36*(q:Int))=(K2:Int)/\wrap64 (12+(K2:Int))=(J1:Int)/\wrap64 (44+(K2:Int))=(J3:Int)):=η ⟨(E5 (by omega) (by omega) (by omega)).2,(E5 (by omega) (by omega) (by omega)).2,(E5 (by omega) (by omega) (by omega)).2⟩;have s1b:J3-J1=32:=by omega
     have jb0:(0:Int)<=(J1:Int):=by omega
     have jb1:(J1:Int)<=(J3:Int):=by omega
     have jb2:(J3:Int)<=(c:Int):=by have:=HC.out;omega
     have jb3:J3<=c:=by have:=HC.out;omega
     have jb4:¬(c=J1):=by have:=HC.out;omega
     rw[← hJ1] at hkyB;have HRB1:Hid (∀wB,Upd [] wr wB->wB.rangeAt kb J1 (bts HI)):=by show ∀wB,_;exact λ wB uB=>Rd.range (HRR.out.below uB) HEL.out (I:=J1) (n:=32) (by omega) hkyB
     have HHB:Hid (∀p,p∈lc->ltB p.1 HI=true):=by show ∀p,_;exact λ p hp=>hup HI hHI p hp
     clear hK2 hJ1 hJ3 hkyB hHI;clear hn13 hnn;have hdq:decide ((q:Int)<=(n:Int))=true:=decide_eq_true (by omega);have hdq':decide (q<=n)=true:=decide_eq_true (by omega);have l13:=B2 (λ j v hv=>by rw[A4 c13,List.getElem?_toArray,Nat.zero_add];exact hv) hlo;have hst:=K3 wr hlo;clear c14 e1 hml hlc0 hlcl hIH hu hsr hP;go_upto_region 16 with(fail)
     clear hst l13 c13 hdq hdq';obtain⟨wB,hwB⟩:∃x,x=wr.alloc (.cells (bts lo).toArray 35):=⟨_,rfl⟩;obtain⟨b27,hb27⟩:∃x,x=wr.heap.size:=⟨_,rfl⟩;have c27:wB.heap[b27]?=some (.cells (bts lo).toArray 35 (0,0)):=by rw[hwB,hb27];exact A6 _
     have uB:Upd [] wr wB:=by rw[hwB];exact(Upd.refl _ _).alloc _
     have HB27:Hid (wr.heap.size<=b27):=η (by rw[hb27];exact Nat.le_refl _);rw[← hwB,← hb27];clear hwB hb27;have dg:decide ((q:Int) > 0)=false:=decide_eq_false (by omega);have dg':decide (0<(q:Int))=false:=decide_eq_false (by omega);have dn:¬(0<q):=by omega
     go_upto_region 18 with(fail)
     obtain⟨LO,hLO⟩:∃x,x=lo:=⟨_,rfl⟩;obtain⟨wC,hwC⟩:∃x,x=wB:=⟨_,rfl⟩;have hlo':LO.length=32:=by rw[hLO];exact hlo
     have uC:Upd [] wr wC:=by rw[hwC];exact uB
     rw[← hLO,← hwC] at c27;rw[← hwC];clear uB hwC hLO;have c14:=(uC.block _ (A2 HC14R.out) (by simp)).trans HC14R.out;have l14:=B2 (λ j v hv=>by rw[A4 c14,List.getElem?_toArray,Nat.zero_add];exact hv) hhi;have hst:=K3 wC hhi;go_upto_region 19 with(fail)
     clear hst l14 c14;obtain⟨wD,hwD⟩:∃x,x=wC.alloc (.cells (bts hi).toArray 35):=⟨_,rfl⟩;obtain⟨b29,hb29⟩:∃x,x=wC.heap.size:=⟨_,rfl⟩;have c29:wD.heap[b29]?=some (.cells (bts hi).toArray 35 (0,0)):=by rw[hwD,hb29];exact A6 _
     have uCD:Upd [] wC wD:=by rw[hwD];exact(Upd.refl _ _).alloc _
     have d27:=(uCD.block _ (A2 c27) (by simp)).trans c27;have uD:=uC.trans uCD;have HB29:Hid (wr.heap.size<=b29/\b27≠b29):=η ⟨by rw[hb29];exact uC.size,by rw[hb29];have:=A2 c27;omega⟩;rw[← hwD,← hb29];clear hwD hb29 uCD c27 uC;have dl:decide ((q:Int)<(n:Int))=true:=decide_eq_true (by omega);have dl':decide (q<n)=true:=decide_eq_true (by omega);have dl2:q<n:=by omega
     have l0:=B2 (HRB1.out _ uD) hhi';have st:=C7 c29 (l:=bts HI) (by rw[List.size_toArray,A8,A8,hhi',hhi]) (G7 _);obtain⟨wq1,wq2,wq3⟩:=HWV.out;obtain⟨wr1,wr2,wr3⟩:=HWX.out;go_upto_region 21 with(fail)
     clear wq1 wq2 wq3 wr1 wr2 wr3;obtain⟨wE,hwE⟩:∃x,x=wD.setRow b29 (bts HI).toArray:=⟨_,rfl⟩;have uDE:Upd [b29] wD wE:=by rw[hwE];exact D5 (Upd.refl _ _) _ (.inl (by simp))
     have uE:Upd [] wr wE:=uD.late uDE (λ k hk=> .inr (by simp at hk;subst hk;exact HB29.out.1));replace c29:wE.heap[b29]?=some (.cells (bts HI).toArray 35 (0,0)):=by rw[hwE];exact setRow_heap _ _ _ _ _ _ c29
     replace d27:=(uDE.block _ (A2 d27) (by simp;exact HB29.out.2)).trans d27;rw[← hwE];clear hwE uD uDE st l0;have D27:=η d27;have D29:=η c29;have UE:=η uE;clear d27 c29 uE;obtain⟨wF,hwF⟩:∃x,x=wE:=⟨_,rfl⟩;have uEF:Upd [] wE wF:=by rw[hwF];exact Upd.refl _ _
     rw[← hwF];clear hwF;have UF:=η (UE.out.trans uEF);have d27:=(uEF.block _ (A2 D27.out) (by simp)).trans D27.out;have c29:=(uEF.block _ (A2 D29.out) (by simp)).trans D29.out;have HRF:=η (HRR.out.below UF.out);clear uEF;have hwl:=HWLF.out;go_wp2_with fail
     refine(Q3 HRF.out HEL.out 8 (by omega)).mono ?_;rintro e w' ⟨rfl,rfl⟩;have hq0:q=0:=by omega
     have hnum:num E 8 4=ch:=by rw[HN0.out,List.getD_eq_getElem?_getD,← hq0,hch];rfl
     rw[hnum];clear hnum hq0;have l27:=B2 (λ j v hv=>by rw[A4 d27,List.getElem?_toArray,Nat.zero_add];exact hv) hlo';have l29:=B2 (λ j v hv=>by rw[A4 c29,List.getElem?_toArray,Nat.zero_add];exact hv) hhi';obtain⟨hwl1,hwl2⟩:=HWLF.out;go_wp2_with fail
     clear hwl1 hwl2;refine(HIH.out _ (HSR.out.below UF.out) false true LO HI hlo' hhi' (λ h=>by cases h) (λ _=>HHB.out)).mono ?_;rintro e wG ⟨ga,gc,rfl,gP,gs,gu⟩;have huG:Upd g.S wr wG:=(UF.out.mono (by simp)).trans gu;have hPG:=B8 HPP.out huG (λ k c hk _ e=>HSR.out.anyS e (by decide) (by decide) (by decide) hk);have HSG:=η gs;obtain⟨gb,gcap,ge,_,gcap2,gcells,_⟩:=F3 gP hlm;cases ge
     have hfl:((lc.map pc).flatten).length=lc.length*48:=M5 (sz:=48) (λ e he=>by obtain⟨p,hp,rfl⟩:=List.mem_map.1 he;have:=HPL.out p (HSUB.out q lc hlc p hp);exact L8 this.1 this.2) |>.trans (by rw[List.length_map]);obtain⟨a9,c9,w9,S9,hrun,hown9,hu9,hS9⟩:=V0 (T:=110) Tryz.underlying110 Ae3 rfl (by decide) (by decide) (w:=wG) hPG (by have:=HBND.out;omega) (by have h1:=huG.size;have h2:=HUA2.out.size;omega) (ad:=⟨gb,0,none⟩) (m:=lc.length) (c:=gc) (by have:=HBND.out;omega) (by omega) ((lc.map pc).flatten) hfl (λ j u hj=>by rw[I5,Nat.zero_add];exact gcells j u hj) (λ u hu=>by obtain⟨x,hx,hux⟩:=List.mem_flatten.1 hu;obtain⟨p,_,rfl⟩:=List.mem_map.1 hx;exact Ae4 p u hux);have HF:Hid (E8 w9 w2.heap.size (.slice a9 (ml+lc.length) c9) (L.take (q+1)).flatten):=by
      show E8 _ _ _ _
      unfold E8;rw[HE1.out,List.length_append,HML.out,List.map_append,List.flatten_append];exact hown9
     have HU9:Hid (Upd g.S w2 w9):=η ((HUA2.out.trans huG).late hu9 (λ k hk=>by
      obtain⟨h1,cc,h2⟩:=hS9 k hk;exact .inr h1))
     have HSG9:=η (HSG.out.turnedS (λ b hb=>by obtain⟨_,cc,h2⟩:=hS9 b hb;exact⟨cc,_,_,h2,by unfold TyS;simp⟩) hu9);clear hown9 hu9 hS9 hPG gcells hfl huG gP gu;go_wp2_with (first | (at_builtin;refine B4 rfl _ _ _ rfl rfl rfl hrun ?_))
     repeat apply Exists.intro
     have hn13:=HN13.out;clear hrun;obtain rfl:q=0:=by omega
     exact⟨⟨1,by omega,rfl,HF.out,by simp,HSG9.out,HU9.out⟩,by simp only[intOf];omega⟩
    ·have HLW1:Hid (∀p,p∈l->ltB p.1 lo=false):=η (HLW.out rfl);obtain⟨ch,hch⟩:∃ch,ds[q]?=some ch:=⟨_,List.getElem?_eq_getElem (by have:=HDL.out;omega)⟩;obtain⟨lc,hlc,hlc0,hlcl,hup,hdn,hIH⟩:=HCH.out q ch hch;have hlm:0<lc.length:=hlc0;have e1:(L.take (q+1)).flatten=(L.take q).flatten++lc:=by rw[List.take_add_one,hlc,Option.toList_some,List.flatten_append];simp
     have HE1:=η e1;have HML:=η hml;have HBND:Hid (ml+lc.length<490):=by
      show _<_
      rw[← hml];have h3:((L.take (q+1)).flatten++(L.drop (q+1)).flatten)=l:=by rw[← List.flatten_append,List.take_append_drop];exact HFL.out
      have h4:=congrArg List.length h3;rw[e1] at h4;simp only[List.length_append] at h4;have:=HLN.out;omega
     have HUA2:=η hu;have HSR:=η hsr;have HIH:=η hIH;have HLC0:=η hlc0;have HPP:=η hP;have c13:=HS2.out.lateS HC13.out (by unfold Ty9;simp) hu;have c14:=HS2.out.lateS HC14.out (by unfold Ty9;simp) hu;have HC14R:=η c14;have HRR:=η (HRX.out _ hu);have hn13:=HN13.out;have hnn:=HNN.out;obtain⟨HI,hHI⟩:∃x,ks[q]?=some x:=⟨_,List.getElem?_eq_getElem (by omega)⟩;have hhi':HI.length=32:=HK32.out HI (List.mem_of_getElem? hHI);have hkyB:=HKY.out q HI hHI;obtain⟨K2,hK2⟩:∃x,x=36*q:=⟨_,rfl⟩;obtain⟨J1,hJ1⟩:∃x,x=12+36*q:=⟨_,rfl⟩;obtain⟨J3,hJ3⟩:∃x,x=44+36*q:=⟨_,rfl⟩;have HWV:Hid (IntKind.i64.wrap (36*(q:Int))=(K2:Int)/\IntKind.i64.wrap (12+(K2:Int))=(J1:Int)/\IntKind.i64.wrap (44+(K2:Int))=(J3:Int)):=η ⟨(E5 (by omega) (by omega) (by omega)).1,(E5 (by omega) (by omega) (by omega)).1,(E5 (by omega) (by omega) (by omega)).1⟩;have HWX:Hid (wrap64 (36*(q:Int))=(K2:Int)/\wrap64 (12+(K2:Int))=(J1:Int)/\wrap64 (44+(K2:Int))=(J3:Int)):=η ⟨(E5 (by omega) (by omega) (by omega)).2,(E5 (by omega) (by omega) (by omega)).2,(E5 (by omega) (by omega) (by omega)).2⟩;have s1b:J3-J1=32:=by omega
     have jb0:(0:Int)<=(J1:Int):=by omega
     have jb1:(J1:Int)<=(J3:Int):=by omega
     have jb2:(J3:Int)<=(c:Int):=by have:=HC.out;omega
     have jb3:J3<=c:=by have:=HC.out;omega
     have jb4:¬(c=J1):=by have:=HC.out;omega
     rw[← hJ1] at hkyB;have HRB1:Hid (∀wB,Upd [] wr wB->wB.rangeAt kb J1 (bts HI)):=by show ∀wB,_;exact λ wB uB=>Rd.range (HRR.out.below uB) HEL.out (I:=J1) (n:=32) (by omega) hkyB
     have HHB:Hid (∀p,p∈lc->ltB p.1 HI=true):=by show ∀p,_;exact λ p hp=>hup HI hHI p hp
     clear hK2 hJ1 hJ3 hkyB hHI;clear hn13 hnn;have hdq:decide ((q:Int)<=(n:Int))=true:=decide_eq_true (by omega);have hdq':decide (q<=n)=true:=decide_eq_true (by omega);have l13:=B2 (λ j v hv=>by rw[A4 c13,List.getElem?_toArray,Nat.zero_add];exact hv) hlo;have hst:=K3 wr hlo;clear c14 e1 hml hlc0 hlcl hIH hu hsr hP;go_upto_region 16 with(fail)
     clear hst l13 c13 hdq hdq';obtain⟨wB,hwB⟩:∃x,x=wr.alloc (.cells (bts lo).toArray 35):=⟨_,rfl⟩;obtain⟨b27,hb27⟩:∃x,x=wr.heap.size:=⟨_,rfl⟩;have c27:wB.heap[b27]?=some (.cells (bts lo).toArray 35 (0,0)):=by rw[hwB,hb27];exact A6 _
     have uB:Upd [] wr wB:=by rw[hwB];exact(Upd.refl _ _).alloc _
     have HB27:Hid (wr.heap.size<=b27):=η (by rw[hb27];exact Nat.le_refl _);rw[← hwB,← hb27];clear hwB hb27;have dg:decide ((q:Int) > 0)=false:=decide_eq_false (by omega);have dg':decide (0<(q:Int))=false:=decide_eq_false (by omega);have dn:¬(0<q):=by omega
     go_upto_region 18 with(fail)
     obtain⟨LO,hLO⟩:∃x,x=lo:=⟨_,rfl⟩;obtain⟨wC,hwC⟩:∃x,x=wB:=⟨_,rfl⟩;have hlo':LO.length=32:=by rw[hLO];exact hlo
     have uC:Upd [] wr wC:=by rw[hwC];exact uB
     rw[← hLO,← hwC] at c27;rw[← hwC];have HLB:Hid (∀p,p∈lc->ltB p.1 LO=false):=by
      show ∀p,_
      intro p hp;rw[hLO];exact HLW1.out p (HSUB.out q lc hlc p hp)
     clear uB hwC hLO;have c14:=(uC.block _ (A2 HC14R.out) (by simp)).trans HC14R.out;have l14:=B2 (λ j v hv=>by rw[A4 c14,List.getElem?_toArray,Nat.zero_add];exact hv) hhi;have hst:=K3 wC hhi;go_upto_region 19 with(fail)
     clear hst l14 c14;obtain⟨wD,hwD⟩:∃x,x=wC.alloc (.cells (bts hi).toArray 35):=⟨_,rfl⟩;obtain⟨b29,hb29⟩:∃x,x=wC.heap.size:=⟨_,rfl⟩;have c29:wD.heap[b29]?=some (.cells (bts hi).toArray 35 (0,0)):=by rw[hwD,hb29];exact A6 _
     have uCD:Upd [] wC wD:=by rw[hwD];exact(Upd.refl _ _).alloc _
     have d27:=(uCD.block _ (A2 c27) (by simp)).trans c27;have uD:=uC.trans uCD;have HB29:Hid (wr.heap.size<=b29/\b27≠b29):=η ⟨by rw[hb29];exact uC.size,by rw[hb29];have:=A2 c27;omega⟩;rw[← hwD,← hb29];clear hwD hb29 uCD c27 uC;have dl:decide ((q:Int)<(n:Int))=true:=decide_eq_true (by omega);have dl':decide (q<n)=true:=decide_eq_true (by omega);have dl2:q<n:=by omega
     have l0:=B2 (HRB1.out _ uD) hhi';have st:=C7 c29 (l:=bts HI) (by rw[List.size_toArray,A8,A8,hhi',hhi]) (G7 _);obtain⟨wq1,wq2,wq3⟩:=HWV.out;obtain⟨wr1,wr2,wr3⟩:=HWX.out;go_upto_region 21 with(fail)
     clear wq1 wq2 wq3 wr1 wr2 wr3;obtain⟨wE,hwE⟩:∃x,x=wD.setRow b29 (bts HI).toArray:=⟨_,rfl⟩;have uDE:Upd [b29] wD wE:=by rw[hwE];exact D5 (Upd.refl _ _) _ (.inl (by simp))
     have uE:Upd [] wr wE:=uD.late uDE (λ k hk=> .inr (by simp at hk;subst hk;exact HB29.out.1));replace c29:wE.heap[b29]?=some (.cells (bts HI).toArray 35 (0,0)):=by rw[hwE];exact setRow_heap _ _ _ _ _ _ c29
     replace d27:=(uDE.block _ (A2 d27) (by simp;exact HB29.out.2)).trans d27;rw[← hwE];clear hwE uD uDE st l0;have D27:=η d27;have D29:=η c29;have UE:=η uE;have HLT:Hid (ltB LO HI=true):=by
      show _=_
      obtain⟨p,hp⟩:=List.exists_mem_of_length_pos hlm;exact J9 (HLB.out p hp) (HHB.out p hp)
     have l27:=B2 (λ j v hv=>by rw[A4 d27,List.getElem?_toArray,Nat.zero_add];exact hv) hlo';have l29:=B2 (λ j v hv=>by rw[A4 c29,List.getElem?_toArray,Nat.zero_add];exact hv) hhi';clear d27 c29 uE;go_wp2_with fail
     refine(R5 LO HI hlo' hhi' _).mono ?_;rintro e wF ⟨rfl,uEF⟩;rw[HLT.out];clear l27 l29;have UF:=η (UE.out.trans uEF);have d27:=(uEF.block _ (A2 D27.out) (by simp)).trans D27.out;have c29:=(uEF.block _ (A2 D29.out) (by simp)).trans D29.out;have HRF:=η (HRR.out.below UF.out);clear uEF;have hwl:=HWLF.out;go_wp2_with fail
     refine(Q3 HRF.out HEL.out 8 (by omega)).mono ?_;rintro e w' ⟨rfl,rfl⟩;have hq0:q=0:=by omega
     have hnum:num E 8 4=ch:=by rw[HN0.out,List.getD_eq_getElem?_getD,← hq0,hch];rfl
     rw[hnum];clear hnum hq0;have l27:=B2 (λ j v hv=>by rw[A4 d27,List.getElem?_toArray,Nat.zero_add];exact hv) hlo';have l29:=B2 (λ j v hv=>by rw[A4 c29,List.getElem?_toArray,Nat.zero_add];exact hv) hhi';obtain⟨hwl1,hwl2⟩:=HWLF.out;go_wp2_with fail
     clear hwl1 hwl2;refine(HIH.out _ (HSR.out.below UF.out) true true LO HI hlo' hhi' (λ _=>HLB.out) (λ _=>HHB.out)).mono ?_;rintro e wG ⟨ga,gc,rfl,gP,gs,gu⟩;have huG:Upd g.S wr wG:=(UF.out.mono (by simp)).trans gu;have hPG:=B8 HPP.out huG (λ k c hk _ e=>HSR.out.anyS e (by decide) (by decide) (by decide) hk);have HSG:=η gs;obtain⟨gb,gcap,ge,_,gcap2,gcells,_⟩:=F3 gP hlm;cases ge
     have hfl:((lc.map pc).flatten).length=lc.length*48:=M5 (sz:=48) (λ e he=>by obtain⟨p,hp,rfl⟩:=List.mem_map.1 he;have:=HPL.out p (HSUB.out q lc hlc p hp);exact L8 this.1 this.2) |>.trans (by rw[List.length_map]);obtain⟨a9,c9,w9,S9,hrun,hown9,hu9,hS9⟩:=V0 (T:=110) Tryz.underlying110 Ae3 rfl (by decide) (by decide) (w:=wG) hPG (by have:=HBND.out;omega) (by have h1:=huG.size;have h2:=HUA2.out.size;omega) (ad:=⟨gb,0,none⟩) (m:=lc.length) (c:=gc) (by have:=HBND.out;omega) (by omega) ((lc.map pc).flatten) hfl (λ j u hj=>by rw[I5,Nat.zero_add];exact gcells j u hj) (λ u hu=>by obtain⟨x,hx,hux⟩:=List.mem_flatten.1 hu;obtain⟨p,_,rfl⟩:=List.mem_map.1 hx;exact Ae4 p u hux);have HF:Hid (E8 w9 w2.heap.size (.slice a9 (ml+lc.length) c9) (L.take (q+1)).flatten):=by
      show E8 _ _ _ _
      unfold E8;rw[HE1.out,List.length_append,HML.out,List.map_append,List.flatten_append];exact hown9
     have HU9:Hid (Upd g.S w2 w9):=η ((HUA2.out.trans huG).late hu9 (λ k hk=>by
      obtain⟨h1,cc,h2⟩:=hS9 k hk;exact .inr h1))
     have HSG9:=η (HSG.out.turnedS (λ b hb=>by obtain⟨_,cc,h2⟩:=hS9 b hb;exact⟨cc,_,_,h2,by unfold TyS;simp⟩) hu9);clear hown9 hu9 hS9 hPG gcells hfl huG gP gu;go_wp2_with (first | (at_builtin;refine B4 rfl _ _ _ rfl rfl rfl hrun ?_))
     repeat apply Exists.intro
     have hn13:=HN13.out;clear hrun;obtain rfl:q=0:=by omega
     exact⟨⟨1,by omega,rfl,HF.out,by simp,HSG9.out,HU9.out⟩,by simp only[intOf];omega⟩
   ·rcases Nat.eq_or_lt_of_le hlt with h9 | h9
    ·have h91:n<=q:=by omega
     clear h9;cases high
     ·obtain⟨ch,hch⟩:∃ch,ds[q]?=some ch:=⟨_,List.getElem?_eq_getElem (by have:=HDL.out;omega)⟩;obtain⟨lc,hlc,hlc0,hlcl,hup,hdn,hIH⟩:=HCH.out q ch hch;have hlm:0<lc.length:=hlc0;have e1:(L.take (q+1)).flatten=(L.take q).flatten++lc:=by rw[List.take_add_one,hlc,Option.toList_some,List.flatten_append];simp
      have HE1:=η e1;have HML:=η hml;have HBND:Hid (ml+lc.length<490):=by
       show _<_
       rw[← hml];have h3:((L.take (q+1)).flatten++(L.drop (q+1)).flatten)=l:=by rw[← List.flatten_append,List.take_append_drop];exact HFL.out
       have h4:=congrArg List.length h3;rw[e1] at h4;simp only[List.length_append] at h4;have:=HLN.out;omega
      have HUA2:=η hu;have HSR:=η hsr;have HIH:=η hIH;have HLC0:=η hlc0;have HPP:=η hP;have c13:=HS2.out.lateS HC13.out (by unfold Ty9;simp) hu;have c14:=HS2.out.lateS HC14.out (by unfold Ty9;simp) hu;have HC14R:=η c14;have HRR:=η (HRX.out _ hu);have hn13:=HN13.out;have hnn:=HNN.out;obtain⟨q1,hq1⟩:∃x,x=q-1:=⟨_,rfl⟩;obtain⟨LO,hLO⟩:∃x,ks[q1]?=some x:=⟨_,List.getElem?_eq_getElem (by omega)⟩;have hlo':LO.length=32:=HK32.out LO (List.mem_of_getElem? hLO);have hkyA:=HKY.out q1 LO hLO;obtain⟨K0,hK0⟩:∃x,x=36*q1:=⟨_,rfl⟩;obtain⟨I1,hI1⟩:∃x,x=12+36*q1:=⟨_,rfl⟩;obtain⟨I3,hI3⟩:∃x,x=44+36*q1:=⟨_,rfl⟩;have HWQ:Hid (IntKind.i64.wrap ((q:Int)-1)=(q1:Int)/\IntKind.i64.wrap (36*(q1:Int))=(K0:Int)/\IntKind.i64.wrap (12+(K0:Int))=(I1:Int)/\IntKind.i64.wrap (44+(K0:Int))=(I3:Int)):=η ⟨(E5 (by omega) (by omega) (by omega)).1,(E5 (by omega) (by omega) (by omega)).1,(E5 (by omega) (by omega) (by omega)).1,(E5 (by omega) (by omega) (by omega)).1⟩;have HWR:Hid (wrap64 ((q:Int)-1)=(q1:Int)/\wrap64 (36*(q1:Int))=(K0:Int)/\wrap64 (12+(K0:Int))=(I1:Int)/\wrap64 (44+(K0:Int))=(I3:Int)):=η ⟨(E5 (by omega) (by omega) (by omega)).2,(E5 (by omega) (by omega) (by omega)).2,(E5 (by omega) (by omega) (by omega)).2,(E5 (by omega) (by omega) (by omega)).2⟩;have s1a:I3-I1=32:=by omega
      have ja0:(0:Int)<=(I1:Int):=by omega
      have ja1:(I1:Int)<=(I3:Int):=by omega
      have ja2:(I3:Int)<=(c:Int):=by have:=HC.out;omega
      have ja3:I3<=c:=by have:=HC.out;omega
      have ja4:¬(c=I1):=by have:=HC.out;omega
      have HI3:Hid (I3=12+36*q1+32/\I3+4<=512/\q=q1+1):=η ⟨by omega,by omega,by omega⟩;rw[← hI1] at hkyA;have HRA1:Hid (∀wB,Upd [] wr wB->wB.rangeAt kb I1 (bts LO)):=by show ∀wB,_;exact λ wB uB=>Rd.range (HRR.out.below uB) HEL.out (I:=I1) (n:=32) (by omega) hkyA
      have HLB:Hid (∀p,p∈lc->ltB p.1 LO=false):=by show ∀p,_;exact λ p hp=>hdn LO (by omega) (by rw[← hq1];exact hLO) p hp
      clear hK0 hI1 hI3 hkyA hLO hq1;clear hn13 hnn;have hdq:decide ((q:Int)<=(n:Int))=true:=decide_eq_true (by omega);have hdq':decide (q<=n)=true:=decide_eq_true (by omega);have l13:=B2 (λ j v hv=>by rw[A4 c13,List.getElem?_toArray,Nat.zero_add];exact hv) hlo;have hst:=K3 wr hlo;clear c14 e1 hml hlc0 hlcl hIH hu hsr hP;go_upto_region 16 with(fail)
      clear hst l13 c13 hdq hdq';obtain⟨wB,hwB⟩:∃x,x=wr.alloc (.cells (bts lo).toArray 35):=⟨_,rfl⟩;obtain⟨b27,hb27⟩:∃x,x=wr.heap.size:=⟨_,rfl⟩;have c27:wB.heap[b27]?=some (.cells (bts lo).toArray 35 (0,0)):=by rw[hwB,hb27];exact A6 _
      have uB:Upd [] wr wB:=by rw[hwB];exact(Upd.refl _ _).alloc _
      have HB27:Hid (wr.heap.size<=b27):=η (by rw[hb27];exact Nat.le_refl _);rw[← hwB,← hb27];clear hwB hb27;have dg:decide ((q:Int) > 0)=true:=decide_eq_true (by omega);have dg':decide (0<(q:Int))=true:=decide_eq_true (by omega);have dn:0<q:=by omega
      have l0:=B2 (HRA1.out _ uB) hlo';have st:=C7 c27 (l:=bts LO) (by rw[List.size_toArray,A8,A8,hlo',hlo]) (G7 _);obtain⟨wq1,wq2,wq3,wq4⟩:=HWQ.out;obtain⟨wr1,wr2,wr3,wr4⟩:=HWR.out;go_upto_region 18 with(fail)
      clear wq1 wq2 wq3 wq4 wr1 wr2 wr3 wr4;obtain⟨wC,hwC⟩:∃x,x=wB.setRow b27 (bts LO).toArray:=⟨_,rfl⟩;have uC:Upd [] wr wC:=by rw[hwC];exact uB.late (D5 (S:=[b27]) (Upd.refl _ _) _ (.inl (by simp))) (λ k hk=> .inr (by simp at hk;subst hk;exact HB27.out))
      replace c27:wC.heap[b27]?=some (.cells (bts LO).toArray 35 (0,0)):=by rw[hwC];exact setRow_heap _ _ _ _ _ _ c27
      rw[← hwC];clear hwC uB st l0;have c14:=(uC.block _ (A2 HC14R.out) (by simp)).trans HC14R.out;have l14:=B2 (λ j v hv=>by rw[A4 c14,List.getElem?_toArray,Nat.zero_add];exact hv) hhi;have hst:=K3 wC hhi;go_upto_region 19 with(fail)
      clear hst l14 c14;obtain⟨wD,hwD⟩:∃x,x=wC.alloc (.cells (bts hi).toArray 35):=⟨_,rfl⟩;obtain⟨b29,hb29⟩:∃x,x=wC.heap.size:=⟨_,rfl⟩;have c29:wD.heap[b29]?=some (.cells (bts hi).toArray 35 (0,0)):=by rw[hwD,hb29];exact A6 _
      have uCD:Upd [] wC wD:=by rw[hwD];exact(Upd.refl _ _).alloc _
      have d27:=(uCD.block _ (A2 c27) (by simp)).trans c27;have uD:=uC.trans uCD;have HB29:Hid (wr.heap.size<=b29/\b27≠b29):=η ⟨by rw[hb29];exact uC.size,by rw[hb29];have:=A2 c27;omega⟩;rw[← hwD,← hb29];clear hwD hb29 uCD c27 uC;have dl:decide ((q:Int)<(n:Int))=false:=decide_eq_false (by omega);have dl':decide (q<n)=false:=decide_eq_false (by omega);have dl2:¬(q<n):=by omega
      go_upto_region 21 with(fail)
      obtain⟨HI,hHI⟩:∃x,x=hi:=⟨_,rfl⟩;obtain⟨wE,hwE⟩:∃x,x=wD:=⟨_,rfl⟩;have hhi':HI.length=32:=by rw[hHI];exact hhi
      have uE:Upd [] wr wE:=by rw[hwE];exact uD
      rw[← hHI,← hwE] at c29;rw[← hwE] at d27;rw[← hwE];clear uD hwE hHI;have D27:=η d27;have D29:=η c29;have UE:=η uE;clear d27 c29 uE;obtain⟨wF,hwF⟩:∃x,x=wE:=⟨_,rfl⟩;have uEF:Upd [] wE wF:=by rw[hwF];exact Upd.refl _ _
      rw[← hwF];clear hwF;have UF:=η (UE.out.trans uEF);have d27:=(uEF.block _ (A2 D27.out) (by simp)).trans D27.out;have c29:=(uEF.block _ (A2 D29.out) (by simp)).trans D29.out;have HRF:=η (HRR.out.below UF.out);clear uEF;have hwl:=HWLF.out;go_wp2_with fail
      refine(Q3 HRF.out HEL.out 8 (by omega)).mono ?_;rintro e w' ⟨rfl,rfl⟩;obtain⟨wq1,wq2,wq3,wq4⟩:=HWQ.out;obtain⟨wr1,wr2,wr3,wr4⟩:=HWR.out;go_wp2_with fail
      clear wq1 wq2 wq3 wq4 wr1 wr2 wr3 wr4;refine(Q3 HRF.out HEL.out I3 HI3.out.2.1).mono ?_;rintro e w' ⟨rfl,rfl⟩;have hnum:num E I3 4=ch:=by rw[HI3.out.1];exact HNM.out q1 ch (by rw[← HI3.out.2.2];exact hch)
      rw[hnum];clear hnum;have l27:=B2 (λ j v hv=>by rw[A4 d27,List.getElem?_toArray,Nat.zero_add];exact hv) hlo';have l29:=B2 (λ j v hv=>by rw[A4 c29,List.getElem?_toArray,Nat.zero_add];exact hv) hhi';obtain⟨hwl1,hwl2⟩:=HWLF.out;go_wp2_with fail
      clear hwl1 hwl2;refine(HIH.out _ (HSR.out.below UF.out) true false LO HI hlo' hhi' (λ _=>HLB.out) (λ h=>by cases h)).mono ?_;rintro e wG ⟨ga,gc,rfl,gP,gs,gu⟩;have huG:Upd g.S wr wG:=(UF.out.mono (by simp)).trans gu;have hPG:=B8 HPP.out huG (λ k c hk _ e=>HSR.out.anyS e (by decide) (by decide) (by decide) hk);have HSG:=η gs;obtain⟨gb,gcap,ge,_,gcap2,gcells,_⟩:=F3 gP hlm;cases ge
      have hfl:((lc.map pc).flatten).length=lc.length*48:=M5 (sz:=48) (λ e he=>by obtain⟨p,hp,rfl⟩:=List.mem_map.1 he;have:=HPL.out p (HSUB.out q lc hlc p hp);exact L8 this.1 this.2) |>.trans (by rw[List.length_map]);obtain⟨a9,c9,w9,S9,hrun,hown9,hu9,hS9⟩:=V0 (T:=110) Tryz.underlying110 Ae3 rfl (by decide) (by decide) (w:=wG) hPG (by have:=HBND.out;omega) (by have h1:=huG.size;have h2:=HUA2.out.size;omega) (ad:=⟨gb,0,none⟩) (m:=lc.length) (c:=gc) (by have:=HBND.out;omega) (by omega) ((lc.map pc).flatten) hfl (λ j u hj=>by rw[I5,Nat.zero_add];exact gcells j u hj) (λ u hu=>by obtain⟨x,hx,hux⟩:=List.mem_flatten.1 hu;obtain⟨p,_,rfl⟩:=List.mem_map.1 hx;exact Ae4 p u hux);have HF:Hid (E8 w9 w2.heap.size (.slice a9 (ml+lc.length) c9) (L.take (q+1)).flatten):=by
       show E8 _ _ _ _
       unfold E8;rw[HE1.out,List.length_append,HML.out,List.map_append,List.flatten_append];exact hown9
      have HU9:Hid (Upd g.S w2 w9):=η ((HUA2.out.trans huG).late hu9 (λ k hk=>by
       obtain⟨h1,cc,h2⟩:=hS9 k hk;exact .inr h1))
      have HSG9:=η (HSG.out.turnedS (λ b hb=>by obtain⟨_,cc,h2⟩:=hS9 b hb;exact⟨cc,_,_,h2,by unfold TyS;simp⟩) hu9);clear hown9 hu9 hS9 hPG gcells hfl huG gP gu;go_wp2_with (first | (at_builtin;refine B4 rfl _ _ _ rfl rfl rfl hrun ?_))
      repeat apply Exists.intro
      have hn13:=HN13.out;clear hrun;have ew:wrap64 ((q:Int)+1)=((q+1:Nat):Int):=(E5 (by omega) (by omega) (by omega)).2;rw[ew];clear ew;exact⟨⟨q+1,by omega,rfl,HF.out,by simp,HSG9.out,HU9.out⟩,by simp only[intOf];omega⟩
     ·have HHG1:Hid (∀p,p∈l->ltB p.1 hi=true):=η (HHG.out rfl);obtain⟨ch,hch⟩:∃ch,ds[q]?=some ch:=⟨_,List.getElem?_eq_getElem (by have:=HDL.out;omega)⟩;obtain⟨lc,hlc,hlc0,hlcl,hup,hdn,hIH⟩:=HCH.out q ch hch;have hlm:0<lc.length:=hlc0;have e1:(L.take (q+1)).flatten=(L.take q).flatten++lc:=by rw[List.take_add_one,hlc,Option.toList_some,List.flatten_append];simp
      have HE1:=η e1;have HML:=η hml;have HBND:Hid (ml+lc.length<490):=by
       show _<_
       rw[← hml];have h3:((L.take (q+1)).flatten++(L.drop (q+1)).flatten)=l:=by rw[← List.flatten_append,List.take_append_drop];exact HFL.out
       have h4:=congrArg List.length h3;rw[e1] at h4;simp only[List.length_append] at h4;have:=HLN.out;omega
      have HUA2:=η hu;have HSR:=η hsr;have HIH:=η hIH;have HLC0:=η hlc0;have HPP:=η hP;have c13:=HS2.out.lateS HC13.out (by unfold Ty9;simp) hu;have c14:=HS2.out.lateS HC14.out (by unfold Ty9;simp) hu;have HC14R:=η c14;have HRR:=η (HRX.out _ hu);have hn13:=HN13.out;have hnn:=HNN.out;obtain⟨q1,hq1⟩:∃x,x=q-1:=⟨_,rfl⟩;obtain⟨LO,hLO⟩:∃x,ks[q1]?=some x:=⟨_,List.getElem?_eq_getElem (by omega)⟩;have hlo':LO.length=32:=HK32.out LO (List.mem_of_getElem? hLO);have hkyA:=HKY.out q1 LO hLO;obtain⟨K0,hK0⟩:∃x,x=36*q1:=⟨_,rfl⟩;obtain⟨I1,hI1⟩:∃x,x=12+36*q1:=⟨_,rfl⟩;obtain⟨I3,hI3⟩:∃x,x=44+36*q1:=⟨_,rfl⟩;have HWQ:Hid (IntKind.i64.wrap ((q:Int)-1)=(q1:Int)/\IntKind.i64.wrap (36*(q1:Int))=(K0:Int)/\IntKind.i64.wrap (12+(K0:Int))=(I1:Int)/\IntKind.i64.wrap (44+(K0:Int))=(I3:Int)):=η ⟨(E5 (by omega) (by omega) (by omega)).1,(E5 (by omega) (by omega) (by omega)).1,(E5 (by omega) (by omega) (by omega)).1,(E5 (by omega) (by omega) (by omega)).1⟩;have HWR:Hid (wrap64 ((q:Int)-1)=(q1:Int)/\wrap64 (36*(q1:Int))=(K0:Int)/\wrap64 (12+(K0:Int))=(I1:Int)/\wrap64 (44+(K0:Int))=(I3:Int)):=η ⟨(E5 (by omega) (by omega) (by omega)).2,(E5 (by omega) (by omega) (by omega)).2,(E5 (by omega) (by omega) (by omega)).2,(E5 (by omega) (by omega) (by omega)).2⟩;have s1a:I3-I1=32:=by omega
      have ja0:(0:Int)<=(I1:Int):=by omega
      have ja1:(I1:Int)<=(I3:Int):=by omega
      have ja2:(I3:Int)<=(c:Int):=by have:=HC.out;omega
      have ja3:I3<=c:=by have:=HC.out;omega
      have ja4:¬(c=I1):=by have:=HC.out;omega
      have HI3:Hid (I3=12+36*q1+32/\I3+4<=512/\q=q1+1):=η ⟨by omega,by omega,by omega⟩;rw[← hI1] at hkyA;have HRA1:Hid (∀wB,Upd [] wr wB->wB.rangeAt kb I1 (bts LO)):=by show ∀wB,_;exact λ wB uB=>Rd.range (HRR.out.below uB) HEL.out (I:=I1) (n:=32) (by omega) hkyA
      have HLB:Hid (∀p,p∈lc->ltB p.1 LO=false):=by show ∀p,_;exact λ p hp=>hdn LO (by omega) (by rw[← hq1];exact hLO) p hp
      clear hK0 hI1 hI3 hkyA hLO hq1;clear hn13 hnn;have hdq:decide ((q:Int)<=(n:Int))=true:=decide_eq_true (by omega);have hdq':decide (q<=n)=true:=decide_eq_true (by omega);have l13:=B2 (λ j v hv=>by rw[A4 c13,List.getElem?_toArray,Nat.zero_add];exact hv) hlo;have hst:=K3 wr hlo;clear c14 e1 hml hlc0 hlcl hIH hu hsr hP;go_upto_region 16 with(fail)
      clear hst l13 c13 hdq hdq';obtain⟨wB,hwB⟩:∃x,x=wr.alloc (.cells (bts lo).toArray 35):=⟨_,rfl⟩;obtain⟨b27,hb27⟩:∃x,x=wr.heap.size:=⟨_,rfl⟩;have c27:wB.heap[b27]?=some (.cells (bts lo).toArray 35 (0,0)):=by rw[hwB,hb27];exact A6 _
      have uB:Upd [] wr wB:=by rw[hwB];exact(Upd.refl _ _).alloc _
      have HB27:Hid (wr.heap.size<=b27):=η (by rw[hb27];exact Nat.le_refl _);rw[← hwB,← hb27];clear hwB hb27;have dg:decide ((q:Int) > 0)=true:=decide_eq_true (by omega);have dg':decide (0<(q:Int))=true:=decide_eq_true (by omega);have dn:0<q:=by omega
      have l0:=B2 (HRA1.out _ uB) hlo';have st:=C7 c27 (l:=bts LO) (by rw[List.size_toArray,A8,A8,hlo',hlo]) (G7 _);obtain⟨wq1,wq2,wq3,wq4⟩:=HWQ.out;obtain⟨wr1,wr2,wr3,wr4⟩:=HWR.out;go_upto_region 18 with(fail)
      clear wq1 wq2 wq3 wq4 wr1 wr2 wr3 wr4;obtain⟨wC,hwC⟩:∃x,x=wB.setRow b27 (bts LO).toArray:=⟨_,rfl⟩;have uC:Upd [] wr wC:=by rw[hwC];exact uB.late (D5 (S:=[b27]) (Upd.refl _ _) _ (.inl (by simp))) (λ k hk=> .inr (by simp at hk;subst hk;exact HB27.out))
      replace c27:wC.heap[b27]?=some (.cells (bts LO).toArray 35 (0,0)):=by rw[hwC];exact setRow_heap _ _ _ _ _ _ c27
      rw[← hwC];clear hwC uB st l0;have c14:=(uC.block _ (A2 HC14R.out) (by simp)).trans HC14R.out;have l14:=B2 (λ j v hv=>by rw[A4 c14,List.getElem?_toArray,Nat.zero_add];exact hv) hhi;have hst:=K3 wC hhi;go_upto_region 19 with(fail)
      clear hst l14 c14;obtain⟨wD,hwD⟩:∃x,x=wC.alloc (.cells (bts hi).toArray 35):=⟨_,rfl⟩;obtain⟨b29,hb29⟩:∃x,x=wC.heap.size:=⟨_,rfl⟩;have c29:wD.heap[b29]?=some (.cells (bts hi).toArray 35 (0,0)):=by rw[hwD,hb29];exact A6 _
      have uCD:Upd [] wC wD:=by rw[hwD];exact(Upd.refl _ _).alloc _
      have d27:=(uCD.block _ (A2 c27) (by simp)).trans c27;have uD:=uC.trans uCD;have HB29:Hid (wr.heap.size<=b29/\b27≠b29):=η ⟨by rw[hb29];exact uC.size,by rw[hb29];have:=A2 c27;omega⟩;rw[← hwD,← hb29];clear hwD hb29 uCD c27 uC;have dl:decide ((q:Int)<(n:Int))=false:=decide_eq_false (by omega);have dl':decide (q<n)=false:=decide_eq_false (by omega);have dl2:¬(q<n):=by omega
      go_upto_region 21 with(fail)
      obtain⟨HI,hHI⟩:∃x,x=hi:=⟨_,rfl⟩;obtain⟨wE,hwE⟩:∃x,x=wD:=⟨_,rfl⟩;have hhi':HI.length=32:=by rw[hHI];exact hhi
      have uE:Upd [] wr wE:=by rw[hwE];exact uD
      rw[← hHI,← hwE] at c29;rw[← hwE] at d27;rw[← hwE];have HHB:Hid (∀p,p∈lc->ltB p.1 HI=true):=by
       show ∀p,_
       intro p hp;rw[hHI];exact HHG1.out p (HSUB.out q lc hlc p hp)
      clear uD hwE hHI;have D27:=η d27;have D29:=η c29;have UE:=η uE;have HLT:Hid (ltB LO HI=true):=by
       show _=_
       obtain⟨p,hp⟩:=List.exists_mem_of_length_pos hlm;exact J9 (HLB.out p hp) (HHB.out p hp)
      have l27:=B2 (λ j v hv=>by rw[A4 d27,List.getElem?_toArray,Nat.zero_add];exact hv) hlo';have l29:=B2 (λ j v hv=>by rw[A4 c29,List.getElem?_toArray,Nat.zero_add];exact hv) hhi';clear d27 c29 uE;go_wp2_with fail
      refine(R5 LO HI hlo' hhi' _).mono ?_;rintro e wF ⟨rfl,uEF⟩;rw[HLT.out];clear l27 l29;have UF:=η (UE.out.trans uEF);have d27:=(uEF.block _ (A2 D27.out) (by simp)).trans D27.out;have c29:=(uEF.block _ (A2 D29.out) (by simp)).trans D29.out;have HRF:=η (HRR.out.below UF.out);clear uEF;have hwl:=HWLF.out;go_wp2_with fail
      refine(Q3 HRF.out HEL.out 8 (by omega)).mono ?_;rintro e w' ⟨rfl,rfl⟩;obtain⟨wq1,wq2,wq3,wq4⟩:=HWQ.out;obtain⟨wr1,wr2,wr3,wr4⟩:=HWR.out;go_wp2_with fail
      clear wq1 wq2 wq3 wq4 wr1 wr2 wr3 wr4;refine(Q3 HRF.out HEL.out I3 HI3.out.2.1).mono ?_;rintro e w' ⟨rfl,rfl⟩;have hnum:num E I3 4=ch:=by rw[HI3.out.1];exact HNM.out q1 ch (by rw[← HI3.out.2.2];exact hch)
      rw[hnum];clear hnum;have l27:=B2 (λ j v hv=>by rw[A4 d27,List.getElem?_toArray,Nat.zero_add];exact hv) hlo';have l29:=B2 (λ j v hv=>by rw[A4 c29,List.getElem?_toArray,Nat.zero_add];exact hv) hhi';obtain⟨hwl1,hwl2⟩:=HWLF.out;go_wp2_with fail
      clear hwl1 hwl2;refine(HIH.out _ (HSR.out.below UF.out) true true LO HI hlo' hhi' (λ _=>HLB.out) (λ _=>HHB.out)).mono ?_;rintro e wG ⟨ga,gc,rfl,gP,gs,gu⟩;have huG:Upd g.S wr wG:=(UF.out.mono (by simp)).trans gu;have hPG:=B8 HPP.out huG (λ k c hk _ e=>HSR.out.anyS e (by decide) (by decide) (by decide) hk);have HSG:=η gs;obtain⟨gb,gcap,ge,_,gcap2,gcells,_⟩:=F3 gP hlm;cases ge
      have hfl:((lc.map pc).flatten).length=lc.length*48:=M5 (sz:=48) (λ e he=>by obtain⟨p,hp,rfl⟩:=List.mem_map.1 he;have:=HPL.out p (HSUB.out q lc hlc p hp);exact L8 this.1 this.2) |>.trans (by rw[List.length_map]);obtain⟨a9,c9,w9,S9,hrun,hown9,hu9,hS9⟩:=V0 (T:=110) Tryz.underlying110 Ae3 rfl (by decide) (by decide) (w:=wG) hPG (by have:=HBND.out;omega) (by have h1:=huG.size;have h2:=HUA2.out.size;omega) (ad:=⟨gb,0,none⟩) (m:=lc.length) (c:=gc) (by have:=HBND.out;omega) (by omega) ((lc.map pc).flatten) hfl (λ j u hj=>by rw[I5,Nat.zero_add];exact gcells j u hj) (λ u hu=>by obtain⟨x,hx,hux⟩:=List.mem_flatten.1 hu;obtain⟨p,_,rfl⟩:=List.mem_map.1 hx;exact Ae4 p u hux);have HF:Hid (E8 w9 w2.heap.size (.slice a9 (ml+lc.length) c9) (L.take (q+1)).flatten):=by
       show E8 _ _ _ _
       unfold E8;rw[HE1.out,List.length_append,HML.out,List.map_append,List.flatten_append];exact hown9
      have HU9:Hid (Upd g.S w2 w9):=η ((HUA2.out.trans huG).late hu9 (λ k hk=>by
       obtain⟨h1,cc,h2⟩:=hS9 k hk;exact .inr h1))
      have HSG9:=η (HSG.out.turnedS (λ b hb=>by obtain⟨_,cc,h2⟩:=hS9 b hb;exact⟨cc,_,_,h2,by unfold TyS;simp⟩) hu9);clear hown9 hu9 hS9 hPG gcells hfl huG gP gu;go_wp2_with (first | (at_builtin;refine B4 rfl _ _ _ rfl rfl rfl hrun ?_))
      repeat apply Exists.intro
      have hn13:=HN13.out;clear hrun;have ew:wrap64 ((q:Int)+1)=((q+1:Nat):Int):=(E5 (by omega) (by omega) (by omega)).2;rw[ew];clear ew;exact⟨⟨q+1,by omega,rfl,HF.out,by simp,HSG9.out,HU9.out⟩,by simp only[intOf];omega⟩
    ·obtain⟨ch,hch⟩:∃ch,ds[q]?=some ch:=⟨_,List.getElem?_eq_getElem (by have:=HDL.out;omega)⟩;obtain⟨lc,hlc,hlc0,hlcl,hup,hdn,hIH⟩:=HCH.out q ch hch;have hlm:0<lc.length:=hlc0;have e1:(L.take (q+1)).flatten=(L.take q).flatten++lc:=by rw[List.take_add_one,hlc,Option.toList_some,List.flatten_append];simp
     have HE1:=η e1;have HML:=η hml;have HBND:Hid (ml+lc.length<490):=by
      show _<_
      rw[← hml];have h3:((L.take (q+1)).flatten++(L.drop (q+1)).flatten)=l:=by rw[← List.flatten_append,List.take_append_drop];exact HFL.out
      have h4:=congrArg List.length h3;rw[e1] at h4;simp only[List.length_append] at h4;have:=HLN.out;omega
     have HUA2:=η hu;have HSR:=η hsr;have HIH:=η hIH;have HLC0:=η hlc0;have HPP:=η hP;have c13:=HS2.out.lateS HC13.out (by unfold Ty9;simp) hu;have c14:=HS2.out.lateS HC14.out (by unfold Ty9;simp) hu;have HC14R:=η c14;have HRR:=η (HRX.out _ hu);have hn13:=HN13.out;have hnn:=HNN.out;obtain⟨q1,hq1⟩:∃x,x=q-1:=⟨_,rfl⟩;obtain⟨LO,hLO⟩:∃x,ks[q1]?=some x:=⟨_,List.getElem?_eq_getElem (by omega)⟩;have hlo':LO.length=32:=HK32.out LO (List.mem_of_getElem? hLO);have hkyA:=HKY.out q1 LO hLO;obtain⟨K0,hK0⟩:∃x,x=36*q1:=⟨_,rfl⟩;obtain⟨I1,hI1⟩:∃x,x=12+36*q1:=⟨_,rfl⟩;obtain⟨I3,hI3⟩:∃x,x=44+36*q1:=⟨_,rfl⟩;have HWQ:Hid (IntKind.i64.wrap ((q:Int)-1)=(q1:Int)/\IntKind.i64.wrap (36*(q1:Int))=(K0:Int)/\IntKind.i64.wrap (12+(K0:Int))=(I1:Int)/\IntKind.i64.wrap (44+(K0:Int))=(I3:Int)):=η ⟨(E5 (by omega) (by omega) (by omega)).1,(E5 (by omega) (by omega) (by omega)).1,(E5 (by omega) (by omega) (by omega)).1,(E5 (by omega) (by omega) (by omega)).1⟩;have HWR:Hid (wrap64 ((q:Int)-1)=(q1:Int)/\wrap64 (36*(q1:Int))=(K0:Int)/\wrap64 (12+(K0:Int))=(I1:Int)/\wrap64 (44+(K0:Int))=(I3:Int)):=η ⟨(E5 (by omega) (by omega) (by omega)).2,(E5 (by omega) (by omega) (by omega)).2,(E5 (by omega) (by omega) (by omega)).2,(E5 (by omega) (by omega) (by omega)).2⟩;have s1a:I3-I1=32:=by omega
     have ja0:(0:Int)<=(I1:Int):=by omega
     have ja1:(I1:Int)<=(I3:Int):=by omega
     have ja2:(I3:Int)<=(c:Int):=by have:=HC.out;omega
     have ja3:I3<=c:=by have:=HC.out;omega
     have ja4:¬(c=I1):=by have:=HC.out;omega
     have HI3:Hid (I3=12+36*q1+32/\I3+4<=512/\q=q1+1):=η ⟨by omega,by omega,by omega⟩;rw[← hI1] at hkyA;have HRA1:Hid (∀wB,Upd [] wr wB->wB.rangeAt kb I1 (bts LO)):=by show ∀wB,_;exact λ wB uB=>Rd.range (HRR.out.below uB) HEL.out (I:=I1) (n:=32) (by omega) hkyA
     have HLB:Hid (∀p,p∈lc->ltB p.1 LO=false):=by show ∀p,_;exact λ p hp=>hdn LO (by omega) (by rw[← hq1];exact hLO) p hp
     clear hK0 hI1 hI3 hkyA hLO hq1;obtain⟨HI,hHI⟩:∃x,ks[q]?=some x:=⟨_,List.getElem?_eq_getElem (by omega)⟩;have hhi':HI.length=32:=HK32.out HI (List.mem_of_getElem? hHI);have hkyB:=HKY.out q HI hHI;obtain⟨K2,hK2⟩:∃x,x=36*q:=⟨_,rfl⟩;obtain⟨J1,hJ1⟩:∃x,x=12+36*q:=⟨_,rfl⟩;obtain⟨J3,hJ3⟩:∃x,x=44+36*q:=⟨_,rfl⟩;have HWV:Hid (IntKind.i64.wrap (36*(q:Int))=(K2:Int)/\IntKind.i64.wrap (12+(K2:Int))=(J1:Int)/\IntKind.i64.wrap (44+(K2:Int))=(J3:Int)):=η ⟨(E5 (by omega) (by omega) (by omega)).1,(E5 (by omega) (by omega) (by omega)).1,(E5 (by omega) (by omega) (by omega)).1⟩;have HWX:Hid (wrap64 (36*(q:Int))=(K2:Int)/\wrap64 (12+(K2:Int))=(J1:Int)/\wrap64 (44+(K2:Int))=(J3:Int)):=η ⟨(E5 (by omega) (by omega) (by omega)).2,(E5 (by omega) (by omega) (by omega)).2,(E5 (by omega) (by omega) (by omega)).2⟩;have s1b:J3-J1=32:=by omega
     have jb0:(0:Int)<=(J1:Int):=by omega
     have jb1:(J1:Int)<=(J3:Int):=by omega
     have jb2:(J3:Int)<=(c:Int):=by have:=HC.out;omega
     have jb3:J3<=c:=by have:=HC.out;omega
     have jb4:¬(c=J1):=by have:=HC.out;omega
     rw[← hJ1] at hkyB;have HRB1:Hid (∀wB,Upd [] wr wB->wB.rangeAt kb J1 (bts HI)):=by show ∀wB,_;exact λ wB uB=>Rd.range (HRR.out.below uB) HEL.out (I:=J1) (n:=32) (by omega) hkyB
     have HHB:Hid (∀p,p∈lc->ltB p.1 HI=true):=by show ∀p,_;exact λ p hp=>hup HI hHI p hp
     clear hK2 hJ1 hJ3 hkyB hHI;clear hn13 hnn;have hdq:decide ((q:Int)<=(n:Int))=true:=decide_eq_true (by omega);have hdq':decide (q<=n)=true:=decide_eq_true (by omega);have l13:=B2 (λ j v hv=>by rw[A4 c13,List.getElem?_toArray,Nat.zero_add];exact hv) hlo;have hst:=K3 wr hlo;clear c14 e1 hml hlc0 hlcl hIH hu hsr hP;go_upto_region 16 with(fail)
     clear hst l13 c13 hdq hdq';obtain⟨wB,hwB⟩:∃x,x=wr.alloc (.cells (bts lo).toArray 35):=⟨_,rfl⟩;obtain⟨b27,hb27⟩:∃x,x=wr.heap.size:=⟨_,rfl⟩;have c27:wB.heap[b27]?=some (.cells (bts lo).toArray 35 (0,0)):=by rw[hwB,hb27];exact A6 _
     have uB:Upd [] wr wB:=by rw[hwB];exact(Upd.refl _ _).alloc _
     have HB27:Hid (wr.heap.size<=b27):=η (by rw[hb27];exact Nat.le_refl _);rw[← hwB,← hb27];clear hwB hb27;have dg:decide ((q:Int) > 0)=true:=decide_eq_true (by omega);have dg':decide (0<(q:Int))=true:=decide_eq_true (by omega);have dn:0<q:=by omega
     have l0:=B2 (HRA1.out _ uB) hlo';have st:=C7 c27 (l:=bts LO) (by rw[List.size_toArray,A8,A8,hlo',hlo]) (G7 _);obtain⟨wq1,wq2,wq3,wq4⟩:=HWQ.out;obtain⟨wr1,wr2,wr3,wr4⟩:=HWR.out;go_upto_region 18 with(fail)
     clear wq1 wq2 wq3 wq4 wr1 wr2 wr3 wr4;obtain⟨wC,hwC⟩:∃x,x=wB.setRow b27 (bts LO).toArray:=⟨_,rfl⟩;have uC:Upd [] wr wC:=by rw[hwC];exact uB.late (D5 (S:=[b27]) (Upd.refl _ _) _ (.inl (by simp))) (λ k hk=> .inr (by simp at hk;subst hk;exact HB27.out))
     replace c27:wC.heap[b27]?=some (.cells (bts LO).toArray 35 (0,0)):=by rw[hwC];exact setRow_heap _ _ _ _ _ _ c27
     rw[← hwC];clear hwC uB st l0;have c14:=(uC.block _ (A2 HC14R.out) (by simp)).trans HC14R.out;have l14:=B2 (λ j v hv=>by rw[A4 c14,List.getElem?_toArray,Nat.zero_add];exact hv) hhi;have hst:=K3 wC hhi;go_upto_region 19 with(fail)
     clear hst l14 c14;obtain⟨wD,hwD⟩:∃x,x=wC.alloc (.cells (bts hi).toArray 35):=⟨_,rfl⟩;obtain⟨b29,hb29⟩:∃x,x=wC.heap.size:=⟨_,rfl⟩;have c29:wD.heap[b29]?=some (.cells (bts hi).toArray 35 (0,0)):=by rw[hwD,hb29];exact A6 _
     have uCD:Upd [] wC wD:=by rw[hwD];exact(Upd.refl _ _).alloc _
     have d27:=(uCD.block _ (A2 c27) (by simp)).trans c27;have uD:=uC.trans uCD;have HB29:Hid (wr.heap.size<=b29/\b27≠b29):=η ⟨by rw[hb29];exact uC.size,by rw[hb29];have:=A2 c27;omega⟩;rw[← hwD,← hb29];clear hwD hb29 uCD c27 uC;have dl:decide ((q:Int)<(n:Int))=true:=decide_eq_true (by omega);have dl':decide (q<n)=true:=decide_eq_true (by omega);have dl2:q<n:=by omega
     have l0:=B2 (HRB1.out _ uD) hhi';have st:=C7 c29 (l:=bts HI) (by rw[List.size_toArray,A8,A8,hhi',hhi]) (G7 _);obtain⟨wq1,wq2,wq3⟩:=HWV.out;obtain⟨wr1,wr2,wr3⟩:=HWX.out;go_upto_region 21 with(fail)
     clear wq1 wq2 wq3 wr1 wr2 wr3;obtain⟨wE,hwE⟩:∃x,x=wD.setRow b29 (bts HI).toArray:=⟨_,rfl⟩;have uDE:Upd [b29] wD wE:=by rw[hwE];exact D5 (Upd.refl _ _) _ (.inl (by simp))
     have uE:Upd [] wr wE:=uD.late uDE (λ k hk=> .inr (by simp at hk;subst hk;exact HB29.out.1));replace c29:wE.heap[b29]?=some (.cells (bts HI).toArray 35 (0,0)):=by rw[hwE];exact setRow_heap _ _ _ _ _ _ c29
     replace d27:=(uDE.block _ (A2 d27) (by simp;exact HB29.out.2)).trans d27;rw[← hwE];clear hwE uD uDE st l0;have D27:=η d27;have D29:=η c29;have UE:=η uE;have HLT:Hid (ltB LO HI=true):=by
      show _=_
      obtain⟨p,hp⟩:=List.exists_mem_of_length_pos hlm;exact J9 (HLB.out p hp) (HHB.out p hp)
     have l27:=B2 (λ j v hv=>by rw[A4 d27,List.getElem?_toArray,Nat.zero_add];exact hv) hlo';have l29:=B2 (λ j v hv=>by rw[A4 c29,List.getElem?_toArray,Nat.zero_add];exact hv) hhi';clear d27 c29 uE;go_wp2_with fail
     refine(R5 LO HI hlo' hhi' _).mono ?_;rintro e wF ⟨rfl,uEF⟩;rw[HLT.out];clear l27 l29;have UF:=η (UE.out.trans uEF);have d27:=(uEF.block _ (A2 D27.out) (by simp)).trans D27.out;have c29:=(uEF.block _ (A2 D29.out) (by simp)).trans D29.out;have HRF:=η (HRR.out.below UF.out);clear uEF;have hwl:=HWLF.out;go_wp2_with fail
     refine(Q3 HRF.out HEL.out 8 (by omega)).mono ?_;rintro e w' ⟨rfl,rfl⟩;obtain⟨wq1,wq2,wq3,wq4⟩:=HWQ.out;obtain⟨wr1,wr2,wr3,wr4⟩:=HWR.out;go_wp2_with fail
     clear wq1 wq2 wq3 wq4 wr1 wr2 wr3 wr4;refine(Q3 HRF.out HEL.out I3 HI3.out.2.1).mono ?_;rintro e w' ⟨rfl,rfl⟩;have hnum:num E I3 4=ch:=by rw[HI3.out.1];exact HNM.out q1 ch (by rw[← HI3.out.2.2];exact hch)
     rw[hnum];clear hnum;have l27:=B2 (λ j v hv=>by rw[A4 d27,List.getElem?_toArray,Nat.zero_add];exact hv) hlo';have l29:=B2 (λ j v hv=>by rw[A4 c29,List.getElem?_toArray,Nat.zero_add];exact hv) hhi';obtain⟨hwl1,hwl2⟩:=HWLF.out;go_wp2_with fail
     clear hwl1 hwl2;refine(HIH.out _ (HSR.out.below UF.out) true true LO HI hlo' hhi' (λ _=>HLB.out) (λ _=>HHB.out)).mono ?_;rintro e wG ⟨ga,gc,rfl,gP,gs,gu⟩;have huG:Upd g.S wr wG:=(UF.out.mono (by simp)).trans gu;have hPG:=B8 HPP.out huG (λ k c hk _ e=>HSR.out.anyS e (by decide) (by decide) (by decide) hk);have HSG:=η gs;obtain⟨gb,gcap,ge,_,gcap2,gcells,_⟩:=F3 gP hlm;cases ge
     have hfl:((lc.map pc).flatten).length=lc.length*48:=M5 (sz:=48) (λ e he=>by obtain⟨p,hp,rfl⟩:=List.mem_map.1 he;have:=HPL.out p (HSUB.out q lc hlc p hp);exact L8 this.1 this.2) |>.trans (by rw[List.length_map]);obtain⟨a9,c9,w9,S9,hrun,hown9,hu9,hS9⟩:=V0 (T:=110) Tryz.underlying110 Ae3 rfl (by decide) (by decide) (w:=wG) hPG (by have:=HBND.out;omega) (by have h1:=huG.size;have h2:=HUA2.out.size;omega) (ad:=⟨gb,0,none⟩) (m:=lc.length) (c:=gc) (by have:=HBND.out;omega) (by omega) ((lc.map pc).flatten) hfl (λ j u hj=>by rw[I5,Nat.zero_add];exact gcells j u hj) (λ u hu=>by obtain⟨x,hx,hux⟩:=List.mem_flatten.1 hu;obtain⟨p,_,rfl⟩:=List.mem_map.1 hx;exact Ae4 p u hux);have HF:Hid (E8 w9 w2.heap.size (.slice a9 (ml+lc.length) c9) (L.take (q+1)).flatten):=by
      show E8 _ _ _ _
      unfold E8;rw[HE1.out,List.length_append,HML.out,List.map_append,List.flatten_append];exact hown9
     have HU9:Hid (Upd g.S w2 w9):=η ((HUA2.out.trans huG).late hu9 (λ k hk=>by
      obtain⟨h1,cc,h2⟩:=hS9 k hk;exact .inr h1))
     have HSG9:=η (HSG.out.turnedS (λ b hb=>by obtain⟨_,cc,h2⟩:=hS9 b hb;exact⟨cc,_,_,h2,by unfold TyS;simp⟩) hu9);clear hown9 hu9 hS9 hPG gcells hfl huG gP gu;go_wp2_with (first | (at_builtin;refine B4 rfl _ _ _ rfl rfl rfl hrun ?_))
     repeat apply Exists.intro
     have hn13:=HN13.out;clear hrun;have ew:wrap64 ((q:Int)+1)=((q+1:Nat):Int):=(E5 (by omega) (by omega) (by omega)).2;rw[ew];clear ew;exact⟨⟨q+1,by omega,rfl,HF.out,by simp,HSG9.out,HU9.out⟩,by simp only[intOf];omega⟩
end
end Go.Proofs.YtgfbepakonjbnaaGreat
end
