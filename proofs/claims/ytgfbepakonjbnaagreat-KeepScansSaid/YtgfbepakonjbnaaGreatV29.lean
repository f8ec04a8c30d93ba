/-
  cofferlaw12.begun.
-/
import Derived.Test.YtgfbepakonjbnaaGreatV28
import Derived.Test.YtgfbepakonjbnaaGreatV23
set_option maxRecDepth 100000
set_option maxHeartbeats 16000000
section
set_option linter.unusedSimpArgs false
set_option linter.unusedVariables false
namespace Go.Proofs.YtgfbepakonjbnaaGreat
open Go.RowKit Go.MapKept Go.ChangeMaps
theorem Z3.first{g:Sg}{M1:Nat->Option Sec}{S1:List Nat}{K1:Nat->Option Pk}{key b:List UInt8}{y:Nat × Nat}(h:Z3 g (λ _=>none) M1 [] S1 (λ _=>none) K1 [] key b y)(r:Ak0 [] (λ _=>none) (g.T λ _=>none) 0)(hh:60<=g.h) :
  y=(0,0)/\K1=Ab6 (λ _=>none) 0 (some ⟨4,E0 key b,(E0 key b).length⟩)/\S1.length<=1/\(∀i,g.T M1 i=decide (i<4+S1.length+16))/\∀i,(M1 i).isSome=true->i<20∨i∈S1:=by
 obtain⟨K0,T0,M2,M3,hd,ha,hG,hT⟩:=h.way;obtain⟨rfl,rfl⟩:K0=(λ _=>none)/\T0=g.T λ _=>none:=hd;obtain⟨y',e,q⟩:=r.add (by omega) (by simp;omega) ha;cases e
 rcases q with⟨_,_⟩ | ⟨hy,_,hr,rfl⟩
 ·exfalso
  rcases ha with⟨free,p,_,_,h2,_⟩ | ⟨st,q,h1,h2,h3,hK,h4⟩
  ·cases h2
  ·rename_i hr;have:=hr.out y.1 (by omega);rw[hK,E1] at this;cases this
 ·have hy2:y.2=0:=by
   rcases ha with⟨free,p,_,_,h2,_⟩ | ⟨st,q,h1,h2,_⟩
   ·cases h2
   ·exact h2
  have hye:y=(0,0):=Prod.ext hy hy2;subst hye;have hr3:=hr.put (by simp;omega) (λ s hs=>(h.kp.m.low s hs).2) hG;have hsz:=h.kp.m.tr.size;rw[List.length_map] at hsz;have hln:=Be6 [] ⟨0,0,key,b⟩;simp only[List.length_nil] at hln;have hS1:S1.length<=1:=by
   have:(U0 [] (⟨0,0,key,b⟩:Rc)).length<=1:=hln;have hsz':4*S1.length<=(U0 [] (⟨0,0,key,b⟩:Rc)).length+3:=hsz;omega
  refine⟨rfl,rfl,hS1,λ i=>by rw[hT,hr3.bits],λ i hi=>?_⟩;rcases h.dom i hi with q | q | q | q
  ·cases q
  ·exact .inl (by omega)
  ·obtain⟨p,hp,i1,i2⟩:=q;rw[E1] at hp;cases hp
   simp only[List.length_nil] at i2;exact .inl (by omega)
  ·exact .inr q
theorem Cp2(n a n' a':Nat)(key b b':List UInt8):U0 [⟨n,a,key,b⟩] ⟨n',a',key,b'⟩=[⟨n',a',key,b'⟩]:=by
 unfold U0;rw[I4,if_neg (by simp),if_pos rfl]
theorem Bo6(w:World):Calls Tryz.prog 15 #[] w λ e w'=>e=.returned (.bool true)/\Upd [] w w':=by
 have HM:=η (Ay4 200 60 200 60 rfl rfl (by omega) (by omega) (by omega) (by omega) (by omega) w);obtain⟨key,hkey⟩:∃k,k=X1 (1:Int):=⟨_,rfl⟩;have hkl:key.length=32:=by rw[hkey];exact P6 _
 have hky:=λ W=>Be2 1 W;rw[show((Y5 1 40:Nat):Int)=1 by decide,← hkey] at hky;unfold arr at hky;have HKY:Hid (∀W,Calls Tryz.prog 24 #[.int .i64 1] W λ e w'=>e=.returned (.agg (bts key).toArray)/\Upd [] W w'):=η hky;clear hkey hky;go_enter Tryz.func15,Tryz.ntmps15
 go_wp2_with fail
 refine HM.out.mono ?_;rintro e w1 ⟨j,H0,rfl,hj,hkj,hrow,hu1⟩;have HJ:Hid (∀k,k∈j.all->w.heap.size<=k):=by show ∀k,_;exact hj
 have HBG:=η (hkj.begin hj hu1);have HRW:=η hrow;clear hj hkj hrow hu1;go_wp2_with fail
 refine HBG.out.mono ?_;rintro e w2 ⟨g,rfl,hkt,hgT,_⟩;have hgh:g.h=138:=hkt.h;have hrw:Ak0 [] (λ _=>none) (g.T λ _=>none) 0:=⟨HRW.out.here,HRW.out.out,λ i=>by rw[hgT];exact HRW.out.bits i⟩;have hSS:=hkt.S HJ.out;have HSS:=η hSS;have HKT:=η hkt;have HRW2:=η hrw;have HGH:=η hgh;clear hkt hgT hgh hrw hSS;go_wp2_with fail
 refine(HKY.out _).mono ?_;rintro e w3 ⟨rfl,hu3⟩;obtain⟨w4,hw4⟩:∃w4,w4=w3.alloc (.cells #[.int .u8 1] 5):=⟨_,rfl⟩;have hu4:Upd [] w3 w4:=by rw[hw4];exact(Upd.refl _ _).alloc _
 have b4:w4.heap[w3.heap.size]?=some (.cells #[.int .u8 1] 5 (0,0)):=by rw[hw4];exact A4 _
 have hrd:Rd w4 (.slice (some ⟨w3.heap.size,0,none⟩) 1 1) [1]:=⟨_,_,rfl,by simp,λ _=>⟨_,0,rfl,λ i hi=>by
  obtain rfl:i=0:=by simpa using hi
  rw[A2 b4];rfl⟩⟩
 have hu24:=hu3.trans hu4;have h4:=HKT.out.sp.below hu24;have hst:=Av6 h4 (by have:=HGH.out;omega) (by have:=HGH.out;omega) HKT.out.kp (by simp) key [1] _ hrd hkl (by simp) (Ai5.fresh HRW2.out (by omega) (by have:=HGH.out;simp;omega) rfl);unfold arr at hst;have HST:=η hst;have HU4:=η (HKT.out.upd.trans hu24);have HW4:=η hw4;clear hu3 hu4 b4 hrd hu24 h4 hst hw4;go_wp2_with (have hw4:=HW4.out;rw[← hw4];clear hw4;refine HST.out.mono ?_;rintro e w5 ⟨M1,S1,K1,y,rfl,h5,hso,hu5⟩)
 obtain⟨rfl,rfl,hS1,hT1,hD1⟩:=hso.first HRW2.out (by have:=HGH.out;omega);have hok1:=h5.ok;have hkp1:Av4 g M1 S1 (Ab6 (λ _=>none) 0 (some ⟨4,E0 key [1],(E0 key [1]).length⟩)) [⟨0,0,key,[1]⟩]:=hso.kp;have H5:=η h5;have HKP1:=η hkp1;have HAG:Hid (Ai5 g M1 S1 (Ab6 (λ _=>none) 0 (some ⟨4,E0 key [1],(E0 key [1]).length⟩)) [⟨0,0,key,[1]⟩] key [2]):=η (Ai5.again hS1 rfl (V4 hkl) hT1 hok1 hD1 (by have:=HGH.out;omega));have HU5:=η (HU4.out.mono (by simp) |>.trans hu5);clear h5 hso hu5 hok1 hkp1 hS1 hT1 hD1;go_wp2_with fail
 refine(HKY.out _).mono ?_;rintro e w6 ⟨rfl,hu6⟩;obtain⟨w7,hw7⟩:∃w7,w7=w6.alloc (.cells #[.int .u8 2] 5):=⟨_,rfl⟩;have hu7:Upd [] w6 w7:=by rw[hw7];exact(Upd.refl _ _).alloc _
 have b7:w7.heap[w6.heap.size]?=some (.cells #[.int .u8 2] 5 (0,0)):=by rw[hw7];exact A4 _
 have hrd:Rd w7 (.slice (some ⟨w6.heap.size,0,none⟩) 1 1) [2]:=⟨_,_,rfl,by simp,λ _=>⟨_,0,rfl,λ i hi=>by
  obtain rfl:i=0:=by simpa using hi
  rw[A2 b7];rfl⟩⟩
 have hu57:=hu6.trans hu7;have h7:=H5.out.below hu57;have hst:=Av6 h7 (by have:=HGH.out;omega) (by have:=HGH.out;omega) HKP1.out (by simp) key [2] _ hrd hkl (by simp) HAG.out;unfold arr at hst;have HST:=η hst;have HU7:=η (HU5.out.trans (hu57.mono (by simp)));have HW7:=η hw7;clear hu6 hu7 b7 hrd hu57 h7 hst hw7;go_wp2_with (have hw7:=HW7.out;rw[← hw7];clear hw7;refine HST.out.mono ?_;rintro e w8 ⟨M2,S2,K2,y,rfl,h8,hso,hu8⟩)
 have hkp2:=hso.kp;rw[Cp2] at hkp2;have H8:=η h8;have HKP2:=η hkp2;have HU8:=η (HU7.out.trans hu8);clear h8 hso hu8 hkp2;go_wp2_with fail
 refine(HKY.out _).mono ?_;rintro e w9 ⟨rfl,hu9⟩;have h9:=H8.out.below hu9;have hgt:=Cj5 h9 (by have:=HGH.out;omega) (by have:=HGH.out;omega) HKP2.out (by simp) key hkl (x:=⟨y.1,y.2,key,[2]⟩) (by
  unfold M9;rw[I4,if_neg (by simp),if_pos rfl])
 unfold arr at hgt;have HGT:=η hgt;have HU9:=η (HU8.out.trans (hu9.mono (by simp)));clear hu9 h9 hgt;go_wp2_with fail
 refine HGT.out.mono ?_;rintro e w10 ⟨v,rfl,hrow,h10,hu10⟩;have hln:=Cj4 h10 (by have:=HGH.out;omega) (by have:=HGH.out;omega) HKP2.out (by simp);have HLN:=η hln;have HROW:=η (RdS.of hrow.rd);have H10:=η h10;have HU10:=η (HU9.out.trans hu10);clear hrow h10 hu10 hln;go_wp2_with fail
 refine HLN.out.mono ?_;rintro e w11 ⟨rfl,h11,hu11⟩;have hrd:=(HROW.out.sp H10.out hu11 λ _ q=>q).1;have hcv:=Ba9 hrd (by decide);have HU11:=η ((Upd.refl [] w).late (HU10.out.trans hu11) λ i hi=> .inr (HSS.out.1 i hi));clear h11 hu11 hrd;rw[show(([⟨y.1,y.2,key,[2]⟩]:List Rc).length:Int)=1 from rfl];have hstr:str [(2:UInt8)]=⟨#[2]⟩:=rfl;rw[hstr] at hcv;go_wp2_with fail
 go_ret;exact⟨rfl,HU11.out⟩
theorem Bo5(k:Int):(X1 k)[31]?=some (u8I k):=by
 unfold X1;rw[List.getElem?_set_self (by simp[z32])]
theorem Cx5{a b:Nat}(ha:a<256)(hb:b<256)(h:a≠b):X1 (a:Int)≠X1 (b:Int):=λ e=>by
 have h1:(X1 (a:Int))[31]?=(X1 (b:Int))[31]?:=by rw[e]
 rw[Bo5,Bo5] at h1;injection h1 with h1;have h2:=congrArg UInt8.toNat h1;unfold u8I at h2;rw[UInt8.toNat_ofNat',UInt8.toNat_ofNat'] at h2;omega
section
section
variable {P:Program} {ops:Array Oper} {Q:Exit->Act->World->Prop}
theorem Ac5{c:Nat}{a:Act}{w:World}(hcut:Dc5 ops (c+1)=true)(hc:c+1<ops.size)(h:wpOp P ops Q (c+1) (λ a' w'=>Bl3 P ops Q (c+1) a' w') a w):Bl3 P ops Q c a w:=by
 have hw:∀i,i<ops.size->c+1<i->Ad9 .any ops (c+1) ops.size i=true:=λ i hi h=>by
  have h1:=(List.all_eq_true.1 hcut) i (List.mem_range.2 hi);rw[if_neg (by omega),if_pos h] at h1;exact h1
 refine⟨λ L a' w'=>(L (c+1)=false/\(∀i,i<ops.size->L i=decide (i<=c))/\a'=a/\w'=w)∨(L (c+1)=true/\∃J:(Nat->Bool)->Act->World->Prop,J L a' w'/\
  (∀i o L a w,c+1<i->ops[i]?=some o->J L a w->L i=false->(∀e∈o.after,Region.binds .any e=true->L e.on=true)->P3 .any ops L->wpOp P ops Q i (λ a' w'=>J (upL L i) a' w') a w)/\
  (∀L a w,J L a w->(∀i,i<ops.size->L i=true)->Q .normal a w)),λ L hL=> .inl ⟨?_,hL,rfl,rfl⟩,?_,?_⟩
 ·rw[hL _ hc,decide_eq_false (by omega)]
 ·rintro i o L a' w' hic ho hI hL hd hcl;have hi:=(Array.getElem?_eq_some_iff.1 ho).1;by_cases e:i=c+1
  ·subst e;rcases hI with⟨_,h2,rfl,rfl⟩ | ⟨h1,_⟩
   ·refine wpOp_mono (λ a'' w'' hr=> .inr ⟨N5 _ _,?_⟩) h;obtain⟨J,j0,j1,j2⟩:=hr;refine⟨J,j0 _ λ k hk=>?_,j1,j2⟩;by_cases e:k=c+1
    ·subst e;rw[N5];simp
    ·rw[F8 _ e,h2 k hk];exact decide_eq_decide.2 (by omega)
   ·rw[h1] at hL;cases hL
  ·have hic2:c+1<i:=by omega
   have h1:L (c+1)=true:=hcl.dep_up ho hd ops.size (hw i hi hic2) (by omega);rcases hI with⟨h2,_⟩ | ⟨_,J,j0,j1,j2⟩
   ·rw[h1] at h2;cases h2
   ·exact wpOp_mono (λ a'' w'' h=> .inr ⟨by rw[F8 _ (by omega)];exact h1,J,h,j1,j2⟩) (j1 i o L a' w' hic2 ho j0 hL hd hcl)
 ·rintro L a' w' hI hall;rcases hI with⟨h1,_⟩ | ⟨_,J,j0,_,j2⟩
  ·rw[hall _ hc] at h1;cases h1
  ·exact j2 L a' w' j0 hall
theorem Cq7{c:Nat}{a:Act}{w:World}(hc:c+1=ops.size)(h:Q .normal a w):Bl3 P ops Q c a w:=by
 refine⟨λ L a' w'=>a'=a/\w'=w,λ _ _=>⟨rfl,rfl⟩,λ i o L a' w' hic ho _ _ _ _=>?_,λ L a' w' hI _=>by obtain⟨rfl,rfl⟩:=hI;exact h⟩;have hi:=(Array.getElem?_eq_some_iff.1 ho).1;omega
end
end
theorem Z3.row{g:Sg}{M':Nat->Option Sec}{S S':List Nat}{K K':Nat->Option Pk}{R:List Rc}{key b:List UInt8}{y:Nat × Nat}{m:Nat}(h:Z3 g (λ _=>none) M' S S' K K' R key b y)(r:Ak0 S K (g.T λ _=>none) m)(hn:M9 R key=none)(hm:m<64)
  (hh:4+S.length+16*m+20<=g.h):∃m',m'<=m+1/\Ak0 S' K' (g.T M') m':=by
 obtain⟨K1,T1,M2,M3,hd,ha,hG,hT⟩:=h.way;rw[hn] at hd;obtain⟨rfl,rfl⟩:=hd;obtain⟨y',e,q⟩:=r.add hm (by omega) ha;have hlow:∀s,s∈S'->s<g.h:=λ s hs=>(h.kp.m.low s hs).2;rcases q with⟨_,q⟩ | ⟨_,_,q,_⟩
 ·have h2:=q.put (by omega) hlow hG;rw[← hT] at h2;exact⟨m,by omega,h2⟩
 ·have h2:=q.put (by omega) hlow hG;rw[← hT] at h2;exact⟨m+1,Nat.le_refl _,h2⟩
structure Bo7(R:List Rc)(I:Nat):Prop where
 len:R.length=I
 out:∀k:Nat,I<=k->k<256->M9 R (X1 (k:Int))=none
 low:∀x,x∈R->∃k:Nat,k<I/\x.key=X1 (k:Int)
theorem Bo7.zero:Bo7 [] 0:=⟨rfl,λ _ _ _=>rfl,λ _ h=>(by cases h)⟩
theorem Bo7.ins{R:List Rc}{I:Nat}(h:Bo7 R I)(hs:Ao0 R)(hI:I<256)(n a:Nat)(b:List UInt8):Bo7 (U0 R ⟨n,a,X1 (I:Int),b⟩) (I+1):=by
 have hn:=h.out I (Nat.le_refl _) hI;have hp:=Av2 (x:=⟨n,a,X1 (I:Int),b⟩) hn;refine⟨?_,λ k hk hk2=>?_,λ x hx=>?_⟩
 ·rw[hp.length_eq,List.length_cons,h.len]
 ·rw[Bu2 hs _ (Cx5 hk2 hI (by omega))];exact h.out k (by omega) hk2
 ·rcases List.mem_cons.1 (hp.mem_iff.1 hx) with rfl | q
  ·exact⟨I,by omega,rfl⟩
  ·obtain⟨k,h1,h2⟩:=h.low x q;exact⟨k,by omega,h2⟩
abbrev TRc:TypeId:=50
def rcC(p:Bs × Value):List Value:=bts p.1 ++ [p.2]
theorem Ap4{p:Bs × Value}(h:p.1.length=32):(rcC p).length=33:=by unfold rcC;rw[List.length_append,A5,h];rfl
def T6(w:World)(B:Nat)(v:Value)(l:List (Bs × Bs)):Prop:=
 ∃ps:List (Bs × Value),w.ownsRow B TRc 33 v ps.length (ps.map rcC).flatten/\ps.length=l.length/\∀(k:Nat) p q,ps[k]?=some p->l[k]?=some q->p.1=q.1/\p.1.length=32/\J5 w B p.2 q.2
theorem T6.nil(w:World)(B:Nat):T6 w B (.slice none 0 0) []:=⟨[],World.ownsRow_nil _ _ _ _,rfl,λ k p q h=>by simp at h⟩
theorem J5.upd{w w':World}{B:Nat}{v:Value}{l:List UInt8}(h:J5 w B v l){S:List Nat}(hu:Upd S w w')(hS:∀(k:Nat) (c:Array Value),k∈S->w.heap[k]?≠some (.cells c 5 (0,0))):J5 w' B v l:=by
 refine⟨h.1,?_⟩;rcases h.2 with h | ⟨g,cap,cur,e,hb,hg,r⟩
 ·exact .inl h
 ·exact .inr ⟨g,cap,cur,e,hb,(hu.block _ (A3 hg) λ q=>hS _ _ q hg).trans hg,r⟩
theorem T6.shape{w:World}{B:Nat}{v:Value}{l:List (Bs × Bs)}(h:T6 w B v l):∃a c,v=.slice a l.length c:=by
 obtain⟨ps,h1,h2,_⟩:=h;rw[← h2];rcases h1.2 with⟨e,h0⟩ | ⟨g,cap,cur,e,_⟩
 ·exact⟨none,0,by rw[e,h0]⟩
 ·exact⟨_,_,e⟩
theorem Cp3:(Tryz.prog.info? TRc).map (λ i=>(i.zero,i.size,i.bytes))=some (some (.agg ((List.replicate 32 (Value.int .u8 0)) ++ [Value.slice none 0 0]).toArray),33,56):=by kernel_rfl
theorem Bt6{w:World}{B:Nat}{v:Value}{l:List UInt8}(h:J5 w B v l):v.oneCell'=true:=by
 obtain⟨a,c,rfl,_⟩:=h.shape;rfl
theorem Cp4{w:World}{B:Nat}{v x:Value}{l:List (Bs × Bs)}(hp:T6 w B v l)(hl:l.length<=1000)(hB:B<=w.heap.size){key b:Bs}(hk:key.length=32)(hb:J5 w B x b) :
  ∃a b' c' w' S,(∀ty,(Builtin.append_ #[44,44] ty #[v,.slice (some ⟨w.heap.size,0,none⟩) 1 1]).run Tryz.prog (w.alloc (.cells (rcC (key,x)).toArray TRc))=.ok (.slice a b' c') w')/\T6 w' B (.slice a b' c') (l ++ [(key,b)])/\
   Upd S w w'/\(∀k,k∈S->B<=k/\∃c,w.heap[k]?=some (.cells c TRc (0,0))):=by
 obtain⟨ps,h1,h2,h3⟩:=hp;obtain⟨a,b',c',w',S,hr,ho,hu,hS⟩:=Ah2 (T:=44) (e:=TRc) (sz:=33) Tryz.underlying44 Cp3 rfl (by decide) (by decide) h1 (by omega) hB (rcC (key,x)) (Ap4 hk) (λ u hu=>by
  rcases List.mem_append.1 hu with q | q
  ·exact F7 _ u q
  ·obtain rfl:=List.mem_singleton.1 q;exact Bt6 hb)
 have hno:∀(k:Nat) (c:Array Value),k∈S->w.heap[k]?≠some (.cells c 5 (0,0)):=λ k c hk e=>by
  obtain⟨_,c2,h⟩:=hS k hk;rw[h] at e;injection e with e;injection e with _ e _;revert e;decide
 refine⟨a,b',c',w',S,hr,⟨ps ++ [(key,x)],?_,by simp[h2],λ k p q hp hq=>?_⟩,hu,hS⟩
 ·rw[List.length_append,List.map_append,List.flatten_append];simpa using ho
 ·rcases Nat.lt_or_ge k ps.length with hlt | hge
  ·rw[List.getElem?_append_left hlt] at hp;rw[List.getElem?_append_left (by omega)] at hq;obtain⟨a,b,c⟩:=h3 k p q hp hq;exact⟨a,b,c.upd hu hno⟩
  ·have hk2:k=ps.length:=by
    have:=(List.getElem?_eq_some_iff.1 hp).1;simp at this;omega
   subst hk2;rw[List.getElem?_append_right (Nat.le_refl _),Nat.sub_self] at hp;rw[h2,List.getElem?_append_right (Nat.le_refl _),Nat.sub_self] at hq;cases hp;cases hq
   exact⟨rfl,hk,hb.upd hu hno⟩
theorem T6.rrd{w:World}{B:Nat}{v:Value}{l:List (Bs × Bs)}(h:T6 w B v l):∃ps:List (Bs × Value),RRd w v 33 (ps.map rcC)/\ps.length=l.length/\∀(k:Nat) p q,ps[k]?=some p->l[k]?=some q->p.1=q.1/\p.1.length=32/\J5 w B p.2 q.2:=by
 obtain⟨ps,h1,h2,h3⟩:=h;refine⟨ps,Bb5 h1 (by simp) λ e he=>?_,h2,h3⟩;obtain⟨p,hp,rfl⟩:=List.mem_map.1 he;obtain⟨k,hk,hkp⟩:=List.mem_iff_getElem.1 hp;exact Ap4 (h3 k p (l[k]'(by omega)) (by rw[List.getElem?_eq_getElem hk,hkp]) (List.getElem?_eq_getElem (by omega))).2.1
theorem Ci5{key:Bs}(hk:key.length=32)(a:Option Addr)(n c:Nat)(w:World):(Instr.build TRc #[(0,.agg (bts key).toArray),(1,.slice a n c)]).run Tryz.prog w=.ok (.agg (rcC (key,.slice a n c)).toArray) w:=by
 match key,hk with
 | [x0,x1,x2,x3,x4,x5,x6,x7,x8,x9,x10,x11,x12,x13,x14,x15,x16,x17,x18,x19,x20,x21,x22,x23,x24,x25,x26,x27,x28,x29,x30,x31],_=>exact run_build w _ _ _ (by kernel_rfl)
theorem Cx6{p:Bs × Value}(h:p.1.length=32)(w:World):(Instr.buildSlice 44 1 #[(0,.agg (rcC p).toArray)]).run Tryz.prog w=.ok (.slice (some ⟨w.heap.size,0,none⟩) 1 1) (w.alloc (.cells (rcC p).toArray TRc)):=
 X5 (e:=TRc) (sz:=33) Tryz.underlying44 (by kernel_rfl) (by decide) (by decide) (rcC p) (Ap4 h) w
section
def V1(from_:Bs)(most:Int)(acc:List C0)(p:C0):List C0:=if ltB p.1 from_=false/\(acc.length:Int)<most then acc ++ [p] else acc
def P7(from_:Bs)(most:Int)(acc:List C0)(l:List C0):List C0:=l.foldl (V1 from_ most) acc
theorem Cv0(from_:Bs)(most:Int)(acc:List C0)(p:C0):(V1 from_ most acc p).length<=acc.length+1:=by unfold V1;split<;>simp
theorem Bi4(from_:Bs)(most:Int):∀(l acc:List C0),(P7 from_ most acc l).length<=acc.length+l.length
 | [],acc=>by simp[P7]
 | p :: l,acc=>by
  have h1:=Cv0 from_ most acc p;have h2:=Bi4 from_ most l (V1 from_ most acc p);show(P7 from_ most (V1 from_ most acc p) l).length<=_
  simp only[List.length_cons];omega
theorem Bi5(from_:Bs)(most:Int):∀(l acc:List C0),¬(acc.length:Int)<most->P7 from_ most acc l=acc
 | [],_,_=>rfl
 | p :: l,acc,h=>by
  show P7 from_ most (V1 from_ most acc p) l=acc
  have:V1 from_ most acc p=acc:=by unfold V1;rw[if_neg (by intro q;exact h q.2)]
  rw[this];exact Bi5 from_ most l acc h
theorem Ax1(from_:Bs)(most:Int)(acc l1 l2:List C0):P7 from_ most acc (l1++l2)=P7 from_ most (P7 from_ most acc l1) l2:=by unfold P7;rw[List.foldl_append]
def Ax2(from_:Bs)(most:Int):Bi2 (List C0) where
 F acc c:=(P7 from_ most acc c,if c=[] then true else decide (((P7 from_ most acc c).length:Int)<most))
 go:=λ a l1 l2 h=>by
  by_cases h1:l1=[]
  ·subst h1;rfl
  ·by_cases h2:l2=[]
   ·subst h2;rw[List.append_nil];show _=(P7 from_ most (P7 from_ most a l1) [],_)
    simp only[if_true];exact Prod.ext rfl h
   ·have h3:¬(l1++l2=[]):=by simp[h1]
    simp only[h2,h3,if_false,Ax1]
 stop:=λ a l1 l2 h=>by
  by_cases h1:l1=[]
  ·subst h1;simp at h
  ·have h3:¬(l1++l2=[]):=by simp[h1]
   simp only[h1,if_false] at h;have hf:=Bi5 from_ most l2 _ (of_decide_eq_false h);simp only[h3,if_false,Ax1,hf];rw[h]
 nil:=λ a=>by simp[P7]
 wt:=λ acc=>acc.length
 grow:=λ a l=>Bi4 from_ most l a
theorem Au2(from_:Bs)(most:Nat):∀(l acc:List C0),acc.length<=most->P7 from_ (most:Int) acc l=acc++(l.filter λ p=> !ltB p.1 from_).take (most-acc.length)
 | [],acc,_=>by simp[P7]
 | p :: l,acc,h=>by
  show P7 from_ (most:Int) (V1 from_ (most:Int) acc p) l=_
  cases hp:ltB p.1 from_
  ·by_cases hl:acc.length<most
   ·have e:V1 from_ (most:Int) acc p=acc ++ [p]:=by unfold V1;rw[if_pos ⟨hp,by omega⟩]
    rw[e,Au2 from_ most l _ (by simp;omega),List.filter_cons_of_pos (by rw[hp];rfl)];obtain⟨m,hm⟩:∃m,most-acc.length=m+1:=⟨most-acc.length-1,by omega⟩;rw[hm,List.take_succ_cons,List.length_append,List.length_singleton,show most-(acc.length+1)=m by omega];simp
   ·have e:V1 from_ (most:Int) acc p=acc:=by unfold V1;rw[if_neg (by intro q;omega)]
    rw[e,Au2 from_ most l acc h,show most-acc.length=0 by omega];simp
  ·have e:V1 from_ (most:Int) acc p=acc:=by unfold V1;rw[if_neg (by intro q;rw[hp] at q;simp at q)]
   rw[e,Au2 from_ most l acc h,List.filter_cons_of_neg (by rw[hp];simp)]
def pc(p:C0):List Value:=bts p.1++bts p.2
def Aa2(w:World)(B:Nat)(v:Value)(l:List C0):Prop:=w.ownsRow B TP 48 v l.length (l.map pc).flatten
theorem De8:(Tryz.prog.info? 169).map (λ i=>(i.zero,i.size,i.bytes))=some (some (.agg ((List.replicate 48 (Value.int .u8 0)).toArray)),48,48):=by kernel_rfl
def Z1(bf bl bm B:Nat)(from_:Bs)(most:Int)(acc:List C0)(w:World):Prop:=
 B<=w.heap.size/\w.heap[bf]?=some (.cells (bts from_).toArray 35 (0,0))/\w.heap[bm]?=some (.cells #[.int .i64 most] 3 (0,0))/\∃v,w.heap[bl]?=some (.cells #[v] 110 (0,0))/\Aa2 w B v acc
theorem Ad0{p:C0}(h1:p.1.length=32)(h2:p.2.length=16):(pc p).length=48:=by unfold pc;rw[List.length_append,A5,A5,h1,h2]
theorem Cv1(p:C0):∀u∈pc p,u.oneCell'=true:=λ u hu=>(List.mem_append.1 hu).elim (F7 _ u) (F7 _ u)
theorem Ce3{k v:Bs}(hk:k.length=32)(hv:v.length=16)(w:World):(Instr.build 169 #[(0,.agg (bts k).toArray),(1,.agg (bts v).toArray)]).run Tryz.prog w=.ok (.agg (pc (k,v)).toArray) w:=by
 match k,hk,v,hv with
 | [x0,x1,x2,x3,x4,x5,x6,x7,x8,x9,x10,x11,x12,x13,x14,x15,x16,x17,x18,x19,x20,x21,x22,x23,x24,x25,x26,x27,x28,x29,x30,x31],_,[y0,y1,y2,y3,y4,y5,y6,y7,y8,y9,y10,y11,y12,y13,y14,y15],_=>exact run_build w _ _ _ (by kernel_rfl)
theorem Cz6{p:C0}(h1:p.1.length=32)(h2:p.2.length=16)(w:World):(Instr.buildSlice 110 1 #[(0,.agg (pc p).toArray)]).run Tryz.prog w=.ok (.slice (some ⟨w.heap.size,0,none⟩) 1 1) (w.alloc (.cells (pc p).toArray 169)):=
 X5 (e:=169) (sz:=48) Tryz.underlying110 (by kernel_rfl) (by decide) (by decide) (pc p) (Ad0 h1 h2) w
theorem Aa2.shape{w:World}{B:Nat}{v:Value}{l:List C0}(h:Aa2 w B v l):∃a c,v=.slice a l.length c:=by
 rcases h.2 with⟨e,h0⟩ | ⟨g,cap,cur,e,_⟩
 ·exact⟨none,0,by rw[e,h0]⟩
 ·exact⟨_,_,e⟩
def TyS(T:TypeId):Prop:=T=TP∨T=110
theorem B8.turnedS{w w':World}{g:Sg}{M:Nat->Option Sec}(h:B8 w g M){S:List Nat}(hb:∀b,b∈S->∃c T fr,w.heap[b]?=some (.cells c T fr)/\TyS T)(hu:Upd S w w'):B8 w' g M:=by
 refine⟨h.jr.own hu (λ k hk=>?_),h.tx.upd hu (λ hk=>?_) (λ hk=>?_) (λ k c hk e=>?_),h.ne,h.ok,h.len⟩
 ·obtain⟨c,T,fr,hb,t⟩:=hb k hk;rcases t with rfl | rfl;all_goals exact⟨_,_,_,hb,by decide,by decide,by decide,by decide⟩
 ·obtain⟨c,T,fr,hb,t⟩:=hb _ hk;have:=h.tx.st;rw[hb] at this;rcases t with rfl | rfl;all_goals simp[TP] at this
 ·obtain⟨c,T,fr,hb,t⟩:=hb _ hk;exact h.tx.map hb
 ·obtain⟨c2,T,fr,hb,t⟩:=hb _ hk;rcases t with rfl | rfl;all_goals rw[hb] at e;simp[TP] at e
attribute [-go_sem] loadCells storeCells Instr.build Instr.buildSlice
theorem Cm3{g:Sg}{M:Nat->Option Sec}{bf bl bm B:Nat}{from_:Bs}(hfrom:from_.length=32){most:Int}:Cz5 (Ax2 from_ most) g M 137 #[.pointer (some ⟨bf,0,none⟩),.pointer (some ⟨bl,0,none⟩),.pointer (some ⟨bm,0,none⟩)] [bl] B (Z1 bf bl bm B from_ most):=by
 intro acc w l vk vv Bk hI h hne hwt hok hK hV hU;have hpr:=hok.pairs;obtain⟨ak,ck,rfl⟩:=E8 hK;obtain⟨av,cv,rfl⟩:=E8 hV;have hlk:(l.map (·.1)).length=l.length:=List.length_map _;have hlv:(l.map (·.2)).length=l.length:=List.length_map _;rw[hlk,hlv];unfold G0 at hK;unfold G8 at hV;rw[hlk] at hK;rw[hlv] at hV;clear hlk hlv;have hBk:bl<Bk:=hU bl (by simp);obtain⟨w1,hw1⟩:∃w1,w1=w.alloc (.cells #[.int .i64 1,.slice ak l.length ck,.slice av l.length cv,.slice none 0 0] 220):=⟨_,rfl⟩;have hu1:Upd [] w w1:=by rw[hw1];exact(Upd.refl _ _).alloc _
 obtain⟨b4,hb4⟩:∃b,b=w.heap.size:=⟨_,rfl⟩;have c4:w1.heap[b4]?=some (.cells #[.int .i64 1,.slice ak l.length ck,.slice av l.length cv,.slice none 0 0] 220 (0,0)):=by rw[hw1,hb4];exact A4 _
 have m4:=A2 c4 1;have hI1:Z1 bf bl bm B from_ most acc w1:=by
  obtain⟨i0,i1,i2,v,i3,i4⟩:=hI;exact⟨Nat.le_trans i0 hu1.size,(hu1.block _ (A3 i1) (by simp)).trans i1,(hu1.block _ (A3 i2) (by simp)).trans i2,v,(hu1.block _ (A3 i3) (by simp)).trans i3,C4 (S:=[]) i4 hu1 (by simp)⟩
 have HI1:=η hI1;have HS1:=η (h.below hu1);have HC4:=η c4;have HK1:=η (C4 (S:=[]) hK hu1 (by simp));have HV1:=η (C4 (S:=[]) hV hu1 (by simp));have HF1:Hid (WFr [bl] B TP w w1):=η (WFr.of hu1 (by simp));have HOK:=η hok;have HPR:=η hpr;have HNE:=η hne;have HWT:Hid (acc.length+l.length<=1000):=η hwt;have HW1:=η hw1;have HB4:=η hb4;rw[hw1,hb4] at m4;clear hI h hne hwt hok hK hV hU hw1 hu1 hb4 c4 hI1 hpr;go_enter Tryz.func137,Tryz.ntmps137
 go_wp2_with fail
 have hw1:=HW1.out;have hb4:=HB4.out;rw[← hw1,← hb4];clear hw1 hb4 m4;go_loopw [11] (λ i wr=>∃(q:Nat),q<=l.length/\i=.int .i64 (q:Int)/\Z1 bf bl bm B from_ most (P7 from_ most acc (l.take q)) wr/\B8 wr g M/\wr.heap[b4]?=some (.cells #[.int .i64 1,.slice ak l.length ck,.slice av l.length cv,.slice none 0 0] 220 (0,0))/\
   wr.ownsRow Bk 35 32 (.slice ak l.length ck) l.length ((l.map (·.1)).map bts).flatten/\wr.ownsRow Bk 115 16 (.slice av l.length cv) l.length ((l.map (·.2)).map bts).flatten/\WFr [bl] B TP w wr) (λ i _=>l.length-(intOf i).toNat)
 case atStart=>exact⟨0,by omega,rfl,HI1.out,HS1.out,HC4.out,HK1.out,HV1.out,HF1.out⟩
 case round=>
  obtain⟨q,hq,rfl,hI,hsp,c4,hK,hV,hf⟩:=hrel;have hlen10:l.length<=10:=by have:=HOK.out.most;rw[List.length_map] at this;exact this
  rcases Nat.lt_or_ge q l.length with hlt | hge
  ·have hqb:decide ((q:Int)<(l.length:Int))=true:=decide_eq_true (by omega);have hqi:(q:Int)<(l.length:Int):=by omega
   obtain⟨p,hp⟩:∃p,l[q]?=some p:=⟨_,List.getElem?_eq_getElem hlt⟩;obtain⟨hp1,hp2⟩:=HPR.out p (List.mem_of_getElem? hp);have hKr:G0 wr Bk (.slice ak l.length ck) (l.map (·.1)):=by unfold G0;rw[List.length_map];exact hK
   have hVr:G8 wr Bk (.slice av l.length cv) (l.map (·.2)):=by unfold G8;rw[List.length_map];exact hV
   obtain⟨bk,ok,rfl,hrk⟩:=(G0.rd hKr HOK.out.k).at (i:=q) (e:=bts p.1) (by rw[List.getElem?_map,List.getElem?_map,hp];rfl);obtain⟨bv,ov,rfl,hrv⟩:=(G8.rd hVr HOK.out.v).at (i:=q) (e:=bts p.2) (by rw[List.getElem?_map,List.getElem?_map,hp];rfl);have lk:=F1 hrk hp1;have s7:=Af6 wr hp1;obtain⟨w2,hw2⟩:∃w2,w2=wr.alloc (.cells (bts p.1).toArray 35):=⟨_,rfl⟩;rw[← hw2] at s7;have hu2:Upd [] wr w2:=by rw[hw2];exact(Upd.refl _ _).alloc _
   have c7:w2.heap[wr.heap.size]?=some (.cells (bts p.1).toArray 35 (0,0)):=by rw[hw2];exact A4 _
   obtain⟨i0,i1,i2,v,i3,i4⟩:=hI;obtain⟨ap,cp,rfl⟩:=i4.shape;have l7:=B7 (n:=32) c7 (by rw[A5,hp1]);have lf:=B7 (n:=32) ((hu2.block _ (A3 i1) (by simp)).trans i1) (by rw[A5,hfrom]);have HLS:Hid (Calls Tryz.prog 138 #[.agg (bts p.1).toArray,.agg (bts from_).toArray] w2 λ e w'=>e=.returned (.bool (ltB p.1 from_))/\Upd [] w2 w'):=η (Bm6 p.1 from_ hp1 hfrom w2);have HP:=η hp;have HI:Hid (B<=wr.heap.size/\wr.heap[bf]?=some (.cells (bts from_).toArray 35 (0,0))/\wr.heap[bm]?=some (.cells #[.int .i64 most] 3 (0,0))/\wr.heap[bl]?=some (.cells #[.slice ap (P7 from_ most acc (l.take q)).length cp] 110 (0,0))/\Aa2 wr B (.slice ap (P7 from_ most acc (l.take q)).length cp) (P7 from_ most acc (l.take q))):=η ⟨i0,i1,i2,i3,i4⟩;have HSr:=η hsp;have HC4r:=η c4;have HKr:=η hK;have HVr:=η hV;have HFr:=η hf;have HU2:=η hu2;have HC7:=η c7;have HRV:=η hrv;clear i0 i1 i2 i3 i4 hsp c4 hK hV hf hu2 c7 hrv hrk hKr hVr hw2;go_wp2_with fail
   refine HLS.out.mono ?_;rintro e w3 ⟨rfl,hu3⟩;obtain⟨i0,i1,i2,i3,i4⟩:=HI.out;have hu23:Upd [] wr w3:=HU2.out.trans hu3;have j0:B<=w3.heap.size:=Nat.le_trans i0 hu23.size;have j1:=(hu23.block _ (A3 i1) (by simp)).trans i1;have j2:=(hu23.block _ (A3 i2) (by simp)).trans i2;have j3:=(hu23.block _ (A3 i3) (by simp)).trans i3;have j4:Aa2 w3 B _ _:=C4 (S:=[]) i4 hu23 (by simp);have j5:=HSr.out.below hu23;have j6:=(hu23.block _ (A3 HC4r.out) (by simp)).trans HC4r.out;have j7:=C4 (S:=[]) HKr.out hu23 (by simp);have j8:=C4 (S:=[]) HVr.out hu23 (by simp);have j9:WFr [bl] B TP w w3:=HFr.out.trans (WFr.of hu23 (by simp));have j10:=(hu3.block _ (A3 HC7.out) (by simp)).trans HC7.out;have hle:(P7 from_ most acc (l.take q)).length<=1000:=by
    have h1:=Bi4 from_ most (l.take q) acc;have h2:=HWT.out;rw[List.length_take] at h1;omega
   have hst:P7 from_ most acc (l.take (q+1))=V1 from_ most (P7 from_ most acc (l.take q)) p:=by
    rw[List.take_add_one,HP.out,Ax1];rfl
   have HST:=η hst;clear hst hu3;generalize P7 from_ most acc (l.take q)=A at *;have ml:=A2 j3 0;have mm:=A2 j2 0;have HNX:Hid (V1 from_ most A p=A->Z1 bf bl bm B from_ most (P7 from_ most acc (l.take (q+1))) w3/\B8 w3 g M/\w3.heap[b4]?=some (.cells #[.int .i64 1,.slice (some ⟨bk,ok,none⟩) l.length ck,.slice (some ⟨bv,ov,none⟩) l.length cv,.slice none 0 0] 220 (0,0))/\
   w3.ownsRow Bk 35 32 (.slice (some ⟨bk,ok,none⟩) l.length ck) l.length ((l.map (·.1)).map bts).flatten/\w3.ownsRow Bk 115 16 (.slice (some ⟨bv,ov,none⟩) l.length cv) l.length ((l.map (·.2)).map bts).flatten/\WFr [bl] B TP w w3):=by
    show _->_
    intro e;exact⟨by rw[HST.out,e];exact⟨j0,j1,j2,_,j3,j4⟩,j5,j6,j7,j8,j9⟩
   cases hlt2:ltB p.1 from_
   ·by_cases hm:(A.length:Int)<most
    ·have hmb:decide ((A.length:Int)<most)=true:=decide_eq_true hm;have hsc:V1 from_ most A p=A ++ [p]:=by unfold V1;rw[if_pos ⟨hlt2,hm⟩]
     obtain⟨a',b',c',w5,S5,hrun0,hown5,hu5,hS5⟩:=Ah2 (T:=110) (e:=169) Tryz.underlying110 De8 rfl (by decide) (by decide) (w:=w3.drew) (C4 (S:=[]) j4 (Upd.refl [] _).drew (by simp)) hle j0 (pc p) (Ad0 hp1 hp2) (Cv1 p);have hrun:∀ty,(Builtin.append_ #[110,110] ty #[.slice ap A.length cp,.slice (some ⟨w3.heap.size,0,none⟩) 1 1]).run Tryz.prog (w3.alloc (.cells (pc p).toArray 169)).drew=.ok (.slice a' b' c') w5:=hrun0;have hkeep:∀{k:Nat} {c:Array Value} {T2:TypeId} {fr:Nat × Nat},w3.heap[k]?=some (.cells c T2 fr)->T2≠TP->w5.heap[k]?=some (.cells c T2 fr):=by
      intro k c T2 fr hk hT;refine(hu5.block k (A3 hk) (λ x=>?_)).trans hk;obtain⟨_,c2,e⟩:=hS5 k x;have e':w3.heap[k]?=some (.cells c2 TP (0,0)):=e;rw[hk] at e';simp at e';exact hT e'.2.1
     have k1:=hkeep j1 (by decide);have k2:=hkeep j2 (by decide);have k3:=hkeep j3 (by decide);have k6:=hkeep j6 (by decide);have k10:=hkeep j10 (by decide);have k7:=C4 (S:=S5) (w:=w3.drew) (C4 (S:=[]) j7 (Upd.refl [] _).drew (by simp)) hu5 (λ k c hk _ e=>by obtain⟨_,c2,e2⟩:=hS5 k hk;rw[e] at e2;simp at e2);have k8:=C4 (S:=S5) (w:=w3.drew) (C4 (S:=[]) j8 (Upd.refl [] _).drew (by simp)) hu5 (λ k c hk _ e=>by obtain⟨_,c2,e2⟩:=hS5 k hk;rw[e] at e2;simp at e2);have rvs:∀{w':World},w'.ownsRow Bk 115 16 (.slice (some ⟨bv,ov,none⟩) l.length cv) l.length ((l.map (·.2)).map bts).flatten->w'.rangeAt bv (ov+q*16) (bts p.2):=by
      intro w' ho;obtain⟨b,off,e,hr⟩:=(G8.rd (show G8 w' Bk (.slice (some ⟨bv,ov,none⟩) l.length cv) (l.map (·.2)) by unfold G8;rw[List.length_map];exact ho) HOK.out.v).at (i:=q) (e:=bts p.2) (by rw[List.getElem?_map,List.getElem?_map,HP.out];rfl);cases e
      exact hr
     have hua:Upd [] w3 (w3.alloc (.cells (pc p).toArray 169)).drew:=((Upd.refl [] w3).alloc _).drew;have HSA:Hid ((w3.alloc (.cells (pc p).toArray 169)).drew.heap[bl]?=some (.cells #[.slice ap A.length cp] 110 (0,0))/\(w3.alloc (.cells (pc p).toArray 169)).drew.heap[wr.heap.size]?=some (.cells (bts p.1).toArray 35 (0,0))/\(w3.alloc (.cells (pc p).toArray 169)).drew.heap[b4]?=some (.cells #[.int .i64 1,.slice (some ⟨bk,ok,none⟩) l.length ck,.slice (some ⟨bv,ov,none⟩) l.length cv,.slice none 0 0] 220 (0,0))/\(w3.alloc (.cells (pc p).toArray 169)).drew.rangeAt bv (ov+q*16) (bts p.2)):=
      η ⟨(hua.block _ (A3 j3) (by simp)).trans j3,(hua.block _ (A3 j10) (by simp)).trans j10,(hua.block _ (A3 j6) (by simp)).trans j6,rvs (C4 (S:=[]) j8 hua (by simp))⟩
     have HSB:Hid (w5.heap[bl]?=some (.cells #[.slice ap A.length cp] 110 (0,0))/\w5.heap[wr.heap.size]?=some (.cells (bts p.1).toArray 35 (0,0))/\w5.heap[b4]?=some (.cells #[.int .i64 1,.slice (some ⟨bk,ok,none⟩) l.length ck,.slice (some ⟨bv,ov,none⟩) l.length cv,.slice none 0 0] 220 (0,0))/\w5.rangeAt bv (ov+q*16) (bts p.2)):=η ⟨k3,k10,k6,rvs k8⟩;have HS0:Hid (w3.drew.heap[bl]?=some (.cells #[.slice ap A.length cp] 110 (0,0))/\w3.drew.heap[wr.heap.size]?=some (.cells (bts p.1).toArray 35 (0,0))/\w3.drew.heap[b4]?=some (.cells #[.int .i64 1,.slice (some ⟨bk,ok,none⟩) l.length ck,.slice (some ⟨bv,ov,none⟩) l.length cv,.slice none 0 0] 220 (0,0))/\w3.drew.rangeAt bv (ov+q*16) (bts p.2)):=η ⟨j3,j10,j6,rvs (C4 (S:=[]) j8 (Upd.refl [] _).drew (by simp))⟩;obtain⟨w6,hw6⟩:∃w6,w6=w5.setCell ⟨bl,0,none⟩ (.slice a' b' c'):=⟨_,rfl⟩;have st6:=J6 k3 0 (v:=.slice a' b' c') (by simp) rfl;rw[← hw6] at st6;have hu6:Upd [bl] w5 w6:=by rw[hw6];exact(Upd.refl _ _).set _ (.inl (by simp))
     have c6:w6.heap[bl]?=some (.cells #[.slice a' b' c'] 110 (0,0)):=by rw[hw6];exact A9 k3 0 _
     have hnb:∀{k:Nat} {c:Array Value} {T2:TypeId} {fr:Nat × Nat},w5.heap[k]?=some (.cells c T2 fr)->T2≠110->w6.heap[k]?=some (.cells c T2 fr):=by
      intro k c T2 fr hk hT;refine(hu6.block k (A3 hk) (λ x=>?_)).trans hk;simp at x;subst x;rw[k3] at hk;simp at hk;exact hT hk.2.1.symm
     have HRES:Hid (Z1 bf bl bm B from_ most (P7 from_ most acc (l.take (q+1))) w6/\B8 w6 g M/\w6.heap[b4]?=some (.cells #[.int .i64 1,.slice (some ⟨bk,ok,none⟩) l.length ck,.slice (some ⟨bv,ov,none⟩) l.length cv,.slice none 0 0] 220 (0,0))/\
   w6.ownsRow Bk 35 32 (.slice (some ⟨bk,ok,none⟩) l.length ck) l.length ((l.map (·.1)).map bts).flatten/\w6.ownsRow Bk 115 16 (.slice (some ⟨bv,ov,none⟩) l.length cv) l.length ((l.map (·.2)).map bts).flatten/\WFr [bl] B TP w w6):=by
      show _/\_
      refine⟨?_,?_,hnb k6 (by decide),Ae7 k7 k3 hu6 (by decide),Ae7 k8 k3 hu6 (by decide),?_⟩
      ·rw[HST.out,hsc];refine⟨Nat.le_trans j0 (Nat.le_trans hu5.size hu6.size),hnb k1 (by decide),hnb k2 (by decide),_,c6,?_⟩;unfold Aa2;rw[List.length_append,List.map_append,List.flatten_append];have:=Ae7 hown5 k3 hu6 (by decide);simpa using this
      ·refine B8.turnedS (S:=[bl]) (B8.turnedS (S:=S5) (w:=w3.drew) (j5.below (Upd.refl [] _).drew) (λ b hb=>?_) hu5) (λ b hb=>?_) hu6
       ·obtain⟨_,c2,e2⟩:=hS5 b hb;exact⟨c2,_,_,e2,.inl rfl⟩
       ·simp at hb;subst hb;exact⟨_,_,_,k3,.inr rfl⟩
      ·exact((j9.trans (WFr.of (Upd.refl [] w3).drew (by simp))).trans ⟨S5,hu5,λ k hk=> .inr (hS5 k hk)⟩).trans (WFr.of hu6 (by simp))
     have bP:=Cz6 hp1 hp2;have bp:=Ce3 hp1 hp2;rw[show((p.1,p.2):C0)=p from rfl] at bp;clear j0 j1 j2 j3 j4 j5 j6 j7 j8 j9 j10 i0 i1 i2 i3 i4 HNX k1 k2 k3 k6 k7 k8 k10 hrun0 hown5 hu5 hS5 hkeep rvs hua hw6 hu6 c6 hnb hu23;go_wp2_with fail
     refine P4 (λ w'=>w'.heap[bl]?=some (.cells #[.slice ap A.length cp] 110 (0,0))/\w'.heap[wr.heap.size]?=some (.cells (bts p.1).toArray 35 (0,0))/\w'.heap[b4]?=some (.cells #[.int .i64 1,.slice (some ⟨bk,ok,none⟩) l.length ck,.slice (some ⟨bv,ov,none⟩) l.length cv,.slice none 0 0] 220 (0,0))/\w'.rangeAt bv (ov+q*16) (bts p.2)) [10] (by kernel_rfl) HS0.out (λ hHeld=>?_);refine A7 (i:=0) (v:=?_) rfl (by kernel_rfl) (λ _ _ _ h=>h) hHeld (Or.inl ⟨by rfl,?_⟩) ?_;rotate_left
     ·(intro w hSw;have q1:=A2 hSw.1 0;go_simp<;>with_reducible rfl)
     try simp only[Act.put,List.getElem_toArray,List.getElem_cons_zero,List.getElem_cons_succ,αs,αz,αc]
     refine A7 (i:=1) (v:=?_) rfl (by kernel_rfl) (λ _ _ _ h=>h) hHeld (Or.inl ⟨by rfl,?_⟩) ?_;rotate_left
     ·(intro w hSw;have q1:=B7 (n:=32) hSw.2.1 (by rw[A5,hp1]);go_simp<;>with_reducible rfl)
     try simp only[Act.put,List.getElem_toArray,List.getElem_cons_zero,List.getElem_cons_succ,αs,αz,αc]
     refine A7 (i:=2) (v:=?_) rfl (by kernel_rfl) (λ _ _ _ h=>h) hHeld (Or.inl ⟨by rfl,?_⟩) ?_;rotate_left
     ·(intro w hSw;go_simp<;>with_reducible rfl)
     try simp only[Act.put,List.getElem_toArray,List.getElem_cons_zero,List.getElem_cons_succ,αs,αz,αc]
     refine A7 (i:=3) (v:=?_) rfl (by kernel_rfl) (λ _ _ _ h=>h) hHeld (Or.inl ⟨by rfl,?_⟩) ?_;rotate_left
     ·(intro w hSw;have q1:=A2 hSw.2.2.1 2;go_simp<;>with_reducible rfl)
     try simp only[Act.put,List.getElem_toArray,List.getElem_cons_zero,List.getElem_cons_succ,αs,αz,αc]
     refine A7 (i:=4) (v:=?_) rfl (by kernel_rfl) (λ _ _ _ h=>h) hHeld (Or.inl ⟨by rfl,?_⟩) ?_;rotate_left
     ·(intro w hSw;go_simp<;>with_reducible rfl)
     try simp only[Act.put,List.getElem_toArray,List.getElem_cons_zero,List.getElem_cons_succ,αs,αz,αc]
     refine A7 (i:=5) (v:=?_) rfl (by kernel_rfl) (λ _ _ _ h=>h) hHeld (Or.inl ⟨by rfl,?_⟩) ?_;rotate_left
     ·(intro w hSw;go_simp<;>with_reducible rfl)
     try simp only[Act.put,List.getElem_toArray,List.getElem_cons_zero,List.getElem_cons_succ,αs,αz,αc]
     refine A7 (i:=6) (v:=?_) rfl (by kernel_rfl) (λ _ _ _ h=>h) hHeld (Or.inl ⟨by rfl,?_⟩) ?_;rotate_left
     ·(intro w hSw;have q1:=Af7 hSw.2.2.2 hp2;go_simp<;>with_reducible rfl)
     try simp only[Act.put,List.getElem_toArray,List.getElem_cons_zero,List.getElem_cons_succ,αs,αz,αc]
     refine A7 (i:=7) (v:=?_) rfl (by kernel_rfl) (λ _ _ _ h=>h) hHeld (Or.inl ⟨by rfl,?_⟩) ?_;rotate_left
     ·(intro w hSw;go_simp<;>with_reducible rfl)
     try simp only[Act.put,List.getElem_toArray,List.getElem_cons_zero,List.getElem_cons_succ,αs,αz,αc]
     refine A8 (rs:=[8]) (by kernel_rfl) (by simp) (B0.one rfl (λ K hK=>?_));go_simp;refine hK.out _ _ (λ _=>HSA.out) ?_;clear hK K;try simp only[Act.put,List.getElem_toArray,List.getElem_cons_zero,List.getElem_cons_succ,αs,αz,αc]
     refine A8 (rs:=[9]) (by kernel_rfl) (by simp) (B0.one rfl (λ K hK=>?_));refine L8 (by rfl) _ _ _ (by rfl) (by rfl) (by rfl) hrun ?_;refine hK.out _ _ (λ _=>HSB.out) ?_;clear hK K;try simp only[Act.put,List.getElem_toArray,List.getElem_cons_zero,List.getElem_cons_succ,αs,αz,αc]
     refine A8 (rs:=[10]) (by kernel_rfl) (by simp) (B0.one rfl (λ K hK=>?_));go_simp;refine hK.out _ _ (D5 (by kernel_rfl)) ?_;clear hK K;try simp only[Act.put,List.getElem_toArray,List.getElem_cons_zero,List.getElem_cons_succ,αs,αz,αc]
     refine F3 (by kernel_rfl) ?_ _;go_wp2_with fail
     exact⟨⟨q+1,by omega,by go_num,HRES.out⟩,by simp[intOf];omega⟩
    ·have hmb:decide ((A.length:Int)<most)=false:=decide_eq_false hm;have hsc:V1 from_ most A p=A:=by unfold V1;rw[if_neg (by intro x;exact hm x.2)]
     clear j0 j1 j2 j3 j4 j5 j6 j7 j8 j9 j10 i0 i1 i2 i3 i4;go_wp2_with fail
     exact⟨⟨q+1,by omega,by go_num,HNX.out hsc⟩,by simp[intOf];omega⟩
   ·have hsc:V1 from_ most A p=A:=by unfold V1;rw[if_neg (by intro x;rw[hlt2] at x;simp at x)]
    clear j0 j1 j2 j3 j4 j5 j6 j7 j8 j9 j10 i0 i1 i2 i3 i4;go_wp2_with fail
    exact⟨⟨q+1,by omega,by go_num,HNX.out hsc⟩,by simp[intOf];omega⟩
  ·obtain rfl:q=l.length:=by omega
   have hqb:decide ((l.length:Int)<(l.length:Int))=false:=decide_eq_false (by omega);rw[List.take_length] at hI;have hI':=hI;obtain⟨i0,i1,i2,v,i3,i4⟩:=hI';obtain⟨ap,cp,rfl⟩:=i4.shape;have ml:=A2 i3 0;have mm:=A2 i2 0;have HIr:=η hI;have HSr:=η hsp;have HFr:=η hf;clear i0 i1 i2 i3 i4 hI hsp c4 hK hV hf;go_wp2_with fail
   go_ret;refine⟨?_,HIr.out,HSr.out,HFr.out⟩;show _=Ending.returned (.bool (if l=[] then true else decide (((P7 from_ most acc l).length:Int)<most)))
   rw[if_neg HNE.out];rfl
end
section
def Ao6(from_:Bs)(k:Nat)(l:List C0):List C0:=(l.filter λ p=> !ltB p.1 from_).take k
theorem Dg4(args:Array Value)(w:World):(callFunc 137 args).run Tryz.prog w=.ok (.enter 137 args) w:=by
 have:=Tryz.func137;simp[callFunc,this,Tryz.f137]
theorem Bz0{from_:Bs}{k:Nat}{la lv:List C0}(h:∀p,p∈la->ltB p.1 from_=true):P7 from_ (k:Int) [] lv=Ao6 from_ k (la++lv):=by
 rw[Au2 from_ k lv [] (by simp)];unfold Ao6;have:la.filter (λ p=> !ltB p.1 from_)=[]:=by
  rw[List.filter_eq_nil_iff];intro p hp;rw[h p hp];simp
 rw[List.filter_append,this];simp
attribute [-go_sem] loadCells storeCells Instr.build Instr.buildSlice
theorem Ce4{w:World}{g:Sg}{M:Nat->Option Sec}(h:B8 w g M)(hh1:1<g.h){from_:Bs}(most:Int) :
  Calls Tryz.prog 63 #[.pointer (some ⟨g.x.tb,0,none⟩),.int .u32 0,arr from_,.int .i64 most] w λ e w'=>e=.returned (.tuple #[.slice none 0 0,.int .i64 0])/\B8 w' g M/\Upd [] w w':=by
 have hb:((g.h:Int) == 0)=false:=by rw[beq_eq_false_iff_ne];omega
 obtain⟨wA,hwA⟩:∃wA,wA=(w.alloc (.cells (bts from_).toArray 35)).alloc (.cells #[.int .i64 most] 3):=⟨_,rfl⟩;have huA:Upd [] w wA:=by rw[hwA];exact((Upd.refl _ _).alloc _).alloc _
 have HO:=η (U7 (h.below huA));have HH:=η (h.below huA);have HUA:=η huA;have HW:=η hwA;clear h huA hwA;unfold arr;go_enter Tryz.func63,Tryz.ntmps63
 go_wp2_with fail
 have hwA:=HW.out;rw[← hwA];clear hwA;refine HO.out.mono ?_;rintro e w1 ⟨rfl,n1,hn1⟩;have HU1:Hid (Upd [] wA w1):=by show Upd _ _ _;rw[hn1];exact(Upd.refl _ _).drewN _
 clear hn1;go_wp2_with fail
 go_ret2;exact⟨rfl,HH.out.below HU1.out,HUA.out.trans HU1.out⟩
theorem Ce5{w:World}{g:Sg}{M:Nat->Option Sec}(h:B8 w g M)(hh1:1<g.h)(hh2:g.h<=4096){r:Nat}{l:List C0}{S:List Nat}(ht:Bi1 (g.cur M) g.h r l S)(hl:l.length<490){from_:Bs}(hfrom:from_.length=32)(k:Nat)(hk:1<=k) :
  Calls Tryz.prog 63 #[.pointer (some ⟨g.x.tb,0,none⟩),.int .u32 (r:Int),arr from_,.int .i64 (k:Int)] w λ e w'=>∃v,e=.returned (.tuple #[v,.int .i64 0])/\Aa2 w' w.heap.size v (Ao6 from_ k l)/\B8 w' g M/\Upd [g.j.jb] w w':=by
 rcases ht.at_ with⟨rfl,rfl,rfl⟩ | ⟨hr,d,hs⟩
 ·refine(Ce4 h hh1 (k:Int)).mono ?_;rintro e w' ⟨e1,e2,e3⟩;exact⟨_,e1,by rw[show Ao6 from_ k []=[] by simp[Ao6]];exact At5 _ _ _ _,e2,e3.mono (by simp)⟩
 have hb:((g.h:Int) == 0)=false:=by rw[beq_eq_false_iff_ne];omega
 have hrb:((r:Int) == 0)=false:=by rw[beq_eq_false_iff_ne];omega
 have hkb:decide ((k:Int)<1)=false:=decide_eq_false (by omega);have hkb2:decide (k<1)=false:=decide_eq_false (by omega);have hd:=hs.flat hl;have hlf:=ht.left;have hjlt0:=h.jr.at_.lt;obtain⟨wA,hwA⟩:∃wA,wA=(w.alloc (.cells (bts from_).toArray 35)).alloc (.cells #[.int .i64 (k:Int)] 3):=⟨_,rfl⟩;have huA:Upd [] w wA:=by rw[hwA];exact((Upd.refl _ _).alloc _).alloc _
 have szA:wA.heap.size=w.heap.size+2:=by rw[hwA];simp
 have fA:wA.heap[w.heap.size]?=some (.cells (bts from_).toArray 35 (0,0)):=by rw[hwA,A6 (by simp)];exact A4 _
 have mA:wA.heap[w.heap.size+1]?=some (.cells #[.int .i64 (k:Int)] 3 (0,0)):=by rw[hwA];have:=A4 (w:=w.alloc (.cells (bts from_).toArray 35)) (.cells #[.int .i64 (k:Int)] 3);simpa using this
 have hA:=h.below huA;have HO:=η (U7 hA);have HA:=η hA;have HUA:=η huA;have HFA:=η fA;have HMA:=η mA;have HSA:=η szA;have HJ0:=η hjlt0;have HS:=η hs;have HL:=η ht.low;have HSL:Hid ((S.length:Int)<=(g.h:Int)):=by show _<=_;omega
 have HW:=η hwA;clear h ht hs hlf hjlt0 hwA huA szA fA mA hA;unfold arr;go_enter Tryz.func63,Tryz.ntmps63
 go_wp2_with fail
 have hwA:=HW.out;rw[← hwA];clear hwA;refine HO.out.mono ?_;rintro e w1 ⟨rfl,n1,hn1⟩;have HU1:Hid (Upd [] wA w1):=by show Upd _ _ _;rw[hn1];exact(Upd.refl _ _).drewN _
 have c1:=(HU1.out.block _ (A3 HMA.out) (by simp)).trans HMA.out;have m1:=A2 c1 0;clear hn1 c1;obtain⟨w2,hw2⟩:∃w2,w2=w1.alloc (.cells #[.slice none 0 0] 110):=⟨_,rfl⟩;have hu2:Upd [] w1 w2:=by rw[hw2];exact(Upd.refl _ _).alloc _
 have l2:w2.heap[w1.heap.size]?=some (.cells #[.slice none 0 0] 110 (0,0)):=by rw[hw2];exact A4 _
 have HU2:Hid (Upd [] wA w2):=η (HU1.out.trans hu2);have HO2:=η (U7 (HA.out.below HU2.out));have HL2:=η l2;have HSZ1:=η HU1.out.size;have HW2:=η hw2;clear hw2 hu2 l2;go_wp2_with fail
 have hw2:=HW2.out;rw[← hw2];clear hw2;refine HO2.out.mono ?_;rintro e w3 ⟨rfl,n3,hn3⟩;have hu3:Upd [] w2 w3:=by rw[hn3];exact(Upd.refl _ _).drewN _
 have hsz3:=hu3.size;have bl3:=(hu3.block _ (A3 HL2.out) (by simp)).trans HL2.out;have hblt:=A3 bl3;obtain⟨bl,hbl⟩:∃b,b=w1.heap.size:=⟨_,rfl⟩;rw[← hbl] at bl3 hblt;obtain⟨w4,hw4⟩:∃w4,w4=w3.alloc (.cells #[.int .i64 0] 3):=⟨_,rfl⟩;have hu4:Upd [] w3 w4:=by rw[hw4];exact(Upd.refl _ _).alloc _
 have l4:w4.heap[w3.heap.size]?=some (.cells #[.int .i64 0] 3 (0,0)):=by rw[hw4];exact A4 _
 have b4:=(hu4.block _ (A3 bl3) (by simp)).trans bl3;obtain⟨w5,hw5⟩:∃w5,w5=w4.setCell ⟨w3.heap.size,0,none⟩ (.int .i64 (g.h:Int)):=⟨_,rfl⟩;have st5:=J6 l4 0 (v:=.int .i64 (g.h:Int)) (by simp) rfl;rw[← hw5] at st5;have hu5:Upd [w3.heap.size] w4 w5:=by rw[hw5];exact(Upd.refl _ _).set _ (.inl (by simp))
 have l5:w5.heap[w3.heap.size]?=some (.cells #[.int .i64 (g.h:Int)] 3 (0,0)):=by rw[hw5];exact A9 l4 0 _
 have b5:=(hu5.block _ (A3 b4) (by simp;omega)).trans b4;have huA4:Upd [] wA w4:=(HU2.out.trans hu3).trans hu4;have hszA3:wA.heap.size+1<=w3.heap.size:=by
  have h1:=HSZ1.out;have h2:=A3 HL2.out;omega
 have f5:=(hu5.block _ (A3 ((huA4.block _ (A3 HFA.out) (by simp)).trans HFA.out)) (by have:=A3 HFA.out;simp;omega)).trans ((huA4.block _ (A3 HFA.out) (by simp)).trans HFA.out);have m5:=(hu5.block _ (A3 ((huA4.block _ (A3 HMA.out) (by simp)).trans HMA.out)) (by have:=A3 HMA.out;simp;omega)).trans ((huA4.block _ (A3 HMA.out) (by simp)).trans HMA.out);have h5:B8 w5 g M:=(HA.out.below huA4).turnedI (λ b hb=>by simp at hb;subst hb;exact⟨_,_,l4⟩) hu5;have hbA:wA.heap.size<=bl:=by rw[hbl];exact HSZ1.out
 have hsA:=HSA.out;have hJ0:=HJ0.out;have hInv:Z1 w.heap.size bl (w.heap.size+1) (w3.heap.size+1) from_ (k:Int) [] w5:=⟨A3 l5,f5,m5,_,b5,At5 _ _ _ _⟩;have hk1:∀a v v',Z1 w.heap.size bl (w.heap.size+1) (w3.heap.size+1) from_ (k:Int) a v->Upd [g.j.jb] v v'->Z1 w.heap.size bl (w.heap.size+1) (w3.heap.size+1) from_ (k:Int) a v':=by
  rintro a v v' ⟨i0,i1,i2,vv,i3,i4⟩ hu;exact⟨Nat.le_trans i0 hu.size,(hu.block _ (A3 i1) (by simp;omega)).trans i1,(hu.block _ (A3 i2) (by simp;omega)).trans i2,vv,(hu.block _ (A3 i3) (by simp;omega)).trans i3,C4 i4 hu (λ k c hk hB=>by simp at hk;omega)⟩
 have hk2:∀a v v',Z1 w.heap.size bl (w.heap.size+1) (w3.heap.size+1) from_ (k:Int) a v->Upd [w3.heap.size] v v'->Z1 w.heap.size bl (w.heap.size+1) (w3.heap.size+1) from_ (k:Int) a v':=by
  rintro a v v' ⟨i0,i1,i2,vv,i3,i4⟩ hu;exact⟨Nat.le_trans i0 hu.size,(hu.block _ (A3 i1) (by simp;omega)).trans i1,(hu.block _ (A3 i2) (by simp;omega)).trans i2,vv,(hu.block _ (A3 i3) (by simp;omega)).trans i3,C4 i4 hu (λ k c hk hB=>by simp at hk;omega)⟩
 have hWk:=Aw9 (t:=Ax2 from_ (k:Int)) (U:=[bl]) (B:=w3.heap.size+1) (Inv:=Z1 w.heap.size bl (w.heap.size+1) (w3.heap.size+1) from_ (k:Int)) (lb:=w3.heap.size) (from_:=from_) (g:=g) (M:=M) (Cm3 hfrom) hk1 hk2 Dg4 (by simp;omega) hfrom d h5 HS.out HL.out (deep:=16) (by omega) (by omega) HSL.out (by omega) l5 [] hInv (λ k hk=>by simp at hk;subst hk;exact A3 b5) (by show 0+l.length<=1000;omega);unfold arr at hWk;rw[hbl] at hWk;have HWK:=η hWk;have HU5:Hid (Upd [] w w5):=by
  show Upd _ _ _
  exact(HUA.out.trans huA4).late hu5 (λ k hk=>by simp at hk;subst hk;exact .inr (by omega))
 have HB3:Hid (w.heap.size<=w3.heap.size):=by show _<=_;omega
 have HBA:Hid (w.heap.size<=bl):=by show _<=_;omega
 have HBL:=η hbl;have lf5:=B7 (n:=32) ((huA4.block _ (A3 HFA.out) (by simp)).trans HFA.out) (by rw[A5,hfrom]);have lf6:=B7 (n:=32) f5 (by rw[A5,hfrom]);rw[hw4] at st5;clear hn3 hu3 hsz3 bl3 hblt hbl hw4 hu4 l4 b4 hw5 hu5 l5 b5 huA4 hszA3 f5 m5 h5 hbA hsA hJ0 hInv hk1 hk2 hWk;go_wp2_with fail
 refine HWK.out.mono ?_;rintro e w6 ⟨la,lv,y,el,hla,rfl,hi,h6,_,_,_,hf⟩;have hF:((Ax2 from_ (k:Int)).F [] lv).1=Ao6 from_ k l:=by
  rw[el];exact Bz0 hla
 rw[hF] at hi;obtain⟨_,_,_,vv,j3,j4⟩:=hi;obtain⟨ap,cp,rfl⟩:=j4.shape;have m6:=A2 j3 0;have H6:=η h6;have HP6:Hid (Aa2 w6 w.heap.size (.slice ap (Ao6 from_ k l).length cp) (Ao6 from_ k l)):=η (At4 j4 (by have:=HB3.out;omega));have HU6:Hid (Upd [g.j.jb] w w6):=by
  show Upd _ _ _
  obtain⟨S',hu,hS'⟩:=hf;refine(HU5.out.mono (T:=[g.j.jb]) (by simp)).late hu (λ k hk=>?_);rcases hS' k hk with q | ⟨q,_⟩
  ·simp only[List.mem_cons,List.not_mem_nil,or_false] at q;rcases q with rfl | rfl | rfl
   ·exact .inr HB3.out
   ·exact .inl (by simp)
   ·exact .inr (by have:=HBA.out;have:=HBL.out;omega)
  ·exact .inr (by have:=HB3.out;omega)
 clear j3 j4 hF h6 hf hla el;go_wp2_with fail
 go_ret2;exact⟨_,rfl,HP6.out,H6.out,HU6.out⟩
end
def An9(fr:Bs)(m:Nat)(R:List Rc):List Rc:=(R.filter λ x=> !ltB x.key fr).take m
theorem Ci6(fr:Bs)(m:Nat)(R:List Rc):Ao6 fr m (R.map Rc.ent)=(An9 fr m R).map Rc.ent:=by
 unfold Ao6 An9;rw[List.filter_map,List.map_take];rfl
theorem Ci7{fr:Bs}{m:Nat}{R:List Rc}{x:Rc}(h:x∈An9 fr m R):x∈R:=(List.mem_filter.1 (List.mem_of_mem_take h)).1
def Av1(x:Rc):Bs × Bs:=(x.key,x.b)
def Aj6:Bs->Option Bs
 | []=>none
 | x :: l=>match Aj6 l with
  | some l'=>some (x :: l')
  | none=>if x.toNat=255 then none else some (UInt8.ofNat (x.toNat+1) :: List.replicate l.length 0)
theorem Bz1:∀{l q:Bs},Aj6 l=none->q.length=l.length->ltB l q=false
 | [],[],_,_=>rfl
 | [],_ :: _,_,h=>by simp at h
 | _ :: _,[],_,h=>by simp at h
 | x :: l,y :: q,h,hq=>by
  unfold Aj6 at h;cases hl:Aj6 l with
  | some l'=>rw[hl] at h;simp at h
  | none=>
   rw[hl] at h;simp only at h;split at h
   ·rename_i hx;have ih:=Bz1 hl (by simpa using hq);have:=y.toNat_lt;unfold ltB;rw[if_neg (by omega)];split
    ·rfl
    ·exact ih
   ·simp at h
theorem Bn3:∀(q:Bs),ltB q (List.replicate q.length 0)=false
 | []=>rfl
 | y :: q=>by
  rw[List.length_cons,List.replicate_succ];unfold ltB;rw[if_neg (by simp)];split
  ·rfl
  ·exact Bn3 q
theorem Cg6:∀{a a' p:Bs},Aj6 a=some a'->p.length=a.length->ltB p a' = !ltB a p
 | [],_,_,h,_=>by simp[Aj6] at h
 | _ :: _,_,[],_,hp=>by simp at hp
 | x :: l,a',y :: q,h,hp=>by
  have hq:q.length=l.length:=by simpa using hp
  unfold Aj6 at h;cases hl:Aj6 l with
  | some l'=>
   rw[hl] at h;simp at h;subst h;have ih:=Cg6 hl hq;unfold ltB;by_cases h1:y.toNat<x.toNat
   ·rw[if_pos h1,if_neg (by omega),if_pos h1];rfl
   ·rw[if_neg h1];by_cases h2:x.toNat<y.toNat
    ·rw[if_pos h2,if_pos h2];rfl
    ·rw[if_neg h2,if_neg h2,if_neg h1];exact ih
  | none=>
   rw[hl] at h;simp only at h;split at h
   ·simp at h
   ·rename_i hx;simp at h;subst h;have hlt:=x.toNat_lt;have hx1:(x+1).toNat=x.toNat+1:=by rw[UInt8.toNat_add];simp;omega
    have hlq:=Bz1 hl hq;have hz:ltB q (List.replicate l.length 0)=false:=by rw[← hq];exact Bn3 q
    unfold ltB;rw[hx1,hlq,hz];by_cases h1:y.toNat<x.toNat
    ·rw[if_pos (by omega),if_neg (by omega),if_pos h1];rfl
    ·by_cases h2:x.toNat<y.toNat
     ·rw[if_neg (by omega),if_pos h2];split<;>rfl
     ·rw[if_pos (by omega),if_neg h2,if_neg h1];rfl
theorem Bi6:∀(pre:Bs) {t t':Bs},Aj6 t=some t'->Aj6 (pre++t)=some (pre++t')
 | [],_,_,h=>h
 | x :: pre,t,t',h=>by
  show Aj6 (x :: (pre++t))=_
  unfold Aj6;rw[Bi6 pre h];rfl
def Cg7(id:Bs)(c:UInt8):Bs:=if c.toNat=255 then(id.set 31 0).set 30 1 else id.set 31 (UInt8.ofNat (c.toNat+1))
theorem Cm4{pre:Bs}{c:UInt8}(hp:pre.length=30):Aj6 (pre ++ [0,c])=some (Cg7 (pre ++ [0,c]) c):=by
 unfold Cg7;by_cases hc:c.toNat=255
 ·rw[if_pos hc];have h1:Aj6 [0,c]=some [1,0]:=by simp[Aj6,hc]
  rw[Bi6 pre h1];congr 1
  rw[List.set_append_right _ _ (by omega),List.set_append_right _ _ (by omega),hp];rfl
 ·rw[if_neg hc];have h1:Aj6 [0,c]=some [0,UInt8.ofNat (c.toNat+1)]:=by simp[Aj6,hc]
  rw[Bi6 pre h1];congr 1
  rw[List.set_append_right _ _ (by omega),hp];rfl
def Dg5(k:Bs):Prop:=∃(pre:Bs) (c:UInt8),pre.length=30/\k=pre ++ [0,c]
theorem Cv2(k:Int):Dg5 (X1 k):=by
 refine⟨(X1 k).take 30,u8I k,by rw[List.length_take,P6];rfl,?_⟩;have h1:(X1 k).drop 30=[0,u8I k]:=by
  unfold X1 z32;rfl
 rw[← h1,List.take_append_drop]
end Go.Proofs.YtgfbepakonjbnaaGreat
end
