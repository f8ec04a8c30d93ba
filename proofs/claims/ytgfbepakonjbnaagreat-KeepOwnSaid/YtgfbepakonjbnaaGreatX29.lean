/-
  cofferlaw12.begun.
-/
import Derived.Test.YtgfbepakonjbnaaGreatX28
import Derived.Test.YtgfbepakonjbnaaGreatX23
set_option maxRecDepth 100000
set_option maxHeartbeats 16000000
section
set_option linter.unusedSimpArgs false
set_option linter.unusedVariables false
namespace Go.Proofs.YtgfbepakonjbnaaGreat
open Go.RowKit Go.MapKept Go.ChangeMaps
theorem Ad6.first{g:Sg}{M1:Nat->Option Sec}{S1:List Nat}{K1:Nat->Option Pk}{key b:List UInt8}{y:Nat × Nat}(h:Ad6 g (λ _=>none) M1 [] S1 (λ _=>none) K1 [] key b y)(r:Ai5 [] (λ _=>none) (g.T λ _=>none) 0)(hh:60<=g.h) :
  y=(0,0)/\K1=Ab6 (λ _=>none) 0 (some ⟨4,D8 key b,(D8 key b).length⟩)/\S1.length<=1/\(∀i,g.T M1 i=decide (i<4+S1.length+16))/\∀i,(M1 i).isSome=true->i<20∨i∈S1:=by
 obtain⟨K0,T0,M2,M3,hd,ha,hG,hT⟩:=h.way;obtain⟨rfl,rfl⟩:K0=(λ _=>none)/\T0=g.T λ _=>none:=hd;obtain⟨y',e,q⟩:=r.add (by omega) (by simp;omega) ha;cases e
 rcases q with⟨_,_⟩ | ⟨hy,_,hr,rfl⟩
 ·exfalso
  rcases ha with⟨free,p,_,_,h2,_⟩ | ⟨st,q,h1,h2,h3,hK,h4⟩
  ·cases h2
  ·rename_i hr;have:=hr.out y.1 (by omega);rw[hK,E0] at this;cases this
 ·have hy2:y.2=0:=by
   rcases ha with⟨free,p,_,_,h2,_⟩ | ⟨st,q,h1,h2,_⟩
   ·cases h2
   ·exact h2
  have hye:y=(0,0):=Prod.ext hy hy2;subst hye;have hr3:=hr.put (by simp;omega) (λ s hs=>(h.kp.m.low s hs).2) hG;have hsz:=h.kp.m.tr.size;rw[List.length_map] at hsz;have hln:=Bd6 [] ⟨0,0,key,b⟩;simp only[List.length_nil] at hln;have hS1:S1.length<=1:=by
   have:(S8 [] (⟨0,0,key,b⟩:Rc)).length<=1:=hln;have hsz':4*S1.length<=(S8 [] (⟨0,0,key,b⟩:Rc)).length+3:=hsz;omega
  refine⟨rfl,rfl,hS1,λ i=>by rw[hT,hr3.bits],λ i hi=>?_⟩;rcases h.dom i hi with q | q | q | q
  ·cases q
  ·exact .inl (by omega)
  ·obtain⟨p,hp,i1,i2⟩:=q;rw[E0] at hp;cases hp
   simp only[List.length_nil] at i2;exact .inl (by omega)
  ·exact .inr q
theorem Cn8(n a n' a':Nat)(key b b':List UInt8):S8 [⟨n,a,key,b⟩] ⟨n',a',key,b'⟩=[⟨n',a',key,b'⟩]:=by
 unfold S8;rw[I6,if_neg (by simp),if_pos rfl]
theorem Bm9(w:World):Calls Tryz.prog 15 #[] w λ e w'=>e=.returned (.bool true)/\Upd [] w w':=by
 have HM:=η (Ax7 200 60 200 60 rfl rfl (by omega) (by omega) (by omega) (by omega) (by omega) w);obtain⟨key,hkey⟩:∃k,k=Z0 (1:Int):=⟨_,rfl⟩;have hkl:key.length=32:=by rw[hkey];exact R5 _
 have hky:=λ W=>Bd3 1 W;rw[show((Ab3 1 40:Nat):Int)=1 by decide,← hkey] at hky;unfold arr at hky;have HKY:Hid (∀W,Calls Tryz.prog 24 #[.int .i64 1] W λ e w'=>e=.returned (.agg (bts key).toArray)/\Upd [] W w'):=η hky;clear hkey hky;go_enter Tryz.func15,Tryz.ntmps15
 go_wp2_with fail
 refine HM.out.mono ?_;rintro e w1 ⟨j,H0,rfl,hj,hkj,hrow,hu1⟩;have HJ:Hid (∀k,k∈j.all->w.heap.size<=k):=by show ∀k,_;exact hj
 have HBG:=η (hkj.begin hj hu1);have HRW:=η hrow;clear hj hkj hrow hu1;go_wp2_with fail
 refine HBG.out.mono ?_;rintro e w2 ⟨g,rfl,hkt,hgT,_⟩;have hgh:g.h=138:=hkt.h;have hrw:Ai5 [] (λ _=>none) (g.T λ _=>none) 0:=⟨HRW.out.here,HRW.out.out,λ i=>by rw[hgT];exact HRW.out.bits i⟩;have hSS:=hkt.S HJ.out;have HSS:=η hSS;have HKT:=η hkt;have HRW2:=η hrw;have HGH:=η hgh;clear hkt hgT hgh hrw hSS;go_wp2_with fail
 refine(HKY.out _).mono ?_;rintro e w3 ⟨rfl,hu3⟩;obtain⟨w4,hw4⟩:∃w4,w4=w3.alloc (.cells #[.int .u8 1] 5):=⟨_,rfl⟩;have hu4:Upd [] w3 w4:=by rw[hw4];exact(Upd.refl _ _).alloc _
 have b4:w4.heap[w3.heap.size]?=some (.cells #[.int .u8 1] 5 (0,0)):=by rw[hw4];exact A4 _
 have hrd:Rd w4 (.slice (some ⟨w3.heap.size,0,none⟩) 1 1) [1]:=⟨_,_,rfl,by simp,λ _=>⟨_,0,rfl,λ i hi=>by
  obtain rfl:i=0:=by simpa using hi
  rw[A2 b4];rfl⟩⟩
 have hu24:=hu3.trans hu4;have h4:=HKT.out.sp.below hu24;have hst:=Am6 h4 (by have:=HGH.out;omega) (by have:=HGH.out;omega) HKT.out.kp (by simp) key [1] _ hrd hkl (by simp) (Ab4.fresh HRW2.out (by omega) (by have:=HGH.out;simp;omega) rfl);unfold arr at hst;have HST:=η hst;have HU4:=η (HKT.out.upd.trans hu24);have HW4:=η hw4;clear hu3 hu4 b4 hrd hu24 h4 hst hw4;go_wp2_with (have hw4:=HW4.out;rw[← hw4];clear hw4;refine HST.out.mono ?_;rintro e w5 ⟨M1,S1,K1,y,rfl,h5,hso,hu5⟩)
 obtain⟨rfl,rfl,hS1,hT1,hD1⟩:=hso.first HRW2.out (by have:=HGH.out;omega);have hok1:=h5.ok;have hkp1:Ap5 g M1 S1 (Ab6 (λ _=>none) 0 (some ⟨4,D8 key [1],(D8 key [1]).length⟩)) [⟨0,0,key,[1]⟩]:=hso.kp;have H5:=η h5;have HKP1:=η hkp1;have HAG:Hid (Ab4 g M1 S1 (Ab6 (λ _=>none) 0 (some ⟨4,D8 key [1],(D8 key [1]).length⟩)) [⟨0,0,key,[1]⟩] key [2]):=η (Ab4.again hS1 rfl (V3 hkl) hT1 hok1 hD1 (by have:=HGH.out;omega));have HU5:=η (HU4.out.mono (by simp) |>.trans hu5);clear h5 hso hu5 hok1 hkp1 hS1 hT1 hD1;go_wp2_with fail
 refine(HKY.out _).mono ?_;rintro e w6 ⟨rfl,hu6⟩;obtain⟨w7,hw7⟩:∃w7,w7=w6.alloc (.cells #[.int .u8 2] 5):=⟨_,rfl⟩;have hu7:Upd [] w6 w7:=by rw[hw7];exact(Upd.refl _ _).alloc _
 have b7:w7.heap[w6.heap.size]?=some (.cells #[.int .u8 2] 5 (0,0)):=by rw[hw7];exact A4 _
 have hrd:Rd w7 (.slice (some ⟨w6.heap.size,0,none⟩) 1 1) [2]:=⟨_,_,rfl,by simp,λ _=>⟨_,0,rfl,λ i hi=>by
  obtain rfl:i=0:=by simpa using hi
  rw[A2 b7];rfl⟩⟩
 have hu57:=hu6.trans hu7;have h7:=H5.out.below hu57;have hst:=Am6 h7 (by have:=HGH.out;omega) (by have:=HGH.out;omega) HKP1.out (by simp) key [2] _ hrd hkl (by simp) HAG.out;unfold arr at hst;have HST:=η hst;have HU7:=η (HU5.out.trans (hu57.mono (by simp)));have HW7:=η hw7;clear hu6 hu7 b7 hrd hu57 h7 hst hw7;go_wp2_with (have hw7:=HW7.out;rw[← hw7];clear hw7;refine HST.out.mono ?_;rintro e w8 ⟨M2,S2,K2,y,rfl,h8,hso,hu8⟩)
 have hkp2:=hso.kp;rw[Cn8] at hkp2;have H8:=η h8;have HKP2:=η hkp2;have HU8:=η (HU7.out.trans hu8);clear h8 hso hu8 hkp2;go_wp2_with fail
 refine(HKY.out _).mono ?_;rintro e w9 ⟨rfl,hu9⟩;have h9:=H8.out.below hu9;have hgt:=Ci4 h9 (by have:=HGH.out;omega) (by have:=HGH.out;omega) HKP2.out (by simp) key hkl (x:=⟨y.1,y.2,key,[2]⟩) (by
  unfold J0;rw[I6,if_neg (by simp),if_pos rfl])
 unfold arr at hgt;have HGT:=η hgt;have HU9:=η (HU8.out.trans (hu9.mono (by simp)));clear hu9 h9 hgt;go_wp2_with fail
 refine HGT.out.mono ?_;rintro e w10 ⟨v,rfl,hrow,h10,hu10⟩;have hln:=Ci3 h10 (by have:=HGH.out;omega) (by have:=HGH.out;omega) HKP2.out (by simp);have HLN:=η hln;have HROW:=η (RdS.of hrow.rd);have H10:=η h10;have HU10:=η (HU9.out.trans hu10);clear hrow h10 hu10 hln;go_wp2_with fail
 refine HLN.out.mono ?_;rintro e w11 ⟨rfl,h11,hu11⟩;have hrd:=(HROW.out.sp H10.out hu11 λ _ q=>q).1;have hcv:=Ba1 hrd (by decide);have HU11:=η ((Upd.refl [] w).late (HU10.out.trans hu11) λ i hi=> .inr (HSS.out.1 i hi));clear h11 hu11 hrd;rw[show(([⟨y.1,y.2,key,[2]⟩]:List Rc).length:Int)=1 from rfl];have hstr:str [(2:UInt8)]=⟨#[2]⟩:=rfl;rw[hstr] at hcv;go_wp2_with fail
 go_ret;exact⟨rfl,HU11.out⟩
theorem Cd9(k:Int):(Z0 k)[31]?=some (u8I k):=by
 unfold Z0;rw[List.getElem?_set_self (by simp[z32])]
theorem Cw1{a b:Nat}(ha:a<256)(hb:b<256)(h:a≠b):Z0 (a:Int)≠Z0 (b:Int):=λ e=>by
 have h1:(Z0 (a:Int))[31]?=(Z0 (b:Int))[31]?:=by rw[e]
 rw[Cd9,Cd9] at h1;injection h1 with h1;have h2:=congrArg UInt8.toNat h1;unfold u8I at h2;rw[UInt8.toNat_ofNat',UInt8.toNat_ofNat'] at h2;omega
section
section
variable {P:Program} {ops:Array Oper} {Q:Exit->Act->World->Prop}
end
end
theorem Ad6.row{g:Sg}{M':Nat->Option Sec}{S S':List Nat}{K K':Nat->Option Pk}{R:List Rc}{key b:List UInt8}{y:Nat × Nat}{m:Nat}(h:Ad6 g (λ _=>none) M' S S' K K' R key b y)(r:Ai5 S K (g.T λ _=>none) m)(hn:J0 R key=none)(hm:m<64)
  (hh:4+S.length+16*m+20<=g.h):∃m',m'<=m+1/\Ai5 S' K' (g.T M') m':=by
 obtain⟨K1,T1,M2,M3,hd,ha,hG,hT⟩:=h.way;rw[hn] at hd;obtain⟨rfl,rfl⟩:=hd;obtain⟨y',e,q⟩:=r.add hm (by omega) ha;have hlow:∀s,s∈S'->s<g.h:=λ s hs=>(h.kp.m.low s hs).2;rcases q with⟨_,q⟩ | ⟨_,_,q,_⟩
 ·have h2:=q.put (by omega) hlow hG;rw[← hT] at h2;exact⟨m,by omega,h2⟩
 ·have h2:=q.put (by omega) hlow hG;rw[← hT] at h2;exact⟨m+1,Nat.le_refl _,h2⟩
abbrev TRc:TypeId:=50
def rcC(p:Bs × Value):List Value:=bts p.1 ++ [p.2]
theorem Ap4{p:Bs × Value}(h:p.1.length=32):(rcC p).length=33:=by unfold rcC;rw[List.length_append,A5,h];rfl
def Y4(w:World)(B:Nat)(v:Value)(l:List (Bs × Bs)):Prop:=
 ∃ps:List (Bs × Value),w.ownsRow B TRc 33 v ps.length (ps.map rcC).flatten/\ps.length=l.length/\∀(k:Nat) p q,ps[k]?=some p->l[k]?=some q->p.1=q.1/\p.1.length=32/\I7 w B p.2 q.2
theorem Y4.nil(w:World)(B:Nat):Y4 w B (.slice none 0 0) []:=⟨[],World.ownsRow_nil _ _ _ _,rfl,λ k p q h=>by simp at h⟩
theorem I7.upd{w w':World}{B:Nat}{v:Value}{l:List UInt8}(h:I7 w B v l){S:List Nat}(hu:Upd S w w')(hS:∀(k:Nat) (c:Array Value),k∈S->w.heap[k]?≠some (.cells c 5 (0,0))):I7 w' B v l:=by
 refine⟨h.1,?_⟩;rcases h.2 with h | ⟨g,cap,cur,e,hb,hg,r⟩
 ·exact .inl h
 ·exact .inr ⟨g,cap,cur,e,hb,(hu.block _ (A3 hg) λ q=>hS _ _ q hg).trans hg,r⟩
theorem Y4.shape{w:World}{B:Nat}{v:Value}{l:List (Bs × Bs)}(h:Y4 w B v l):∃a c,v=.slice a l.length c:=by
 obtain⟨ps,h1,h2,_⟩:=h;rw[← h2];rcases h1.2 with⟨e,h0⟩ | ⟨g,cap,cur,e,_⟩
 ·exact⟨none,0,by rw[e,h0]⟩
 ·exact⟨_,_,e⟩
theorem Da7:(Tryz.prog.info? TRc).map (λ i=>(i.zero,i.size,i.bytes))=some (some (.agg ((List.replicate 32 (Value.int .u8 0)) ++ [Value.slice none 0 0]).toArray),33,56):=by kernel_rfl
theorem Cn9{w:World}{B:Nat}{v:Value}{l:List UInt8}(h:I7 w B v l):v.oneCell'=true:=by
 obtain⟨a,c,rfl,_⟩:=h.shape;rfl
theorem Co0{w:World}{B:Nat}{v x:Value}{l:List (Bs × Bs)}(hp:Y4 w B v l)(hl:l.length<=1000)(hB:B<=w.heap.size){key b:Bs}(hk:key.length=32)(hb:I7 w B x b) :
  ∃a b' c' w' S,(∀ty,(Builtin.append_ #[44,44] ty #[v,.slice (some ⟨w.heap.size,0,none⟩) 1 1]).run Tryz.prog (w.alloc (.cells (rcC (key,x)).toArray TRc))=.ok (.slice a b' c') w')/\Y4 w' B (.slice a b' c') (l ++ [(key,b)])/\
   Upd S w w'/\(∀k,k∈S->B<=k/\∃c,w.heap[k]?=some (.cells c TRc (0,0))):=by
 obtain⟨ps,h1,h2,h3⟩:=hp;obtain⟨a,b',c',w',S,hr,ho,hu,hS⟩:=Ah1 (T:=44) (e:=TRc) (sz:=33) Tryz.underlying44 Da7 rfl (by decide) (by decide) h1 (by omega) hB (rcC (key,x)) (Ap4 hk) (λ u hu=>by
  rcases List.mem_append.1 hu with q | q
  ·exact G5 _ u q
  ·obtain rfl:=List.mem_singleton.1 q;exact Cn9 hb)
 have hno:∀(k:Nat) (c:Array Value),k∈S->w.heap[k]?≠some (.cells c 5 (0,0)):=λ k c hk e=>by
  obtain⟨_,c2,h⟩:=hS k hk;rw[h] at e;injection e with e;injection e with _ e _;revert e;decide
 refine⟨a,b',c',w',S,hr,⟨ps ++ [(key,x)],?_,by simp[h2],λ k p q hp hq=>?_⟩,hu,hS⟩
 ·rw[List.length_append,List.map_append,List.flatten_append];simpa using ho
 ·rcases Nat.lt_or_ge k ps.length with hlt | hge
  ·rw[List.getElem?_append_left hlt] at hp;rw[List.getElem?_append_left (by omega)] at hq;obtain⟨a,b,c⟩:=h3 k p q hp hq;exact⟨a,b,c.upd hu hno⟩
  ·have hk2:k=ps.length:=by
    have:=(List.getElem?_eq_some_iff.1 hp).1;simp at this;omega
   subst hk2;rw[List.getElem?_append_right (Nat.le_refl _),Nat.sub_self] at hp;rw[h2,List.getElem?_append_right (Nat.le_refl _),Nat.sub_self] at hq;cases hp;cases hq
   exact⟨rfl,hk,hb.upd hu hno⟩
theorem Y4.rrd{w:World}{B:Nat}{v:Value}{l:List (Bs × Bs)}(h:Y4 w B v l):∃ps:List (Bs × Value),RRd w v 33 (ps.map rcC)/\ps.length=l.length/\∀(k:Nat) p q,ps[k]?=some p->l[k]?=some q->p.1=q.1/\p.1.length=32/\I7 w B p.2 q.2:=by
 obtain⟨ps,h1,h2,h3⟩:=h;refine⟨ps,Ba7 h1 (by simp) λ e he=>?_,h2,h3⟩;obtain⟨p,hp,rfl⟩:=List.mem_map.1 he;obtain⟨k,hk,hkp⟩:=List.mem_iff_getElem.1 hp;exact Ap4 (h3 k p (l[k]'(by omega)) (by rw[List.getElem?_eq_getElem hk,hkp]) (List.getElem?_eq_getElem (by omega))).2.1
theorem Ch6{key:Bs}(hk:key.length=32)(a:Option Addr)(n c:Nat)(w:World):(Instr.build TRc #[(0,.agg (bts key).toArray),(1,.slice a n c)]).run Tryz.prog w=.ok (.agg (rcC (key,.slice a n c)).toArray) w:=by
 match key,hk with
 | [x0,x1,x2,x3,x4,x5,x6,x7,x8,x9,x10,x11,x12,x13,x14,x15,x16,x17,x18,x19,x20,x21,x22,x23,x24,x25,x26,x27,x28,x29,x30,x31],_=>exact run_build w _ _ _ (by kernel_rfl)
theorem Cw2{p:Bs × Value}(h:p.1.length=32)(w:World):(Instr.buildSlice 44 1 #[(0,.agg (rcC p).toArray)]).run Tryz.prog w=.ok (.slice (some ⟨w.heap.size,0,none⟩) 1 1) (w.alloc (.cells (rcC p).toArray TRc)):=
 X1 (e:=TRc) (sz:=33) Tryz.underlying44 (by kernel_rfl) (by decide) (by decide) (rcC p) (Ap4 h) w
section
def U9(from_:Bs)(most:Int)(acc:List C0)(p:C0):List C0:=if ltB p.1 from_=false/\(acc.length:Int)<most then acc ++ [p] else acc
def P3(from_:Bs)(most:Int)(acc:List C0)(l:List C0):List C0:=l.foldl (U9 from_ most) acc
theorem Ct8(from_:Bs)(most:Int)(acc:List C0)(p:C0):(U9 from_ most acc p).length<=acc.length+1:=by unfold U9;split<;>simp
theorem Bg9(from_:Bs)(most:Int):∀(l acc:List C0),(P3 from_ most acc l).length<=acc.length+l.length
 | [],acc=>by simp[P3]
 | p :: l,acc=>by
  have h1:=Ct8 from_ most acc p;have h2:=Bg9 from_ most l (U9 from_ most acc p);show(P3 from_ most (U9 from_ most acc p) l).length<=_
  simp only[List.length_cons];omega
theorem Bh0(from_:Bs)(most:Int):∀(l acc:List C0),¬(acc.length:Int)<most->P3 from_ most acc l=acc
 | [],_,_=>rfl
 | p :: l,acc,h=>by
  show P3 from_ most (U9 from_ most acc p) l=acc
  have:U9 from_ most acc p=acc:=by unfold U9;rw[if_neg (by intro q;exact h q.2)]
  rw[this];exact Bh0 from_ most l acc h
theorem Aw1(from_:Bs)(most:Int)(acc l1 l2:List C0):P3 from_ most acc (l1++l2)=P3 from_ most (P3 from_ most acc l1) l2:=by unfold P3;rw[List.foldl_append]
def Aw2(from_:Bs)(most:Int):Bg7 (List C0) where
 F acc c:=(P3 from_ most acc c,if c=[] then true else decide (((P3 from_ most acc c).length:Int)<most))
 go:=λ a l1 l2 h=>by
  by_cases h1:l1=[]
  ·subst h1;rfl
  ·by_cases h2:l2=[]
   ·subst h2;rw[List.append_nil];show _=(P3 from_ most (P3 from_ most a l1) [],_)
    simp only[if_true];exact Prod.ext rfl h
   ·have h3:¬(l1++l2=[]):=by simp[h1]
    simp only[h2,h3,if_false,Aw1]
 stop:=λ a l1 l2 h=>by
  by_cases h1:l1=[]
  ·subst h1;simp at h
  ·have h3:¬(l1++l2=[]):=by simp[h1]
   simp only[h1,if_false] at h;have hf:=Bh0 from_ most l2 _ (of_decide_eq_false h);simp only[h3,if_false,Aw1,hf];rw[h]
 nil:=λ a=>by simp[P3]
 wt:=λ acc=>acc.length
 grow:=λ a l=>Bg9 from_ most l a
theorem Au1(from_:Bs)(most:Nat):∀(l acc:List C0),acc.length<=most->P3 from_ (most:Int) acc l=acc++(l.filter λ p=> !ltB p.1 from_).take (most-acc.length)
 | [],acc,_=>by simp[P3]
 | p :: l,acc,h=>by
  show P3 from_ (most:Int) (U9 from_ (most:Int) acc p) l=_
  cases hp:ltB p.1 from_
  ·by_cases hl:acc.length<most
   ·have e:U9 from_ (most:Int) acc p=acc ++ [p]:=by unfold U9;rw[if_pos ⟨hp,by omega⟩]
    rw[e,Au1 from_ most l _ (by simp;omega),List.filter_cons_of_pos (by rw[hp];rfl)];obtain⟨m,hm⟩:∃m,most-acc.length=m+1:=⟨most-acc.length-1,by omega⟩;rw[hm,List.take_succ_cons,List.length_append,List.length_singleton,show most-(acc.length+1)=m by omega];simp
   ·have e:U9 from_ (most:Int) acc p=acc:=by unfold U9;rw[if_neg (by intro q;omega)]
    rw[e,Au1 from_ most l acc h,show most-acc.length=0 by omega];simp
  ·have e:U9 from_ (most:Int) acc p=acc:=by unfold U9;rw[if_neg (by intro q;rw[hp] at q;simp at q)]
   rw[e,Au1 from_ most l acc h,List.filter_cons_of_neg (by rw[hp];simp)]
def pc(p:C0):List Value:=bts p.1++bts p.2
def Aa1(w:World)(B:Nat)(v:Value)(l:List C0):Prop:=w.ownsRow B TP 48 v l.length (l.map pc).flatten
theorem Dd5:(Tryz.prog.info? 169).map (λ i=>(i.zero,i.size,i.bytes))=some (some (.agg ((List.replicate 48 (Value.int .u8 0)).toArray)),48,48):=by kernel_rfl
def Y8(bf bl bm B:Nat)(from_:Bs)(most:Int)(acc:List C0)(w:World):Prop:=
 B<=w.heap.size/\w.heap[bf]?=some (.cells (bts from_).toArray 35 (0,0))/\w.heap[bm]?=some (.cells #[.int .i64 most] 3 (0,0))/\∃v,w.heap[bl]?=some (.cells #[v] 110 (0,0))/\Aa1 w B v acc
theorem Ac7{p:C0}(h1:p.1.length=32)(h2:p.2.length=16):(pc p).length=48:=by unfold pc;rw[List.length_append,A5,A5,h1,h2]
theorem Ct9(p:C0):∀u∈pc p,u.oneCell'=true:=λ u hu=>(List.mem_append.1 hu).elim (G5 _ u) (G5 _ u)
theorem Cc9{k v:Bs}(hk:k.length=32)(hv:v.length=16)(w:World):(Instr.build 169 #[(0,.agg (bts k).toArray),(1,.agg (bts v).toArray)]).run Tryz.prog w=.ok (.agg (pc (k,v)).toArray) w:=by
 match k,hk,v,hv with
 | [x0,x1,x2,x3,x4,x5,x6,x7,x8,x9,x10,x11,x12,x13,x14,x15,x16,x17,x18,x19,x20,x21,x22,x23,x24,x25,x26,x27,x28,x29,x30,x31],_,[y0,y1,y2,y3,y4,y5,y6,y7,y8,y9,y10,y11,y12,y13,y14,y15],_=>exact run_build w _ _ _ (by kernel_rfl)
theorem Cy4{p:C0}(h1:p.1.length=32)(h2:p.2.length=16)(w:World):(Instr.buildSlice 110 1 #[(0,.agg (pc p).toArray)]).run Tryz.prog w=.ok (.slice (some ⟨w.heap.size,0,none⟩) 1 1) (w.alloc (.cells (pc p).toArray 169)):=
 X1 (e:=169) (sz:=48) Tryz.underlying110 (by kernel_rfl) (by decide) (by decide) (pc p) (Ac7 h1 h2) w
theorem Aa1.shape{w:World}{B:Nat}{v:Value}{l:List C0}(h:Aa1 w B v l):∃a c,v=.slice a l.length c:=by
 rcases h.2 with⟨e,h0⟩ | ⟨g,cap,cur,e,_⟩
 ·exact⟨none,0,by rw[e,h0]⟩
 ·exact⟨_,_,e⟩
def TyS(T:TypeId):Prop:=T=TP∨T=110
theorem B7.turnedS{w w':World}{g:Sg}{M:Nat->Option Sec}(h:B7 w g M){S:List Nat}(hb:∀b,b∈S->∃c T fr,w.heap[b]?=some (.cells c T fr)/\TyS T)(hu:Upd S w w'):B7 w' g M:=by
 refine⟨h.jr.own hu (λ k hk=>?_),h.tx.upd hu (λ hk=>?_) (λ hk=>?_) (λ k c hk e=>?_),h.ne,h.ok,h.len,h.fx⟩
 ·obtain⟨c,T,fr,hb,t⟩:=hb k hk;rcases t with rfl | rfl;all_goals exact⟨_,_,_,hb,by decide,by decide,by decide,by decide⟩
 ·obtain⟨c,T,fr,hb,t⟩:=hb _ hk;have:=h.tx.st;rw[hb] at this;rcases t with rfl | rfl;all_goals simp[TP] at this
 ·obtain⟨c,T,fr,hb,t⟩:=hb _ hk;exact h.tx.map hb
 ·obtain⟨c2,T,fr,hb,t⟩:=hb _ hk;rcases t with rfl | rfl;all_goals rw[hb] at e;simp[TP] at e
attribute [-go_sem] loadCells storeCells Instr.build Instr.buildSlice
theorem Cl1{g:Sg}{M:Nat->Option Sec}{bf bl bm B:Nat}{from_:Bs}(hfrom:from_.length=32){most:Int}:Cy3 (Aw2 from_ most) g M 137 #[.pointer (some ⟨bf,0,none⟩),.pointer (some ⟨bl,0,none⟩),.pointer (some ⟨bm,0,none⟩)] [bl] B (Y8 bf bl bm B from_ most):=by
 intro acc w l vk vv Bk hI h hne hwt hok hK hV hU;have hpr:=hok.pairs;obtain⟨ak,ck,rfl⟩:=E9 hK;obtain⟨av,cv,rfl⟩:=E9 hV;have hlk:(l.map (·.1)).length=l.length:=List.length_map _;have hlv:(l.map (·.2)).length=l.length:=List.length_map _;rw[hlk,hlv];unfold F5 at hK;unfold G7 at hV;rw[hlk] at hK;rw[hlv] at hV;clear hlk hlv;have hBk:bl<Bk:=hU bl (by simp);obtain⟨w1,hw1⟩:∃w1,w1=w.alloc (.cells #[.int .i64 1,.slice ak l.length ck,.slice av l.length cv,.slice none 0 0] 220):=⟨_,rfl⟩;have hu1:Upd [] w w1:=by rw[hw1];exact(Upd.refl _ _).alloc _
 obtain⟨b4,hb4⟩:∃b,b=w.heap.size:=⟨_,rfl⟩;have c4:w1.heap[b4]?=some (.cells #[.int .i64 1,.slice ak l.length ck,.slice av l.length cv,.slice none 0 0] 220 (0,0)):=by rw[hw1,hb4];exact A4 _
 have m4:=A2 c4 1;have hI1:Y8 bf bl bm B from_ most acc w1:=by
  obtain⟨i0,i1,i2,v,i3,i4⟩:=hI;exact⟨Nat.le_trans i0 hu1.size,(hu1.block _ (A3 i1) (by simp)).trans i1,(hu1.block _ (A3 i2) (by simp)).trans i2,v,(hu1.block _ (A3 i3) (by simp)).trans i3,C4 (S:=[]) i4 hu1 (by simp)⟩
 have HI1:=η hI1;have HS1:=η (h.below hu1);have HC4:=η c4;have HK1:=η (C4 (S:=[]) hK hu1 (by simp));have HV1:=η (C4 (S:=[]) hV hu1 (by simp));have HF1:Hid (WFr [bl] B TP w w1):=η (WFr.of hu1 (by simp));have HOK:=η hok;have HPR:=η hpr;have HNE:=η hne;have HWT:Hid (acc.length+l.length<=1000):=η hwt;have HW1:=η hw1;have HB4:=η hb4;rw[hw1,hb4] at m4;clear hI h hne hwt hok hK hV hU hw1 hu1 hb4 c4 hI1 hpr;go_enter Tryz.func137,Tryz.ntmps137
 go_wp2_with fail
 have hw1:=HW1.out;have hb4:=HB4.out;rw[← hw1,← hb4];clear hw1 hb4 m4;go_loopw [11] (λ i wr=>∃(q:Nat),q<=l.length/\i=.int .i64 (q:Int)/\Y8 bf bl bm B from_ most (P3 from_ most acc (l.take q)) wr/\B7 wr g M/\wr.heap[b4]?=some (.cells #[.int .i64 1,.slice ak l.length ck,.slice av l.length cv,.slice none 0 0] 220 (0,0))/\
   wr.ownsRow Bk 35 32 (.slice ak l.length ck) l.length ((l.map (·.1)).map bts).flatten/\wr.ownsRow Bk 115 16 (.slice av l.length cv) l.length ((l.map (·.2)).map bts).flatten/\WFr [bl] B TP w wr) (λ i _=>l.length-(intOf i).toNat)
 case atStart=>exact⟨0,by omega,rfl,HI1.out,HS1.out,HC4.out,HK1.out,HV1.out,HF1.out⟩
 case round=>
  obtain⟨q,hq,rfl,hI,hsp,c4,hK,hV,hf⟩:=hrel;have hlen10:l.length<=10:=by have:=HOK.out.most;rw[List.length_map] at this;exact this
  rcases Nat.lt_or_ge q l.length with hlt | hge
  ·have hqb:decide ((q:Int)<(l.length:Int))=true:=decide_eq_true (by omega);have hqi:(q:Int)<(l.length:Int):=by omega
   obtain⟨p,hp⟩:∃p,l[q]?=some p:=⟨_,List.getElem?_eq_getElem hlt⟩;obtain⟨hp1,hp2⟩:=HPR.out p (List.mem_of_getElem? hp);have hKr:F5 wr Bk (.slice ak l.length ck) (l.map (·.1)):=by unfold F5;rw[List.length_map];exact hK
   have hVr:G7 wr Bk (.slice av l.length cv) (l.map (·.2)):=by unfold G7;rw[List.length_map];exact hV
   obtain⟨bk,ok,rfl,hrk⟩:=(F5.rd hKr HOK.out.k).at (i:=q) (e:=bts p.1) (by rw[List.getElem?_map,List.getElem?_map,hp];rfl);obtain⟨bv,ov,rfl,hrv⟩:=(G7.rd hVr HOK.out.v).at (i:=q) (e:=bts p.2) (by rw[List.getElem?_map,List.getElem?_map,hp];rfl);have lk:=F8 hrk hp1;have s7:=Af2 wr hp1;obtain⟨w2,hw2⟩:∃w2,w2=wr.alloc (.cells (bts p.1).toArray 35):=⟨_,rfl⟩;rw[← hw2] at s7;have hu2:Upd [] wr w2:=by rw[hw2];exact(Upd.refl _ _).alloc _
   have c7:w2.heap[wr.heap.size]?=some (.cells (bts p.1).toArray 35 (0,0)):=by rw[hw2];exact A4 _
   obtain⟨i0,i1,i2,v,i3,i4⟩:=hI;obtain⟨ap,cp,rfl⟩:=i4.shape;have l7:=B8 (n:=32) c7 (by rw[A5,hp1]);have lf:=B8 (n:=32) ((hu2.block _ (A3 i1) (by simp)).trans i1) (by rw[A5,hfrom]);have HLS:Hid (Calls Tryz.prog 138 #[.agg (bts p.1).toArray,.agg (bts from_).toArray] w2 λ e w'=>e=.returned (.bool (ltB p.1 from_))/\Upd [] w2 w'):=η (Bl2 p.1 from_ hp1 hfrom w2);have HP:=η hp;have HI:Hid (B<=wr.heap.size/\wr.heap[bf]?=some (.cells (bts from_).toArray 35 (0,0))/\wr.heap[bm]?=some (.cells #[.int .i64 most] 3 (0,0))/\wr.heap[bl]?=some (.cells #[.slice ap (P3 from_ most acc (l.take q)).length cp] 110 (0,0))/\Aa1 wr B (.slice ap (P3 from_ most acc (l.take q)).length cp) (P3 from_ most acc (l.take q))):=η ⟨i0,i1,i2,i3,i4⟩;have HSr:=η hsp;have HC4r:=η c4;have HKr:=η hK;have HVr:=η hV;have HFr:=η hf;have HU2:=η hu2;have HC7:=η c7;have HRV:=η hrv;clear i0 i1 i2 i3 i4 hsp c4 hK hV hf hu2 c7 hrv hrk hKr hVr hw2;go_wp2_with fail
   refine HLS.out.mono ?_;rintro e w3 ⟨rfl,hu3⟩;obtain⟨i0,i1,i2,i3,i4⟩:=HI.out;have hu23:Upd [] wr w3:=HU2.out.trans hu3;have j0:B<=w3.heap.size:=Nat.le_trans i0 hu23.size;have j1:=(hu23.block _ (A3 i1) (by simp)).trans i1;have j2:=(hu23.block _ (A3 i2) (by simp)).trans i2;have j3:=(hu23.block _ (A3 i3) (by simp)).trans i3;have j4:Aa1 w3 B _ _:=C4 (S:=[]) i4 hu23 (by simp);have j5:=HSr.out.below hu23;have j6:=(hu23.block _ (A3 HC4r.out) (by simp)).trans HC4r.out;have j7:=C4 (S:=[]) HKr.out hu23 (by simp);have j8:=C4 (S:=[]) HVr.out hu23 (by simp);have j9:WFr [bl] B TP w w3:=HFr.out.trans (WFr.of hu23 (by simp));have j10:=(hu3.block _ (A3 HC7.out) (by simp)).trans HC7.out;have hle:(P3 from_ most acc (l.take q)).length<=1000:=by
    have h1:=Bg9 from_ most (l.take q) acc;have h2:=HWT.out;rw[List.length_take] at h1;omega
   have hst:P3 from_ most acc (l.take (q+1))=U9 from_ most (P3 from_ most acc (l.take q)) p:=by
    rw[List.take_add_one,HP.out,Aw1];rfl
   have HST:=η hst;clear hst hu3;generalize P3 from_ most acc (l.take q)=A at *;have ml:=A2 j3 0;have mm:=A2 j2 0;have HNX:Hid (U9 from_ most A p=A->Y8 bf bl bm B from_ most (P3 from_ most acc (l.take (q+1))) w3/\B7 w3 g M/\w3.heap[b4]?=some (.cells #[.int .i64 1,.slice (some ⟨bk,ok,none⟩) l.length ck,.slice (some ⟨bv,ov,none⟩) l.length cv,.slice none 0 0] 220 (0,0))/\
   w3.ownsRow Bk 35 32 (.slice (some ⟨bk,ok,none⟩) l.length ck) l.length ((l.map (·.1)).map bts).flatten/\w3.ownsRow Bk 115 16 (.slice (some ⟨bv,ov,none⟩) l.length cv) l.length ((l.map (·.2)).map bts).flatten/\WFr [bl] B TP w w3):=by
    show _->_
    intro e;exact⟨by rw[HST.out,e];exact⟨j0,j1,j2,_,j3,j4⟩,j5,j6,j7,j8,j9⟩
   cases hlt2:ltB p.1 from_
   ·by_cases hm:(A.length:Int)<most
    ·have hmb:decide ((A.length:Int)<most)=true:=decide_eq_true hm;have hsc:U9 from_ most A p=A ++ [p]:=by unfold U9;rw[if_pos ⟨hlt2,hm⟩]
     obtain⟨a',b',c',w5,S5,hrun0,hown5,hu5,hS5⟩:=Ah1 (T:=110) (e:=169) Tryz.underlying110 Dd5 rfl (by decide) (by decide) (w:=w3.drew) (C4 (S:=[]) j4 (Upd.refl [] _).drew (by simp)) hle j0 (pc p) (Ac7 hp1 hp2) (Ct9 p);have hrun:∀ty,(Builtin.append_ #[110,110] ty #[.slice ap A.length cp,.slice (some ⟨w3.heap.size,0,none⟩) 1 1]).run Tryz.prog (w3.alloc (.cells (pc p).toArray 169)).drew=.ok (.slice a' b' c') w5:=hrun0;have hkeep:∀{k:Nat} {c:Array Value} {T2:TypeId} {fr:Nat × Nat},w3.heap[k]?=some (.cells c T2 fr)->T2≠TP->w5.heap[k]?=some (.cells c T2 fr):=by
      intro k c T2 fr hk hT;refine(hu5.block k (A3 hk) (λ x=>?_)).trans hk;obtain⟨_,c2,e⟩:=hS5 k x;have e':w3.heap[k]?=some (.cells c2 TP (0,0)):=e;rw[hk] at e';simp at e';exact hT e'.2.1
     have k1:=hkeep j1 (by decide);have k2:=hkeep j2 (by decide);have k3:=hkeep j3 (by decide);have k6:=hkeep j6 (by decide);have k10:=hkeep j10 (by decide);have k7:=C4 (S:=S5) (w:=w3.drew) (C4 (S:=[]) j7 (Upd.refl [] _).drew (by simp)) hu5 (λ k c hk _ e=>by obtain⟨_,c2,e2⟩:=hS5 k hk;rw[e] at e2;simp at e2);have k8:=C4 (S:=S5) (w:=w3.drew) (C4 (S:=[]) j8 (Upd.refl [] _).drew (by simp)) hu5 (λ k c hk _ e=>by obtain⟨_,c2,e2⟩:=hS5 k hk;rw[e] at e2;simp at e2);have rvs:∀{w':World},w'.ownsRow Bk 115 16 (.slice (some ⟨bv,ov,none⟩) l.length cv) l.length ((l.map (·.2)).map bts).flatten->w'.rangeAt bv (ov+q*16) (bts p.2):=by
      intro w' ho;obtain⟨b,off,e,hr⟩:=(G7.rd (show G7 w' Bk (.slice (some ⟨bv,ov,none⟩) l.length cv) (l.map (·.2)) by unfold G7;rw[List.length_map];exact ho) HOK.out.v).at (i:=q) (e:=bts p.2) (by rw[List.getElem?_map,List.getElem?_map,HP.out];rfl);cases e
      exact hr
     have hua:Upd [] w3 (w3.alloc (.cells (pc p).toArray 169)).drew:=((Upd.refl [] w3).alloc _).drew;have HSA:Hid ((w3.alloc (.cells (pc p).toArray 169)).drew.heap[bl]?=some (.cells #[.slice ap A.length cp] 110 (0,0))/\(w3.alloc (.cells (pc p).toArray 169)).drew.heap[wr.heap.size]?=some (.cells (bts p.1).toArray 35 (0,0))/\(w3.alloc (.cells (pc p).toArray 169)).drew.heap[b4]?=some (.cells #[.int .i64 1,.slice (some ⟨bk,ok,none⟩) l.length ck,.slice (some ⟨bv,ov,none⟩) l.length cv,.slice none 0 0] 220 (0,0))/\(w3.alloc (.cells (pc p).toArray 169)).drew.rangeAt bv (ov+q*16) (bts p.2)):=
      η ⟨(hua.block _ (A3 j3) (by simp)).trans j3,(hua.block _ (A3 j10) (by simp)).trans j10,(hua.block _ (A3 j6) (by simp)).trans j6,rvs (C4 (S:=[]) j8 hua (by simp))⟩
     have HSB:Hid (w5.heap[bl]?=some (.cells #[.slice ap A.length cp] 110 (0,0))/\w5.heap[wr.heap.size]?=some (.cells (bts p.1).toArray 35 (0,0))/\w5.heap[b4]?=some (.cells #[.int .i64 1,.slice (some ⟨bk,ok,none⟩) l.length ck,.slice (some ⟨bv,ov,none⟩) l.length cv,.slice none 0 0] 220 (0,0))/\w5.rangeAt bv (ov+q*16) (bts p.2)):=η ⟨k3,k10,k6,rvs k8⟩;have HS0:Hid (w3.drew.heap[bl]?=some (.cells #[.slice ap A.length cp] 110 (0,0))/\w3.drew.heap[wr.heap.size]?=some (.cells (bts p.1).toArray 35 (0,0))/\w3.drew.heap[b4]?=some (.cells #[.int .i64 1,.slice (some ⟨bk,ok,none⟩) l.length ck,.slice (some ⟨bv,ov,none⟩) l.length cv,.slice none 0 0] 220 (0,0))/\w3.drew.rangeAt bv (ov+q*16) (bts p.2)):=η ⟨j3,j10,j6,rvs (C4 (S:=[]) j8 (Upd.refl [] _).drew (by simp))⟩;obtain⟨w6,hw6⟩:∃w6,w6=w5.setCell ⟨bl,0,none⟩ (.slice a' b' c'):=⟨_,rfl⟩;have st6:=J6 k3 0 (v:=.slice a' b' c') (by simp) rfl;rw[← hw6] at st6;have hu6:Upd [bl] w5 w6:=by rw[hw6];exact(Upd.refl _ _).set _ (.inl (by simp))
     have c6:w6.heap[bl]?=some (.cells #[.slice a' b' c'] 110 (0,0)):=by rw[hw6];exact A8 k3 0 _
     have hnb:∀{k:Nat} {c:Array Value} {T2:TypeId} {fr:Nat × Nat},w5.heap[k]?=some (.cells c T2 fr)->T2≠110->w6.heap[k]?=some (.cells c T2 fr):=by
      intro k c T2 fr hk hT;refine(hu6.block k (A3 hk) (λ x=>?_)).trans hk;simp at x;subst x;rw[k3] at hk;simp at hk;exact hT hk.2.1.symm
     have HRES:Hid (Y8 bf bl bm B from_ most (P3 from_ most acc (l.take (q+1))) w6/\B7 w6 g M/\w6.heap[b4]?=some (.cells #[.int .i64 1,.slice (some ⟨bk,ok,none⟩) l.length ck,.slice (some ⟨bv,ov,none⟩) l.length cv,.slice none 0 0] 220 (0,0))/\
   w6.ownsRow Bk 35 32 (.slice (some ⟨bk,ok,none⟩) l.length ck) l.length ((l.map (·.1)).map bts).flatten/\w6.ownsRow Bk 115 16 (.slice (some ⟨bv,ov,none⟩) l.length cv) l.length ((l.map (·.2)).map bts).flatten/\WFr [bl] B TP w w6):=by
      show _/\_
      refine⟨?_,?_,hnb k6 (by decide),Ae3 k7 k3 hu6 (by decide),Ae3 k8 k3 hu6 (by decide),?_⟩
      ·rw[HST.out,hsc];refine⟨Nat.le_trans j0 (Nat.le_trans hu5.size hu6.size),hnb k1 (by decide),hnb k2 (by decide),_,c6,?_⟩;unfold Aa1;rw[List.length_append,List.map_append,List.flatten_append];have:=Ae3 hown5 k3 hu6 (by decide);simpa using this
      ·refine B7.turnedS (S:=[bl]) (B7.turnedS (S:=S5) (w:=w3.drew) (j5.below (Upd.refl [] _).drew) (λ b hb=>?_) hu5) (λ b hb=>?_) hu6
       ·obtain⟨_,c2,e2⟩:=hS5 b hb;exact⟨c2,_,_,e2,.inl rfl⟩
       ·simp at hb;subst hb;exact⟨_,_,_,k3,.inr rfl⟩
      ·exact((j9.trans (WFr.of (Upd.refl [] w3).drew (by simp))).trans ⟨S5,hu5,λ k hk=> .inr (hS5 k hk)⟩).trans (WFr.of hu6 (by simp))
     have bP:=Cy4 hp1 hp2;have bp:=Cc9 hp1 hp2;rw[show((p.1,p.2):C0)=p from rfl] at bp;clear j0 j1 j2 j3 j4 j5 j6 j7 j8 j9 j10 i0 i1 i2 i3 i4 HNX k1 k2 k3 k6 k7 k8 k10 hrun0 hown5 hu5 hS5 hkeep rvs hua hw6 hu6 c6 hnb hu23;go_wp2_with fail
     refine O9 (λ w'=>w'.heap[bl]?=some (.cells #[.slice ap A.length cp] 110 (0,0))/\w'.heap[wr.heap.size]?=some (.cells (bts p.1).toArray 35 (0,0))/\w'.heap[b4]?=some (.cells #[.int .i64 1,.slice (some ⟨bk,ok,none⟩) l.length ck,.slice (some ⟨bv,ov,none⟩) l.length cv,.slice none 0 0] 220 (0,0))/\w'.rangeAt bv (ov+q*16) (bts p.2)) [10] (by kernel_rfl) HS0.out (λ hHeld=>?_);refine A7 (i:=0) (v:=?_) rfl (by kernel_rfl) (λ _ _ _ h=>h) hHeld (Or.inl ⟨by rfl,?_⟩) ?_;rotate_left
     ·(intro w hSw;have q1:=A2 hSw.1 0;go_simp<;>with_reducible rfl)
     try simp only[Act.put,List.getElem_toArray,List.getElem_cons_zero,List.getElem_cons_succ,αs,αz,αc]
     refine A7 (i:=1) (v:=?_) rfl (by kernel_rfl) (λ _ _ _ h=>h) hHeld (Or.inl ⟨by rfl,?_⟩) ?_;rotate_left
     ·(intro w hSw;have q1:=B8 (n:=32) hSw.2.1 (by rw[A5,hp1]);go_simp<;>with_reducible rfl)
     try simp only[Act.put,List.getElem_toArray,List.getElem_cons_zero,List.getElem_cons_succ,αs,αz,αc]
     refine A7 (i:=2) (v:=?_) rfl (by kernel_rfl) (λ _ _ _ h=>h) hHeld (Or.inl ⟨by rfl,?_⟩) ?_;rotate_left
     ·(intro w hSw;go_simp<;>with_reducible rfl)
     try simp only[Act.put,List.getElem_toArray,List.getElem_cons_zero,List.getElem_cons_succ,αs,αz,αc]
     refine A7 (i:=3) (v:=?_) rfl (by kernel_rfl) (λ _ _ _ h=>h) hHeld (Or.inl ⟨by rfl,?_⟩) ?_;rotate_left
     ·(intro w hSw;have q1:=A2 hSw.2.2.1 2;go_simp<;>with_reducible rfl)
     try simp only[Act.put,List.getElem_toArray,List.getElem_cons_zero,List.getElem_cons_succ,αs,αz,αc]
     refine A7 (i:=4) (v:=?_) rfl (by kernel_rfl) (λ _ _ _ h=>h) hHeld (Or.inl ⟨by rfl,?_⟩) ?_;rotate_left
     ·(intro w hSw;go_simp<;>with_reducible rfl)
     try simp only[Act.put,List.getElem_toArray,List.getElem_cons_zero,List.getElem_cons_succ,αs,αz,αc]
     refine A7 (i:=5) (v:=?_) rfl (by kernel_rfl) (λ _ _ _ h=>h) hHeld (Or.inl ⟨by rfl,?_⟩) ?_;rotate_left
     ·(intro w hSw;go_simp<;>with_reducible rfl)
     try simp only[Act.put,List.getElem_toArray,List.getElem_cons_zero,List.getElem_cons_succ,αs,αz,αc]
     refine A7 (i:=6) (v:=?_) rfl (by kernel_rfl) (λ _ _ _ h=>h) hHeld (Or.inl ⟨by rfl,?_⟩) ?_;rotate_left
     ·(intro w hSw;have q1:=Af3 hSw.2.2.2 hp2;go_simp<;>with_reducible rfl)
     try simp only[Act.put,List.getElem_toArray,List.getElem_cons_zero,List.getElem_cons_succ,αs,αz,αc]
     refine A7 (i:=7) (v:=?_) rfl (by kernel_rfl) (λ _ _ _ h=>h) hHeld (Or.inl ⟨by rfl,?_⟩) ?_;rotate_left
     ·(intro w hSw;go_simp<;>with_reducible rfl)
     try simp only[Act.put,List.getElem_toArray,List.getElem_cons_zero,List.getElem_cons_succ,αs,αz,αc]
     refine A9 (rs:=[8]) (by kernel_rfl) (by simp) (B0.one rfl (λ K hK=>?_));go_simp;refine hK.out _ _ (λ _=>HSA.out) ?_;clear hK K;try simp only[Act.put,List.getElem_toArray,List.getElem_cons_zero,List.getElem_cons_succ,αs,αz,αc]
     refine A9 (rs:=[9]) (by kernel_rfl) (by simp) (B0.one rfl (λ K hK=>?_));refine L8 (by rfl) _ _ _ (by rfl) (by rfl) (by rfl) hrun ?_;refine hK.out _ _ (λ _=>HSB.out) ?_;clear hK K;try simp only[Act.put,List.getElem_toArray,List.getElem_cons_zero,List.getElem_cons_succ,αs,αz,αc]
     refine A9 (rs:=[10]) (by kernel_rfl) (by simp) (B0.one rfl (λ K hK=>?_));go_simp;refine hK.out _ _ (D5 (by kernel_rfl)) ?_;clear hK K;try simp only[Act.put,List.getElem_toArray,List.getElem_cons_zero,List.getElem_cons_succ,αs,αz,αc]
     refine F0 (by kernel_rfl) ?_ _;go_wp2_with fail
     exact⟨⟨q+1,by omega,by go_num,HRES.out⟩,by simp[intOf];omega⟩
    ·have hmb:decide ((A.length:Int)<most)=false:=decide_eq_false hm;have hsc:U9 from_ most A p=A:=by unfold U9;rw[if_neg (by intro x;exact hm x.2)]
     clear j0 j1 j2 j3 j4 j5 j6 j7 j8 j9 j10 i0 i1 i2 i3 i4;go_wp2_with fail
     exact⟨⟨q+1,by omega,by go_num,HNX.out hsc⟩,by simp[intOf];omega⟩
   ·have hsc:U9 from_ most A p=A:=by unfold U9;rw[if_neg (by intro x;rw[hlt2] at x;simp at x)]
    clear j0 j1 j2 j3 j4 j5 j6 j7 j8 j9 j10 i0 i1 i2 i3 i4;go_wp2_with fail
    exact⟨⟨q+1,by omega,by go_num,HNX.out hsc⟩,by simp[intOf];omega⟩
  ·obtain rfl:q=l.length:=by omega
   have hqb:decide ((l.length:Int)<(l.length:Int))=false:=decide_eq_false (by omega);rw[List.take_length] at hI;have hI':=hI;obtain⟨i0,i1,i2,v,i3,i4⟩:=hI';obtain⟨ap,cp,rfl⟩:=i4.shape;have ml:=A2 i3 0;have mm:=A2 i2 0;have HIr:=η hI;have HSr:=η hsp;have HFr:=η hf;clear i0 i1 i2 i3 i4 hI hsp c4 hK hV hf;go_wp2_with fail
   go_ret;refine⟨?_,HIr.out,HSr.out,HFr.out⟩;show _=Ending.returned (.bool (if l=[] then true else decide (((P3 from_ most acc l).length:Int)<most)))
   rw[if_neg HNE.out];rfl
end
section
def Ao5(from_:Bs)(k:Nat)(l:List C0):List C0:=(l.filter λ p=> !ltB p.1 from_).take k
theorem Df2(args:Array Value)(w:World):(callFunc 137 args).run Tryz.prog w=.ok (.enter 137 args) w:=by
 have:=Tryz.func137;simp[callFunc,this,Tryz.f137]
theorem Bx6{from_:Bs}{k:Nat}{la lv:List C0}(h:∀p,p∈la->ltB p.1 from_=true):P3 from_ (k:Int) [] lv=Ao5 from_ k (la++lv):=by
 rw[Au1 from_ k lv [] (by simp)];unfold Ao5;have:la.filter (λ p=> !ltB p.1 from_)=[]:=by
  rw[List.filter_eq_nil_iff];intro p hp;rw[h p hp];simp
 rw[List.filter_append,this];simp
attribute [-go_sem] loadCells storeCells Instr.build Instr.buildSlice
theorem Cd0{w:World}{g:Sg}{M:Nat->Option Sec}(h:B7 w g M)(hh1:1<g.h){from_:Bs}(most:Int) :
  Calls Tryz.prog 63 #[.pointer (some ⟨g.x.tb,0,none⟩),.int .u32 0,arr from_,.int .i64 most] w λ e w'=>e=.returned (.tuple #[.slice none 0 0,.int .i64 0])/\B7 w' g M/\Upd [] w w':=by
 have hb:((g.h:Int) == 0)=false:=by rw[beq_eq_false_iff_ne];omega
 obtain⟨wA,hwA⟩:∃wA,wA=(w.alloc (.cells (bts from_).toArray 35)).alloc (.cells #[.int .i64 most] 3):=⟨_,rfl⟩;have huA:Upd [] w wA:=by rw[hwA];exact((Upd.refl _ _).alloc _).alloc _
 have HO:=η (U6 (h.below huA));have HH:=η (h.below huA);have HUA:=η huA;have HW:=η hwA;clear h huA hwA;unfold arr;go_enter Tryz.func63,Tryz.ntmps63
 go_wp2_with fail
 have hwA:=HW.out;rw[← hwA];clear hwA;refine HO.out.mono ?_;rintro e w1 ⟨rfl,n1,hn1⟩;have HU1:Hid (Upd [] wA w1):=by show Upd _ _ _;rw[hn1];exact(Upd.refl _ _).drewN _
 clear hn1;go_wp2_with fail
 go_ret2;exact⟨rfl,HH.out.below HU1.out,HUA.out.trans HU1.out⟩
theorem Cd1{w:World}{g:Sg}{M:Nat->Option Sec}(h:B7 w g M)(hh1:1<g.h)(hh2:g.h<=4096){r:Nat}{l:List C0}{S:List Nat}(ht:Bg6 (g.cur M) g.h r l S)(hl:l.length<490){from_:Bs}(hfrom:from_.length=32)(k:Nat)(hk:1<=k) :
  Calls Tryz.prog 63 #[.pointer (some ⟨g.x.tb,0,none⟩),.int .u32 (r:Int),arr from_,.int .i64 (k:Int)] w λ e w'=>∃v,e=.returned (.tuple #[v,.int .i64 0])/\Aa1 w' w.heap.size v (Ao5 from_ k l)/\B7 w' g M/\Upd [g.j.jb] w w':=by
 rcases ht.at_ with⟨rfl,rfl,rfl⟩ | ⟨hr,d,hs⟩
 ·refine(Cd0 h hh1 (k:Int)).mono ?_;rintro e w' ⟨e1,e2,e3⟩;exact⟨_,e1,by rw[show Ao5 from_ k []=[] by simp[Ao5]];exact At4 _ _ _ _,e2,e3.mono (by simp)⟩
 have hb:((g.h:Int) == 0)=false:=by rw[beq_eq_false_iff_ne];omega
 have hrb:((r:Int) == 0)=false:=by rw[beq_eq_false_iff_ne];omega
 have hkb:decide ((k:Int)<1)=false:=decide_eq_false (by omega);have hkb2:decide (k<1)=false:=decide_eq_false (by omega);have hd:=hs.flat hl;have hlf:=ht.left;have hjlt0:=h.jr.at_.lt;obtain⟨wA,hwA⟩:∃wA,wA=(w.alloc (.cells (bts from_).toArray 35)).alloc (.cells #[.int .i64 (k:Int)] 3):=⟨_,rfl⟩;have huA:Upd [] w wA:=by rw[hwA];exact((Upd.refl _ _).alloc _).alloc _
 have szA:wA.heap.size=w.heap.size+2:=by rw[hwA];simp
 have fA:wA.heap[w.heap.size]?=some (.cells (bts from_).toArray 35 (0,0)):=by rw[hwA,A6 (by simp)];exact A4 _
 have mA:wA.heap[w.heap.size+1]?=some (.cells #[.int .i64 (k:Int)] 3 (0,0)):=by rw[hwA];have:=A4 (w:=w.alloc (.cells (bts from_).toArray 35)) (.cells #[.int .i64 (k:Int)] 3);simpa using this
 have hA:=h.below huA;have HO:=η (U6 hA);have HA:=η hA;have HUA:=η huA;have HFA:=η fA;have HMA:=η mA;have HSA:=η szA;have HJ0:=η hjlt0;have HS:=η hs;have HL:=η ht.low;have HSL:Hid ((S.length:Int)<=(g.h:Int)):=by show _<=_;omega
 have HW:=η hwA;clear h ht hs hlf hjlt0 hwA huA szA fA mA hA;unfold arr;go_enter Tryz.func63,Tryz.ntmps63
 go_wp2_with fail
 have hwA:=HW.out;rw[← hwA];clear hwA;refine HO.out.mono ?_;rintro e w1 ⟨rfl,n1,hn1⟩;have HU1:Hid (Upd [] wA w1):=by show Upd _ _ _;rw[hn1];exact(Upd.refl _ _).drewN _
 have c1:=(HU1.out.block _ (A3 HMA.out) (by simp)).trans HMA.out;have m1:=A2 c1 0;clear hn1 c1;obtain⟨w2,hw2⟩:∃w2,w2=w1.alloc (.cells #[.slice none 0 0] 110):=⟨_,rfl⟩;have hu2:Upd [] w1 w2:=by rw[hw2];exact(Upd.refl _ _).alloc _
 have l2:w2.heap[w1.heap.size]?=some (.cells #[.slice none 0 0] 110 (0,0)):=by rw[hw2];exact A4 _
 have HU2:Hid (Upd [] wA w2):=η (HU1.out.trans hu2);have HO2:=η (U6 (HA.out.below HU2.out));have HL2:=η l2;have HSZ1:=η HU1.out.size;have HW2:=η hw2;clear hw2 hu2 l2;go_wp2_with fail
 have hw2:=HW2.out;rw[← hw2];clear hw2;refine HO2.out.mono ?_;rintro e w3 ⟨rfl,n3,hn3⟩;have hu3:Upd [] w2 w3:=by rw[hn3];exact(Upd.refl _ _).drewN _
 have hsz3:=hu3.size;have bl3:=(hu3.block _ (A3 HL2.out) (by simp)).trans HL2.out;have hblt:=A3 bl3;obtain⟨bl,hbl⟩:∃b,b=w1.heap.size:=⟨_,rfl⟩;rw[← hbl] at bl3 hblt;obtain⟨w4,hw4⟩:∃w4,w4=w3.alloc (.cells #[.int .i64 0] 3):=⟨_,rfl⟩;have hu4:Upd [] w3 w4:=by rw[hw4];exact(Upd.refl _ _).alloc _
 have l4:w4.heap[w3.heap.size]?=some (.cells #[.int .i64 0] 3 (0,0)):=by rw[hw4];exact A4 _
 have b4:=(hu4.block _ (A3 bl3) (by simp)).trans bl3;obtain⟨w5,hw5⟩:∃w5,w5=w4.setCell ⟨w3.heap.size,0,none⟩ (.int .i64 (g.h:Int)):=⟨_,rfl⟩;have st5:=J6 l4 0 (v:=.int .i64 (g.h:Int)) (by simp) rfl;rw[← hw5] at st5;have hu5:Upd [w3.heap.size] w4 w5:=by rw[hw5];exact(Upd.refl _ _).set _ (.inl (by simp))
 have l5:w5.heap[w3.heap.size]?=some (.cells #[.int .i64 (g.h:Int)] 3 (0,0)):=by rw[hw5];exact A8 l4 0 _
 have b5:=(hu5.block _ (A3 b4) (by simp;omega)).trans b4;have huA4:Upd [] wA w4:=(HU2.out.trans hu3).trans hu4;have hszA3:wA.heap.size+1<=w3.heap.size:=by
  have h1:=HSZ1.out;have h2:=A3 HL2.out;omega
 have f5:=(hu5.block _ (A3 ((huA4.block _ (A3 HFA.out) (by simp)).trans HFA.out)) (by have:=A3 HFA.out;simp;omega)).trans ((huA4.block _ (A3 HFA.out) (by simp)).trans HFA.out);have m5:=(hu5.block _ (A3 ((huA4.block _ (A3 HMA.out) (by simp)).trans HMA.out)) (by have:=A3 HMA.out;simp;omega)).trans ((huA4.block _ (A3 HMA.out) (by simp)).trans HMA.out);have h5:B7 w5 g M:=(HA.out.below huA4).turnedI (λ b hb=>by simp at hb;subst hb;exact⟨_,_,l4⟩) hu5;have hbA:wA.heap.size<=bl:=by rw[hbl];exact HSZ1.out
 have hsA:=HSA.out;have hJ0:=HJ0.out;have hInv:Y8 w.heap.size bl (w.heap.size+1) (w3.heap.size+1) from_ (k:Int) [] w5:=⟨A3 l5,f5,m5,_,b5,At4 _ _ _ _⟩;have hk1:∀a v v',Y8 w.heap.size bl (w.heap.size+1) (w3.heap.size+1) from_ (k:Int) a v->Upd [g.j.jb] v v'->Y8 w.heap.size bl (w.heap.size+1) (w3.heap.size+1) from_ (k:Int) a v':=by
  rintro a v v' ⟨i0,i1,i2,vv,i3,i4⟩ hu;exact⟨Nat.le_trans i0 hu.size,(hu.block _ (A3 i1) (by simp;omega)).trans i1,(hu.block _ (A3 i2) (by simp;omega)).trans i2,vv,(hu.block _ (A3 i3) (by simp;omega)).trans i3,C4 i4 hu (λ k c hk hB=>by simp at hk;omega)⟩
 have hk2:∀a v v',Y8 w.heap.size bl (w.heap.size+1) (w3.heap.size+1) from_ (k:Int) a v->Upd [w3.heap.size] v v'->Y8 w.heap.size bl (w.heap.size+1) (w3.heap.size+1) from_ (k:Int) a v':=by
  rintro a v v' ⟨i0,i1,i2,vv,i3,i4⟩ hu;exact⟨Nat.le_trans i0 hu.size,(hu.block _ (A3 i1) (by simp;omega)).trans i1,(hu.block _ (A3 i2) (by simp;omega)).trans i2,vv,(hu.block _ (A3 i3) (by simp;omega)).trans i3,C4 i4 hu (λ k c hk hB=>by simp at hk;omega)⟩
 have hWk:=Aw0 (t:=Aw2 from_ (k:Int)) (U:=[bl]) (B:=w3.heap.size+1) (Inv:=Y8 w.heap.size bl (w.heap.size+1) (w3.heap.size+1) from_ (k:Int)) (lb:=w3.heap.size) (from_:=from_) (g:=g) (M:=M) (Cl1 hfrom) hk1 hk2 Df2 (by simp;omega) hfrom d h5 HS.out HL.out (deep:=16) (by omega) (by omega) HSL.out (by omega) l5 [] hInv (λ k hk=>by simp at hk;subst hk;exact A3 b5) (by show 0+l.length<=1000;omega);unfold arr at hWk;rw[hbl] at hWk;have HWK:=η hWk;have HU5:Hid (Upd [] w w5):=by
  show Upd _ _ _
  exact(HUA.out.trans huA4).late hu5 (λ k hk=>by simp at hk;subst hk;exact .inr (by omega))
 have HB3:Hid (w.heap.size<=w3.heap.size):=by show _<=_;omega
 have HBA:Hid (w.heap.size<=bl):=by show _<=_;omega
 have HBL:=η hbl;have lf5:=B8 (n:=32) ((huA4.block _ (A3 HFA.out) (by simp)).trans HFA.out) (by rw[A5,hfrom]);have lf6:=B8 (n:=32) f5 (by rw[A5,hfrom]);rw[hw4] at st5;clear hn3 hu3 hsz3 bl3 hblt hbl hw4 hu4 l4 b4 hw5 hu5 l5 b5 huA4 hszA3 f5 m5 h5 hbA hsA hJ0 hInv hk1 hk2 hWk;go_wp2_with fail
 refine HWK.out.mono ?_;rintro e w6 ⟨la,lv,y,el,hla,rfl,hi,h6,_,_,_,hf⟩;have hF:((Aw2 from_ (k:Int)).F [] lv).1=Ao5 from_ k l:=by
  rw[el];exact Bx6 hla
 rw[hF] at hi;obtain⟨_,_,_,vv,j3,j4⟩:=hi;obtain⟨ap,cp,rfl⟩:=j4.shape;have m6:=A2 j3 0;have H6:=η h6;have HP6:Hid (Aa1 w6 w.heap.size (.slice ap (Ao5 from_ k l).length cp) (Ao5 from_ k l)):=η (At3 j4 (by have:=HB3.out;omega));have HU6:Hid (Upd [g.j.jb] w w6):=by
  show Upd _ _ _
  obtain⟨S',hu,hS'⟩:=hf;refine(HU5.out.mono (T:=[g.j.jb]) (by simp)).late hu (λ k hk=>?_);rcases hS' k hk with q | ⟨q,_⟩
  ·simp only[List.mem_cons,List.not_mem_nil,or_false] at q;rcases q with rfl | rfl | rfl
   ·exact .inr HB3.out
   ·exact .inl (by simp)
   ·exact .inr (by have:=HBA.out;have:=HBL.out;omega)
  ·exact .inr (by have:=HB3.out;omega)
 clear j3 j4 hF h6 hf hla el;go_wp2_with fail
 go_ret2;exact⟨_,rfl,HP6.out,H6.out,HU6.out⟩
end
def Ax4(fr:Bs)(m:Nat)(R:List Rc):List Rc:=(R.filter λ x=> !ltB x.key fr).take m
theorem Ch7(fr:Bs)(m:Nat)(R:List Rc):Ao5 fr m (R.map Rc.ent)=(Ax4 fr m R).map Rc.ent:=by
 unfold Ao5 Ax4;rw[List.filter_map,List.map_take];rfl
theorem Ch8{fr:Bs}{m:Nat}{R:List Rc}{x:Rc}(h:x∈Ax4 fr m R):x∈R:=(List.mem_filter.1 (List.mem_of_mem_take h)).1
def Bh4(x:Rc):Bs × Bs:=(x.key,x.b)

end Go.Proofs.YtgfbepakonjbnaaGreat
end
