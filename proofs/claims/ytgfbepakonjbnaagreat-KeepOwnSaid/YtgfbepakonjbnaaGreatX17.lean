/-
  A node is read.
-/
import Derived.Test.YtgfbepakonjbnaaGreatX16
import Derived.Laws.ResultCell
set_option maxRecDepth 100000
set_option maxHeartbeats 16000000
section
namespace Go.Proofs.YtgfbepakonjbnaaGreat
open Go.RowKit Go.MapKept Go.ChangeMaps
section
attribute [-go_sem] loadCells Instr.buildSlice
theorem Ay9(a:Option Addr)(c:Nat)(w:World):(Instr.arrayAt 35 (.slice a 32 c)).run Tryz.prog w=.ok (.pointer a) w:=by
 simp[Instr.arrayAt,run_underlying Tryz.underlying35]
theorem Bw1(a:Option Addr)(c:Nat)(w:World):(Instr.arrayAt 115 (.slice a 16 c)).run Tryz.prog w=.ok (.pointer a) w:=by
 simp[Instr.arrayAt,run_underlying Tryz.underlying115]
attribute [local go_sem] Ay9 Bw1
theorem Af3{w:World}{b o:Nat}{l:List UInt8}(h:w.rangeAt b o (bts l))(hl:l.length=16):(loadCells ⟨b,o,none⟩ 16).run Tryz.prog w=.ok (bts l).toArray w:=by
 have:=run_loadCells_list (P:=Tryz.prog) w ⟨b,o,none⟩ (bts l) (λ j v hv=>by rw[Addr.add_mid];exact h j v hv);rw[A5,hl] at this;exact this
theorem At3{w:World}{B B' n sz:Nat}{e:TypeId}{v:Value}{xs:List Value}(h:w.ownsRow B e sz v n xs)(hB:B'<=B):w.ownsRow B' e sz v n xs:=by
 refine⟨h.1,?_⟩;rcases h.2 with h | ⟨g,cap,cur,hv,hb,r⟩
 ·exact .inl h
 ·exact .inr ⟨g,cap,cur,hv,Nat.le_trans hB hb,r⟩
theorem At4(w:World)(B:Nat)(e:TypeId)(sz:Nat):w.ownsRow B e sz (.slice none 0 0) 0 []:=⟨by simp,.inl ⟨rfl,rfl⟩⟩
theorem Rd.range{w:World}{k c I n:Nat}{l x:List UInt8}{N:Nat}(h:Rd w (.slice (some ⟨k,0,none⟩) N c) l)(hl:l.length=N)(hI:I+n<=N)(hx:(l.drop I).take n=x):w.rangeAt k I (bts x):=by
 intro j v hv;obtain⟨ao,cap,e,_,hh⟩:=h;have hj:j<x.length:=by have:=(List.getElem?_eq_some_iff.1 hv).1;rwa [A5] at this
 have hxl:x.length=n:=by rw[← hx,List.length_take,List.length_drop];omega
 obtain⟨b,off,hab,hc⟩:=hh (by omega);have hk:=congrArg (λ v=>match v with | Value.slice a _ _=>a | _=>none) e;simp only at hk;rw[hab] at hk;obtain⟨rfl,rfl⟩:k=b/\0=off:=by simpa using hk
 have h1:l[I+j]?=x[j]?:=by rw[← hx,List.getElem?_take_of_lt (by omega),List.getElem?_drop]
 rw[List.getElem?_eq_getElem hj,List.getElem?_eq_getElem (by omega)] at h1;have h2:=hc (I+j) (by omega);rw[Nat.zero_add] at h2;rw[h2];have h3:(bts x)[j]?=some (bv x[j]):=by simp[bts,hj]
 rw[h3] at hv;rw[← hv];congr 2
 exact Option.some.inj h1
theorem F1{fn:Func}{p u:Tmp}{ty:TypeId}(h:fn.results=#[.cell p ty,.tmp u])(tmps:Array Value)(w:World)(g:Nat)(cs:Array Value)
  (hp:tmps.getD p undef=.pointer (some ⟨g,0,none⟩)) (hl:(loadVar ty ⟨g,0,none⟩).run Tryz.prog w=.ok (.agg cs) w) :
  (results fn tmps).run Tryz.prog w=.ok (.tuple #[.agg cs,tmps.getD u undef]) w:=by
 have hp':tmps[p]?.getD undef=.pointer (some ⟨g,0,none⟩):=by simpa using hp
 simp[results,h,hp',asAddr,hl]
theorem An2{w:World}{g:Sg}{M:Nat->Option Sec}(h:B7 w g M)(at_:Nat)(hat:at_<g.h)(hat2:at_<4294967296){ks vs:List Bs}(hok:Q5 ks vs)(hcur:g.cur M at_=E8 ks vs) :
  Calls Tryz.prog 133 #[.pointer (some ⟨g.x.tb,0,none⟩),.int .u32 (at_:Int)] w λ e w'=>∃vk vv,e=.returned (.tuple #[.agg #[.int .i64 1,vk,vv,.slice none 0 0],.int .i64 0])/\F5 w' w.heap.size vk ks/\G7 w' w.heap.size vv vs/\B7 w' g M/\Upd [g.j.jb] w w':=by
 obtain⟨wA,hwA⟩:∃wA,wA=w.alloc (.cells #[.int .i64 0,.slice none 0 0,.slice none 0 0,.slice none 0 0] 220):=⟨_,rfl⟩;obtain⟨b4,hb4⟩:∃b,b=w.heap.size:=⟨_,rfl⟩;have huA:Upd [] w wA:=by rw[hwA];exact(Upd.refl _ _).alloc _
 have h4:wA.heap[b4]?=some (.cells #[.int .i64 0,.slice none 0 0,.slice none 0 0,.slice none 0 0] 220 (0,0)):=by rw[hwA,hb4];exact A4 _
 have HRD:=η (As6 (h.below huA) at_ hat);rw[hcur] at HRD;have HH:=η h;have HWA:=η hwA;have HB4:=η hb4;have HUA:=η huA;have H4:=η h4;have HOK:=η hok;have hel:(E8 ks vs).length=512:=R7 hok (Nat.le_refl _);have he0:(E8 ks vs)[0]?=some 1:=by unfold E8;rw[Av7 hok (by omega) (Nat.le_refl _),Cz0];rfl
 have he1:(E8 ks vs)[1]?=some (UInt8.ofNat ks.length):=by unfold E8;rw[Av7 hok (by omega) (Nat.le_refl _),Cz1]
 have HE:=η hel;have HE0:=η he0;have HE1:=η he1;have hn:=hok.most;clear h hok hcur huA h4 hwA hb4 hel he0 he1;go_enter Tryz.func133,Tryz.ntmps133
 go_wp2_with fail
 have hwA:=HWA.out;have hb4:=HB4.out;rw[← hwA,← hb4];clear hwA hb4;refine HRD.out.mono ?_;rintro e w1 ⟨v,rfl,ho,h1,hu1⟩;obtain⟨kb,c,rfl,hc,hkb,hcells⟩:=ho.sec HE.out;have z0:=hcells 0 (by omega);have z1:=hcells 1 (by omega);have e0:(E8 ks vs)[0]'(by rw[HE.out];omega)=1:=by have:=HE0.out;rw[List.getElem?_eq_getElem (by rw[HE.out];omega)] at this;exact Option.some.inj this
 have e1:(E8 ks vs)[1]'(by rw[HE.out];omega)=UInt8.ofNat ks.length:=by have:=HE1.out;rw[List.getElem?_eq_getElem (by rw[HE.out];omega)] at this;exact Option.some.inj this
 rw[e0] at z0;rw[e1] at z1;have ez0:bv 1=.int .u8 1:=rfl;have ez1:bv (UInt8.ofNat ks.length)=.int .u8 (ks.length:Int):=by unfold bv;rw[UInt8.toNat_ofNat',Nat.mod_eq_of_lt (by omega)]
 rw[ez0] at z0;rw[ez1] at z1;have HRB:=η ho.rd;have H1:=η h1;have HU1:=η hu1;clear ho hcells e0 e1 h1 hu1 ez0 ez1;go_upto_region 4 with(fail)
 go_cut [8,9] (λ s8 s9 wy=>s8=.pointer (some ⟨w1.heap.size,0,none⟩)/\s9=.int .i64 (ks.length:Int)/\wy.heap[w1.heap.size]?=some (.cells #[.int .i64 1,.slice none 0 0,.slice none 0 0,.slice none 0 0] 220 (0,0))/\Upd [] w1 wy)
 case first=>
  go_region_held3 (λ w'=>w'.cell? ⟨kb,0,none⟩=some (.int .u8 1)/\w'.cell? ⟨kb,1,none⟩=some (.int .u8 (ks.length:Int))) (refine⟨?_,?_⟩<;>first | assumption | (exact D6 (by assumption) ((Upd.refl [] _).drew) (by simp)) | (exact D6 (by assumption) (((Upd.refl [] _).alloc _).drew) (by simp)) | (exact D6 (by assumption) (((Upd.refl [] _).alloc _)) (by simp)) | (exact D6 z0 (((Upd.refl [w1.heap.size] _).alloc _).drew.set _ (.inl (by simp))) (by simp;omega)))
   (first | fail)
  all_goals
   go_wp2_with fail
   go_meet
   have hw:IntKind.i64.wrap (ks.length:Int)=(ks.length:Int):=by rw[IntKind.wrap_i64];omega
   refine⟨rfl,by rw[hw],?_,((Upd.refl _ _).alloc _).drew⟩;rw[show IntKind.i64.wrap 1=1 from rfl];exact A4 _
 case rest=>
  rename World=>wy
  obtain⟨rfl,rfl,hy,huy⟩:=hcut;obtain⟨b8,hb8⟩:∃b,b=w1.heap.size:=⟨_,rfl⟩;rw[← hb8] at hy ⊢;have y0:wy.cell? ⟨b8,0,none⟩=some (.int .i64 1):=by rw[A2 hy];rfl
  have dn:decide ((ks.length:Int)<=10)=true:=decide_eq_true (by omega);have dn2:decide (ks.length<=10)=true:=decide_eq_true hn;have HB8:=η hb8;have HY:=η hy;have HUY:=η huy;clear hb8 hy huy z0 z1;go_wp2_with fail
  go_loopw [43] (λ i wr=>∃(q:Nat) (vk vv:Value),q<=ks.length/\i=.int .i64 (q:Int)/\wr.heap[b8]?=some (.cells #[.int .i64 1,vk,vv,.slice none 0 0] 220 (0,0))/\F5 wr w1.heap.size vk (ks.take q)/\G7 wr w1.heap.size vv (vs.take q)/\Upd [] w1 wr) (λ i _=>ks.length-(intOf i).toNat)
  case atStart=>exact⟨0,_,_,Nat.zero_le _,rfl,HY.out,At4 _ _ _ _,At4 _ _ _ _,HUY.out⟩
  case round=>
   obtain⟨q,vk,vv,hq,rfl,hb,hK,hV,hu⟩:=hrel;by_cases hlt:q<ks.length
   ·have hlt':decide ((q:Int)<(ks.length:Int))=true:=decide_eq_true (by omega);have hlt2:decide (q<ks.length)=true:=decide_eq_true hlt;have hnv:=HOK.out.n;have hlk:(ks.take q).length=q:=by rw[List.length_take];omega
    have hlv:(vs.take q).length=q:=by rw[List.length_take];omega
    obtain⟨ak,ck,rfl⟩:=E9 hK;obtain⟨av,cv,rfl⟩:=E9 hV;unfold F5 at hK;unfold G7 at hV;rw[hlk] at hK hb;rw[hlv] at hV hb;have hkq:ks[q]?=some ks[q]:=List.getElem?_eq_getElem hlt;have hvq:vs[q]?=some vs[q]:=List.getElem?_eq_getElem (by omega);have hgk:ks.getD q []=ks[q]:=by rw[List.getD_eq_getElem?_getD,hkq];rfl
    have hgv:vs.getD q []=vs[q]:=by rw[List.getD_eq_getElem?_getD,hvq];rfl
    have h32:=HOK.out.k _ (List.getElem_mem hlt);have h16:=HOK.out.v _ (List.getElem_mem (show q<vs.length by omega));have htk:((ks.take (q+1)).map bts).flatten=((ks.take q).map bts).flatten++bts ks[q]:=by
     rw[List.take_add_one,hkq,List.map_append,List.flatten_append];simp
    have htv:((vs.take (q+1)).map bts).flatten=((vs.take q).map bts).flatten++bts vs[q]:=by
     rw[List.take_add_one,hvq,List.map_append,List.flatten_append];simp
    have hat2:=Bv8 HOK.out (j:=q) (k:=ks.length) (Nat.le_refl _) hlt;rw[hgk,hgv] at hat2;generalize ks[q]=kq at *;generalize vs[q]=vq at *;obtain⟨I,hI⟩:∃I,I=8+48*q:=⟨_,rfl⟩;obtain⟨I2,hI2⟩:∃J,J=I+32:=⟨_,rfl⟩;obtain⟨I3,hI3⟩:∃J,J=I+48:=⟨_,rfl⟩;rw[← hI,← hI2] at hat2;have r1:=Rd.range (HRB.out.below hu) HE.out (I:=I) (n:=32) (by omega) hat2.1;have r2:=Rd.range (HRB.out.below hu) HE.out (I:=I2) (n:=16) (by omega) hat2.2;have hi1:8+48*(q:Int)=(I:Int):=by omega
    have hi2:(I:Int)+32=(I2:Int):=by omega
    have hi3:(I:Int)+48=(I3:Int):=by omega
    have hs1:I2-I=32:=by omega
    have hs2:I3-I2=16:=by omega
    have j0:(0:Int)<=(I:Int):=by omega
    have j1:(I:Int)<=(I2:Int):=by omega
    have j2:(I2:Int)<=(c:Int):=by omega
    have j3:(0:Int)<=(I2:Int):=by omega
    have j4:(I2:Int)<=(I3:Int):=by omega
    have j5:(I3:Int)<=(c:Int):=by omega
    have j6:I2<=c:=by omega
    have j7:I3<=c:=by omega
    obtain⟨n0,n1,n2,-⟩:=O3 hb;have hbld:=X1 (T:=216) (e:=35) (sz:=32) Tryz.underlying216 (by kernel_rfl) (by omega) (by omega) (bts kq) (by rw[A5,h32]) wr.drew;obtain⟨a10,q10,c10,w10,S10,hrun10,ho10,hu10,hS10⟩:=Ah1 (T:=216) (e:=35) Tryz.underlying216 At2 rfl (by omega) (by omega) (w:=wr.drew) hK (by omega) hu.size (bts kq) (by rw[A5,h32]) (G5 _);have hld:=F8 (F7 r1 (Upd.refl [] _).drew (by simp)) h32;have hrb:wr.drew.heap[b8]?=_:=hb;have hb10:w10.heap[b8]?=some (.cells #[.int .i64 1,.slice ak q ck,.slice av q cv,.slice none 0 0] 220 (0,0)):=(hu10.block _ (A3 hrb) (λ k=>by obtain⟨_,c,e⟩:=hS10 _ k;rw[hrb] at e;simp at e)).trans hb;obtain⟨m0,m1,m2,-⟩:=O3 hb10;have mf:=B6 hb10 1;have n1a:=D6 (w':=wr.alloc (.cells (bts kq).toArray 35)) n1 ((Upd.refl [] _).alloc _) (by simp);have hV10:w10.ownsRow w1.heap.size 115 16 (.slice av q cv) q ((vs.take q).map bts).flatten:=C4 (w:=wr.drew) hV hu10 (λ k c' hk _ e=>by obtain⟨_,c2,e2⟩:=hS10 _ hk;rw[e2] at e;simp at e);have hu110:Upd [] w1 w10:=(hu.drew).late hu10 (λ k hk=> .inr (hS10 _ hk).1);have HB10:=η hb10;have HO10:=η ho10;have HU10:=η hu110;have HV10:=η hV10;have HRBw:Hid (w1.rangeAt kb I2 (bts vq)):=η (Rd.range HRB.out HE.out (I:=I2) (n:=16) (by omega) hat2.2);have HTK:=η htk;have HTV:=η htv;have HI:=η hI;have HI2:=η hI2;have HI3:=η hI3;have i0:(0:Int)<=(q:Int):=by omega
    have hw2:IntKind.i64.wrap (I2:Int)=(I2:Int):=by rw[IntKind.wrap_i64];omega
    have hw3:IntKind.i64.wrap (I3:Int)=(I3:Int):=by rw[IntKind.wrap_i64];omega
    have hci:¬c=I:=by omega
    have hci2:¬c=I2:=by omega
    clear hrb hb10 ho10 hu10 hS10 hK hV r1 r2 hb hu htk htv hI hI2 hI3 hat2 hkq hvq hgk hgv hV10 hu110;go_upto_region 10 with(fail)
    go_cut [] (λ wz=>∃a b c,wz.heap[b8]?=some (.cells #[.int .i64 1,.slice a b c,.slice av q cv,.slice none 0 0] 220 (0,0))/\F5 wz w1.heap.size (.slice a b c) (ks.take (q+1))/\wz.ownsRow w1.heap.size 115 16 (.slice av q cv) q ((vs.take q).map bts).flatten/\Upd [] w1 wz)
    case first=>
     go_region_law (first | (refine L8 (by rfl) _ _ _ (by rfl) (by rfl) (by rfl) hrun10 ?_))
     all_goals
      go_wp2_with fail
      go_meet
      have us:Upd [b8] w10 (w10.setCell ⟨b8,1,none⟩ (.slice a10 q10 c10)):=(Upd.refl _ _).set _ (.inl (by simp));refine⟨a10,q10,c10,by rw[A8 HB10.out];rfl,?_,C4 HV10.out us (λ k c' hk _ e=>by simp at hk;subst hk;rw[HB10.out] at e;simp at e),HU10.out.set _ (.inr (by have:=HB8.out;omega))⟩;unfold F5;rw[HTK.out,show(ks.take (q+1)).length=q+1 from by rw[List.length_take];omega];exact C4 HO10.out us (λ k c' hk _ e=>by simp at hk;subst hk;rw[HB10.out] at e;simp at e)
    case rest=>
     rename World=>wz
     obtain⟨a,b,c3,hbz,hKz,hVz,huz⟩:=hcut;clear n0 n1 n2 n1a m0 m1 m2 mf hld hbld hrun10;obtain⟨n0,n1,n2,-⟩:=O3 hbz;have r2z:=F7 (HRBw.out) huz (by simp);have hld:=Af3 (F7 r2z (Upd.refl [] _).drew (by simp)) h16;have hbld:=X1 (T:=217) (e:=115) (sz:=16) Tryz.underlying217 (by kernel_rfl) (by omega) (by omega) (bts vq) (by rw[A5,h16]) wz.drew;obtain⟨a11,q11,c11,w11,S11,hrun11,ho11,hu11,hS11⟩:=Ah1 (T:=217) (e:=115) Tryz.underlying217 Ba8 rfl (by omega) (by omega) (w:=wz.drew) hVz (by omega) huz.size (bts vq) (by rw[A5,h16]) (G5 _);have hrb:wz.drew.heap[b8]?=_:=hbz;have hb11:w11.heap[b8]?=some (.cells #[.int .i64 1,.slice a b c3,.slice av q cv,.slice none 0 0] 220 (0,0)):=(hu11.block _ (A3 hrb) (λ k=>by obtain⟨_,c,e⟩:=hS11 _ k;rw[hrb] at e;simp at e)).trans hbz;obtain⟨m0,m1,m2,-⟩:=O3 hb11;have mf:=B6 hb11 2;have n2a:=D6 (w':=wz.alloc (.cells (bts vq).toArray 115)) n2 ((Upd.refl [] _).alloc _) (by simp);have hK11:F5 w11 w1.heap.size (.slice a b c3) (ks.take (q+1)):=C4 (w:=wz.drew) hKz hu11 (λ k c' hk _ e=>by obtain⟨_,c2,e2⟩:=hS11 _ hk;rw[e2] at e;simp at e);have hu111:Upd [] w1 w11:=(huz.drew).late hu11 (λ k hk=> .inr (hS11 _ hk).1);have HB11:=η hb11;have HO11:=η ho11;have HU11:=η hu111;have HK11:=η hK11;clear hrb hb11 ho11 hu11 hS11 hKz hVz hbz huz r2z hK11 hu111;go_wp2_with fail
     go_region_law (first | (refine L8 (by rfl) _ _ _ (by rfl) (by rfl) (by rfl) hrun11 ?_))
     all_goals
      have us:Upd [b8] w11 (w11.setCell ⟨b8,2,none⟩ (.slice a11 q11 c11)):=(Upd.refl _ _).set _ (.inl (by simp));have HBX:Hid ((w11.setCell ⟨b8,2,none⟩ (.slice a11 q11 c11)).heap[b8]?=some (.cells #[.int .i64 1,.slice a b c3,.slice a11 q11 c11,.slice none 0 0] 220 (0,0))):=by
       show _=_
       rw[A8 HB11.out];rfl
      have HKX:=η (C4 HK11.out us (λ k c' hk _ e=>by simp at hk;subst hk;rw[HB11.out] at e;simp at e));have HVX:Hid (G7 (w11.setCell ⟨b8,2,none⟩ (.slice a11 q11 c11)) w1.heap.size (.slice a11 q11 c11) (vs.take (q+1))):=by
       show G7 _ _ _ _
       unfold G7;rw[HTV.out,show(vs.take (q+1)).length=q+1 from by rw[List.length_take];omega];exact C4 HO11.out us (λ k c' hk _ e=>by simp at hk;subst hk;rw[HB11.out] at e;simp at e)
      have HUX:=η (HU11.out.set (b:=b8) (o:=2) (.slice a11 q11 c11) (.inr (by have:=HB8.out;omega)));clear us n0 n1 n2 n2a m0 m1 m2 mf hld hbld hrun11;go_wp2_with fail
      exact⟨⟨q+1,_,_,by omega,by go_num,HBX.out,HKX.out,HVX.out,HUX.out⟩,by simp[intOf];omega⟩
   ·obtain rfl:q=ks.length:=by omega
    have hlt':decide ((ks.length:Int)<(ks.length:Int))=false:=by simp
    have hnv:=HOK.out.n;rw[List.take_length] at hK;rw[show vs.take ks.length=vs from List.take_of_length_le (by omega)] at hV;have HB:=η hb;have HK:=η hK;have HV:=η hV;have HUr:=η hu;have hld4:=B8 (n:=4) (cs:=[.int .i64 1,vk,vv,.slice none 0 0]) hb rfl;have hb4:wr.heap[b4]?=some (.cells #[.int .i64 0,.slice none 0 0,.slice none 0 0,.slice none 0 0] 220 (0,0)):=(hu.block _ (Nat.lt_of_lt_of_le (A3 H4.out) HU1.out.size) (by simp)).trans ((HU1.out.block _ (A3 H4.out) (by simp;rintro rfl;have:=HH.out.jr.at_.st;have h4:=H4.out;rw[(HUA.out.block _ (A3 this) (by simp)).trans this] at h4;simp at h4)).trans H4.out);obtain⟨m0,m1,m2,m3⟩:=O3 hb4;have f0:=B6 hb4 0;have f1:=B6 hb4 1;have f2:=B6 hb4 2;have f3:=B6 hb4 3;have HB4r:=η hb4;obtain⟨ak,ck,rfl⟩:=E9 hK;obtain⟨av,cv,rfl⟩:=E9 hV;clear hb hK hV hu hnv hb4;go_wp2_with fail
    have hbe:=A8 (A8 (A8 (A8 HB4r.out 0 (.int .i64 1)) 1 (.slice ak ks.length ck)) 2 (.slice av vs.length cv)) 3 (.slice none 0 0);have hue:Upd [b4] w1 ((((wr.setCell ⟨b4,0,none⟩ (.int .i64 1)).setCell ⟨b4,1,none⟩ (.slice ak ks.length ck)).setCell ⟨b4,2,none⟩ (.slice av vs.length cv)).setCell ⟨b4,3,none⟩ (.slice none 0 0)):=((((HUr.out.mono (by simp)).set _ (.inl (by simp))).set _ (.inl (by simp))).set _ (.inl (by simp))).set _ (.inl (by simp));have huk:Upd [b4] wr ((((wr.setCell ⟨b4,0,none⟩ (.int .i64 1)).setCell ⟨b4,1,none⟩ (.slice ak ks.length ck)).setCell ⟨b4,2,none⟩ (.slice av vs.length cv)).setCell ⟨b4,3,none⟩ (.slice none 0 0)):=((((Upd.refl _ _).set _ (.inl (by simp))).set _ (.inl (by simp))).set _ (.inl (by simp))).set _ (.inl (by simp));generalize ((((wr.setCell ⟨b4,0,none⟩ (.int .i64 1)).setCell ⟨b4,1,none⟩ (.slice ak ks.length ck)).setCell ⟨b4,2,none⟩ (.slice av vs.length cv)).setCell ⟨b4,3,none⟩ (.slice none 0 0))=wE at *;have hbn:=HB4.out;refine bodyPost_ret (F1 (p:=4) (u:=5) (ty:=220) (by rfl) _ _ b4 _ (by rfl) (run_loadVar_row _ b4 _ _ _ _ _ hbe Tryz.underlying220 rfl (by kernel_rfl))) (by rfl) ?_;refine⟨_,_,rfl,At3 (C4 HK.out huk (λ k c' hk _ e=>by simp at hk;subst hk;rw[HB4r.out] at e;simp at e)) ?_,At3 (C4 HV.out huk (λ k c' hk _ e=>by simp at hk;subst hk;rw[HB4r.out] at e;simp at e)) ?_,?_,?_⟩
    ·exact Nat.le_trans HUA.out.size HU1.out.size
    ·exact Nat.le_trans HUA.out.size HU1.out.size
    ·exact B7.late (HH.out) H1.out ((HUA.out.mono (by simp)).trans HU1.out) hue (λ k hk=>by simp at hk;omega)
    ·exact((HUA.out.mono (by simp)).trans HU1.out).late hue (λ k hk=> .inr (by simp at hk;omega))
end
section
attribute [-go_sem] loadCells Instr.buildSlice
attribute [local go_sem] Ay9
theorem Ao4(d:Int)(w:World):(Instr.buildSlice 218 1 #[(0,.int .u32 d)]).run Tryz.prog w=.ok (.slice (some ⟨w.heap.size,0,none⟩) 1 1) (w.alloc (.cells #[.int .u32 d] 79)):=by kernel_rfl
theorem Aq6{w:World}{g:Sg}{M:Nat->Option Sec}(h:B7 w g M)(at_:Nat)(hat:at_<g.h)(hat2:at_<4294967296){ks:List Bs}{ds:List Nat}(hok:P8 ks ds)(hcur:g.cur M at_=C9 ks ds) :
  Calls Tryz.prog 133 #[.pointer (some ⟨g.x.tb,0,none⟩),.int .u32 (at_:Int)] w λ e w'=>∃vk vd,e=.returned (.tuple #[.agg #[.int .i64 2,vk,.slice none 0 0,vd],.int .i64 0])/\F5 w' w.heap.size vk ks/\G0 w' w.heap.size vd ds/\B7 w' g M/\Upd [g.j.jb] w w':=by
 obtain⟨wA,hwA⟩:∃wA,wA=w.alloc (.cells #[.int .i64 0,.slice none 0 0,.slice none 0 0,.slice none 0 0] 220):=⟨_,rfl⟩;obtain⟨b4,hb4⟩:∃b,b=w.heap.size:=⟨_,rfl⟩;have huA:Upd [] w wA:=by rw[hwA];exact(Upd.refl _ _).alloc _
 have h4:wA.heap[b4]?=some (.cells #[.int .i64 0,.slice none 0 0,.slice none 0 0,.slice none 0 0] 220 (0,0)):=by rw[hwA,hb4];exact A4 _
 have HRD:=η (As6 (h.below huA) at_ hat);rw[hcur] at HRD;have HH:=η h;have HWA:=η hwA;have HB4:=η hb4;have HUA:=η huA;have H4:=η h4;have HOK:=η hok;have hel:(C9 ks ds).length=512:=M6 hok (Nat.le_refl _);have he0:(C9 ks ds)[0]?=some 2:=by unfold C9;rw[Aq5 hok (by omega) (Nat.le_refl _),Cz0];rfl
 have he1:(C9 ks ds)[1]?=some (UInt8.ofNat ks.length):=by unfold C9;rw[Aq5 hok (by omega) (Nat.le_refl _),Cz1]
 have HE:=η hel;have HE0:=η he0;have HE1:=η he1;have hn:=hok.most;clear h hok hcur huA h4 hwA hb4 hel he0 he1;go_enter Tryz.func133,Tryz.ntmps133
 go_wp2_with fail
 have hwA:=HWA.out;have hb4:=HB4.out;rw[← hwA,← hb4];clear hwA hb4;refine HRD.out.mono ?_;rintro e w1 ⟨v,rfl,ho,h1,hu1⟩;obtain⟨kb,c,rfl,hc,hkb,hcells⟩:=ho.sec HE.out;have z0:=hcells 0 (by omega);have z1:=hcells 1 (by omega);have e0:(C9 ks ds)[0]'(by rw[HE.out];omega)=2:=by have:=HE0.out;rw[List.getElem?_eq_getElem (by rw[HE.out];omega)] at this;exact Option.some.inj this
 have e1:(C9 ks ds)[1]'(by rw[HE.out];omega)=UInt8.ofNat ks.length:=by have:=HE1.out;rw[List.getElem?_eq_getElem (by rw[HE.out];omega)] at this;exact Option.some.inj this
 rw[e0] at z0;rw[e1] at z1;have ez0:bv 2=.int .u8 2:=rfl;have ez1:bv (UInt8.ofNat ks.length)=.int .u8 (ks.length:Int):=by unfold bv;rw[UInt8.toNat_ofNat',Nat.mod_eq_of_lt (by omega)]
 rw[ez0] at z0;rw[ez1] at z1;have HRB:=η ho.rd;have H1:=η h1;have HU1:=η hu1;clear ho hcells e0 e1 h1 hu1 ez0 ez1;go_upto_region 4 with(fail)
 go_cut [8,9] (λ s8 s9 wy=>s8=.pointer (some ⟨w1.heap.size,0,none⟩)/\s9=.int .i64 (ks.length:Int)/\wy.heap[w1.heap.size]?=some (.cells #[.int .i64 2,.slice none 0 0,.slice none 0 0,.slice none 0 0] 220 (0,0))/\Upd [] w1 wy)
 case first=>
  go_region_held3 (λ w'=>w'.cell? ⟨kb,0,none⟩=some (.int .u8 2)/\w'.cell? ⟨kb,1,none⟩=some (.int .u8 (ks.length:Int))) (refine⟨?_,?_⟩<;>first | assumption | (exact D6 (by assumption) ((Upd.refl [] _).drew) (by simp)) | (exact D6 (by assumption) (((Upd.refl [] _).alloc _).drew) (by simp)) | (exact D6 (by assumption) (((Upd.refl [] _).alloc _)) (by simp)) | (exact D6 z0 (((Upd.refl [w1.heap.size] _).alloc _).drew.set _ (.inl (by simp))) (by simp;omega)))
   (first | fail)
  all_goals
   go_wp2_with fail
   go_meet
   have hw:IntKind.i64.wrap (ks.length:Int)=(ks.length:Int):=by rw[IntKind.wrap_i64];omega
   refine⟨rfl,by rw[hw],?_,((Upd.refl _ _).alloc _).drew⟩;rw[show IntKind.i64.wrap 2=2 from rfl];exact A4 _
 case rest=>
  rename World=>wy
  obtain⟨rfl,rfl,hy,huy⟩:=hcut;obtain⟨b8,hb8⟩:∃b,b=w1.heap.size:=⟨_,rfl⟩;rw[← hb8] at hy ⊢;have y0:wy.cell? ⟨b8,0,none⟩=some (.int .i64 2):=by rw[A2 hy];rfl
  have dn:decide ((ks.length:Int)<=13)=true:=decide_eq_true (by omega);have dn2:decide (ks.length<=13)=true:=decide_eq_true hn;have HB8:=η hb8;have HY:=η hy;have HUY:=η huy;have hnd:=HOK.out.n;obtain⟨d0,hd0⟩:∃d,ds[0]?=some d:=⟨_,List.getElem?_eq_getElem (by omega)⟩;have hf0:num (C9 ks ds) 8 4=d0:=by unfold C9;rw[At0 HOK.out (Nat.le_refl _),List.getD_eq_getElem?_getD,hd0];rfl
  have hnum:=Ay8 (HRB.out.below huy) 8 8 rfl (by rw[HE.out];omega) (by rw[HE.out];omega);rw[hf0] at hnum;have HNUM:=η hnum;have hbu:=Ao4;have y3:(wy.alloc (.cells #[.int .u32 (d0:Int)] 79)).cell? ⟨b8,3,none⟩=some (.slice none 0 0):=by rw[A2 ((A6 (A3 hy)).trans hy)];rfl
  have yf:(wy.alloc (.cells #[.int .u32 (d0:Int)] 79)).frozen? ⟨b8,3,none⟩=false:=B6 ((A6 (A3 hy)).trans hy) 3;have hz:((wy.alloc (.cells #[.int .u32 (d0:Int)] 79)).setCell ⟨b8,3,none⟩ (.slice (some ⟨wy.heap.size,0,none⟩) 1 1)).heap[b8]?=some (.cells #[.int .i64 2,.slice none 0 0,.slice none 0 0,.slice (some ⟨wy.heap.size,0,none⟩) 1 1] 220 (0,0)):=by
   rw[A8 ((A6 (A3 hy)).trans hy)];rfl
  have hzd:G0 ((wy.alloc (.cells #[.int .u32 (d0:Int)] 79)).setCell ⟨b8,3,none⟩ (.slice (some ⟨wy.heap.size,0,none⟩) 1 1)) w1.heap.size (.slice (some ⟨wy.heap.size,0,none⟩) 1 1) (ds.take 1):=by
   have e1:ds.take 1=[d0]:=by rw[List.take_add_one,hd0];rfl
   rw[e1];refine⟨rfl,.inr ⟨wy.heap.size,1,#[.int .u32 (d0:Int)],rfl,huy.size,?_,Nat.le_refl _,by decide,rfl,rfl⟩⟩;rw[C5 _ _ (show wy.heap.size≠b8 by have:=A3 hy;omega)];exact A4 _
  have hzu:Upd [] w1 ((wy.alloc (.cells #[.int .u32 (d0:Int)] 79)).setCell ⟨b8,3,none⟩ (.slice (some ⟨wy.heap.size,0,none⟩) 1 1)):=(huy.alloc _).set _ (.inr (by omega));have HZ:=η hz;have HZD:=η hzd;have HZU:=η hzu;clear hb8 hy huy z0 z1 hnd hd0 hf0 hnum hz hzd hzu;go_wp2_with fail
  refine HNUM.out.mono ?_;rintro e w' ⟨rfl,rfl⟩;go_wp2_with fail
  go_loopw [89] (λ i wr=>∃(q:Nat) (vk vd:Value),q<=ks.length/\i=.int .i64 (q:Int)/\wr.heap[b8]?=some (.cells #[.int .i64 2,vk,.slice none 0 0,vd] 220 (0,0))/\F5 wr w1.heap.size vk (ks.take q)/\G0 wr w1.heap.size vd (ds.take (q+1))/\Upd [] w1 wr) (λ i _=>ks.length-(intOf i).toNat)
  case atStart=>exact⟨0,_,_,Nat.zero_le _,rfl,HZ.out,At4 _ _ _ _,HZD.out,HZU.out⟩
  case round=>
   obtain⟨q,vk,vd,hq,rfl,hb,hK,hD,hu⟩:=hrel;by_cases hlt:q<ks.length
   ·have hlt':decide ((q:Int)<(ks.length:Int))=true:=decide_eq_true (by omega);have hlt2:decide (q<ks.length)=true:=decide_eq_true hlt;have hnd:=HOK.out.n;have hlk:(ks.take q).length=q:=by rw[List.length_take];omega
    have hld:(ds.take (q+1)).length=q+1:=by rw[List.length_take];omega
    obtain⟨ak,ck,rfl⟩:=E9 hK;obtain⟨ad,cd,rfl⟩:=E9 hD;unfold F5 at hK;unfold G0 at hD;rw[hlk] at hK hb;rw[hld] at hD hb;have hkq:ks[q]?=some ks[q]:=List.getElem?_eq_getElem hlt;have hgk:ks.getD q []=ks[q]:=by rw[List.getD_eq_getElem?_getD,hkq];rfl
    have h32:=HOK.out.k _ (List.getElem_mem hlt);have htk:((ks.take (q+1)).map bts).flatten=((ks.take q).map bts).flatten++bts ks[q]:=by
     rw[List.take_add_one,hkq,List.map_append,List.flatten_append];simp
    obtain⟨dq,hdq⟩:∃d,ds[q+1]?=some d:=⟨_,List.getElem?_eq_getElem (by omega)⟩;have htd:(ds.take (q+1+1)).map (λ d:Nat=>Value.int .u32 (d:Int))=(ds.take (q+1)).map (λ d:Nat=>Value.int .u32 (d:Int)) ++ [.int .u32 (dq:Int)]:=by
     rw[List.take_add_one (i:=q+1),hdq,List.map_append];rfl
    have hat2:=Bl4 HOK.out (j:=q) (k:=ks.length) (Nat.le_refl _) hlt;rw[hgk,show ds.getD (q+1) 0=dq from by rw[List.getD_eq_getElem?_getD,hdq];rfl] at hat2;generalize ks[q]=kq at *;obtain⟨I,hI⟩:∃I,I=12+36*q:=⟨_,rfl⟩;obtain⟨I2,hI2⟩:∃J,J=I+32:=⟨_,rfl⟩;rw[← hI,← hI2] at hat2;have hnn:num (C9 ks ds) I2 4=dq:=hat2.2;have r1:=Rd.range (HRB.out.below hu) HE.out (I:=I) (n:=32) (by omega) hat2.1;have hi1:12+36*(q:Int)=(I:Int):=by omega
    have hi2:(I:Int)+32=(I2:Int):=by omega
    have hs1:I2-I=32:=by omega
    have j0:(0:Int)<=(I:Int):=by omega
    have j1:(I:Int)<=(I2:Int):=by omega
    have j2:(I2:Int)<=(c:Int):=by omega
    have j3:(0:Int)<=(I2:Int):=by omega
    have j6:I2<=c:=by omega
    obtain⟨n0,n1,-,n3⟩:=O3 hb;have hbld:=X1 (T:=216) (e:=35) (sz:=32) Tryz.underlying216 (by kernel_rfl) (by omega) (by omega) (bts kq) (by rw[A5,h32]) wr.drew;obtain⟨a10,q10,c10,w10,S10,hrun10,ho10,hu10,hS10⟩:=Ah1 (T:=216) (e:=35) Tryz.underlying216 At2 rfl (by omega) (by omega) (w:=wr.drew) hK (by omega) hu.size (bts kq) (by rw[A5,h32]) (G5 _);have hldc:=F8 (F7 r1 (Upd.refl [] _).drew (by simp)) h32;have hrb:wr.drew.heap[b8]?=_:=hb;have hb10:w10.heap[b8]?=some (.cells #[.int .i64 2,.slice ak q ck,.slice none 0 0,.slice ad (q+1) cd] 220 (0,0)):=(hu10.block _ (A3 hrb) (λ k=>by obtain⟨_,c,e⟩:=hS10 _ k;rw[hrb] at e;simp at e)).trans hb;obtain⟨m0,m1,-,m3⟩:=O3 hb10;have mf:=B6 hb10 1;have n1a:=D6 (w':=wr.alloc (.cells (bts kq).toArray 35)) n1 ((Upd.refl [] _).alloc _) (by simp);have hD10:w10.ownsRow w1.heap.size 79 1 (.slice ad (q+1) cd) (q+1) ((ds.take (q+1)).map λ d:Nat=>Value.int .u32 (d:Int)):=C4 (w:=wr.drew) hD hu10 (λ k c' hk _ e=>by obtain⟨_,c2,e2⟩:=hS10 _ hk;rw[e2] at e;simp at e);have hu110:Upd [] w1 w10:=(hu.drew).late hu10 (λ k hk=> .inr (hS10 _ hk).1);have HB10:=η hb10;have HO10:=η ho10;have HU10:=η hu110;have HD10:=η hD10;have HTK:=η htk;have HTD:=η htd;have HI:=η hI;have HI2:=η hI2;have HNN:=η hnn;have HDQ:=η hdq;have i0:(0:Int)<=(q:Int):=by omega
    have hw2:IntKind.i64.wrap (I2:Int)=(I2:Int):=by rw[IntKind.wrap_i64];omega
    have hci:¬c=I:=by omega
    clear hrb hb10 ho10 hu10 hS10 hK hD r1 hb hu htk htd hI hI2 hat2 hkq hdq hgk hD10 hu110 hnn;go_upto_region 20 with(fail)
    go_cut [] (λ wz=>∃a b c,wz.heap[b8]?=some (.cells #[.int .i64 2,.slice a b c,.slice none 0 0,.slice ad (q+1) cd] 220 (0,0))/\F5 wz w1.heap.size (.slice a b c) (ks.take (q+1))/\wz.ownsRow w1.heap.size 79 1 (.slice ad (q+1) cd) (q+1) ((ds.take (q+1)).map λ d:Nat=>Value.int .u32 (d:Int))/\Upd [] w1 wz)
    case first=>
     go_region_law (first | (refine L8 (by rfl) _ _ _ (by rfl) (by rfl) (by rfl) hrun10 ?_))
     all_goals
      go_wp2_with fail
      go_meet
      have us:Upd [b8] w10 (w10.setCell ⟨b8,1,none⟩ (.slice a10 q10 c10)):=(Upd.refl _ _).set _ (.inl (by simp));refine⟨a10,q10,c10,by rw[A8 HB10.out];rfl,?_,C4 HD10.out us (λ k c' hk _ e=>by simp at hk;subst hk;rw[HB10.out] at e;simp at e),HU10.out.set _ (.inr (by have:=HB8.out;omega))⟩;unfold F5;rw[HTK.out,show(ks.take (q+1)).length=q+1 from by rw[List.length_take];omega];exact C4 HO10.out us (λ k c' hk _ e=>by simp at hk;subst hk;rw[HB10.out] at e;simp at e)
    case rest=>
     rename World=>wz
     obtain⟨a,b,c3,hbz,hKz,hDz,huz⟩:=hcut;clear n0 n1 n3 n1a m0 m1 m3 mf hldc hbld hrun10;obtain⟨n0,n1,-,n3⟩:=O3 hbz;have hnum:=Ay8 (w:=wz.drew) ((HRB.out.below huz).below (Upd.refl _ _).drew) I2 (I2:Int) rfl (by rw[HE.out];omega) (by rw[HE.out];omega);rw[HNN.out] at hnum;have HNUM2:=η hnum;obtain⟨a11,q11,c11,w11,S11,hrun11,ho11,hu11,hS11⟩:=Ah1 (T:=218) (e:=79) Tryz.underlying218 Ba9 rfl (by omega) (by omega) (w:=wz.drew) hDz (by omega) huz.size [.int .u32 (dq:Int)] rfl (by simp[Value.oneCell']);have hrb:wz.drew.heap[b8]?=_:=hbz;have hb11:w11.heap[b8]?=some (.cells #[.int .i64 2,.slice a b c3,.slice none 0 0,.slice ad (q+1) cd] 220 (0,0)):=(hu11.block _ (A3 hrb) (λ k=>by obtain⟨_,c,e⟩:=hS11 _ k;rw[hrb] at e;simp at e)).trans hbz;obtain⟨m0,m1,-,m3⟩:=O3 hb11;have mf:=B6 hb11 3;have n3a:=D6 (w':=wz.alloc (.cells #[.int .u32 (dq:Int)] 79)) n3 ((Upd.refl [] _).alloc _) (by simp);have hK11:F5 w11 w1.heap.size (.slice a b c3) (ks.take (q+1)):=C4 (w:=wz.drew) hKz hu11 (λ k c' hk _ e=>by obtain⟨_,c2,e2⟩:=hS11 _ hk;rw[e2] at e;simp at e);have hu111:Upd [] w1 w11:=(huz.drew).late hu11 (λ k hk=> .inr (hS11 _ hk).1);have HB11:=η hb11;have HO11:=η ho11;have HU11:=η hu111;have HK11:=η hK11;clear hrb hb11 ho11 hu11 hS11 hKz hDz hbz huz hK11 hu111 hnum;go_wp2_with fail
     go_region_law (first | (go_simp;go_at_call 211;(with_reducible refine HNUM2.out.mono ?_);rintro e w' ⟨rfl,rfl⟩;dsimp only) | (refine L8 (by rfl) _ _ _ (by rfl) (by rfl) (by rfl) hrun11 ?_))
     all_goals
      have us:Upd [b8] w11 (w11.setCell ⟨b8,3,none⟩ (.slice a11 q11 c11)):=(Upd.refl _ _).set _ (.inl (by simp));have HBX:Hid ((w11.setCell ⟨b8,3,none⟩ (.slice a11 q11 c11)).heap[b8]?=some (.cells #[.int .i64 2,.slice a b c3,.slice none 0 0,.slice a11 q11 c11] 220 (0,0))):=by
       show _=_
       rw[A8 HB11.out];rfl
      have HKX:=η (C4 HK11.out us (λ k c' hk _ e=>by simp at hk;subst hk;rw[HB11.out] at e;simp at e));have HDX:Hid (G0 (w11.setCell ⟨b8,3,none⟩ (.slice a11 q11 c11)) w1.heap.size (.slice a11 q11 c11) (ds.take (q+1+1))):=by
       show G0 _ _ _ _
       unfold G0;rw[HTD.out,show(ds.take (q+1+1)).length=q+1+1 from by rw[List.length_take];have:=HOK.out.n;omega];exact C4 HO11.out us (λ k c' hk _ e=>by simp at hk;subst hk;rw[HB11.out] at e;simp at e)
      have HUX:=η (HU11.out.set (b:=b8) (o:=3) (.slice a11 q11 c11) (.inr (by have:=HB8.out;omega)));clear us n0 n1 n3 n3a m0 m1 m3 mf hrun11;go_wp2_with fail
      exact⟨⟨q+1,_,_,by omega,by go_num,HBX.out,HKX.out,HDX.out,HUX.out⟩,by simp[intOf];omega⟩
   ·obtain rfl:q=ks.length:=by omega
    have hlt':decide ((ks.length:Int)<(ks.length:Int))=false:=by simp
    have hnd:=HOK.out.n;rw[List.take_length] at hK;rw[show ds.take (ks.length+1)=ds from List.take_of_length_le (by omega)] at hD;have HB:=η hb;have HK:=η hK;have HV:=η hD;have HUr:=η hu;have hld4:=B8 (n:=4) (cs:=[.int .i64 2,vk,.slice none 0 0,vd]) hb rfl;have hb4:wr.heap[b4]?=some (.cells #[.int .i64 0,.slice none 0 0,.slice none 0 0,.slice none 0 0] 220 (0,0)):=(hu.block _ (Nat.lt_of_lt_of_le (A3 H4.out) HU1.out.size) (by simp)).trans ((HU1.out.block _ (A3 H4.out) (by simp;rintro rfl;have:=HH.out.jr.at_.st;have h4:=H4.out;rw[(HUA.out.block _ (A3 this) (by simp)).trans this] at h4;simp at h4)).trans H4.out);obtain⟨m0,m1,m2,m3⟩:=O3 hb4;have f0:=B6 hb4 0;have f1:=B6 hb4 1;have f2:=B6 hb4 2;have f3:=B6 hb4 3;have HB4r:=η hb4;obtain⟨ak,ck,rfl⟩:=E9 hK;obtain⟨av,cv,rfl⟩:=E9 hD;clear hb hK hD hu hnd hb4;go_wp2_with fail
    have hbe:=A8 (A8 (A8 (A8 HB4r.out 0 (.int .i64 2)) 1 (.slice ak ks.length ck)) 2 (.slice none 0 0)) 3 (.slice av ds.length cv);have hue:Upd [b4] w1 ((((wr.setCell ⟨b4,0,none⟩ (.int .i64 2)).setCell ⟨b4,1,none⟩ (.slice ak ks.length ck)).setCell ⟨b4,2,none⟩ (.slice none 0 0)).setCell ⟨b4,3,none⟩ (.slice av ds.length cv)):=((((HUr.out.mono (by simp)).set _ (.inl (by simp))).set _ (.inl (by simp))).set _ (.inl (by simp))).set _ (.inl (by simp));have huk:Upd [b4] wr ((((wr.setCell ⟨b4,0,none⟩ (.int .i64 2)).setCell ⟨b4,1,none⟩ (.slice ak ks.length ck)).setCell ⟨b4,2,none⟩ (.slice none 0 0)).setCell ⟨b4,3,none⟩ (.slice av ds.length cv)):=((((Upd.refl _ _).set _ (.inl (by simp))).set _ (.inl (by simp))).set _ (.inl (by simp))).set _ (.inl (by simp));generalize ((((wr.setCell ⟨b4,0,none⟩ (.int .i64 2)).setCell ⟨b4,1,none⟩ (.slice ak ks.length ck)).setCell ⟨b4,2,none⟩ (.slice none 0 0)).setCell ⟨b4,3,none⟩ (.slice av ds.length cv))=wE at *;have hbn:=HB4.out;refine bodyPost_ret (F1 (p:=4) (u:=5) (ty:=220) (by rfl) _ _ b4 _ (by rfl) (run_loadVar_row _ b4 _ _ _ _ _ hbe Tryz.underlying220 rfl (by kernel_rfl))) (by rfl) ?_;refine⟨_,_,rfl,At3 (C4 HK.out huk (λ k c' hk _ e=>by simp at hk;subst hk;rw[HB4r.out] at e;simp at e)) ?_,At3 (C4 HV.out huk (λ k c' hk _ e=>by simp at hk;subst hk;rw[HB4r.out] at e;simp at e)) ?_,?_,?_⟩
    ·exact Nat.le_trans HUA.out.size HU1.out.size
    ·exact Nat.le_trans HUA.out.size HU1.out.size
    ·exact B7.late (HH.out) H1.out ((HUA.out.mono (by simp)).trans HU1.out) hue (λ k hk=>by simp at hk;omega)
    ·exact((HUA.out.mono (by simp)).trans HU1.out).late hue (λ k hk=> .inr (by simp at hk;omega))
end
end Go.Proofs.YtgfbepakonjbnaaGreat
end
