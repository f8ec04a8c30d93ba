/-
  cofferlaw12.begun.
-/
import Derived.Test.YtgfbepakonjbnaaGreatU31
section
set_option linter.unusedSimpArgs false
set_option linter.unusedVariables false
namespace Go.Proofs.YtgfbepakonjbnaaGreat
open Go.RowKit Go.MapKept Go.ChangeMaps
theorem SetOut.first{g:Sg}{M1:Nat→Option Sec}{S1:List Nat}{K1:Nat→Option Pk}{key b:List UInt8}{y:Nat × Nat}(h:SetOut g (fun _=>none) M1 [] S1 (fun _=>none) K1 [] key b y)(r:RowK [] (fun _=>none) (g.T fun _=>none) 0)(hh:60≤g.h) :
  y=(0,0)∧K1=setP (fun _=>none) 0 (some ⟨4,frameB key b,(frameB key b).length⟩)∧S1.length≤1∧(∀i,g.T M1 i=decide (i<4+S1.length+16))∧∀i,(M1 i).isSome=true→i<20∨i∈S1:=by
 obtain⟨K0,T0,M2,M3,hd,ha,hG,hT⟩:=h.way
 obtain⟨rfl,rfl⟩:K0=(fun _=>none)∧T0=g.T fun _=>none:=hd
 obtain⟨y',e,q⟩:=r.add (by omega) (by simp;omega) ha
 cases e
 rcases q with⟨_,_⟩ | ⟨hy,_,hr,rfl⟩
 ·exfalso
  rcases ha with⟨free,p,_,_,h2,_⟩ | ⟨st,q,h1,h2,h3,hK,h4⟩
  ·cases h2
  ·rename_i hr
   have:=hr.out y.1 (by omega)
   rw[hK,setP_same] at this;cases this
 ·have hy2:y.2=0:=by
   rcases ha with⟨free,p,_,_,h2,_⟩ | ⟨st,q,h1,h2,_⟩
   ·cases h2
   ·exact h2
  have hye:y=(0,0):=Prod.ext hy hy2
  subst hye
  have hr3:=hr.put (by simp;omega) (fun s hs=>(h.kp.m.low s hs).2) hG
  have hsz:=h.kp.m.tr.size
  rw[List.length_map] at hsz
  have hln:=insR_length_le [] ⟨0,0,key,b⟩
  simp only[List.length_nil] at hln
  have hS1:S1.length≤1:=by
   have:(insR [] (⟨0,0,key,b⟩:Rc)).length≤1:=hln
   have hsz':4*S1.length≤(insR [] (⟨0,0,key,b⟩:Rc)).length+3:=hsz
   omega
  refine⟨rfl,rfl,hS1,fun i=>by rw[hT,hr3.bits],fun i hi=>?_⟩
  rcases h.dom i hi with q | q | q | q
  ·cases q
  ·exact .inl (by omega)
  ·obtain⟨p,hp,i1,i2⟩:=q
   rw[setP_same] at hp;cases hp
   simp only[List.length_nil] at i2
   exact .inl (by omega)
  ·exact .inr q
theorem insR_one(n a n' a':Nat)(key b b':List UInt8):insR [⟨n,a,key,b⟩] ⟨n',a',key,b'⟩=[⟨n',a',key,b'⟩]:=by
 unfold insR
 rw[ltB_irrefl,if_neg (by simp),if_pos rfl]
set_option maxRecDepth 100000 in
set_option maxHeartbeats 8000000 in
theorem begun12_spec(w:World):Calls Tryz.prog 15 #[] w fun e w'=>e=.returned (.bool true)∧Upd [] w w':=by
 have HM:=Lib.hid (made12_spec 200 60 200 60 rfl rfl (by omega) (by omega) (by omega) (by omega) (by omega) w)
 obtain⟨key,hkey⟩:∃k,k=keyB (1:Int):=⟨_,rfl⟩
 have hkl:key.length=32:=by rw[hkey];exact keyB_length _
 have hky:=fun W=>key12_spec 1 W
 rw[show((placeN 1 40:Nat):Int)=1 by decide,← hkey] at hky
 unfold arr at hky
 have HKY:Hid (∀W,Calls Tryz.prog 24 #[.int .i64 1] W fun e w'=>e=.returned (.agg (bts key).toArray)∧Upd [] W w'):=Lib.hid hky
 clear hkey hky
 go_enter Tryz.func15,Tryz.ntmps15
 go_wp2_with fail
 refine HM.out.mono ?_
 rintro e w1 ⟨j,H0,rfl,hj,hkj,hrow,hu1⟩
 have HJ:Hid (∀k,k∈j.all→w.heap.size≤k):=by show ∀k,_;exact hj
 have HBG:=Lib.hid (hkj.begin hj hu1)
 have HRW:=Lib.hid hrow
 clear hj hkj hrow hu1
 go_wp2_with fail
 refine HBG.out.mono ?_
 rintro e w2 ⟨g,rfl,hkt,hgT,_⟩
 have hgh:g.h=138:=hkt.h
 have hrw:RowK [] (fun _=>none) (g.T fun _=>none) 0:=⟨HRW.out.here,HRW.out.out,fun i=>by rw[hgT];exact HRW.out.bits i⟩
 have hSS:=hkt.S HJ.out
 have HSS:=Lib.hid hSS
 have HKT:=Lib.hid hkt
 have HRW2:=Lib.hid hrw
 have HGH:=Lib.hid hgh
 clear hkt hgT hgh hrw hSS
 go_wp2_with fail
 refine(HKY.out _).mono ?_
 rintro e w3 ⟨rfl,hu3⟩
 obtain⟨w4,hw4⟩:∃w4,w4=w3.alloc (.cells #[.int .u8 1] 5):=⟨_,rfl⟩
 have hu4:Upd [] w3 w4:=by rw[hw4];exact(Upd.refl _ _).alloc _
 have b4:w4.heap[w3.heap.size]?=some (.cells #[.int .u8 1] 5 (0,0)):=by rw[hw4];exact blk_alloc _
 have hrd:Rd w4 (.slice (some ⟨w3.heap.size,0,none⟩) 1 1) [1]:=⟨_,_,rfl,by simp,fun _=>⟨_,0,rfl,fun i hi=>by
  obtain rfl:i=0:=by simpa using hi
  rw[blk_cell b4];rfl⟩⟩
 have hu24:=hu3.trans hu4
 have h4:=HKT.out.sp.below hu24
 have hst:=kset_spec h4 (by have:=HGH.out;omega) (by have:=HGH.out;omega) HKT.out.kp (by simp) key [1] _ hrd hkl (by simp) (SetBud.fresh HRW2.out (by omega) (by have:=HGH.out;simp;omega) rfl)
 unfold arr at hst
 have HST:=Lib.hid hst
 have HU4:=Lib.hid (HKT.out.upd.trans hu24)
 have HW4:=Lib.hid hw4
 clear hu3 hu4 b4 hrd hu24 h4 hst hw4
 go_wp2_with (have hw4:=HW4.out;rw[← hw4];clear hw4;refine HST.out.mono ?_;rintro e w5 ⟨M1,S1,K1,y,rfl,h5,hso,hu5⟩)
 obtain⟨rfl,rfl,hS1,hT1,hD1⟩:=hso.first HRW2.out (by have:=HGH.out;omega)
 have hok1:=h5.ok
 have hkp1:KpAt g M1 S1 (setP (fun _=>none) 0 (some ⟨4,frameB key [1],(frameB key [1]).length⟩)) [⟨0,0,key,[1]⟩]:=hso.kp
 have H5:=Lib.hid h5
 have HKP1:=Lib.hid hkp1
 have HAG:Hid (SetBud g M1 S1 (setP (fun _=>none) 0 (some ⟨4,frameB key [1],(frameB key [1]).length⟩)) [⟨0,0,key,[1]⟩] key [2]):=Lib.hid (SetBud.again hS1 rfl (frameB_length hkl) hT1 hok1 hD1 (by have:=HGH.out;omega))
 have HU5:=Lib.hid (HU4.out.mono (by simp) |>.trans hu5)
 clear h5 hso hu5 hok1 hkp1 hS1 hT1 hD1
 go_wp2_with fail
 refine(HKY.out _).mono ?_
 rintro e w6 ⟨rfl,hu6⟩
 obtain⟨w7,hw7⟩:∃w7,w7=w6.alloc (.cells #[.int .u8 2] 5):=⟨_,rfl⟩
 have hu7:Upd [] w6 w7:=by rw[hw7];exact(Upd.refl _ _).alloc _
 have b7:w7.heap[w6.heap.size]?=some (.cells #[.int .u8 2] 5 (0,0)):=by rw[hw7];exact blk_alloc _
 have hrd:Rd w7 (.slice (some ⟨w6.heap.size,0,none⟩) 1 1) [2]:=⟨_,_,rfl,by simp,fun _=>⟨_,0,rfl,fun i hi=>by
  obtain rfl:i=0:=by simpa using hi
  rw[blk_cell b7];rfl⟩⟩
 have hu57:=hu6.trans hu7
 have h7:=H5.out.below hu57
 have hst:=kset_spec h7 (by have:=HGH.out;omega) (by have:=HGH.out;omega) HKP1.out (by simp) key [2] _ hrd hkl (by simp) HAG.out
 unfold arr at hst
 have HST:=Lib.hid hst
 have HU7:=Lib.hid (HU5.out.trans (hu57.mono (by simp)))
 have HW7:=Lib.hid hw7
 clear hu6 hu7 b7 hrd hu57 h7 hst hw7
 go_wp2_with (have hw7:=HW7.out;rw[← hw7];clear hw7;refine HST.out.mono ?_;rintro e w8 ⟨M2,S2,K2,y,rfl,h8,hso,hu8⟩)
 have hkp2:=hso.kp
 rw[insR_one] at hkp2
 have H8:=Lib.hid h8
 have HKP2:=Lib.hid hkp2
 have HU8:=Lib.hid (HU7.out.trans hu8)
 clear h8 hso hu8 hkp2
 go_wp2_with fail
 refine(HKY.out _).mono ?_
 rintro e w9 ⟨rfl,hu9⟩
 have h9:=H8.out.below hu9
 have hgt:=kget_spec h9 (by have:=HGH.out;omega) (by have:=HGH.out;omega) HKP2.out (by simp) key hkl (x:=⟨y.1,y.2,key,[2]⟩) (by
  unfold recL
  rw[ltB_irrefl,if_neg (by simp),if_pos rfl])
 unfold arr at hgt
 have HGT:=Lib.hid hgt
 have HU9:=Lib.hid (HU8.out.trans (hu9.mono (by simp)))
 clear hu9 h9 hgt
 go_wp2_with fail
 refine HGT.out.mono ?_
 rintro e w10 ⟨v,rfl,hrow,h10,hu10⟩
 have hln:=klen_spec h10 (by have:=HGH.out;omega) (by have:=HGH.out;omega) HKP2.out (by simp)
 have HLN:=Lib.hid hln
 have HROW:=Lib.hid (RdS.of hrow.rd)
 have H10:=Lib.hid h10
 have HU10:=Lib.hid (HU9.out.trans hu10)
 clear hrow h10 hu10 hln
 go_wp2_with fail
 refine HLN.out.mono ?_
 rintro e w11 ⟨rfl,h11,hu11⟩
 have hrd:=(HROW.out.sp H10.out hu11 fun _ q=>q).1
 have hcv:=run_str hrd (by decide)
 have HU11:=Lib.hid ((Upd.refl [] w).late (HU10.out.trans hu11) fun i hi=> .inr (HSS.out.1 i hi))
 clear h11 hu11 hrd
 rw[show(([⟨y.1,y.2,key,[2]⟩]:List Rc).length:Int)=1 from rfl]
 have hstr:str [(2:UInt8)]=⟨#[2]⟩:=rfl
 rw[hstr] at hcv
 go_wp2_with fail
 go_ret
 exact⟨rfl,HU11.out⟩
def bodyM(i sz:Nat):List UInt8:=UInt8.ofNat (i % 256) :: List.replicate sz 0
theorem bodyM_length(i sz:Nat):(bodyM i sz).length=sz+1:=by simp[bodyM]
theorem keyB_at(k:Int):(keyB k)[31]?=some (u8I k):=by
 unfold keyB
 rw[List.getElem?_set_self (by simp[z32])]
theorem keyB_ne{a b:Nat}(ha:a<256)(hb:b<256)(h:a≠b):keyB (a:Int)≠keyB (b:Int):=fun e=>by
 have h1:(keyB (a:Int))[31]?=(keyB (b:Int))[31]?:=by rw[e]
 rw[keyB_at,keyB_at] at h1
 injection h1 with h1
 have h2:=congrArg UInt8.toNat h1
 unfold u8I at h2
 rw[UInt8.toNat_ofNat',UInt8.toNat_ofNat'] at h2
 omega
structure ManyR(R:List Rc)(I sz:Nat):Prop where
 len:R.length=I
 here:∀k,k<I→∃x,recL R (keyB (k:Int))=some x∧x.b=bodyM k sz
 out:∀k,I≤k→k<256→recL R (keyB (k:Int))=none
theorem ManyR.zero(sz:Nat):ManyR [] 0 sz:=⟨rfl,fun k h=>by omega,fun _ _ _=>rfl⟩
theorem ManyR.ins{R:List Rc}{I sz:Nat}(h:ManyR R I sz)(hs:SortR R)(hI:I<256)(n a:Nat):ManyR (insR R ⟨n,a,keyB (I:Int),bodyM I sz⟩) (I+1) sz:=by
 have hn:=h.out I (Nat.le_refl _) hI
 refine⟨?_,fun k hk=>?_,fun k hk hk2=>?_⟩
 ·have:=(insR_perm (x:=⟨n,a,keyB (I:Int),bodyM I sz⟩) hn).length_eq
  rw[this,List.length_cons,h.len]
 ·by_cases e:k=I
  ·subst e
   exact⟨_,recL_ins hs _,rfl⟩
  ·obtain⟨x,h1,h2⟩:=h.here k (by omega)
   exact⟨x,by rw[recL_ins_ne hs _ (keyB_ne (by omega) hI e)];exact h1,h2⟩
 ·rw[recL_ins_ne hs _ (keyB_ne hk2 hI (by omega))]
  exact h.out k (by omega) hk2
theorem SetOut.many{g:Sg}{M':Nat→Option Sec}{S S':List Nat}{K K':Nat→Option Pk}{R:List Rc}{key b:List UInt8}{y:Nat × Nat}{m L I:Nat}(h:SetOut g (fun _=>none) M' S S' K K' R key b y)(r:RowM S K (g.T fun _=>none) m L I)(hn:recL R key=none)(hf:(frameB key b).length=L)(hm:m<64)
  (hh:4+S.length+16*m+20≤g.h):∃m',RowM S' K' (g.T M') m' L (I+1):=by
 obtain⟨K1,T1,M2,M3,hd,ha,hG,hT⟩:=h.way
 rw[hn] at hd
 obtain⟨rfl,rfl⟩:=hd
 obtain⟨m',hm',hr⟩:=r.add hf hm (by omega) ha
 have h2:=hr.row.put (by omega) (fun s hs=>(h.kp.m.low s hs).2) hG
 rw[← hT] at h2
 exact⟨m',h2,hr.full,hr.sum⟩
theorem bodyM_set(I sz:Nat)(h:I<256):(List.replicate (sz+1) (0:UInt8)).set 0 (UInt8.ofNat I)=bodyM I sz:=by
 unfold bodyM
 rw[Nat.mod_eq_of_lt h];rfl
set_option maxRecDepth 100000 in
set_option maxHeartbeats 8000000 in
theorem many12_spec(a1 a2:Int)(w:World):Calls Tryz.prog 3 #[.int .i64 a1,.int .i64 a2] w fun e w'=>e=.returned (.bool true)∧Upd [] w w':=by
 obtain⟨n,hn⟩:∃n,n=placeN a1 201:=⟨_,rfl⟩
 obtain⟨sz,hsz⟩:∃n,n=placeN a2 100:=⟨_,rfl⟩
 have hn2:n≤200:=by have:=placeN_lt (k:=a1) (n:=201) (by omega);omega
 have hs2:sz<100:=by have:=placeN_lt (k:=a2) (n:=100) (by omega);omega
 have HP1:=Lib.hid (fun w=>place_spec a1 201 w (by omega) (by omega))
 have HP2:=Lib.hid (fun w=>place_spec a2 100 w (by omega) (by omega))
 rw[← hn] at HP1
 rw[← hsz] at HP2
 rw[show((201:Nat):Int)=201 from rfl] at HP1
 rw[show((100:Nat):Int)=100 from rfl] at HP2
 have HM:=Lib.hid (fun w=>made12_spec 700 100 700 100 rfl rfl (by omega) (by omega) (by omega) (by omega) (by omega) w)
 clear hn hsz
 go_enter Tryz.func3,Tryz.ntmps3
 go_wp2_with fail
 refine(begun12_spec w).mono ?_
 rintro e w1 ⟨rfl,hu1⟩
 have HU1:=Lib.hid hu1
 clear hu1
 go_wp2_with fail
 refine(HP1.out _).mono ?_
 rintro e w' ⟨rfl,rfl⟩
 go_wp2_with fail
 refine(HP2.out _).mono ?_
 rintro e w' ⟨rfl,rfl⟩
 go_wp2_with fail
 refine(HM.out _).mono ?_
 rintro e w2 ⟨j,H0,rfl,hj,hkj,hrow,hu2⟩
 have HJ:Hid (∀k,k∈j.all→w.heap.size≤k):=by show ∀k,_;exact fun k hk=>Nat.le_trans HU1.out.size (hj k hk)
 have HKJ:=Lib.hid hkj
 have hrm:RowM [] (fun _=>none) (fun i=>bitB (fixB (H0 1)) i) 0 (46+(sz+1)) 0:=⟨hrow,fun n p h=>by omega,rfl⟩
 have HRM:=Lib.hid hrm
 have HU2:=Lib.hid (HU1.out.trans hu2)
 clear hj hkj hrow hrm hu2
 go_wp2_with fail
 go_loopw [7] (fun i wr=>∃(I m:Nat) (H:Nat→Sec) (S:List Nat) (K:Nat→Option Pk) (R:List Rc),i=.int .i64 (I:Int)∧I≤n∧Hid (KjAt wr j 700 100 (2+I) H S K R)∧Hid (RowM S K (fun i=>bitB (fixB (H 1)) i) m (46+(sz+1)) I)∧Hid (ManyR R I sz)∧Hid (Upd [] w wr)) (fun i _=>201-(intOf i).toNat)
 case atStart=>exact⟨0,0,H0,[],_,[],rfl,by omega,by have:=HKJ.out;simpa using HKJ,HRM,Lib.hid (ManyR.zero sz),HU2⟩
 case round=>
  obtain⟨I,m,H,S,K,R,rfl,hI,HKJ2,HRM2,HMR,HUW⟩:=hrel
  rcases Nat.lt_or_ge I n with h4 | h4
  ·have cj:decide ((I:Int)<(n:Int))=true:=decide_eq_true (by omega)
   have hm4:=HRM2.out.few (by omega) (by omega)
   have hS50:4*S.length≤I+3:=by
    have:=HKJ2.out.2.1.tr.size
    rw[List.length_map,HMR.out.len] at this
    exact this
   have HBG:=Lib.hid (HKJ2.out.begin HJ.out HUW.out)
   go_wp2_with fail
   refine HBG.out.mono ?_
   rintro e w3 ⟨g,rfl,hkt,hgT,_⟩
   have hgh:g.h=598:=hkt.h
   have hrm:RowM S K (g.T fun _=>none) m (46+(sz+1)) I:=by
    have e:(g.T fun _=>none)=fun i=>bitB (fixB (H 1)) i:=funext hgT
    rw[e];exact HRM2.out
   have hSS:=hkt.S HJ.out
   obtain⟨w4,hw4⟩:∃w4,w4=w3.alloc (.cells (bts (List.replicate (sz+1) 0)).toArray 5):=⟨_,rfl⟩
   obtain⟨bb,hbb⟩:∃b,b=w3.heap.size:=⟨_,rfl⟩
   have hmk:(Instr.makeSlice 32 (.int .i64 ((sz:Int)+1)) (.int .i64 ((sz:Int)+1))).run Tryz.prog w3=.ok (.slice (some ⟨bb,0,none⟩) (sz+1) (sz+1)) w4:=by
    have:=run_make_u8 (sz+1) (by omega) w3
    rw[show((sz+1:Nat):Int)=(sz:Int)+1 from by omega,← hw4,← hbb] at this
    exact this
   have b4:w4.heap[bb]?=some (.cells (bts (List.replicate (sz+1) 0)).toArray 5 (0,0)):=by rw[hw4,hbb];exact blk_alloc _
   have c4:w4.cell? ⟨bb,0,none⟩=some (.int .u8 0):=by rw[blk_cell b4];rfl
   have f4:=blk_free b4 0
   have hwr:IntKind.u8.wrap (I:Int)=(I:Int):=by rw[IntKind.wrap_u8];omega
   obtain⟨w5,hw5⟩:∃w5,w5=w4.setCell ⟨bb,0,none⟩ (.int .u8 (I:Int)):=⟨_,rfl⟩
   have b5:w5.heap[bb]?=some (.cells (bts (bodyM I sz)).toArray 5 (0,0)):=by
    rw[hw5,blk_set_u8 b4 0 (by omega),bodyM_set I sz (by omega)]
   have hu35:Upd [] w3 w5:=by rw[hw5,hw4,hbb];exact((Upd.refl _ _).alloc _).set _ (.inr (Nat.le_refl _))
   have HKT:=Lib.hid (hkt.below hu35)
   have HGH:=Lib.hid hgh
   have HRM:=Lib.hid hrm
   have HSS:=Lib.hid hSS
   have HB5:=Lib.hid b5
   have HW5:=Lib.hid hw5
   clear hkt hgT hgh hrm hSS hw4 hbb b4 b5 hu35 hw5
   go_upto_region 14 with(fail)
   have hw5:=HW5.out
   rw[← hw5]
   clear hw5
   go_wp2_with fail
   refine(key_spec (I:Int) _).mono ?_
   unfold arr
   rintro e w6 ⟨rfl,hu6⟩
   have hkt6:=HKT.out.below hu6
   have hrd:Rd w6 (.slice (some ⟨bb,0,none⟩) (sz+1) (sz+1)) (bodyM I sz):=rd_blk ((hu6.block _ (blk_lt HB5.out) (by simp)).trans HB5.out) (bodyM_length I sz)
   have hnk:=HMR.out.out I (Nat.le_refl _) (by omega)
   have hroom:4+S.length+16*m+20≤g.h:=by have:=HGH.out;omega
   have hkl:(keyB (I:Int)).length=32:=keyB_length _
   have hst:=kset_spec hkt6.sp (by have:=HGH.out;omega) (by have:=HGH.out;omega) hkt6.kp (by rw[HMR.out.len];omega) (keyB (I:Int)) (bodyM I sz) _ hrd hkl (by rw[bodyM_length];omega) (SetBud.fresh HRM.out.row (by omega) hroom hnk)
   unfold arr at hst
   have HST:=Lib.hid hst
   have HKT6:=Lib.hid hkt6
   have HNK:=Lib.hid hnk
   have HRO:=Lib.hid hroom
   clear hu6 hkt6 hrd hnk hroom hkl hst
   go_wp2_with fail
   refine HST.out.mono ?_
   rintro e w7 ⟨M',S',K',y,rfl,h7,hso,hu7⟩
   have hkt7:KtAt w w7 j 700 100 (2+I) g M' S' K' (insR R ⟨y.1,y.2,keyB (I:Int),bodyM I sz⟩):=⟨HKT6.out.tx,h7,hso.kp,(Upd.refl [] w).late ((HKT6.out.upd.mono (by simp)).trans hu7) fun i hi=> .inr (HSS.out.1 i hi)⟩
   have hcm:=hkt7.commit (by omega) (by omega) hso.cnt (by omega)
   obtain⟨m',hrm'⟩:=hso.many HRM.out HNK.out (by rw[frameB_length (keyB_length _),bodyM_length]) (by omega) HRO.out
   have HCM:=Lib.hid hcm
   have HRM':=Lib.hid hrm'
   have HU7:=Lib.hid hkt7.upd
   clear h7 hso hu7 hkt7 hcm hrm'
   go_wp2_with fail
   refine HCM.out.mono ?_
   rintro e w8 ⟨rfl,hkj8,hu8⟩
   have HKJ8:=Lib.hid hkj8
   have HU8:=Lib.hid (HU7.out.late hu8 fun i hi=>by
    rcases List.mem_cons.1 hi with rfl | q
    ·exact .inr HSS.out.2
    ·exact .inr (HJ.out i q))
   clear hkj8 hu8
   go_wp2_with fail
   exact⟨⟨I+1,m',g.cur M',S',K',insR R ⟨y.1,y.2,keyB (I:Int),bodyM I sz⟩,by go_num,by omega,by have:=HKJ8.out;rw[show(2:Int)+((I+1:Nat):Int)=2+(I:Int)+1 by omega];exact HKJ8,HRM',Lib.hid (HMR.out.ins HKJ2.out.2.2 (by omega) y.1 y.2),HU8⟩,by simp[intOf];omega⟩
  ·have cj:decide ((I:Int)<(n:Int))=false:=decide_eq_false (by omega)
   have hbg:=HKJ2.out.begin HJ.out HUW.out
   have hln0:R.length=n:=by rw[HMR.out.len];omega
   have hmr:ManyR R n sz:=by
    have e:I=n:=by omega
    rw[← e];exact HMR.out
   have HBG:=Lib.hid hbg
   have HLN0:=Lib.hid hln0
   have HM:=Lib.hid hmr
   clear hbg hln0 hmr
   go_wp2_with fail
   refine HBG.out.mono ?_
   rintro e w3 ⟨g,rfl,hkt,_,_⟩
   have hgh:g.h=598:=hkt.h
   have hSS:=hkt.S HJ.out
   have HKT:=Lib.hid hkt
   have HGH:=Lib.hid hgh
   have HSS:=Lib.hid hSS
   clear hkt hgh hSS
   go_wp2_with fail
   go_loopw [13] (fun i wr=>∃q:Nat,i=.int .i64 (q:Int)∧q≤n∧Hid (SpAt wr g fun _=>none)∧Hid (Upd [] w wr)) (fun i _=>201-(intOf i).toNat)
   case atStart=>exact⟨0,rfl,by omega,Lib.hid HKT.out.sp,Lib.hid HKT.out.upd⟩
   case round=>
    obtain⟨q,rfl,hq,HSP,HUR⟩:=hrel
    obtain⟨wq,rfl⟩:∃wq:World,wq=wr:=⟨_,rfl⟩
    rcases Nat.lt_or_ge q n with h5 | h5
    ·have cj2:decide ((q:Int)<(n:Int))=true:=decide_eq_true (by omega)
     obtain⟨x,hx,hxb⟩:=HM.out.here q h5
     have HX:=Lib.hid hx
     have HXB:=Lib.hid hxb
     clear hx hxb
     go_wp2_with fail
     refine(key_spec (q:Int) _).mono ?_
     unfold arr
     rintro e w4 ⟨rfl,hu4⟩
     have h4:=HSP.out.below hu4
     have hgt:=kget_spec h4 (by have:=HGH.out;omega) (by have:=HGH.out;omega) HKT.out.kp (by rw[HLN0.out];omega) (keyB (q:Int)) (keyB_length _) HX.out
     rw[HXB.out] at hgt
     unfold arr at hgt
     have HGT:=Lib.hid hgt
     have HU4:=Lib.hid (HUR.out.trans hu4)
     clear hu4 h4 hgt
     go_wp2_with fail
     refine HGT.out.mono ?_
     rintro e w5 ⟨v,rfl,hrow,h5',hu5⟩
     obtain⟨a,c,rfl,hc,ha⟩:=hrow.shape
     obtain⟨gb,rfl,_⟩:=ha (by rw[bodyM_length];omega)
     have hcell:w5.cell? ⟨gb,0,none⟩=some (.int .u8 (q:Int)):=by
      obtain⟨ao,cp,e,hc,hh⟩:=hrow.rd
      cases e
      obtain⟨b,off,e,hcl⟩:=hh (by rw[bodyM_length];omega)
      cases e
      have:=hcl 0 (by rw[bodyM_length];omega)
      rw[Nat.zero_add] at this
      rw[this]
      show some (bv (UInt8.ofNat (q % 256)))=_
      unfold bv
      rw[UInt8.toNat_ofNat',Nat.mod_eq_of_lt (by omega),Nat.mod_eq_of_lt (by omega)]
     have hwr:IntKind.u8.wrap (q:Int)=(q:Int):=by rw[IntKind.wrap_u8];omega
     rw[bodyM_length]
     have HSP5:=Lib.hid h5'
     have HU5:=Lib.hid ((Upd.refl [] w).late ((HU4.out.mono (by simp)).trans hu5) fun i hi=> .inr (HSS.out.1 i hi))
     clear hrow h5' hu5 hc ha
     go_wp2_with fail
     exact⟨⟨q+1,by go_num,by omega,HSP5,HU5⟩,by simp[intOf];omega⟩
    ·have cj2:decide ((q:Int)<(n:Int))=false:=decide_eq_false (by omega)
     have hln:=klen_spec HSP.out (by have:=HGH.out;omega) (by have:=HGH.out;omega) HKT.out.kp (by rw[HLN0.out];omega)
     rw[HLN0.out] at hln
     have HLN:=Lib.hid hln
     clear hln
     go_wp2_with fail
     refine HLN.out.mono ?_
     rintro e w4 ⟨rfl,h4,hu4⟩
     have HU4:=Lib.hid ((Upd.refl [] w).late ((HUR.out.mono (by simp)).trans hu4) fun i hi=> .inr (HSS.out.1 i hi))
     clear h4 hu4
     go_wp2_with fail
     go_ret
     exact⟨rfl,HU4.out⟩
end Go.Proofs.YtgfbepakonjbnaaGreat
end
