/-
  An inner node is read.
-/
import Derived.Test.YtgfbepakonjbnaaGreatU18
section
namespace Go.Proofs.YtgfbepakonjbnaaGreat
open Go.RowKit Go.MapKept Go.ChangeMaps
section
attribute [-go_sem] loadCells Instr.buildSlice
attribute [local go_sem] run_toArr32
theorem run_build_u32(d:Int)(w:World):(Instr.buildSlice 218 1 #[(0,.int .u32 d)]).run Tryz.prog w=.ok (.slice (some ⟨w.heap.size,0,none⟩) 1 1) (w.alloc (.cells #[.int .u32 d] 79)):=by kernel_rfl
set_option maxRecDepth 100000 in
set_option maxHeartbeats 4000000 in
theorem read_inner{w:World}{g:Sg}{M:Nat→Option Sec}(h:SpAt w g M)(at_:Nat)(hat:at_<g.h)(hat2:at_<4294967296){ks:List Bs}{ds:List Nat}(hok:InnerOk ks ds)(hcur:g.cur M at_=encInner ks ds) :
  Calls Tryz.prog 133 #[.pointer (some ⟨g.x.tb,0,none⟩),.int .u32 (at_:Int)] w fun e w'=>∃vk vd,e=.returned (.tuple #[.agg #[.int .i64 2,vk,.slice none 0 0,vd],.int .i64 0])∧KOwn w' w.heap.size vk ks∧DOwn w' w.heap.size vd ds∧SpAt w' g M∧Upd [g.j.jb] w w':=by
 obtain⟨wA,hwA⟩:∃wA,wA=w.alloc (.cells #[.int .i64 0,.slice none 0 0,.slice none 0 0,.slice none 0 0] 220):=⟨_,rfl⟩
 obtain⟨b4,hb4⟩:∃b,b=w.heap.size:=⟨_,rfl⟩
 have huA:Upd [] w wA:=by rw[hwA];exact(Upd.refl _ _).alloc _
 have h4:wA.heap[b4]?=some (.cells #[.int .i64 0,.slice none 0 0,.slice none 0 0,.slice none 0 0] 220 (0,0)):=by rw[hwA,hb4];exact blk_alloc _
 have HRD:=Lib.hid (readS (h.below huA) at_ hat)
 rw[hcur] at HRD
 have HH:=Lib.hid h
 have HWA:=Lib.hid hwA
 have HB4:=Lib.hid hb4
 have HUA:=Lib.hid huA
 have H4:=Lib.hid h4
 have HOK:=Lib.hid hok
 have hel:(encInner ks ds).length=512:=innerK_length hok (Nat.le_refl _)
 have he0:(encInner ks ds)[0]?=some 2:=by unfold encInner;rw[innerK_low hok (by omega) (Nat.le_refl _),hdN_0];rfl
 have he1:(encInner ks ds)[1]?=some (UInt8.ofNat ks.length):=by unfold encInner;rw[innerK_low hok (by omega) (Nat.le_refl _),hdN_1]
 have HE:=Lib.hid hel
 have HE0:=Lib.hid he0
 have HE1:=Lib.hid he1
 have hn:=hok.most
 clear h hok hcur huA h4 hwA hb4 hel he0 he1
 go_enter Tryz.func133,Tryz.ntmps133
 go_wp2_with fail
 have hwA:=HWA.out
 have hb4:=HB4.out
 rw[← hwA,← hb4]
 clear hwA hb4
 refine HRD.out.mono ?_
 rintro e w1 ⟨v,rfl,ho,h1,hu1⟩
 obtain⟨kb,c,rfl,hc,hkb,hcells⟩:=ho.sec HE.out
 have z0:=hcells 0 (by omega)
 have z1:=hcells 1 (by omega)
 have e0:(encInner ks ds)[0]'(by rw[HE.out];omega)=2:=by have:=HE0.out;rw[List.getElem?_eq_getElem (by rw[HE.out];omega)] at this;exact Option.some.inj this
 have e1:(encInner ks ds)[1]'(by rw[HE.out];omega)=UInt8.ofNat ks.length:=by have:=HE1.out;rw[List.getElem?_eq_getElem (by rw[HE.out];omega)] at this;exact Option.some.inj this
 rw[e0] at z0
 rw[e1] at z1
 have ez0:bv 2=.int .u8 2:=rfl
 have ez1:bv (UInt8.ofNat ks.length)=.int .u8 (ks.length:Int):=by unfold bv;rw[UInt8.toNat_ofNat',Nat.mod_eq_of_lt (by omega)]
 rw[ez0] at z0
 rw[ez1] at z1
 have HRB:=Lib.hid ho.rd
 have H1:=Lib.hid h1
 have HU1:=Lib.hid hu1
 clear ho hcells e0 e1 h1 hu1 ez0 ez1
 go_upto_region 4 with(fail)
 go_cut [8,9] (fun s8 s9 wy=>s8=.pointer (some ⟨w1.heap.size,0,none⟩)∧s9=.int .i64 (ks.length:Int)∧wy.heap[w1.heap.size]?=some (.cells #[.int .i64 2,.slice none 0 0,.slice none 0 0,.slice none 0 0] 220 (0,0))∧Upd [] w1 wy)
 case first=>
  go_region_held3 (fun w'=>w'.cell? ⟨kb,0,none⟩=some (.int .u8 2)∧w'.cell? ⟨kb,1,none⟩=some (.int .u8 (ks.length:Int))) (refine⟨?_,?_⟩<;>first | assumption | (exact cell_upd (by assumption) ((Upd.refl [] _).drew) (by simp)) | (exact cell_upd (by assumption) (((Upd.refl [] _).alloc _).drew) (by simp)) | (exact cell_upd (by assumption) (((Upd.refl [] _).alloc _)) (by simp)) | (exact cell_upd z0 (((Upd.refl [w1.heap.size] _).alloc _).drew.set _ (.inl (by simp))) (by simp;omega)))
   (first | fail)
  all_goals
   go_wp2_with fail
   go_meet
   have hw:IntKind.i64.wrap (ks.length:Int)=(ks.length:Int):=by rw[IntKind.wrap_i64];omega
   refine⟨rfl,by rw[hw],?_,((Upd.refl _ _).alloc _).drew⟩
   rw[show IntKind.i64.wrap 2=2 from rfl]
   exact blk_alloc _
 case rest=>
  rename World=>wy
  obtain⟨rfl,rfl,hy,huy⟩:=hcut
  obtain⟨b8,hb8⟩:∃b,b=w1.heap.size:=⟨_,rfl⟩
  rw[← hb8] at hy ⊢
  have y0:wy.cell? ⟨b8,0,none⟩=some (.int .i64 2):=by rw[blk_cell hy];rfl
  have dn:decide ((ks.length:Int)≤13)=true:=decide_eq_true (by omega)
  have dn2:decide (ks.length≤13)=true:=decide_eq_true hn
  have HB8:=Lib.hid hb8
  have HY:=Lib.hid hy
  have HUY:=Lib.hid huy
  have hnd:=HOK.out.n
  obtain⟨d0,hd0⟩:∃d,ds[0]?=some d:=⟨_,List.getElem?_eq_getElem (by omega)⟩
  have hf0:num (encInner ks ds) 8 4=d0:=by unfold encInner;rw[innerK_first HOK.out (Nat.le_refl _),List.getD_eq_getElem?_getD,hd0];rfl
  have hnum:=number_spec (HRB.out.below huy) 8 8 rfl (by rw[HE.out];omega) (by rw[HE.out];omega)
  rw[hf0] at hnum
  have HNUM:=Lib.hid hnum
  have hbu:=run_build_u32
  have y3:(wy.alloc (.cells #[.int .u32 (d0:Int)] 79)).cell? ⟨b8,3,none⟩=some (.slice none 0 0):=by rw[blk_cell ((blk_alloc_ne (blk_lt hy)).trans hy)];rfl
  have yf:(wy.alloc (.cells #[.int .u32 (d0:Int)] 79)).frozen? ⟨b8,3,none⟩=false:=blk_free ((blk_alloc_ne (blk_lt hy)).trans hy) 3
  have hz:((wy.alloc (.cells #[.int .u32 (d0:Int)] 79)).setCell ⟨b8,3,none⟩ (.slice (some ⟨wy.heap.size,0,none⟩) 1 1)).heap[b8]?=some (.cells #[.int .i64 2,.slice none 0 0,.slice none 0 0,.slice (some ⟨wy.heap.size,0,none⟩) 1 1] 220 (0,0)):=by
   rw[blk_set ((blk_alloc_ne (blk_lt hy)).trans hy)];rfl
  have hzd:DOwn ((wy.alloc (.cells #[.int .u32 (d0:Int)] 79)).setCell ⟨b8,3,none⟩ (.slice (some ⟨wy.heap.size,0,none⟩) 1 1)) w1.heap.size (.slice (some ⟨wy.heap.size,0,none⟩) 1 1) (ds.take 1):=by
   have e1:ds.take 1=[d0]:=by rw[List.take_add_one,hd0];rfl
   rw[e1]
   refine⟨rfl,.inr ⟨wy.heap.size,1,#[.int .u32 (d0:Int)],rfl,huy.size,?_,Nat.le_refl _,by decide,rfl,rfl⟩⟩
   rw[blk_set_ne _ _ (show wy.heap.size≠b8 by have:=blk_lt hy;omega)]
   exact blk_alloc _
  have hzu:Upd [] w1 ((wy.alloc (.cells #[.int .u32 (d0:Int)] 79)).setCell ⟨b8,3,none⟩ (.slice (some ⟨wy.heap.size,0,none⟩) 1 1)):=(huy.alloc _).set _ (.inr (by omega))
  have HZ:=Lib.hid hz
  have HZD:=Lib.hid hzd
  have HZU:=Lib.hid hzu
  clear hb8 hy huy z0 z1 hnd hd0 hf0 hnum hz hzd hzu
  go_wp2_with fail
  refine HNUM.out.mono ?_
  rintro e w' ⟨rfl,rfl⟩
  go_wp2_with fail
  go_loopw [89] (fun i wr=>∃(q:Nat) (vk vd:Value),q≤ks.length∧i=.int .i64 (q:Int)∧wr.heap[b8]?=some (.cells #[.int .i64 2,vk,.slice none 0 0,vd] 220 (0,0))∧KOwn wr w1.heap.size vk (ks.take q)∧DOwn wr w1.heap.size vd (ds.take (q+1))∧Upd [] w1 wr) (fun i _=>ks.length-(intOf i).toNat)
  case atStart=>exact⟨0,_,_,Nat.zero_le _,rfl,HZ.out,own_nil _ _ _ _,HZD.out,HZU.out⟩
  case round=>
   obtain⟨q,vk,vd,hq,rfl,hb,hK,hD,hu⟩:=hrel
   by_cases hlt:q<ks.length
   ·have hlt':decide ((q:Int)<(ks.length:Int))=true:=decide_eq_true (by omega)
    have hlt2:decide (q<ks.length)=true:=decide_eq_true hlt
    have hnd:=HOK.out.n
    have hlk:(ks.take q).length=q:=by rw[List.length_take];omega
    have hld:(ds.take (q+1)).length=q+1:=by rw[List.length_take];omega
    obtain⟨ak,ck,rfl⟩:=own_shape hK
    obtain⟨ad,cd,rfl⟩:=own_shape hD
    unfold KOwn at hK
    unfold DOwn at hD
    rw[hlk] at hK hb
    rw[hld] at hD hb
    have hkq:ks[q]?=some ks[q]:=List.getElem?_eq_getElem hlt
    have hgk:ks.getD q []=ks[q]:=by rw[List.getD_eq_getElem?_getD,hkq];rfl
    have h32:=HOK.out.k _ (List.getElem_mem hlt)
    have htk:((ks.take (q+1)).map bts).flatten=((ks.take q).map bts).flatten++bts ks[q]:=by
     rw[List.take_add_one,hkq,List.map_append,List.flatten_append];simp
    obtain⟨dq,hdq⟩:∃d,ds[q+1]?=some d:=⟨_,List.getElem?_eq_getElem (by omega)⟩
    have htd:(ds.take (q+1+1)).map (fun d:Nat=>Value.int .u32 (d:Int))=(ds.take (q+1)).map (fun d:Nat=>Value.int .u32 (d:Int)) ++ [.int .u32 (dq:Int)]:=by
     rw[List.take_add_one (i:=q+1),hdq,List.map_append];rfl
    have hat2:=innerK_at HOK.out (j:=q) (k:=ks.length) (Nat.le_refl _) hlt
    rw[hgk,show ds.getD (q+1) 0=dq from by rw[List.getD_eq_getElem?_getD,hdq];rfl] at hat2
    generalize ks[q]=kq at *
    obtain⟨I,hI⟩:∃I,I=12+36*q:=⟨_,rfl⟩
    obtain⟨I2,hI2⟩:∃J,J=I+32:=⟨_,rfl⟩
    rw[← hI,← hI2] at hat2
    have hnn:num (encInner ks ds) I2 4=dq:=hat2.2
    have r1:=Rd.range (HRB.out.below hu) HE.out (I:=I) (n:=32) (by omega) hat2.1
    have hi1:12+36*(q:Int)=(I:Int):=by omega
    have hi2:(I:Int)+32=(I2:Int):=by omega
    have hs1:I2-I=32:=by omega
    have j0:(0:Int)≤(I:Int):=by omega
    have j1:(I:Int)≤(I2:Int):=by omega
    have j2:(I2:Int)≤(c:Int):=by omega
    have j3:(0:Int)≤(I2:Int):=by omega
    have j6:I2≤c:=by omega
    obtain⟨n0,n1,-,n3⟩:=op_cells9 hb
    have hbld:=run_build1 (T:=216) (e:=35) (sz:=32) Tryz.underlying216 (by kernel_rfl) (by omega) (by omega) (bts kq) (by rw[bts_length,h32]) wr.drew
    obtain⟨a10,q10,c10,w10,S10,hrun10,ho10,hu10,hS10⟩:=row_push (T:=216) (e:=35) Tryz.underlying216 infoKey rfl (by omega) (by omega) (w:=wr.drew) hK (by omega) hu.size (bts kq) (by rw[bts_length,h32]) (bts_one _)
    have hldc:=run_cells32 (range_upd r1 (Upd.refl [] _).drew (by simp)) h32
    have hrb:wr.drew.heap[b8]?=_:=hb
    have hb10:w10.heap[b8]?=some (.cells #[.int .i64 2,.slice ak q ck,.slice none 0 0,.slice ad (q+1) cd] 220 (0,0)):=(hu10.block _ (blk_lt hrb) (fun k=>by obtain⟨_,c,e⟩:=hS10 _ k;rw[hrb] at e;simp at e)).trans hb
    obtain⟨m0,m1,-,m3⟩:=op_cells9 hb10
    have mf:=blk_free hb10 1
    have n1a:=cell_upd (w':=wr.alloc (.cells (bts kq).toArray 35)) n1 ((Upd.refl [] _).alloc _) (by simp)
    have hD10:w10.ownsRow w1.heap.size 79 1 (.slice ad (q+1) cd) (q+1) ((ds.take (q+1)).map fun d:Nat=>Value.int .u32 (d:Int)):=own_upd (w:=wr.drew) hD hu10 (fun k c' hk _ e=>by obtain⟨_,c2,e2⟩:=hS10 _ hk;rw[e2] at e;simp at e)
    have hu110:Upd [] w1 w10:=(hu.drew).late hu10 (fun k hk=> .inr (hS10 _ hk).1)
    have HB10:=Lib.hid hb10
    have HO10:=Lib.hid ho10
    have HU10:=Lib.hid hu110
    have HD10:=Lib.hid hD10
    have HTK:=Lib.hid htk
    have HTD:=Lib.hid htd
    have HI:=Lib.hid hI
    have HI2:=Lib.hid hI2
    have HNN:=Lib.hid hnn
    have HDQ:=Lib.hid hdq
    have i0:(0:Int)≤(q:Int):=by omega
    have hw2:IntKind.i64.wrap (I2:Int)=(I2:Int):=by rw[IntKind.wrap_i64];omega
    have hci:¬c=I:=by omega
    clear hrb hb10 ho10 hu10 hS10 hK hD r1 hb hu htk htd hI hI2 hat2 hkq hdq hgk hD10 hu110 hnn
    go_upto_region 20 with(fail)
    go_cut [] (fun wz=>∃a b c,wz.heap[b8]?=some (.cells #[.int .i64 2,.slice a b c,.slice none 0 0,.slice ad (q+1) cd] 220 (0,0))∧KOwn wz w1.heap.size (.slice a b c) (ks.take (q+1))∧wz.ownsRow w1.heap.size 79 1 (.slice ad (q+1) cd) (q+1) ((ds.take (q+1)).map fun d:Nat=>Value.int .u32 (d:Int))∧Upd [] w1 wz)
    case first=>
     go_region_law (first | (refine step_append_run (by rfl) _ _ _ (by rfl) (by rfl) (by rfl) hrun10 ?_))
     all_goals
      go_wp2_with fail
      go_meet
      have us:Upd [b8] w10 (w10.setCell ⟨b8,1,none⟩ (.slice a10 q10 c10)):=(Upd.refl _ _).set _ (.inl (by simp))
      refine⟨a10,q10,c10,by rw[blk_set HB10.out];rfl,?_,own_upd HD10.out us (fun k c' hk _ e=>by simp at hk;subst hk;rw[HB10.out] at e;simp at e),HU10.out.set _ (.inr (by have:=HB8.out;omega))⟩
      unfold KOwn
      rw[HTK.out,show(ks.take (q+1)).length=q+1 from by rw[List.length_take];omega]
      exact own_upd HO10.out us (fun k c' hk _ e=>by simp at hk;subst hk;rw[HB10.out] at e;simp at e)
    case rest=>
     rename World=>wz
     obtain⟨a,b,c3,hbz,hKz,hDz,huz⟩:=hcut
     clear n0 n1 n3 n1a m0 m1 m3 mf hldc hbld hrun10
     obtain⟨n0,n1,-,n3⟩:=op_cells9 hbz
     have hnum:=number_spec (w:=wz.drew) ((HRB.out.below huz).below (Upd.refl _ _).drew) I2 (I2:Int) rfl (by rw[HE.out];omega) (by rw[HE.out];omega)
     rw[HNN.out] at hnum
     have HNUM2:=Lib.hid hnum
     obtain⟨a11,q11,c11,w11,S11,hrun11,ho11,hu11,hS11⟩:=row_push (T:=218) (e:=79) Tryz.underlying218 infoNum rfl (by omega) (by omega) (w:=wz.drew) hDz (by omega) huz.size [.int .u32 (dq:Int)] rfl (by simp[Value.oneCell'])
     have hrb:wz.drew.heap[b8]?=_:=hbz
     have hb11:w11.heap[b8]?=some (.cells #[.int .i64 2,.slice a b c3,.slice none 0 0,.slice ad (q+1) cd] 220 (0,0)):=(hu11.block _ (blk_lt hrb) (fun k=>by obtain⟨_,c,e⟩:=hS11 _ k;rw[hrb] at e;simp at e)).trans hbz
     obtain⟨m0,m1,-,m3⟩:=op_cells9 hb11
     have mf:=blk_free hb11 3
     have n3a:=cell_upd (w':=wz.alloc (.cells #[.int .u32 (dq:Int)] 79)) n3 ((Upd.refl [] _).alloc _) (by simp)
     have hK11:KOwn w11 w1.heap.size (.slice a b c3) (ks.take (q+1)):=own_upd (w:=wz.drew) hKz hu11 (fun k c' hk _ e=>by obtain⟨_,c2,e2⟩:=hS11 _ hk;rw[e2] at e;simp at e)
     have hu111:Upd [] w1 w11:=(huz.drew).late hu11 (fun k hk=> .inr (hS11 _ hk).1)
     have HB11:=Lib.hid hb11
     have HO11:=Lib.hid ho11
     have HU11:=Lib.hid hu111
     have HK11:=Lib.hid hK11
     clear hrb hb11 ho11 hu11 hS11 hKz hDz hbz huz hK11 hu111 hnum
     go_wp2_with fail
     go_region_law (first | (go_simp;go_at_call 211;(with_reducible refine HNUM2.out.mono ?_);rintro e w' ⟨rfl,rfl⟩;dsimp only) | (refine step_append_run (by rfl) _ _ _ (by rfl) (by rfl) (by rfl) hrun11 ?_))
     all_goals
      have us:Upd [b8] w11 (w11.setCell ⟨b8,3,none⟩ (.slice a11 q11 c11)):=(Upd.refl _ _).set _ (.inl (by simp))
      have HBX:Hid ((w11.setCell ⟨b8,3,none⟩ (.slice a11 q11 c11)).heap[b8]?=some (.cells #[.int .i64 2,.slice a b c3,.slice none 0 0,.slice a11 q11 c11] 220 (0,0))):=by
       show _=_
       rw[blk_set HB11.out];rfl
      have HKX:=Lib.hid (own_upd HK11.out us (fun k c' hk _ e=>by simp at hk;subst hk;rw[HB11.out] at e;simp at e))
      have HDX:Hid (DOwn (w11.setCell ⟨b8,3,none⟩ (.slice a11 q11 c11)) w1.heap.size (.slice a11 q11 c11) (ds.take (q+1+1))):=by
       show DOwn _ _ _ _
       unfold DOwn
       rw[HTD.out,show(ds.take (q+1+1)).length=q+1+1 from by rw[List.length_take];have:=HOK.out.n;omega]
       exact own_upd HO11.out us (fun k c' hk _ e=>by simp at hk;subst hk;rw[HB11.out] at e;simp at e)
      have HUX:=Lib.hid (HU11.out.set (b:=b8) (o:=3) (.slice a11 q11 c11) (.inr (by have:=HB8.out;omega)))
      clear us n0 n1 n3 n3a m0 m1 m3 mf hrun11
      go_wp2_with fail
      exact⟨⟨q+1,_,_,by omega,by go_num,HBX.out,HKX.out,HDX.out,HUX.out⟩,by simp[intOf];omega⟩
   ·obtain rfl:q=ks.length:=by omega
    have hlt':decide ((ks.length:Int)<(ks.length:Int))=false:=by simp
    have hnd:=HOK.out.n
    rw[List.take_length] at hK
    rw[show ds.take (ks.length+1)=ds from List.take_of_length_le (by omega)] at hD
    have HB:=Lib.hid hb
    have HK:=Lib.hid hK
    have HV:=Lib.hid hD
    have HUr:=Lib.hid hu
    have hld4:=run_cells_blk (n:=4) (cs:=[.int .i64 2,vk,.slice none 0 0,vd]) hb rfl
    have hb4:wr.heap[b4]?=some (.cells #[.int .i64 0,.slice none 0 0,.slice none 0 0,.slice none 0 0] 220 (0,0)):=(hu.block _ (Nat.lt_of_lt_of_le (blk_lt H4.out) HU1.out.size) (by simp)).trans ((HU1.out.block _ (blk_lt H4.out) (by simp;rintro rfl;have:=HH.out.jr.at_.st;have h4:=H4.out;rw[(HUA.out.block _ (blk_lt this) (by simp)).trans this] at h4;simp at h4)).trans H4.out)
    obtain⟨m0,m1,m2,m3⟩:=op_cells9 hb4
    have f0:=blk_free hb4 0
    have f1:=blk_free hb4 1
    have f2:=blk_free hb4 2
    have f3:=blk_free hb4 3
    have HB4r:=Lib.hid hb4
    obtain⟨ak,ck,rfl⟩:=own_shape hK
    obtain⟨av,cv,rfl⟩:=own_shape hD
    clear hb hK hD hu hnd hb4
    go_wp2_with fail
    have hbe:=blk_set (blk_set (blk_set (blk_set HB4r.out 0 (.int .i64 2)) 1 (.slice ak ks.length ck)) 2 (.slice none 0 0)) 3 (.slice av ds.length cv)
    have hue:Upd [b4] w1 ((((wr.setCell ⟨b4,0,none⟩ (.int .i64 2)).setCell ⟨b4,1,none⟩ (.slice ak ks.length ck)).setCell ⟨b4,2,none⟩ (.slice none 0 0)).setCell ⟨b4,3,none⟩ (.slice av ds.length cv)):=((((HUr.out.mono (by simp)).set _ (.inl (by simp))).set _ (.inl (by simp))).set _ (.inl (by simp))).set _ (.inl (by simp))
    have huk:Upd [b4] wr ((((wr.setCell ⟨b4,0,none⟩ (.int .i64 2)).setCell ⟨b4,1,none⟩ (.slice ak ks.length ck)).setCell ⟨b4,2,none⟩ (.slice none 0 0)).setCell ⟨b4,3,none⟩ (.slice av ds.length cv)):=((((Upd.refl _ _).set _ (.inl (by simp))).set _ (.inl (by simp))).set _ (.inl (by simp))).set _ (.inl (by simp))
    generalize ((((wr.setCell ⟨b4,0,none⟩ (.int .i64 2)).setCell ⟨b4,1,none⟩ (.slice ak ks.length ck)).setCell ⟨b4,2,none⟩ (.slice none 0 0)).setCell ⟨b4,3,none⟩ (.slice av ds.length cv))=wE at *
    have hbn:=HB4.out
    refine bodyPost_ret (results_row_tmp (p:=4) (u:=5) (ty:=220) (by rfl) _ _ b4 _ (by rfl) (run_loadVar_row _ b4 _ _ _ _ _ hbe Tryz.underlying220 rfl (by kernel_rfl))) (by rfl) ?_
    refine⟨_,_,rfl,own_low (own_upd HK.out huk (fun k c' hk _ e=>by simp at hk;subst hk;rw[HB4r.out] at e;simp at e)) ?_,own_low (own_upd HV.out huk (fun k c' hk _ e=>by simp at hk;subst hk;rw[HB4r.out] at e;simp at e)) ?_,?_,?_⟩
    ·exact Nat.le_trans HUA.out.size HU1.out.size
    ·exact Nat.le_trans HUA.out.size HU1.out.size
    ·exact SpAt.late (HH.out) H1.out ((HUA.out.mono (by simp)).trans HU1.out) hue (fun k hk=>by simp at hk;omega)
    ·exact((HUA.out.mono (by simp)).trans HU1.out).late hue (fun k hk=> .inr (by simp at hk;omega))
end
end Go.Proofs.YtgfbepakonjbnaaGreat
end
