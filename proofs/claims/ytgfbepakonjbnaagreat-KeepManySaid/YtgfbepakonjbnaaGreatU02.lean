/-
  space.set, octet.own, octet.SetBit.
-/
import Derived.Test.YtgfbepakonjbnaaGreatU01
import Derived.Laws.BitsAllLaws
import Derived.Laws.Bits128
import Derived.Laws.Entries
section
namespace Go.Proofs.YtgfbepakonjbnaaGreat
open Go.RowKit
theorem i64_and7(n:Int):bits .and .i64 n 7=n % 8:=by
 have h7:(BitVec.ofInt 64 7).toNat=2 ^ 3-1:=by decide
 have key:(BitVec.ofInt 64 n &&& BitVec.ofInt 64 7).toNat=(n % ((2 ^ 64:Nat):Int)).toNat % 2 ^ 3:=by
  rw[BitVec.toNat_and,BitVec.toNat_ofInt,h7,Nat.and_two_pow_sub_one_eq_mod]
 show IntKind.i64.wrap ((BitVec.ofInt 64 n &&& BitVec.ofInt 64 7).toNat:Nat)=n % 8
 rw[key,IntKind.wrap_i64]
 omega
theorem shr_and1{x k:Nat}(hx:x<256):(bits BinOp.and IntKind.u8 ((x:Int) / 2 ^ k) 1 == 1)=x.testBit k:=by
 have e:((x:Int) / 2 ^ k)=((x / 2 ^ k:Nat):Int):=by
  rw[Int.natCast_ediv];congr 1
 have hlt:x / 2 ^ k<256:=Nat.lt_of_le_of_lt (Nat.div_le_self _ _) hx
 have:=u8_and_nat (x / 2 ^ k) 1 hlt (by decide)
 rw[e,show(1:Int)=((1:Nat):Int) from rfl,this,nat_mask1,Nat.testBit_eq_decide_div_mod_eq]
 rw[Bool.eq_iff_iff,beq_iff_eq,decide_eq_true_eq]
 omega
set_option maxHeartbeats 400000 in
theorem set_spec(v:Value)(l:List UInt8)(i:Nat)(w:World)(hr:Rd w v l)(hi:i<8*l.length)(hl:l.length≤512) :
  Calls Tryz.prog 123 #[v,.int .i64 (i:Int)] w fun e w'=>e=.returned (.bool (bitB l i))∧w=w':=by
 obtain⟨ao,cap,rfl,hc,hh⟩:=hr
 obtain⟨b,off,rfl,hcell⟩:=hh (by omega)
 have hc0:=hcell (i / 8) (by omega)
 obtain⟨x,hx⟩:∃x,x=(l[i / 8]'(by omega)).toNat:=⟨_,rfl⟩
 have hc1:w.cell? ⟨b,off+i / 8,none⟩=some (.int .u8 (x:Int)):=by rw[hc0,hx];rfl
 obtain⟨k,hk⟩:∃k,k=i % 8:=⟨_,rfl⟩
 have hand:bits BinOp.and IntKind.i64 (i:Int) 7=(k:Int):=by rw[i64_and7,hk];omega
 have hk8:k<8:=by omega
 have hw:IntKind.u64.wrap (k:Int)=(k:Int):=by rw[IntKind.wrap_u64];omega
 have hx8:x<256:=by rw[hx];exact UInt8.toNat_lt _
 have HB:Hid (bitB l i=x.testBit k):=by
  show _=_
  unfold bitB
  rw[hx,hk,List.getD_eq_getElem?_getD,List.getElem?_eq_getElem (by omega)];rfl
 clear hc0 hcell hh hx hk
 go_enter Tryz.func123,Tryz.ntmps123
 go_wp2_with fail
 go_ret
 exact⟨ret_bool (by rw[HB.out];exact shr_and1 hx8),rfl⟩
theorem run_make_cap(n:Nat)(hn:n≤100000)(w:World):(Instr.makeSlice 32 (.int .i64 0) (.int .i64 (n:Int))).run Tryz.prog w =
  .ok (.slice (some ⟨w.heap.size,0,none⟩) 0 n) (w.alloc (.cells (bts (List.replicate n 0)).toArray 5)):=by
 obtain⟨i0,hi,hz0,hz1,hz2⟩:=info_parts infoU8
 have:=run_make (P:=Tryz.prog) w 32 5 i0 (.int .u8 0) Tryz.underlying32 hi hz0 .i64 .i64 0 n (by omega) (by omega) (by rw[hz2];omega) (by omega)
 rw[this,hz1]
 simp only[Int.toNat_natCast,Nat.mul_one,Int.toNat_zero]
 rw[show(Value.int IntKind.u8 0).cells=#[.int .u8 0] from rfl,madeCells_bytes]
set_option maxHeartbeats 400000 in
theorem own_spec(v:Value)(l:List UInt8)(w:World)(hr:Rd w v l)(h0:0<l.length)(hl:l.length≤100000) :
  Calls Tryz.prog 227 #[v,.int .i64 0] w fun e w'=>∃k c,e=.returned (.slice (some ⟨k,0,none⟩) l.length c)∧Own w' 5 (fun k=>w.heap.size≤k) (.slice (some ⟨k,0,none⟩) l.length c) l∧Upd [] w w':=by
 obtain⟨ao,cap,rfl,_,hh⟩:=hr.cells
 obtain⟨ad,rfl,hc⟩:=hh h0
 have hmk:=run_make_cap l.length hl w
 obtain⟨i0,hi,hz0,hz1,hz2⟩:=info_parts infoU8
 have hc':∀j u,(bts l)[j]?=some u→(w.alloc (.cells (bts (List.replicate l.length 0)).toArray 5)).cell? (ad.add j)=some u:=by
  intro j u hj
  have hb:(ad.add j).block<w.heap.size:=block_lt_of_cell (hc j u hj)
  rw[World.cell?_of_block (w:=w) (blk_alloc_ne hb)]
  exact hc j u hj
 have hrow:(w.alloc (.cells (bts (List.replicate l.length 0)).toArray 5)).ownsRow w.heap.size 5 1 (.slice (some ⟨w.heap.size,0,none⟩) 0 l.length) 0 []:=
  ⟨by simp,.inr ⟨w.heap.size,l.length,_,rfl,Nat.le_refl _,blk_alloc _,by omega,by unfold maxLen;omega,by simp,by simp⟩⟩
 obtain⟨v',w',hrun,hown,hg,_⟩:=run_append_own (P:=Tryz.prog) (w.alloc (.cells (bts (List.replicate l.length 0)).toArray 5)) w.heap.size 32 0 5 i0 (.int .u8 0) 1 1 Tryz.underlying32 hi hz0 hz1 hz2 rfl (by decide) _ 0 [] hrow ad l.length cap (bts l) (by simp) hc' (bts_one _) (by unfold maxLen;omega) (by omega) (by simp)
 have hrun':∀ty,(Builtin.append_ #[32,32] ty #[.slice (some ⟨w.heap.size,0,none⟩) 0 l.length,.slice (some ad) l.length cap]).run Tryz.prog (w.alloc (.cells (bts (List.replicate l.length 0)).toArray 5))=.ok v' w':=fun _=>hrun
 have ho:OwnN w' 5 (fun k=>w.heap.size≤k) v' l:=ownN_of_row (by simpa using hown)
 have hu:Upd [] w w':=((Upd.refl _ _).alloc _).grown hg (fun k hk=>by cases hk;exact .inr (Nat.le_refl _))
 obtain⟨k,rest,hk,rfl,hb⟩:=ho.own h0
 have HO:Hid (Own w' 5 (fun k=>w.heap.size≤k) (.slice (some ⟨k,0,none⟩) l.length (l.length+rest.length)) l):=⟨k,rest,hk,rfl,hb⟩
 have HU:=Lib.hid hu
 clear hh hc hr hi hz0 hz1 hz2 hc' hrow hrun hown hg ho hu hk hb
 generalize (bts (List.replicate l.length 0)).toArray=Z at *
 go_enter Tryz.func227,Tryz.ntmps227
 go_wp2_with (at_builtin;refine wpList_append_run rfl _ _ _ rfl rfl rfl hrun' ?_)
 go_ret
 exact⟨_,_,rfl,HO.out,HU.out⟩
theorem setB_eq{l:List UInt8}{i x k:Nat}(hi:i / 8<l.length)(hx:x=(l[i / 8]'hi).toNat)(hk:k=i % 8)(on:Bool):setB l i on=l.set (i / 8) (UInt8.ofNat (setN x k on)):=by
 unfold setB
 rw[hx,hk,List.getD_eq_getElem?_getD,List.getElem?_eq_getElem hi];rfl
theorem own_set{w:World}{k c:Nat}{F:Nat→Prop}{l:List UInt8}(h:Own w 5 F (.slice (some ⟨k,0,none⟩) l.length c) l){q:Nat}(hq:q<l.length){y:Nat}(hy:y<256):Own (w.setCell ⟨k,q,none⟩ (.int .u8 (y:Int))) 5 F (.slice (some ⟨k,0,none⟩) l.length c) (l.set q (UInt8.ofNat y)):=by
 obtain⟨k',rest,hF,e,hb⟩:=h
 obtain⟨rfl,rfl⟩:k=k'∧c=l.length+rest.length:=by simpa using e
 refine⟨k,rest,hF,by rw[List.length_set],?_⟩
 have hv:(.int .u8 (y:Int):Value)=bv (UInt8.ofNat y):=by unfold bv;rw[ofNat_toNat hy]
 rw[hv,blk_set hb]
 congr 2
 rw[List.setIfInBounds_toArray,List.set_append_left _ _ (by simpa using hq)]
 unfold bts
 rw[List.map_set]
set_option maxRecDepth 100000 in
set_option maxHeartbeats 1000000 in
theorem setbit_spec(v:Value)(l:List UInt8)(i:Nat)(on:Bool)(w:World)(hr:Rd w v l)(hi:i<8*l.length)(hl:l.length≤512) :
  Calls Tryz.prog 193 #[v,.int .i64 (i:Int),.bool on] w fun e w'=>∃k c,e=.returned (.tuple #[.slice (some ⟨k,0,none⟩) l.length c,.int .i64 0])∧Own w' 5 (fun k=>w.heap.size≤k) (.slice (some ⟨k,0,none⟩) l.length c) (setB l i on)∧Upd [] w w':=by
 obtain⟨av,cv,rfl,_⟩:=id hr
 have HW:=Lib.hid (own_spec _ l w hr (by omega) (by omega))
 obtain⟨x,hx⟩:∃x,x=(l[i / 8]'(by omega)).toNat:=⟨_,rfl⟩
 obtain⟨k,hk⟩:∃k,k=i % 8:=⟨_,rfl⟩
 have HSB:=fun on=>Lib.hid (setB_eq (by omega) hx hk on)
 have HX:=Lib.hid hx
 have hand:bits BinOp.and IntKind.i64 (i:Int) 7=(k:Int):=by rw[i64_and7,hk];omega
 have hk8:k<8:=by omega
 have hw:IntKind.u64.wrap (k:Int)=(k:Int):=by rw[IntKind.wrap_u64];omega
 have hx8:x<256:=by rw[hx];exact UInt8.toNat_lt _
 have d1:decide (l.length≤i / 8)=false:=decide_eq_false (by omega)
 have d2:decide ((l.length:Int)≤(i:Int) / 8)=false:=decide_eq_false (by omega)
 have d3:decide ((i:Int)<0)=false:=decide_eq_false (by omega)
 clear hr hx hk
 go_enter Tryz.func193,Tryz.ntmps193
 go_wp2_with fail
 refine HW.out.mono ?_
 rintro e w1 ⟨kb,c,rfl,ho,hu⟩
 obtain⟨kb',rest,hF,e,hb⟩:=id ho
 obtain⟨rfl,rfl⟩:kb=kb'∧c=l.length+rest.length:=by simpa using e
 have hcell:w1.cell? ⟨kb,i / 8,none⟩=some (.int .u8 (x:Int)):=by
  rw[blk_cell hb,HX.out]
  simp[List.getElem?_append_left,bts,show i / 8<l.length from by omega,bv]
 have hfz:=blk_free hb (i / 8)
 have i0:(0:Int)≤(i:Int) / 8:=by omega
 have i1:(i:Int) / 8<(l.length:Int):=by omega
 have HO:=Lib.hid ho
 have HU:=Lib.hid hu
 clear ho hu hb hF e
 have hpw:((2:Int) ^ k % 256)=((2 ^ k:Nat):Int):=by
  have hp:=pow_lt8 hk8
  have e2:((2:Int) ^ k)=((2 ^ k:Nat):Int):=(Int.natCast_pow 2 k).symm
  rw[e2]
  generalize 2 ^ k=P at hp
  omega
 obtain⟨y1,hy1⟩:∃y1,y1=clrN x k:=⟨_,rfl⟩
 obtain⟨y2,hy2⟩:∃y2,y2=(clrN x k ||| 2 ^ k):=⟨_,rfl⟩
 have hn:bits BinOp.andNot IntKind.u8 (x:Int) ((2:Int) ^ k % 256)=(y1:Int):=by rw[hpw,u8_andNot_nat _ _ hx8 (pow_lt8 hk8),hy1];rfl
 have hor:bits BinOp.or IntKind.u8 (y1:Int) ((2:Int) ^ k % 256)=(y2:Int):=by rw[hpw,hy1,u8_or_nat _ _ (clrN_lt hx8) (pow_lt8 hk8),hy2]
 have hl1:y1<256:=by rw[hy1];exact clrN_lt hx8
 have hl2:y2<256:=by rw[hy2];exact setN_lt hx8 hk8 true
 have HY1:Hid (setN x k false=y1):=by show _=_;rw[hy1];rfl
 have HY2:Hid (setN x k true=y2):=by show _=_;rw[hy2];rfl
 clear hpw hy1 hy2
 have hq:i / 8<l.length:=by omega
 have o1:=own_set HO.out hq hl1
 have u1:Upd [] w (w1.setCell ⟨kb,i / 8,none⟩ (.int .u8 (y1:Int))):=HU.out.set _ (.inr (by obtain⟨k',_,h,e,_⟩:=HO.out;simp at e;rw[e.1];exact h))
 have u2:Upd [] w ((w1.setCell ⟨kb,i / 8,none⟩ (.int .u8 (y1:Int))).setCell ⟨kb,i / 8,none⟩ (.int .u8 (y2:Int))):=u1.set _ (.inr (by obtain⟨k',_,h,e,_⟩:=HO.out;simp at e;rw[e.1];exact h))
 have o2:Own ((w1.setCell ⟨kb,i / 8,none⟩ (.int .u8 (y1:Int))).setCell ⟨kb,i / 8,none⟩ (.int .u8 (y2:Int))) 5 (fun k=>w.heap.size≤k) (.slice (some ⟨kb,0,none⟩) l.length (l.length+rest.length)) (l.set (i / 8) (UInt8.ofNat y2)):=by
  have o1':Own (w1.setCell ⟨kb,i / 8,none⟩ (.int .u8 (y1:Int))) 5 (fun k=>w.heap.size≤k) (.slice (some ⟨kb,0,none⟩) (l.set (i / 8) (UInt8.ofNat y1)).length (l.length+rest.length)) (l.set (i / 8) (UInt8.ofNat y1)):=by rw[List.length_set];exact o1
  have:=own_set o1' (q:=i / 8) (by rw[List.length_set];exact hq) hl2
  rw[List.length_set,List.set_set] at this
  exact this
 have O1:=Lib.hid o1
 have O2:=Lib.hid o2
 have U1:=Lib.hid u1
 have U2:=Lib.hid u2
 clear o1 o2 u1 u2
 cases on
 ·go_wp2_with fail
  go_ret2
  exact⟨_,_,rfl,by rw[(HSB false).out,HY1.out];exact O1.out,U1.out⟩
 ·go_wp2_with fail
  go_ret2
  exact⟨_,_,rfl,by rw[(HSB true).out,HY2.out];exact O2.out,U2.out⟩
end Go.Proofs.YtgfbepakonjbnaaGreat
end
