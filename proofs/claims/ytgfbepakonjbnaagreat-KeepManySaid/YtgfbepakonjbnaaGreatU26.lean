/-
  keep.val, keep.place.
-/
import Derived.Test.YtgfbepakonjbnaaGreatU25
import Derived.Test.YtgfbepakonjbnaaGreatU12
import Derived.Test.YtgfbepakonjbnaaGreatU22
section
set_option linter.unusedSimpArgs false
set_option linter.unusedVariables false
namespace Go.Proofs.YtgfbepakonjbnaaGreat
open Go.RowKit Go.MapKept Go.ChangeMaps
theorem noteK3(n a l:Nat):noteK z16 0 n a l 3=valR n a l:=rfl
theorem run_index3(s u v:Nat){q:Nat}(hq:q<3)(w:World):(Instr.index 273 (.agg #[.int .i64 (s:Int),.int .i64 (u:Int),.int .i64 (v:Int)]) (.int .i64 (q:Int))).run Tryz.prog w=.ok (.int .i64 (noteV s u v q:Int)) w:=by
 obtain rfl | rfl | rfl:q=0∨q=1∨q=2:=by omega
 all_goals kernel_rfl
theorem z16_cells:(#[.int .u8 0,.int .u8 0,.int .u8 0,.int .u8 0,.int .u8 0,.int .u8 0,.int .u8 0,.int .u8 0,.int .u8 0,.int .u8 0,.int .u8 0,.int .u8 0,.int .u8 0,.int .u8 0,.int .u8 0,.int .u8 0]:Array Value)=(bts z16).toArray:=rfl
theorem infoVal16:(Tryz.prog.info? 115).map (·.size)=some 16:=by kernel_rfl
theorem blk_set_u8'{w:World}{b:Nat}{l:List UInt8}{T:TypeId}(h:w.heap[b]?=some (.cells (bts l).toArray T (0,0)))(i:Nat){y:Nat}(hy:y<256):(w.setCell ⟨b,i,none⟩ (.int .u8 (y:Int))).heap[b]?=some (.cells (bts (l.set i (UInt8.ofNat y))).toArray T (0,0)):=by
 rw[blk_set h,List.setIfInBounds_toArray,bts_set _ _ hy]
theorem results_pl1{fn:Func}{p:Tmp}(h:fn.results=#[.cell p 92])(tmps:Array Value)(w:World)(g:Nat)(x y z:Value)
  (hp:tmps.getD p undef=.pointer (some ⟨g,0,none⟩)) (hb:w.heap[g]?=some (.cells #[x,y,z] 92 (0,0))):(results fn tmps).run Tryz.prog w=.ok (.agg #[x,y,z]) w:=
 results_cell_row h tmps w g _ _ _ _ hp hb Tryz.underlying92 rfl (by kernel_rfl)
set_option maxRecDepth 100000 in
set_option maxHeartbeats 4000000 in
theorem val_spec(n a l:Nat)(hn:n≤100000)(ha:a≤100000)(hl:l≤100000)(w:World):Calls Tryz.prog 171 #[plV (n,a,l)] w fun e w'=>e=.returned (arr (valR n a l))∧Upd [] w w':=by
 obtain⟨w3,hw3⟩:∃w3,w3=((w.alloc (.cells #[.int .i64 (n:Int),.int .i64 (a:Int),.int .i64 (l:Int)] 92)).alloc (.cells (bts z16).toArray 115)).alloc (.cells (bts z16).toArray 115):=⟨_,rfl⟩
 obtain⟨b1,hb1⟩:∃b,b=w.heap.size:=⟨_,rfl⟩
 obtain⟨b2,hb2⟩:∃b,b=w.heap.size+1:=⟨_,rfl⟩
 obtain⟨b3,hb3⟩:∃b,b=w.heap.size+1+1:=⟨_,rfl⟩
 have hu3:Upd [] w w3:=by rw[hw3];exact(((Upd.refl _ _).alloc _).alloc _).alloc _
 have k1:w3.heap[b1]?=some (.cells #[.int .i64 (n:Int),.int .i64 (a:Int),.int .i64 (l:Int)] 92 (0,0)):=by
  rw[hw3,hb1,blk_alloc_ne (by simp;omega),blk_alloc_ne (by simp)];exact blk_alloc _
 have k2:w3.heap[b2]?=some (.cells (bts z16).toArray 115 (0,0)):=by
  rw[hw3,hb2,blk_alloc_ne (by simp)]
  have:=blk_alloc (w:=w.alloc (.cells #[.int .i64 (n:Int),.int .i64 (a:Int),.int .i64 (l:Int)] 92)) (.cells (bts z16).toArray 115)
  simpa using this
 have k3:w3.heap[b3]?=some (.cells (bts z16).toArray 115 (0,0)):=by
  rw[hw3,hb3]
  have:=blk_alloc (w:=(w.alloc (.cells #[.int .i64 (n:Int),.int .i64 (a:Int),.int .i64 (l:Int)] 92)).alloc (.cells (bts z16).toArray 115)) (.cells (bts z16).toArray 115)
  simpa using this
 have s0:w3.cell? ⟨b1,0,none⟩=some (.int .i64 (n:Int)):=by rw[blk_cell k1];rfl
 have s1:w3.cell? ⟨b1,1,none⟩=some (.int .i64 (a:Int)):=by rw[blk_cell k1];rfl
 have s2:w3.cell? ⟨b1,2,none⟩=some (.int .i64 (l:Int)):=by rw[blk_cell k1];rfl
 have HW:=Lib.hid hw3
 have HB:=Lib.hid (And.intro hb1 (And.intro hb2 hb3))
 have HU3:=Lib.hid hu3
 have HK2:=Lib.hid k2
 have HK3:=Lib.hid k3
 clear hw3 hb1 hb2 hb3 hu3 k1 k2 k3
 unfold plV
 dsimp only
 go_enter Tryz.func171,Tryz.ntmps171
 go_upto_region 2 with(fail)
 have hw3:=HW.out
 obtain⟨hb1,hb2,hb3⟩:=HB.out
 rw[z16_cells,← hw3]
 have e1:w.heap.size+1=b2:=hb2.symm
 have e2:w.heap.size+1+1=b3:=hb3.symm
 rw[e2,e1,← hb1]
 clear hw3 hb1 hb2 hb3 e1 e2
 go_wp2_with fail
 go_loopw [14] (fun i wr=>∃q:Nat,q≤3∧i=.int .i64 (q:Int)∧wr.heap[b3]?=some (.cells (bts (noteK z16 0 n a l q)).toArray 115 (0,0))∧Upd [b3] w3 wr) (fun i _=>3-(intOf i).toNat)
 case atStart=>exact⟨0,by omega,rfl,HK3.out,Upd.refl _ _⟩
 case round=>
  clear s0 s1 s2
  obtain⟨q,hq,rfl,hb,hu⟩:=hrel
  have hlq:(noteK z16 0 n a l q).length=16:=noteK_length (by decide) _ (by omega)
  by_cases hlt:q<3
  ·have hlt':decide ((q:Int)<3)=true:=decide_eq_true (by omega)
   have hix:=run_index3 n a l hlt
   have hV:=noteV_le (q:=q) hn ha hl
   have hstq:=noteK_step z16 0 n a l (q:=q) (by omega)
   obtain⟨V,hVe⟩:∃V,V=noteV n a l q:=⟨_,rfl⟩
   rw[← hVe] at hix hV hstq
   obtain⟨A,hA⟩:∃A,A=0+4*q:=⟨_,rfl⟩
   rw[← hA] at hstq
   generalize noteK z16 0 n a l q=LQ at hb hstq hlq
   have eA:4*(q:Int)=(A:Int):=by omega
   have hA4:A+4≤16:=by omega
   have HB:=Lib.hid hb
   have HU:=Lib.hid hu
   have HSQ:=Lib.hid hstq
   obtain⟨wo,rfl⟩:∃wo:World,wo=wr:=⟨_,rfl⟩
   clear hb hu hA hstq hVe
   go_wp2_with fail
   go_loopw [18] (fun i wr=>∃p:Nat,p≤4∧i=.int .i64 (p:Int)∧wr.heap[b3]?=some (.cells (bts (putK LQ A 4 V p)).toArray 115 (0,0))∧Upd [b3] w3 wr) (fun i _=>4-(intOf i).toNat)
   case atStart=>exact⟨0,by omega,rfl,by rw[putK_zero];exact HB.out,HU.out⟩
   case round=>
    obtain⟨p,hp,rfl,hb,hu2⟩:=hrel
    by_cases hpt:p<4
    ·have hpt':decide ((p:Int)<4)=true:=decide_eq_true (by omega)
     have hlen:(putK LQ A 4 V p).length=16:=by rw[putK_length (by omega) (by omega)];exact hlq
     have hst:=putK_step (b:=LQ) (a:=A) (n:=4) (v:=V) hpt (by omega)
     obtain⟨I,hI⟩:∃I,I=A+p:=⟨_,rfl⟩
     have hIk:(A:Int)+(p:Int)=(I:Int):=by omega
     have hI16:I<16:=by omega
     obtain⟨Y,hY⟩:∃Y,Y=V / 256 ^ (4-1-p) % 256:=⟨_,rfl⟩
     obtain⟨old,hcl⟩:∃old,wr.cell? ⟨b3,I,none⟩=some old:=⟨_,by rw[blk_cell hb];exact Array.getElem?_eq_getElem (by rw[List.size_toArray,bts_length];omega)⟩
     have hf:=blk_free hb I
     have o2:=blk_set_u8' hb I (y:=Y) (by omega)
     have eY:UInt8.ofNat Y=UInt8.ofNat (V / 256 ^ (4-1-p)):=by
      apply UInt8.toNat_inj.1
      rw[UInt8.toNat_ofNat',UInt8.toNat_ofNat',hY];omega
     rw[eY,hI,hst,← hI] at o2
     have u2:Upd [b3] wr (wr.setCell ⟨b3,I,none⟩ (.int .u8 (Y:Int))):=(Upd.refl _ _).set _ (by simp)
     have HO2:=Lib.hid o2
     have HUx:=Lib.hid (hu2.trans u2)
     have i0:(0:Int)≤(I:Int):=by omega
     have i1:(I:Int)<16:=by omega
     have t0:decide ((24:Int)-8*(p:Int)<0)=false:=decide_eq_false (by omega)
     have hsh:(0:Int)≤24-8*(p:Int):=by omega
     have hsh2:24-8*(p:Int)≤24:=by omega
     have hYI:(V:Int) / 2 ^ (24-8*p) % 256=(Y:Int):=by
      have e1:(2:Int) ^ (24-8*p)=((256 ^ (4-1-p):Nat):Int):=by
       rw[show(256:Nat)=2 ^ 8 from rfl,← Nat.pow_mul,Int.natCast_pow,show 24-8*p=8*(4-1-p) from by omega];rfl
      rw[e1,hY];omega
     have HYI:=Lib.hid hYI
     clear hb hu2 hlen hst hI eY o2 u2 hYI hY
     go_wp2_with fail
     exact⟨⟨p+1,by omega,by go_num,by rw[HYI.out];exact HO2.out,by rw[HYI.out];exact HUx.out⟩,by simp[intOf];omega⟩
    ·obtain rfl:p=4:=by omega
     have hpt':decide (((4:Nat):Int)<4)=false:=rfl
     rw[putK_full,HSQ.out] at hb
     have HO2:=Lib.hid hb
     have HU3:=Lib.hid hu2
     clear hb hu2
     go_wp2_with fail
     refine⟨⟨q+1,by omega,by go_num,HO2.out,HU3.out⟩,by simp[intOf];omega⟩
  ·obtain rfl:q=3:=by omega
   have hlt':decide (((3:Nat):Int)<3)=false:=rfl
   rw[noteK3] at hb
   obtain⟨_,hb2,hb3⟩:=HB.out
   have h2:=(hu.block b2 (blk_lt HK2.out) (by simp;omega)).trans HK2.out
   have hik:(Tryz.prog.info? 115).map (·.size)=some (bts (valR n a l)).toArray.size:=by rw[List.size_toArray,bts_length,valR_length];exact infoVal16
   have hik2:(Tryz.prog.info? 115).map (·.size)=some (bts z16).toArray.size:=infoVal16
   have hu4:Upd [b2] wr (wr.setRow b2 (bts (valR n a l)).toArray):=upd_row (Upd.refl _ _) _ (.inl (by simp))
   have HU4:=Lib.hid ((HU3.out.late hu (fun i hi=> .inr (by simp at hi;omega))).late hu4 (fun i hi=> .inr (by simp at hi;omega)))
   have HB3:=Lib.hid hb
   have HB2:=Lib.hid h2
   have hone:=bts_oneA (valR n a l)
   clear hb hu h2 hu4 hb2 hb3
   go_wp2_with (first | (refine wpList_load_row (by rfl) 115 (.tmp 3) (by rfl) b3 (by rfl) _ _ _ _ HB3.out Tryz.underlying115 rfl hik ?_) | (refine wpList_store_row (by rfl) 115 (.tmp 2) (.tmp 36) (by rfl) b2 (bts (valR n a l)).toArray (by rfl) (by rfl) _ _ HB2.out hik (by rw[List.size_toArray,List.size_toArray,bts_length,bts_length,valR_length];rfl) hone ?_))
   refine bodyPost_ret (results_cell_row (p:=2) (ty:=115) (by rfl) _ _ b2 _ _ _ _ (by rfl) (setRow_heap _ _ _ _ _ _ HB2.out) Tryz.underlying115 rfl hik) (by rfl) ?_
   exact⟨rfl,HU4.out⟩
set_option maxRecDepth 100000 in
set_option maxHeartbeats 4000000 in
theorem kplace_spec(L:Bs)(hL:L.length=16)(w:World):Calls Tryz.prog 90 #[arr L] w fun e w'=>e=.returned (plV (num L 0 4,num L 4 4,num L 8 4))∧Upd [] w w':=by
 obtain⟨w3,hw3⟩:∃w3,w3=((w.alloc (.cells (bts L).toArray 115)).alloc (.cells #[.int .i64 0,.int .i64 0,.int .i64 0] 92)).alloc (.cells #[.int .i64 0,.int .i64 0,.int .i64 0] 273):=⟨_,rfl⟩
 obtain⟨b1,hb1⟩:∃b,b=w.heap.size:=⟨_,rfl⟩
 obtain⟨b2,hb2⟩:∃b,b=w.heap.size+1:=⟨_,rfl⟩
 obtain⟨b3,hb3⟩:∃b,b=w.heap.size+1+1:=⟨_,rfl⟩
 have hu3:Upd [] w w3:=by rw[hw3];exact(((Upd.refl _ _).alloc _).alloc _).alloc _
 have k1:w3.heap[b1]?=some (.cells (bts L).toArray 115 (0,0)):=by
  rw[hw3,hb1,blk_alloc_ne (by simp;omega),blk_alloc_ne (by simp)];exact blk_alloc _
 have k2:w3.heap[b2]?=some (.cells #[.int .i64 0,.int .i64 0,.int .i64 0] 92 (0,0)):=by
  rw[hw3,hb2,blk_alloc_ne (by simp)]
  have:=blk_alloc (w:=w.alloc (.cells (bts L).toArray 115)) (.cells #[.int .i64 0,.int .i64 0,.int .i64 0] 92)
  simpa using this
 have k3:w3.heap[b3]?=some (.cells (v3 L 0 0).toArray 273 (0,0)):=by
  rw[hw3,hb3]
  have:=blk_alloc (w:=(w.alloc (.cells (bts L).toArray 115)).alloc (.cells #[.int .i64 0,.int .i64 0,.int .i64 0] 92)) (.cells #[.int .i64 0,.int .i64 0,.int .i64 0] 273)
  rw[show(v3 L 0 0).toArray=#[.int .i64 0,.int .i64 0,.int .i64 0] from rfl]
  simpa using this
 have hrd:Rd w3 (.slice (some ⟨b1,0,none⟩) 16 16) L:=⟨_,_,by rw[hL],by omega,fun _=>⟨b1,0,rfl,fun i hi=>by rw[blk_cell k1,Nat.zero_add];unfold bts;rw[List.getElem?_toArray,List.getElem?_map,List.getElem?_eq_getElem hi];rfl⟩⟩
 obtain⟨N0,hN0⟩:∃x,x=num L 0 4:=⟨_,rfl⟩
 obtain⟨N1,hN1⟩:∃x,x=num L 4 4:=⟨_,rfl⟩
 obtain⟨N2,hN2⟩:∃x,x=num L 8 4:=⟨_,rfl⟩
 rw[← hN0,← hN1,← hN2]
 have HN:=Lib.hid (And.intro hN0 (And.intro hN1 hN2))
 clear hN0 hN1 hN2
 have HW:=Lib.hid hw3
 have HB:=Lib.hid (And.intro hb1 (And.intro hb2 hb3))
 have HU3:=Lib.hid hu3
 have HK1:=Lib.hid k1
 have HK2:=Lib.hid k2
 have HK3:=Lib.hid k3
 have HRd:=Lib.hid hrd
 clear hw3 hb1 hb2 hb3 hu3 k1 k2 k3 hrd
 unfold arr
 go_enter Tryz.func90,Tryz.ntmps90
 go_upto_region 2 with(fail)
 have hw3:=HW.out
 obtain⟨hb1,hb2,hb3⟩:=HB.out
 rw[← hw3]
 have e2:w.heap.size+1+1=b3:=hb3.symm
 have e1:w.heap.size+1=b2:=hb2.symm
 rw[e2,e1,← hb1]
 clear hw3 hb1 hb2 hb3 e1 e2
 go_wp2_with fail
 go_loopw [7] (fun i wr=>∃q:Nat,q≤3∧i=.int .i64 (q:Int)∧wr.heap[b3]?=some (.cells (v3 L 0 q).toArray 273 (0,0))∧Upd [b3] w3 wr) (fun i _=>3-(intOf i).toNat)
 case atStart=>exact⟨0,by omega,rfl,HK3.out,Upd.refl _ _⟩
 case round=>
  obtain⟨q,hq,rfl,hb,hu⟩:=hrel
  by_cases hlt:q<3
  ·have hlt':decide ((q:Int)<3)=true:=decide_eq_true (by omega)
   obtain⟨A,hA⟩:∃A,A=0+4*q:=⟨_,rfl⟩
   have hat:=at_spec (.slice (some ⟨b1,0,none⟩) 16 16) L A 4 wr (HRd.out.of_block fun b o c hc=>hu.block b (block_lt_of_cell hc) (by
    simp
    rintro rfl
    rw[blk_cell HK3.out] at hc
    match o,hc with
    | 0,hc | 1,hc | 2,hc=>simp[v3,bv] at hc
    | k+3,hc=>simp[v3] at hc)) (by omega) (by omega) (by omega) (by omega)
   have hs:=v3_set L 0 hlt
   rw[← hA] at hs
   obtain⟨X,hX⟩:∃X,X=num L A 4:=⟨_,rfl⟩
   have hXl:X<4294967296:=by rw[hX];exact num_lt _ _ _
   rw[← hX] at hat hs
   rw[show((4:Nat):Int)=4 from rfl] at hat
   have st:=blk_set (v:=.int .i64 (X:Int)) (o:=q) hb
   rw[hs] at st
   have eA:4*(q:Int)=(A:Int):=by omega
   have HAT:=Lib.hid hat
   have HST:=Lib.hid st
   have fr:=blk_free hb q
   have⟨old,hc⟩:∃old,wr.cell? ⟨b3,q,none⟩=some old:=by
    rw[blk_cell hb]
    obtain rfl | rfl | rfl:q=0∨q=1∨q=2:=by omega
    all_goals exact⟨_,rfl⟩
   have HU:=Lib.hid (hu.set (o:=q) (.int .i64 (X:Int)) (.inl (List.mem_singleton.2 rfl)))
   have eX:IntKind.i64.wrap (X:Int)=(X:Int):=by rw[IntKind.wrap_i64];omega
   have HA:=Lib.hid hA
   clear hat st hs hb hu hX hA
   go_wp2_with fail
   refine HAT.out.mono ?_
   rintro e w' ⟨rfl,rfl⟩
   go_wp2_with fail
   refine⟨⟨q+1,by omega,by go_num,HST.out,HU.out⟩,by simp[intOf];omega⟩
  ·obtain rfl:q=3:=by omega
   have hlt':decide (((3:Nat):Int)<3)=false:=rfl
   obtain⟨hb1,hb2,hb3⟩:=HB.out
   have h2:=(hu.block b2 (blk_lt HK2.out) (by simp;omega)).trans HK2.out
   have c0:wr.cell? ⟨b3,0,none⟩=some (.int .i64 (num L 0 4:Int)):=by rw[blk_cell hb];rfl
   have c1:wr.cell? ⟨b3,1,none⟩=some (.int .i64 (num L 4 4:Int)):=by rw[blk_cell hb];rfl
   have c2:wr.cell? ⟨b3,2,none⟩=some (.int .i64 (num L 8 4:Int)):=by rw[blk_cell hb];rfl
   have d0:wr.cell? ⟨b2,0,none⟩=some (.int .i64 0):=by rw[blk_cell h2];rfl
   have d1:wr.cell? ⟨b2,1,none⟩=some (.int .i64 0):=by rw[blk_cell h2];rfl
   have d2:wr.cell? ⟨b2,2,none⟩=some (.int .i64 0):=by rw[blk_cell h2];rfl
   have f0:=blk_free h2 0
   have f1:=blk_free h2 1
   have f2:=blk_free h2 2
   obtain⟨hN0,hN1,hN2⟩:=HN.out
   rw[← hN0] at c0
   rw[← hN1] at c1
   rw[← hN2] at c2
   have HU2:=Lib.hid (HU3.out.late hu (fun i hi=> .inr (by simp at hi;omega)))
   have H2:=Lib.hid h2
   have HB2:Hid (w.heap.size≤b2):=by show _≤_;omega
   clear hb hu h2 hb1 hb2 hb3 hN0 hN1 hN2
   go_wp2_with fail
   refine bodyPost_ret (results_pl1 (p:=2) (by rfl) _ _ b2 (.int .i64 (N0:Int)) (.int .i64 (N1:Int)) (.int .i64 (N2:Int)) (by rfl) (blk_set (blk_set (blk_set H2.out 0 _) 1 _) 2 _)) (by rfl) ?_
   exact⟨rfl,HU2.out.late ((Upd.refl [b2] _).three _ _ _ (.inl (List.mem_singleton.2 rfl))) (fun i hi=> .inr (by simp at hi;have:=HB2.out;omega))⟩
section
section
variable {P:Program} {ops:Array Oper} {Q:Exit→Act→World→Prop}
def RestR(P:Program)(ops:Array Oper)(Q:Exit→Act→World→Prop)(c:Nat)(a1:Act)(w1:World):Prop:=
 ∃J:(Nat→Bool)→Act→World→Prop,(∀L,(∀i,i<ops.size→L i=decide (i≤c))→J L a1 w1)∧
  (∀i o L a w,c<i→ops[i]?=some o→J L a w→L i=false→(∀e∈o.after,Region.binds .any e=true→L e.on=true)→ClosedL .any ops L→wpOp P ops Q i (fun a' w'=>J (upL L i) a' w') a w)∧
  (∀L a w,J L a w→(∀i,i<ops.size→L i=true)→Q .normal a w)
def cutB(ops:Array Oper)(c:Nat):Bool:=(List.range ops.size).all fun i=>if i<c then waitsK .any ops i ops.size c else if c<i then waitsK .any ops c ops.size i else true
theorem wp_region_cut{id:Nat}{a:Act}{w:World}(c:Nat)(InvA:(Nat→Bool)→Act→World→Prop)(hm:P.follows .mixedOrders=true)(hlow:lowB .any ops=true)(hcut:cutB ops c=true)(hc:c<ops.size)(h0:InvA (fun _=>false) a w.drew)
  (hA:∀i o L a w,i<c→ops[i]?=some o→InvA L a w→L i=false→(∀e∈o.after,Region.binds .any e=true→L e.on=true)→ClosedL .any ops L→wpOp P ops Q i (fun a' w'=>InvA (upL L i) a' w') a w)
  (hC:∀L a w,InvA L a w→(∀i,i<c→L i=true)→wpOp P ops Q c (fun a' w'=>RestR P ops Q c a' w') a w):(Code.region id ops true).wp P Q a w:=by
 have hw:∀i,i<ops.size→(i<c→waitsK .any ops i ops.size c=true)∧(c<i→waitsK .any ops c ops.size i=true):=fun i hi=>by
  have h1:=(List.all_eq_true.1 hcut) i (List.mem_range.2 hi)
  refine⟨fun h=>by rw[if_pos h] at h1;exact h1,fun h=>by rw[if_neg (by omega),if_pos h] at h1;exact h1⟩
 refine wp_region_inv (fun L a' w'=>ClosedL .any ops L∧((L c=false∧InvA L a' w')∨(L c=true∧∃J:(Nat→Bool)→Act→World→Prop,J L a' w'∧
  (∀i o L a w,c<i→ops[i]?=some o→J L a w→L i=false→(∀e∈o.after,Region.binds .any e=true→L e.on=true)→ClosedL .any ops L→wpOp P ops Q i (fun a' w'=>J (upL L i) a' w') a w)∧
  (∀L a w,J L a w→(∀i,i<ops.size→L i=true)→Q .normal a w)))) hm ⟨fun j oj _ h=>(by cases h),.inl ⟨rfl,h0⟩⟩ ?_ ?_ hlow
 ·rintro i o L a' w' ho ⟨hcl,hI⟩ hL hd
  have hi:=(Array.getElem?_eq_some_iff.1 ho).1
  have hup:=hcl.up ho hd
  rcases Nat.lt_trichotomy i c with hic | rfl | hic
  ·rcases hI with⟨h1,h2⟩ | ⟨h1,_⟩
   ·exact wpOp_mono (fun a'' w'' h=>⟨hup,.inl ⟨by rw[upL_ne _ (by omega)];exact h1,h⟩⟩) (hA i o L a' w' hic ho h2 hL hd hcl)
   ·rw[waitsK_up hcl ((hw i hi).1 hic) h1] at hL;cases hL
  ·rcases hI with⟨h1,h2⟩ | ⟨h1,_⟩
   ·have hall:∀k,k<i→L k=true:=fun k hk=>hcl.dep_up ho hd ops.size ((hw k (by omega)).1 hk) (by omega)
    have hno:∀k,k<ops.size→i<k→L k=false:=fun k hk hik=>hcl.not_up ops.size ((hw k hk).2 hik) hL
    refine wpOp_mono (fun a'' w'' h=>⟨hup,.inr ⟨upL_same _ _,?_⟩⟩) (hC L a' w' h2 hall)
    obtain⟨J,j0,j1,j2⟩:=h
    refine⟨J,j0 _ fun k hk=>?_,j1,j2⟩
    by_cases e:k=i
    ·subst e;rw[upL_same];simp
    ·rw[upL_ne _ e]
     rcases Nat.lt_or_ge k i with q | q
     ·rw[hall k q,decide_eq_true (by omega)]
     ·rw[hno k hk (by omega),decide_eq_false (by omega)]
   ·rw[h1] at hL;cases hL
  ·have h1:L c=true:=hcl.dep_up ho hd ops.size ((hw i hi).2 hic) (by omega)
   rcases hI with⟨h2,_⟩ | ⟨_,J,j0,j1,j2⟩
   ·rw[h1] at h2;cases h2
   ·exact wpOp_mono (fun a'' w'' h=>⟨hup,.inr ⟨by rw[upL_ne _ (by omega)];exact h1,J,h,j1,j2⟩⟩) (j1 i o L a' w' hic ho j0 hL hd hcl)
 ·rintro L a' w' ⟨_,hI⟩ hall
  rcases hI with⟨h1,_⟩ | ⟨_,J,j0,_,j2⟩
  ·rw[hall c hc] at h1;cases h1
  ·exact j2 L a' w' j0 hall
theorem wp_region_cutU{id:Nat}{a:Act}{w:World}(c:Nat)(D:List (Nat × Nat))(kd:Nat→Kd)(hm:P.follows .mixedOrders=true)(hlow:lowB .any ops=true)(hcut:cutB ops c=true)(hc:c<ops.size)(n:Nat)(hn:a.tmps.size=n)(hdf:a.defers=[])
  (hA:∀i o L tmps w',i<c→ops[i]?=some o→RegU w n a D kd L ⟨tmps,[]⟩ w'→L i=false→(∀e∈o.after,Region.binds .any e=true→L e.on=true)→wpOp P ops Q i (fun a' w'=>RegU w n a D kd (upL L i) a' w') ⟨tmps,[]⟩ w')
  (hC:∀L tmps w',RegU w n a D kd L ⟨tmps,[]⟩ w'→(∀i,i<c→L i=true)→wpOp P ops Q c (fun a' w'=>RestR P ops Q c a' w') ⟨tmps,[]⟩ w'):(Code.region id ops true).wp P Q a w:=by
 subst hn
 refine wp_region_cut c (RegU w a.tmps.size a D kd) hm hlow hcut hc ⟨⟨hdf,rfl,fun _ _=>rfl,(fun _ _ h=>(by cases h)),(Upd.refl _ _).drew⟩,fun _ _ _=>rfl⟩ ?_ ?_
 ·rintro i o L ⟨tmps,dfs⟩ w' hi ho hI hL hd _
  obtain rfl:dfs=[]:=hI.dfs
  exact hA i o L tmps w' hi ho hI hL hd
 ·rintro L ⟨tmps,dfs⟩ w' hI hall
  obtain rfl:dfs=[]:=hI.dfs
  exact hC L tmps w' hI hall
theorem rest_u{c:Nat}{a:Act}{w:World}(D:List (Nat × Nat))(kd:Nat→Kd)(hD:(D.all fun t=>decide (c<t.1))=true)(hD2:(D.all fun t=>decide (t.1<ops.size))=true)(n:Nat)(hn:a.tmps.size=n)(hdf:a.defers=[])
  (hstep:∀i o L tmps w',c<i→ops[i]?=some o→RegU w n a D kd L ⟨tmps,[]⟩ w'→L i=false→(∀e∈o.after,Region.binds .any e=true→L e.on=true)→wpOp P ops Q i (fun a' w'=>RegU w n a D kd (upL L i) a' w') ⟨tmps,[]⟩ w')
  (hend:∀L tmps w',RegU w n a D kd L ⟨tmps,[]⟩ w'→(∀i,i<ops.size→L i=true)→Q .normal ⟨tmps,[]⟩ w'):RestR P ops Q c a w:=by
 subst hn
 refine⟨RegU w a.tmps.size a D kd,fun L hL=>⟨⟨hdf,rfl,fun _ _=>rfl,fun t ht hl=>?_,Upd.refl _ _⟩,fun _ _ _=>rfl⟩,?_,?_⟩
 ·exfalso
  have h1:c<t.1:=by simpa using (List.all_eq_true.1 hD) t ht
  have h2:t.1<ops.size:=by simpa using (List.all_eq_true.1 hD2) t ht
  rw[hL _ h2,decide_eq_true_iff] at hl
  omega
 ·rintro i o L ⟨tmps,dfs⟩ w' hi ho hI hL hd _
  obtain rfl:dfs=[]:=hI.dfs
  exact hstep i o L tmps w' hi ho hI hL hd
 ·rintro L ⟨tmps,dfs⟩ w' hI hall
  obtain rfl:dfs=[]:=hI.dfs
  exact hend L tmps w' hI hall
end
end
end Go.Proofs.YtgfbepakonjbnaaGreat
end
section
--TRZ
set_option linter.unusedSimpArgs false
set_option linter.unusedVariables false
namespace Go.Proofs.YtgfbepakonjbnaaGreat
open Go.RowKit Go.MapKept Go.ChangeMaps
theorem get_any{w:World}{g:Sg}{M:Nat→Option Sec}(h:SpAt w g M)(hh:1<g.h){r:Nat}{l:List Pair9}{S:List Nat}(ht:TreeAt (g.cur M) r l S)(hS:∀s,s∈S→4≤s∧s<g.h)(hl:l.length<490)(key:Bs)(hkey:key.length=32) :
  Calls Tryz.prog 61 #[.pointer (some ⟨g.x.tb,0,none⟩),.int .u32 (r:Int),arr key] w fun e w'=>e=.returned (getV (lookL l key))∧SpAt w' g M∧Upd [g.j.jb] w w':=by
 rcases ht with⟨rfl,rfl,rfl⟩ | ⟨hr,d,hs⟩
 ·have hb:((g.h:Int) == 0)=false:=by rw[beq_eq_false_iff_ne];omega
  have hrb:(((0:Nat):Int) == 0)=true:=rfl
  obtain⟨wA,hwA⟩:∃wA,wA=(w.alloc (.cells (bts key).toArray 35)).alloc (.cells (bts z16).toArray 115):=⟨_,rfl⟩
  have huA:Upd [] w wA:=by rw[hwA];exact((Upd.refl _ _).alloc _).alloc _
  obtain⟨b6,hb6⟩:∃x,x=w.heap.size+1:=⟨_,rfl⟩
  have k6:wA.heap[b6]?=some (.cells (bts z16).toArray 115 (0,0)):=by
   rw[hwA,hb6]
   have:=blk_alloc (w:=w.alloc (.cells (bts key).toArray 35)) (.cells (bts z16).toArray 115)
   simpa using this
  have HO:=Lib.hid (homesS (h.below huA))
  have HA:=Lib.hid (h.below huA)
  have HH0:=Lib.hid h
  have HUA:=Lib.hid huA
  have HW:=Lib.hid hwA
  have HB6:=Lib.hid hb6
  have HK6:=Lib.hid k6
  clear h huA hwA hb6 k6
  have hik:(Tryz.prog.info? 115).map (·.size)=some (bts z16).toArray.size:=infoVal16
  have hone:=bts_oneA z16
  unfold arr
  show Calls _ _ _ _ fun e w'=>e=.returned (getV none)∧_
  unfold getV
  go_enter Tryz.func61,Tryz.ntmps61
  go_upto_region 1 with(fail)
  have hwA:=HW.out
  have hb6:=HB6.out
  rw[z16_cells,← hwA,← hb6]
  clear hwA hb6
  go_wp2_with fail
  refine HO.out.mono ?_
  rintro e w1 ⟨rfl,n1,hn1⟩
  have hu1:Upd [] wA w1:=by rw[hn1];exact(Upd.refl _ _).drewN _
  have h6:=(hu1.block _ (blk_lt HK6.out) (by simp)).trans HK6.out
  have H61:=Lib.hid h6
  have HU1:=Lib.hid hu1
  clear hn1 hu1 h6
  go_wp2_with (refine wpList_store_row (by rfl) 115 (.tmp 6) (.tmp 19) (by rfl) b6 (bts z16).toArray (by rfl) (by rfl) _ _ H61.out hik rfl hone ?_)
  refine bodyPost_ret (results_row_tmp (p:=6) (u:=7) (ty:=115) (by rfl) _ _ b6 _ (by rfl) (run_loadVar_row _ b6 _ _ _ _ _ (setRow_heap _ _ _ _ _ _ H61.out) Tryz.underlying115 rfl (val_size (l:=z16) rfl))) (by rfl) ?_
  exact⟨rfl,get_end HH0.out (HA.out.below HU1.out) ((HUA.out.trans HU1.out).mono (by simp)) (by have:=HB6.out;omega) _⟩
 ·exact get_spec h hs hS (by have:=hs.flat hl;omega) key hkey
def plOfR:Option Rc→Nat × Nat × Nat
 | some x=>(x.n,x.at_,x.len)
 | none=>(0,0,0)
def erOfR:Option Rc→Int
 | some _=>0
 | none=>5
def vlOfR:Option Rc→Bs
 | some x=>valR x.n x.at_ x.len
 | none=>z16
theorem getV_rec(o:Option Rc):getV (o.map fun r=>valR r.n r.at_ r.len)=.tuple #[arr (vlOfR o),.int .i64 (erOfR o)]:=by
 cases o<;>rfl
theorem vlOfR_length(o:Option Rc):(vlOfR o).length=16:=by
 cases o
 ·rfl
 ·exact valR_length _ _ _
theorem num_z16:num z16 0 4=0∧num z16 4 4=0∧num z16 8 4=0:=by decide
theorem plOfR_num(o:Option Rc)(h:∀x,o=some x→x.n≤100000∧x.at_≤100000∧x.len≤100000):(num (vlOfR o) 0 4,num (vlOfR o) 4 4,num (vlOfR o) 8 4)=plOfR o:=by
 cases o with
 | none=>show(num z16 0 4,num z16 4 4,num z16 8 4)=(0,0,0);rw[num_z16.1,num_z16.2.1,num_z16.2.2]
 | some x=>
  obtain⟨h1,h2,h3⟩:=h x rfl
  obtain⟨e1,e2,e3⟩:=num_valR (n:=x.n) (a:=x.at_) (l:=x.len) (by omega) (by omega) (by omega)
  show(num (valR _ _ _) 0 4,num (valR _ _ _) 4 4,num (valR _ _ _) 8 4)=(x.n,x.at_,x.len)
  rw[e1,e2,e3]
theorem results_wh{fn:Func}{p u v:Tmp}(h:fn.results=#[.tmp u,.cell p 92,.tmp v])(tmps:Array Value)(w:World)(g:Nat)(x y z:Value)
  (hp:tmps.getD p undef=.pointer (some ⟨g,0,none⟩)) (hg:w.heap[g]?=some (.cells #[x,y,z] 92 (0,0))) :
  (results fn tmps).run Tryz.prog w=.ok (.tuple #[tmps.getD u undef,.agg #[x,y,z],tmps.getD v undef]) w:=by
 have hp':tmps[p]?.getD undef=.pointer (some ⟨g,0,none⟩):=by simpa using hp
 have c0:w.cell? ⟨g,0,none⟩=some x:=by rw[blk_cell hg];rfl
 have c1:w.cell? ⟨g,1,none⟩=some y:=by rw[blk_cell hg];rfl
 have c2:w.cell? ⟨g,2,none⟩=some z:=by rw[blk_cell hg];rfl
 simp[results,h,hp',asAddr,go_sem,c0,c1,c2]
set_option maxRecDepth 100000 in
set_option maxHeartbeats 4000000 in
theorem where_spec{w:World}{g:Sg}{M:Nat→Option Sec}(h:SpAt w g M)(hh:1<g.h){S:List Nat}{R:List Rc}(ht:TreeAt (g.cur M) (g.R M 0) (R.map Rc.ent) S)(hS:∀s,s∈S→4≤s∧s<g.h)(hl:R.length<490)(key:Bs)(hkey:key.length=32)(hb:∀x,x∈R→x.n≤100000∧x.at_≤100000∧x.len≤100000) :
  Calls Tryz.prog 81 #[.pointer (some ⟨g.x.tb,0,none⟩),arr key] w fun e w'=>e=.returned (.tuple #[.int .u32 (g.R M 0:Int),plV (plOfR (recL R key)),.int .i64 (erOfR (recL R key))])∧SpAt w' g M∧Upd g.S w w':=by
 have hlt:=h.lt
 obtain⟨kb,hkb⟩:∃b,b=w.heap.size:=⟨_,rfl⟩
 obtain⟨pb,hpb⟩:∃b,b=w.heap.size+1:=⟨_,rfl⟩
 obtain⟨w2,hw2⟩:∃w2,w2=(w.alloc (.cells (bts key).toArray 35)).alloc (.cells #[.int .i64 0,.int .i64 0,.int .i64 0] 92):=⟨_,rfl⟩
 have hu2:Upd [] w w2:=by rw[hw2];exact((Upd.refl _ _).alloc _).alloc _
 have k1:w2.heap[kb]?=some (.cells (bts key).toArray 35 (0,0)):=by rw[hw2,hkb,blk_alloc_ne (by simp)];exact blk_alloc _
 have k2:w2.heap[pb]?=some (.cells #[.int .i64 0,.int .i64 0,.int .i64 0] 92 (0,0)):=by
  rw[hw2,hpb]
  have:=blk_alloc (w:=w.alloc (.cells (bts key).toArray 35)) (.cells #[.int .i64 0,.int .i64 0,.int .i64 0] 92)
  simpa using this
 have h2:=h.below hu2
 have hrt:=root_ok h2 hh 0 (by omega)
 rw[show((0:Nat):Int)=0 from rfl] at hrt
 have hik:(Tryz.prog.info? 35).map (·.size)=some (bts key).toArray.size:=by rw[List.size_toArray,bts_length,hkey];exact infoIDp
 have hnum:=plOfR_num (recL R key) (fun x hx=>hb x (recL_some hx).1)
 have hgt:∀w',SpAt w' g M→Calls Tryz.prog 61 #[.pointer (some ⟨g.x.tb,0,none⟩),.int .u32 (g.R M 0:Int),arr key] w' fun e w''=>e=.returned (.tuple #[arr (vlOfR (recL R key)),.int .i64 (erOfR (recL R key))])∧SpAt w'' g M∧Upd [g.j.jb] w' w'':=by
  intro w' h'
  have:=get_any h' hh ht hS (by rw[List.length_map];exact hl) key hkey
  rw[lookL_rec,getV_rec] at this
  exact this
 obtain⟨L,hL⟩:∃L,L=vlOfR (recL R key):=⟨_,rfl⟩
 have hLl:L.length=16:=by rw[hL];exact vlOfR_length _
 obtain⟨er,her⟩:∃e,e=erOfR (recL R key):=⟨_,rfl⟩
 obtain⟨P,hP⟩:∃p,p=plOfR (recL R key):=⟨_,rfl⟩
 obtain⟨r,hr⟩:∃r,r=g.R M 0:=⟨_,rfl⟩
 rw[← hL,← hP] at hnum
 rw[← hr] at hrt
 rw[← hP,← her,← hr]
 rw[← hL,← her,← hr] at hgt
 have HG:=Lib.hid hgt
 have HP:=Lib.hid (fun w=>kplace_spec L hLl w)
 rw[hnum] at HP
 have HRT:=Lib.hid hrt
 have HB:=Lib.hid (And.intro hkb hpb)
 have HW:=Lib.hid hw2
 have HU2:=Lib.hid hu2
 have HLT:=Lib.hid hlt
 have HK1:=Lib.hid k1
 have HK2:=Lib.hid k2
 have hikV:(Tryz.prog.info? 115).map (·.size)=some (bts L).toArray.size:=by rw[List.size_toArray,bts_length,hLl];exact infoVal16
 have HLl:=Lib.hid hLl
 clear hgt hrt hkb hpb hw2 hu2 hlt k1 k2 h2 hnum hL her hP hr hb ht hS hLl h hl
 unfold arr
 go_enter Tryz.func81,Tryz.ntmps81
 go_upto_region 1 with(fail)
 have hw2:=HW.out
 obtain⟨hkb,hpb⟩:=HB.out
 rw[← hw2,← hpb,← hkb]
 clear hw2 hkb hpb
 go_wp2_with fail
 refine HRT.out.mono ?_
 rintro e w3 ⟨rfl,h3,hu3⟩
 have hnS:∀b,w.heap.size≤b→b∉g.S:=fun b hb q=>by have:=HLT.out.1 b q;omega
 have q1:=(hu3.block _ (blk_lt HK1.out) (hnS _ (by have:=HB.out;omega))).trans HK1.out
 have q2:=(hu3.block _ (blk_lt HK2.out) (hnS _ (by have:=HB.out;omega))).trans HK2.out
 have HNS:=Lib.hid hnS
 have H3:=Lib.hid h3
 have HU3:=Lib.hid hu3
 have Q1:=Lib.hid q1
 have Q2:=Lib.hid q2
 have HGT:=HG.out w3 h3
 unfold arr at HGT
 have HGT':=Lib.hid HGT
 clear h3 hu3 q1 q2 hnS HGT
 go_wp2_with (refine wpList_load_row (by rfl) 35 (.tmp 3) (by rfl) kb (by rfl) _ _ _ _ Q1.out Tryz.underlying35 rfl hik ?_)
 refine HGT'.out.mono ?_
 rintro e w4 ⟨rfl,h4,hu4⟩
 obtain⟨vb,hvb⟩:∃b,b=w4.heap.size:=⟨_,rfl⟩
 obtain⟨w5,hw5⟩:∃w5,w5=(w4.alloc (.cells (bts z16).toArray 115)).setRow vb (bts L).toArray:=⟨_,rfl⟩
 have hone:=bts_oneA L
 have hbz:(w4.alloc (.cells (bts z16).toArray 115)).heap[vb]?=some (.cells (bts z16).toArray 115 (0,0)):=by rw[hvb];exact blk_alloc _
 have hb5:w5.heap[vb]?=some (.cells (bts L).toArray 115 (0,0)):=by rw[hw5];exact setRow_heap _ _ _ _ _ _ hbz
 have hu5:Upd [] w4 w5:=by rw[hw5,hvb,setRow_alloc];exact(Upd.refl _ _).alloc _
 have hz16:(bts L).length=(bts z16).toArray.size:=by rw[bts_length,HLl.out];rfl
 go_upto_region 5 with(refine wpList_store_row (by rfl) 115 (.tmp 9) (.tmp 24) (by rfl) w4.heap.size (bts L).toArray (by rfl) (by rfl) _ _ (blk_alloc (w:=w4) (.cells (bts z16).toArray 115)) hikV (by rw[List.size_toArray,List.size_toArray,bts_length,bts_length,HLl.out];rfl) hone ?_)
 rw[z16_cells,← hvb,← hw5]
 have q1:=((hu5.block _ (Nat.lt_of_lt_of_le (blk_lt Q2.out) hu4.size) (by simp)).trans (hu4.block _ (blk_lt Q2.out) (fun q=>HNS.out _ (by have:=HB.out;omega) (g.mem _ q)))).trans Q2.out
 have HKP:=Lib.hid (HP.out w5)
 unfold arr at HKP
 have H5:=Lib.hid (h4.below hu5)
 have HU5:=Lib.hid ((((HU2.out.mono (by simp)).trans HU3.out).trans (hu4.mono g.mem)).trans (hu5.mono (by simp)))
 have QB:=Lib.hid q1
 have HB5:=Lib.hid hb5
 clear h4 hu4 hvb hw5 hbz hb5 hu5 hz16 q1 hone
 go_upto_region 5 with(fail)
 go_wp2_with (refine wpList_load_row (by rfl) 115 (.tmp 9) (by rfl) vb (by rfl) _ _ _ _ HB5.out Tryz.underlying115 rfl hikV ?_)
 refine HKP.out.mono ?_
 rintro e w6 ⟨rfl,hu6⟩
 have q6:=(hu6.block _ (blk_lt QB.out) (by simp)).trans QB.out
 have r0:w6.cell? ⟨pb,0,none⟩=some (.int .i64 0):=by rw[blk_cell q6];rfl
 have r1:w6.cell? ⟨pb,1,none⟩=some (.int .i64 0):=by rw[blk_cell q6];rfl
 have r2:w6.cell? ⟨pb,2,none⟩=some (.int .i64 0):=by rw[blk_cell q6];rfl
 have f0:=blk_free q6 0
 have f1:=blk_free q6 1
 have f2:=blk_free q6 2
 have Q6:=Lib.hid q6
 have H6:=Lib.hid (H5.out.below hu6)
 have HU6:=Lib.hid (HU5.out.trans (hu6.mono (by simp)))
 clear hu6 q6
 unfold plV
 go_wp2_with fail
 refine bodyPost_ret (results_wh (p:=5) (u:=4) (v:=6) (by rfl) _ _ pb (.int .i64 (P.1:Int)) (.int .i64 (P.2.1:Int)) (.int .i64 (P.2.2:Int)) (by rfl) (blk_set (blk_set (blk_set Q6.out 0 _) 1 _) 2 _)) (by rfl) ?_
 have hu7:Upd [pb] w6 (((w6.setCell ⟨pb,0,none⟩ (.int .i64 (P.1:Int))).setCell ⟨pb,1,none⟩ (.int .i64 (P.2.1:Int))).setCell ⟨pb,2,none⟩ (.int .i64 (P.2.2:Int))):=(Upd.refl _ _).three _ _ _ (.inl (List.mem_singleton.2 rfl))
 exact⟨rfl,H6.out.res HLT.out (by have:=HB.out;omega) Q6.out (by decide) hu7,HU6.out.late hu7 (fun i hi=> .inr (by simp at hi;have:=HB.out;omega))⟩
def hgAD:List (Nat × Nat):=[(0,12),(1,13),(2,14),(3,15),(4,16)]
def hgAK(tb:Nat)(r:Nat)(key v:List UInt8)(x:Nat × Nat × Nat):Nat→Kd
 | 0=> .c (.pointer (some ⟨tb,0,none⟩))
 | 1=> .c (.int .u32 (r:Int))
 | 2=> .c (.agg (bts key).toArray)
 | 3=> .c (.agg #[.int .i64 (x.1:Int),.int .i64 (x.2.1:Int),.int .i64 (x.2.2:Int)])
 | 4=> .c (.agg (bts v).toArray)
 | _=> .c undef
theorem hgAL(tb:Nat)(r:Nat)(key v:List UInt8)(x:Nat × Nat × Nat):∀k,(hgAK tb r key v x k).lasts:=by
 intro k;unfold hgAK;split<;>first | trivial
def hgBD:List (Nat × Nat):=[(6,11),(7,18),(8,19),(9,9),(10,10)]
def hgBK(r2:Nat):Nat→Kd
 | 6=> .c (.tuple #[.int .u32 (r2:Int),.int .i64 0])
 | 7=> .c (.int .u32 (r2:Int))
 | 8=> .c (.int .i64 0)
 | 9=> .c (.int .u32 (r2:Int))
 | 10=> .c (.int .i64 0)
 | _=> .c undef
theorem hgBL(r2:Nat):∀k,(hgBK r2 k).lasts:=by
 intro k;unfold hgBK;split<;>first | trivial
def HangOut(g:Sg)(M M':Nat→Option Sec)(r:Nat)(L:List Pair9)(S:List Nat)(key v:Bs):Prop:=
 ∃M1 r2,PutTop g M M1 r r2 L S key v 7∧(∃W,SpAt W g M1)∧((r2=r∧M'=M1)∨(r2≠r∧M'=put0 M1 (put (g.cur M1 0) (4*0) 4 r2)))
set_option maxRecDepth 100000 in
set_option maxHeartbeats 4000000 in
theorem hang_spec{w:World}{g:Sg}{M:Nat→Option Sec}(h:SpAt w g M)(hh:20≤g.h)(r:Nat)(L:List Pair9)(S:List Nat)(key:Bs)(hkl:key.length=32)(n a l:Nat)(hn:n≤100000)(ha:a≤100000)(hl:l≤100000)
  (hput:∀W,SpAt W g M→Calls Tryz.prog 58 #[.pointer (some ⟨g.x.tb,0,none⟩),.int .u32 (r:Int),arr key,arr (valR n a l)] W fun e w'=>∃M' r',e=.returned (.tuple #[.int .u32 ((r':Nat):Int),.int .i64 0])∧PutTop g M M' r r' L S key (valR n a l) 7∧SpAt w' g M'∧Upd g.S W w')
  (hroot:∀M' r',PutTop g M M' r r' L S key (valR n a l) 7→MOk M' g.h→cntM M' g.h<40) :
  Calls Tryz.prog 84 #[.pointer (some ⟨g.x.tb,0,none⟩),.int .u32 (r:Int),arr key,plV (n,a,l)] w fun e w'=>∃M',e=.returned (.int .i64 0)∧HangOut g M M' r L S key (valR n a l)∧SpAt w' g M'∧Upd g.S w w':=by
 have hlt:=h.lt
 obtain⟨kb,hkb⟩:∃b,b=w.heap.size:=⟨_,rfl⟩
 obtain⟨pb,hpb⟩:∃b,b=w.heap.size+1:=⟨_,rfl⟩
 obtain⟨w1,hw1⟩:∃w1,w1=(w.alloc (.cells (bts key).toArray 35)).alloc (.cells #[.int .i64 (n:Int),.int .i64 (a:Int),.int .i64 (l:Int)] 92):=⟨_,rfl⟩
 have hu1:Upd [] w w1:=by rw[hw1];exact((Upd.refl _ _).alloc _).alloc _
 have k6:w1.heap[kb]?=some (.cells (bts key).toArray 35 (0,0)):=by rw[hw1,hkb,blk_alloc_ne (by simp)];exact blk_alloc _
 have k7:w1.heap[pb]?=some (.cells #[.int .i64 (n:Int),.int .i64 (a:Int),.int .i64 (l:Int)] 92 (0,0)):=by
  rw[hw1,hpb]
  have:=blk_alloc (w:=w.alloc (.cells (bts key).toArray 35)) (.cells #[.int .i64 (n:Int),.int .i64 (a:Int),.int .i64 (l:Int)] 92)
  simpa using this
 have hik:(Tryz.prog.info? 35).map (·.size)=some (bts key).toArray.size:=by rw[List.size_toArray,bts_length,hkl];exact infoIDp
 have hpt:∀W,Upd [] w1 W→Calls Tryz.prog 58 #[.pointer (some ⟨g.x.tb,0,none⟩),.int .u32 (r:Int),.agg (bts key).toArray,.agg (bts (valR n a l)).toArray] W fun e w'=>∃M' r',e=.returned (.tuple #[.int .u32 ((r':Nat):Int),.int .i64 0])∧PutTop g M M' r r' L S key (valR n a l) 7∧SpAt w' g M'∧Upd g.S W w':=fun W hW=>hput W (h.below (hu1.trans hW))
 have HPT:Hid (∀W,Upd [] w1 W→Calls Tryz.prog 58 #[.pointer (some ⟨g.x.tb,0,none⟩),.int .u32 (r:Int),.agg (bts key).toArray,.agg (bts (valR n a l)).toArray] W fun e w'=>∃M' r',e=.returned (.tuple #[.int .u32 ((r':Nat):Int),.int .i64 0])∧PutTop g M M' r r' L S key (valR n a l) 7∧SpAt w' g M'∧Upd g.S W w'):=Lib.hid hpt
 have hvl:=fun W=>val_spec n a l hn ha hl W
 unfold arr plV at hvl
 have HVL:Hid (∀W,Calls Tryz.prog 171 #[.agg #[.int .i64 (n:Int),.int .i64 (a:Int),.int .i64 (l:Int)]] W fun e w'=>e=.returned (.agg (bts (valR n a l)).toArray)∧Upd [] W w'):=Lib.hid hvl
 have HRT:=Lib.hid hroot
 have HW:=Lib.hid hw1
 have HB:=Lib.hid (And.intro hkb hpb)
 have HU1:=Lib.hid hu1
 have H6:=Lib.hid k6
 have H7:=Lib.hid k7
 have HLT:=Lib.hid hlt
 clear hpt hvl hroot hw1 hkb hpb hu1 k6 k7 hlt hput h
 unfold arr plV
 dsimp only
 go_enter Tryz.func84,Tryz.ntmps84
 go_upto_region 1 with(fail)
 have hw1:=HW.out
 obtain⟨hkb,hpb⟩:=HB.out
 rw[← hw1,← hpb,← hkb]
 clear hw1 hkb hpb
 refine wp_region_cutU 5 hgAD (hgAK g.x.tb r key (valR n a l) (n,a,l)) (by kernel_rfl) (by kernel_rfl) (by kernel_rfl) (by decide) 31 rfl rfl ?_ ?_
 ·intro i o L tmps w' hi ho hI hL hd
  have t0:tmps[0]?.getD undef=.pointer (some ⟨g.x.tb,0,none⟩):=(hI.old 0 (by rfl)).trans rfl
  have t1:tmps[1]?.getD undef=.int .u32 (r:Int):=(hI.old 1 (by rfl)).trans rfl
  have t6:tmps[6]?.getD undef=.pointer (some ⟨kb,0,none⟩):=(hI.old 6 (by rfl)).trans rfl
  have t7:tmps[7]?.getD undef=.pointer (some ⟨pb,0,none⟩):=(hI.old 7 (by rfl)).trans rfl
  have hgw:=hI.gw
  have q6:=(hgw.block _ (blk_lt H6.out) (by simp)).trans H6.out
  have q7:=(hgw.block _ (blk_lt H7.out) (by simp)).trans H7.out
  have m0:w'.cell? ⟨pb,0,none⟩=some (.int .i64 (n:Int)):=by rw[blk_cell q7];rfl
  have m1:w'.cell? ⟨pb,1,none⟩=some (.int .i64 (a:Int)):=by rw[blk_cell q7];rfl
  have m2:w'.cell? ⟨pb,2,none⟩=some (.int .i64 (l:Int)):=by rw[blk_cell q7];rfl
  have Q6:=Lib.hid q6
  clear q6 q7
  obtain rfl | rfl | rfl | rfl | rfl:i=0∨i=1∨i=2∨i=3∨i=4:=by omega
  ·cases ho
   refine wpOp_step rfl (fun K hK=>?_)
   go_simp
   exact hK _ _ (hI.ustep (hgAL g.x.tb r key (valR n a l) (n,a,l)) 0 12 (.pointer (some ⟨g.x.tb,0,none⟩)) (by decide) (by kernel_rfl) (Upd.refl _ _) (rfl))
  ·cases ho
   refine wpOp_step rfl (fun K hK=>?_)
   go_simp
   exact hK _ _ (hI.ustep (hgAL g.x.tb r key (valR n a l) (n,a,l)) 1 13 (.int .u32 (r:Int)) (by decide) (by kernel_rfl) (Upd.refl _ _) (rfl))
  ·cases ho
   refine wpOp_step rfl (fun K hK=>?_)
   rw[if_pos (by rfl)]
   refine wp_load_row 35 (.tmp 6) rfl kb (by simpa [Act.eval] using t6) _ _ _ _ Q6.out Tryz.underlying35 rfl hik ?_
   exact hK _ _ (hI.ustep (hgAL g.x.tb r key (valR n a l) (n,a,l)) 2 14 (.agg (bts key).toArray) (by decide) (by kernel_rfl) (Upd.refl _ _) (rfl))
  ·cases ho
   refine wpOp_step rfl (fun K hK=>?_)
   go_simp
   exact hK _ _ (hI.ustep (hgAL g.x.tb r key (valR n a l) (n,a,l)) 3 15 (.agg #[.int .i64 (n:Int),.int .i64 (a:Int),.int .i64 (l:Int)]) (by decide) (by kernel_rfl) (Upd.refl _ _) (rfl))
  ·cases ho
   have t15:tmps[15]?.getD undef=.agg #[.int .i64 (n:Int),.int .i64 (a:Int),.int .i64 (l:Int)]:=hI.val (3,15) (by simp[hgAD]) (hd ⟨3,.data⟩ (by simp) rfl)
   refine wpOp_step rfl (fun K hK=>?_)
   go_simp
   go_at_call 171
   refine(HVL.out w').mono ?_
   rintro e w2 ⟨rfl,hu⟩
   exact hK _ _ (hI.ustep (hgAL g.x.tb r key (valR n a l) (n,a,l)) 4 16 (.agg (bts (valR n a l)).toArray) (by decide) (by kernel_rfl) hu (rfl))
 ·intro L tmps w' hI hall
  have hat:=hI.tmps_eq rfl [(12,.pointer (some ⟨g.x.tb,0,none⟩)),(13,.int .u32 (r:Int)),(14,.agg (bts key).toArray),(15,.agg #[.int .i64 (n:Int),.int .i64 (a:Int),.int .i64 (l:Int)]),(16,.agg (bts (valR n a l)).toArray)] (fun j hj=>by simp[hgAD] at hj ⊢;simp[hj]) (by
   intro p hp
   simp only[List.mem_cons,List.not_mem_nil,or_false] at hp
   rcases hp with rfl | rfl | rfl | rfl | rfl
   ·exact hI.val (0,12) (by simp[hgAD]) (hall 0 (by decide))
   ·exact hI.val (1,13) (by simp[hgAD]) (hall 1 (by decide))
   ·exact hI.val (2,14) (by simp[hgAD]) (hall 2 (by decide))
   ·exact hI.val (3,15) (by simp[hgAD]) (hall 3 (by decide))
   ·exact hI.val (4,16) (by simp[hgAD]) (hall 4 (by decide)))
  have hgw:=hI.gw
  clear hI hall
  try dsimp only at hat
  simp only[sets,List.setIfInBounds_toArray,List.set_cons_zero,List.set_cons_succ] at hat
  subst hat
  refine wpOp_step rfl (fun K hK=>?_)
  go_simp
  go_at_call 58
  refine(HPT.out w' hgw).mono ?_
  rintro e w2 ⟨M',r2,rfl,hpt,h2,hu2⟩
  refine hK _ _ ?_
  clear hK K
  try simp only[Act.put,List.setIfInBounds_toArray,List.set_cons_zero,List.set_cons_succ]
  refine rest_u hgBD (hgBK r2) (by kernel_rfl) (by kernel_rfl) 31 rfl rfl ?_ ?_
  ·intro i o L tmps w' hi ho hI hL hd
   have hi2:i<11:=(Array.getElem?_eq_some_iff.1 ho).1
   have t17:tmps[17]?.getD undef=.tuple #[.int .u32 (r2:Int),.int .i64 0]:=(hI.old 17 (by rfl)).trans rfl
   have hgw2:=hI.gw
   obtain rfl | rfl | rfl | rfl | rfl:i=6∨i=7∨i=8∨i=9∨i=10:=by omega
   ·cases ho
    refine wpOp_step rfl (fun K hK=>?_)
    go_simp
    exact hK _ _ (hI.ustep (hgBL r2) 6 11 (.tuple #[.int .u32 (r2:Int),.int .i64 0]) (by decide) (by kernel_rfl) (Upd.refl _ _) (rfl))
   ·cases ho
    have t11:tmps[11]?.getD undef=.tuple #[.int .u32 (r2:Int),.int .i64 0]:=hI.val (6,11) (by simp[hgBD]) (hd ⟨6,.data⟩ (by simp) rfl)
    refine wpOp_step rfl (fun K hK=>?_)
    go_simp
    exact hK _ _ (hI.ustep (hgBL r2) 7 18 (.int .u32 (r2:Int)) (by decide) (by kernel_rfl) (Upd.refl _ _) (rfl))
   ·cases ho
    have t11:tmps[11]?.getD undef=.tuple #[.int .u32 (r2:Int),.int .i64 0]:=hI.val (6,11) (by simp[hgBD]) (hd ⟨6,.data⟩ (by simp) rfl)
    refine wpOp_step rfl (fun K hK=>?_)
    go_simp
    exact hK _ _ (hI.ustep (hgBL r2) 8 19 (.int .i64 0) (by decide) (by kernel_rfl) (Upd.refl _ _) (rfl))
   ·cases ho
    have t18:tmps[18]?.getD undef=.int .u32 (r2:Int):=hI.val (7,18) (by simp[hgBD]) (hd ⟨7,.data⟩ (by simp) rfl)
    refine wpOp_step rfl (fun K hK=>?_)
    go_simp
    exact hK _ _ (hI.ustep (hgBL r2) 9 9 (.int .u32 (r2:Int)) (by decide) (by kernel_rfl) (Upd.refl _ _) (rfl))
   ·cases ho
    have t19:tmps[19]?.getD undef=.int .i64 0:=hI.val (8,19) (by simp[hgBD]) (hd ⟨8,.data⟩ (by simp) rfl)
    refine wpOp_step rfl (fun K hK=>?_)
    go_simp
    exact hK _ _ (hI.ustep (hgBL r2) 10 10 (.int .i64 0) (by decide) (by kernel_rfl) (Upd.refl _ _) (rfl))
  ·intro L tmps w5 hI hall
   have hat:=hI.tmps_eq rfl [(11,.tuple #[.int .u32 (r2:Int),.int .i64 0]),(18,.int .u32 (r2:Int)),(19,.int .i64 0),(9,.int .u32 (r2:Int)),(10,.int .i64 0)] (fun j hj=>by simp[hgBD] at hj ⊢;simp[hj]) (by
    intro p hp
    simp only[List.mem_cons,List.not_mem_nil,or_false] at hp
    rcases hp with rfl | rfl | rfl | rfl | rfl
    ·exact hI.val (6,11) (by simp[hgBD]) (hall 6 (by decide))
    ·exact hI.val (7,18) (by simp[hgBD]) (hall 7 (by decide))
    ·exact hI.val (8,19) (by simp[hgBD]) (hall 8 (by decide))
    ·exact hI.val (9,9) (by simp[hgBD]) (hall 9 (by decide))
    ·exact hI.val (10,10) (by simp[hgBD]) (hall 10 (by decide)))
   have hu5:=hI.gw
   clear hI hall
   try dsimp only at hat
   simp only[sets,List.setIfInBounds_toArray,List.set_cons_zero,List.set_cons_succ] at hat
   rw[hat]
   clear hat tmps
   have h2':=h2.below hu5
   have HU6:=Lib.hid (((HU1.out.mono (by simp)).trans (hgw.mono (by simp))).trans (hu2.trans (hu5.mono (by simp))))
   have HPU:=Lib.hid hpt
   clear hgw hu2 hu5 h2 hpt
   by_cases e:r2=r
   ·subst e
    have H2:=Lib.hid h2'
    clear h2'
    go_wp2_with fail
    go_ret
    exact⟨M',rfl,⟨M',r2,HPU.out,⟨_,H2.out⟩,.inl ⟨rfl,rfl⟩⟩,H2.out,HU6.out⟩
   ·have he:((r2:Int) == (r:Int))=false:=by rw[beq_eq_false_iff_ne];omega
    have hsr:=setroot_ok h2' (by omega) (.inr (HRT.out M' r2 HPU.out h2'.ok)) 0 (by omega) r2
    rw[show((0:Nat):Int)=0 from rfl] at hsr
    have HSR:=Lib.hid hsr
    have H2:=Lib.hid h2'
    clear hsr h2' e
    go_wp2_with fail
    refine HSR.out.mono ?_
    rintro e w6 ⟨rfl,h6,hu6⟩
    have H6':=Lib.hid h6
    have HU7:=Lib.hid (HU6.out.trans hu6)
    clear h6 hu6
    go_wp2_with fail
    go_ret
    exact⟨_,rfl,⟨M',r2,HPU.out,⟨_,H2.out⟩,.inr ⟨by rw[beq_eq_false_iff_ne] at he;omega,rfl⟩⟩,H6'.out,HU7.out⟩
end Go.Proofs.YtgfbepakonjbnaaGreat
end
section
namespace Go.Proofs.YtgfbepakonjbnaaGreat
open Go.RowKit Go.MapKept Go.ChangeMaps
section
section
variable {P:Program} {ops:Array Oper} {Q:Exit→Act→World→Prop} {md:Region.Mode} {S:World→Prop} {St:List Nat}
def NoneUp(St:List Nat)(listed:Array Bool):Prop:=∀s,s∈St→listed.getD s false=false
def Closed(md:Region.Mode)(ops:Array Oper)(listed:Array Bool):Prop:=∀j oj,ops[j]?=some oj→listed.getD j false=true→∀e∈oj.after,Region.binds md e=true→listed.getD e.on false=true
def waits(md:Region.Mode)(ops:Array Oper)(i:Nat):Nat→Nat→Bool
 | 0,s=>s == i
 | f+1,s=>s == i || match ops[s]? with
  | none=>false
  | some o=>o.after.any fun e=>Region.binds md e && waits md ops i f e.on
theorem waits_up{listed:Array Bool}(hc:Closed md ops listed){i:Nat}:∀{f s:Nat},waits md ops i f s=true→listed.getD s false=true→listed.getD i false=true
 | 0,s,h,hs=>by simp[waits] at h;rw[← h];exact hs
 | f+1,s,h,hs=>by
  unfold waits at h
  rw[Bool.or_eq_true] at h
  rcases h with h | h
  ·simp at h;rw[← h];exact hs
  ·cases ho:ops[s]? with
   | none=>rw[ho] at h;simp at h
   | some o=>
    rw[ho] at h
    obtain⟨e,he,hb⟩:=Array.any_eq_true'.1 h
    simp only[Bool.and_eq_true] at hb
    exact waits_up hc hb.2 (hc s o ho hs e he hb.1)
theorem Closed.set{listed:Array Bool}(hc:Closed md ops listed){j:Nat}(hj:j∈Region.ready md ops listed):Closed md ops (listed.setIfInBounds j true):=by
 intro k ok hk hl e he hb
 obtain⟨_,oj,hoj,hall⟩:=mem_ready.1 hj
 by_cases hkj:j=k
 ·subst hkj
  rw[hk] at hoj;cases hoj
  exact getD_set_true (hall e he hb)
 ·rw[getD_set_ne false hkj] at hl
  exact getD_set_true (hc k ok hk hl e he hb)
def wpAnyX(P:Program)(md:Region.Mode)(ops:Array Oper)(Q:Exit→Act→World→Prop)(S:World→Prop)(St:List Nat):Nat→Array Bool→Act→World→Prop
 | 0,listed,a,w=>Region.ready md ops listed=[]∧Q .normal a w
 | fuel+1,listed,a,w=>
  (Region.ready md ops listed=[]→Q .normal a w)∧
  ∀i∈Region.ready md ops listed,wpOp P ops Q i (fun a' w'=>(NoneUp St (listed.setIfInBounds i true)→S w')∧wpAnyX P md ops Q S St fuel (listed.setIfInBounds i true) a' w') a w
theorem wpAny_of_x:∀(fuel:Nat) (listed:Array Bool) (a:Act) (w:World),wpAnyX P md ops Q S St fuel listed a w→wpAny P md ops Q fuel listed a w
 | 0,_,_,_,h=>h
 | fuel+1,_,_,_,h=>⟨h.1,fun i hi=>wpOp_mono (fun a' w' h'=>wpAny_of_x fuel _ a' w' h'.2) (h.2 i hi)⟩
theorem wpAnyX_first{i:Nat}{oi:Oper}{v:Value}(hi:ops[i]?=some oi)(hsel:∀(j:Nat) (o:Oper) cs b,ops[j]?=some o→o.op≠.select cs b)
  (hQ:∀c a w,Q (.panic c) (a.put oi.dst v) w→Q (.panic c) a w) (hw:∀s,s∈St→∃f,waits md ops i f s=true∧s≠i) :
  ∀(fuel:Nat) (listed:Array Bool) (a:Act) (w:World),Closed md ops listed→
   (∀j oj,ops[j]?=some oj→j≠i→listed.getD j true=false→(∀e∈oj.after,Region.binds md e=true→e.on≠i)→oi.apart ops oj=true)→
   i∈Region.ready md ops listed→YieldsIf P ops S oi v a→S w→
   wpAnyX P md ops Q S St fuel (listed.setIfInBounds i true) (a.put oi.dst v) w→wpAnyX P md ops Q S St (fuel+1) listed a w:=by
 intro fuel
 induction fuel with
 | zero=>
  intro listed a w _ _ hr hy hS H
  refine⟨fun h=>(by rw[h] at hr;cases hr),fun j hj=>?_⟩
  by_cases hji:j=i
  ·subst hji;exact hy.wpOp hi hS ⟨fun _=>hS,H⟩
  ·have:=ready_mono hj hji
   rw[H.1] at this
   cases this
 | succ fuel ih=>
  intro listed a w hcl hfree hr hy hS H
  refine⟨fun h=>(by rw[h] at hr;cases hr),fun j hj=>?_⟩
  by_cases hji:j=i
  ·subst hji;exact hy.wpOp hi hS ⟨fun _=>hS,H⟩
  ·have h1:=H.2 j (ready_mono hj hji)
   obtain⟨hjun,oj,hoj,hall⟩:=mem_ready.1 hj
   have hiun:=(mem_ready.1 hr).1
   have hnot:∀e∈oj.after,Region.binds md e=true→e.on≠i:=fun e he hb heq=>by
    have h1:=hall e he hb
    rw[heq] at h1
    rcases Nat.lt_or_ge i listed.size with h' | h'
    ·simp[h'] at hiun h1;rw[hiun] at h1;cases h1
    ·simp[Array.getElem?_eq_none h'] at h1
   have h2:=wpOp_putIf hoj (hfree j oj hoj hji hjun hnot) (fun cs b=>hsel i oi cs b hi) (fun cs b=>hsel j oj cs b hoj) hQ hy h1
   have hfree':∀k ok,ops[k]?=some ok→k≠i→(listed.setIfInBounds j true).getD k true=false→
     (∀e∈ok.after,Region.binds md e=true→e.on≠i)→oi.apart ops ok=true:=fun k ok hk hki hun hno=>by
    refine hfree k ok hk hki ?_ hno
    by_cases hjk:j=k
    ·subst hjk;exact hjun
    ·rw[getD_set_ne true hjk] at hun;exact hun
   have hcl':=hcl.set hj
   have hi0:(listed.setIfInBounds j true).getD i false=false:=by
    rw[getD_set_ne false hji]
    rcases Nat.lt_or_ge i listed.size with h' | h'
    ·simp[h'] at hiun ⊢;exact hiun
    ·simp[Array.getElem?_eq_none h']
   have hnone:NoneUp St ((listed.setIfInBounds i true).setIfInBounds j true):=fun s hs=>by
    obtain⟨f,hf,hsi⟩:=hw s hs
    rw[Array.setIfInBounds_comm _ _ (Ne.symm hji),getD_set_ne false (Ne.symm hsi)]
    cases hq:(listed.setIfInBounds j true).getD s false
    ·rfl
    ·have:=waits_up hcl' hf hq
     rw[hi0] at this;cases this
   refine wpOp_mono (fun a' w' h3=>?_) h2
   have hS':=h3.2.1 hnone
   refine⟨fun _=>hS',ih (listed.setIfInBounds j true) a' w' hcl' hfree' (ready_mono hr (Ne.symm hji)) h3.1 hS' ?_⟩
   rw[Array.setIfInBounds_comm _ _ hji]
   exact h3.2.2
def closedB(md:Region.Mode)(ops:Array Oper)(listed:Array Bool):Bool:=(List.range ops.size).all fun j=> !listed.getD j false || ((ops[j]?).map (·.after.all fun e=> !Region.binds md e || listed.getD e.on false)).getD true
theorem closed_of{listed:Array Bool}(h:closedB md ops listed=true):Closed md ops listed:=by
 intro j oj hj hl e he hb
 have h1:=(List.all_eq_true.1 h) j (List.mem_range.2 (Array.getElem?_eq_some_iff.1 hj).1)
 rw[hj,hl] at h1
 simp only[Bool.not_true,Bool.false_or,Option.map_some,Option.getD_some] at h1
 have h2:=Array.all_eq_true_iff_forall_mem.1 h1 e he
 rw[hb] at h2
 simpa using h2
theorem wpAnyX_take{i:Nat}{oi:Oper}{v:Value}{fuel:Nat}{listed:Array Bool}{a:Act}{w:World}(hi:ops[i]?=some oi)
  (hk:(Region.noSelect ops && Region.free md ops listed i && (Region.ready md ops listed).contains i && closedB md ops listed && St.all fun s=>waits md ops i ops.size s && !(s == i))=true)
  (hQ:∀c a w,Q (.panic c) (a.put oi.dst v) w→Q (.panic c) a w) (hS:S w) (hy:YieldsIf P ops S oi v a)
  (h:wpAnyX P md ops Q S St fuel (listed.setIfInBounds i true) (a.put oi.dst v) w):wpAnyX P md ops Q S St (fuel+1) listed a w:=by
 simp only[Bool.and_eq_true] at hk
 obtain⟨⟨⟨⟨h1,h2⟩,h3⟩,h4⟩,h5⟩:=hk
 refine wpAnyX_first hi (Region.noSelect_spec h1) hQ (fun s hs=>?_) fuel listed a w (closed_of h4) (Region.free_spec hi h2) (by simpa using h3) hy hS h
 have:=(List.all_eq_true.1 h5) s hs
 simp only[Bool.and_eq_true,Bool.not_eq_true',beq_eq_false_iff_ne] at this
 exact⟨_,this.1,this.2⟩
def AllReadyX(P:Program)(md:Region.Mode)(ops:Array Oper)(Q:Exit→Act→World→Prop)(S:World→Prop)(St:List Nat)(fuel:Nat)(listed:Array Bool)(a:Act)(w:World)(rs:List Nat):Prop:=
 ∀i∈rs,wpOp P ops Q i (fun a' w'=>(NoneUp St (listed.setIfInBounds i true)→S w')∧wpAnyX P md ops Q S St fuel (listed.setIfInBounds i true) a' w') a w
theorem AllReadyX.one{fuel:Nat}{listed:Array Bool}{a:Act}{w:World}{i:Nat}{o:Oper}(ho:ops[i]?=some o)
  (h:∀K':Act→World→Prop,Shut (∀a w,(NoneUp St (listed.setIfInBounds i true)→S w)→(wpAnyX P md ops Q S St fuel (listed.setIfInBounds i true) a w)→K' a w)→if Region.wanted o (yielded ops a.tmps)=true then Oper.wp P o a w K' Q else K' (a.put o.dst undef) w):AllReadyX P md ops Q S St fuel listed a w [i]:=fun j hj=>by
 rcases List.mem_cons.1 hj with rfl | hj
 ·exact wpOp_step ho (fun K' hK=>h K' (fun a w hS hW=>hK a w ⟨hS,hW⟩))
 ·cases hj
theorem AllReadyX.cons{fuel:Nat}{listed:Array Bool}{a:Act}{w:World}{i:Nat}{rs:List Nat}(h:AllReadyX P md ops Q S St fuel listed a w [i])(hs:AllReadyX P md ops Q S St fuel listed a w rs):AllReadyX P md ops Q S St fuel listed a w (i :: rs):=fun j hj=>by
 rcases List.mem_cons.1 hj with rfl | hj
 ·exact h j (by simp)
 ·exact hs j hj
theorem wpAnyX_ready{rs:List Nat}{fuel:Nat}{listed:Array Bool}{a:Act}{w:World}(hr:Region.ready md ops listed=rs)(hne:rs≠[])
  (h:AllReadyX P md ops Q S St fuel listed a w rs):wpAnyX P md ops Q S St (fuel+1) listed a w:=
 ⟨fun h0=>absurd (hr ▸ h0) hne,hr ▸ h⟩
theorem wpAnyX_done{listed:Array Bool}{a:Act}{w:World}(hr:Region.ready md ops listed=[])(h:Q .normal a w) :
  ∀fuel,wpAnyX P md ops Q S St fuel listed a w
 | 0=>⟨hr,h⟩
 | _+1=>⟨fun _=>h,by rw[hr];simp⟩
theorem wp_region_x{id:Nat}{a:Act}{w:World}(S:World→Prop)(St:List Nat)(hm:P.follows .mixedOrders=true)(hS:S w.drew)
  (h:S w.drew→wpAnyX P .any ops Q S St ops.size (Array.replicate ops.size false) a w.drew):(Code.region id ops true).wp P Q a w:=
 wp_region_any hm (wpAny_of_x _ _ _ _ (h hS))
theorem wpAnyX_free:∀{fuel:Nat} {listed:Array Bool} {a:Act} {w:World},(St.any fun s=>listed.getD s false)=true→wpAnyX P md ops Q (fun _=>True) [] fuel listed a w→wpAnyX P md ops Q S St fuel listed a w
 | 0,_,_,_,_,h=>h
 | fuel+1,listed,a,w,hs,h=>⟨h.1,fun i hi=>wpOp_mono (fun a' w' h'=>by
   have hs':(St.any fun s=>(listed.setIfInBounds i true).getD s false)=true:=by
    obtain⟨s,hm,he⟩:=List.any_eq_true.1 hs
    exact List.any_eq_true.2 ⟨s,hm,getD_set_true he⟩
   refine⟨fun hn=>?_,wpAnyX_free hs' h'.2⟩
   obtain⟨s,hm,he⟩:=List.any_eq_true.1 hs'
   rw[hn s hm] at he;cases he) (h.2 i hi)⟩
end
end
end Go.Proofs.YtgfbepakonjbnaaGreat
end
