/-
  cofferlaw9.Key, tree.onlyOK. A tree on sectors of which it is known which are taken; trees grown key by key. No program in sight.
-/
import Derived.Test.YtgfbepakonjbnaaGreatU22
import Derived.Test.YtgfbepakonjbnaaGreatU11
import Derived.Test.YtgfbepakonjbnaaGreatU16
section
section
namespace Go.Proofs.YtgfbepakonjbnaaGreat
open Go.RowKit Go.MapKept Go.ChangeMaps
def u8I(x:Int):UInt8:=UInt8.ofNat (x % 256).toNat
def z32:Bs:=List.replicate 32 0
theorem z32_length:z32.length=32:=rfl
def keyB(k:Int):Bs:=((z32.set 0 (u8I (wrap64 (Int.tmod k 7*41)))).set 1 (u8I (k / 256))).set 31 (u8I k)
theorem keyB_length(k:Int):(keyB k).length=32:=by unfold keyB;rw[List.length_set,List.length_set,List.length_set,z32_length]
theorem u8I_int(x:Int):Value.int .u8 (x % 256)=Value.int .u8 (((x % 256).toNat:Nat):Int):=by
 rw[Int.toNat_of_nonneg (Int.emod_nonneg _ (by decide))]
theorem u8I_lt(x:Int):(x % 256).toNat<256:=by have:=Int.emod_lt_of_pos x (show(0:Int)<256 by decide);omega
theorem store_1{w:World}{b:Nat}{C:Array Value}{T:TypeId}(h:w.heap[b]?=some (.cells C T (0,0)))(i:Nat){v:Value}(hi:i<C.size)(h1:v.oneCell'=true):(storeCells ⟨b,i,none⟩ [v] 0).run Tryz.prog w=.ok () (w.setCell ⟨b,i,none⟩ v):=by
 have hc:w.cell? ⟨b,i,none⟩=some C[i]:=by rw[blk_cell h];simp[hi]
 have hf:=blk_free h i
 have:=run_storeCells_cells (P:=Tryz.prog) b i [v] 0 w (by simp[hc]) (by simpa using hf) (by simpa using h1)
 simpa [World.setCells] using this
attribute [-go_sem] loadCells storeCells
set_option maxRecDepth 100000 in
theorem onlyOK_spec(r:Int)(w:World):Calls Tryz.prog 128 #[.int .u32 r,.int .i64 0] w fun e w'=>e=.returned (.tuple #[.int .u32 r,.int .i64 0])∧Upd [] w w':=by
 go_enter Tryz.func128,Tryz.ntmps128
 go_wp2_with fail
 go_ret2
 exact⟨rfl,Upd.refl [] w⟩
theorem z32_lit:(#[.int .u8 0,.int .u8 0,.int .u8 0,.int .u8 0,.int .u8 0,.int .u8 0,.int .u8 0,.int .u8 0,.int .u8 0,.int .u8 0,.int .u8 0,.int .u8 0,.int .u8 0,.int .u8 0,.int .u8 0,.int .u8 0,.int .u8 0,.int .u8 0,.int .u8 0,.int .u8 0,.int .u8 0,.int .u8 0,.int .u8 0,.int .u8 0,.int .u8 0,.int .u8 0,.int .u8 0,.int .u8 0,.int .u8 0,.int .u8 0,.int .u8 0,.int .u8 0]:Array Value)=(bts z32).toArray:=rfl
theorem key_set{w:World}{b:Nat}{l:Bs}(h:w.heap[b]?=some (.cells (bts l).toArray 35 (0,0)))(i:Nat)(hi:i<l.length)(x:Int):(storeCells ⟨b,i,none⟩ [.int .u8 (x % 256)] 0).run Tryz.prog w=.ok () (w.setCell ⟨b,i,none⟩ (.int .u8 (x % 256)))∧(w.setCell ⟨b,i,none⟩ (.int .u8 (x % 256))).heap[b]?=some (.cells (bts (l.set i (u8I x))).toArray 35 (0,0)):=by
 refine⟨store_1 h i (by rw[List.size_toArray,bts_length];exact hi) rfl,?_⟩
 rw[u8I_int]
 exact blk_set_u8 h i (u8I_lt x)
set_option maxRecDepth 100000 in
theorem key_spec(k:Int)(w:World):Calls Tryz.prog 20 #[.int .i64 k] w fun e w'=>e=.returned (arr (keyB k))∧Upd [] w w':=by
 obtain⟨wA,hwA⟩:∃wA,wA=(w.alloc (.cells #[.int .u8 0,.int .u8 0,.int .u8 0,.int .u8 0,.int .u8 0,.int .u8 0,.int .u8 0,.int .u8 0,.int .u8 0,.int .u8 0,.int .u8 0,.int .u8 0,.int .u8 0,.int .u8 0,.int .u8 0,.int .u8 0,.int .u8 0,.int .u8 0,.int .u8 0,.int .u8 0,.int .u8 0,.int .u8 0,.int .u8 0,.int .u8 0,.int .u8 0,.int .u8 0,.int .u8 0,.int .u8 0,.int .u8 0,.int .u8 0,.int .u8 0,.int .u8 0] 35)).alloc (.cells #[.int .u8 0,.int .u8 0,.int .u8 0,.int .u8 0,.int .u8 0,.int .u8 0,.int .u8 0,.int .u8 0,.int .u8 0,.int .u8 0,.int .u8 0,.int .u8 0,.int .u8 0,.int .u8 0,.int .u8 0,.int .u8 0,.int .u8 0,.int .u8 0,.int .u8 0,.int .u8 0,.int .u8 0,.int .u8 0,.int .u8 0,.int .u8 0,.int .u8 0,.int .u8 0,.int .u8 0,.int .u8 0,.int .u8 0,.int .u8 0,.int .u8 0,.int .u8 0] 35):=⟨_,rfl⟩
 obtain⟨b2,hb2⟩:∃b,b=w.heap.size:=⟨_,rfl⟩
 obtain⟨b3,hb3⟩:∃b,b=w.heap.size+1:=⟨_,rfl⟩
 have hne:b2≠b3:=by omega
 have h2:wA.heap[b2]?=some (.cells (bts z32).toArray 35 (0,0)):=by rw[hwA,hb2,blk_alloc_ne (by simp)];exact blk_alloc _
 have h3:wA.heap[b3]?=some (.cells (bts z32).toArray 35 (0,0)):=by rw[hwA,hb3,z32_lit];have:=blk_alloc (w:=w.alloc (.cells (bts z32).toArray 35)) (.cells (bts z32).toArray 35);simpa using this
 have s1:=key_set h3 0 (by rw[z32_length];omega) (wrap64 (Int.tmod k 7*41))
 have s2:=key_set s1.2 1 (by rw[List.length_set,z32_length];omega) (k / 256)
 have s3:=key_set s2.2 31 (by rw[List.length_set,List.length_set,z32_length];omega) k
 obtain⟨w1,hw1⟩:∃w1,w1=wA.setCell ⟨b3,0,none⟩ (.int .u8 (wrap64 (Int.tmod k 7*41) % 256)):=⟨_,rfl⟩
 rw[← hw1] at s1 s2 s3
 obtain⟨wB,hwB⟩:∃w2,w2=w1.setCell ⟨b3,1,none⟩ (.int .u8 (k / 256 % 256)):=⟨_,rfl⟩
 rw[← hwB] at s2 s3
 obtain⟨wC,hwC⟩:∃w3,w3=wB.setCell ⟨b3,31,none⟩ (.int .u8 (k % 256)):=⟨_,rfl⟩
 rw[← hwC] at s3
 have u1:Upd [b3] wA w1:=by rw[hw1];exact(Upd.refl _ _).set _ (.inl (by simp))
 have u2:Upd [b3] wA wB:=by rw[hwB];exact u1.set _ (.inl (by simp))
 have u3:Upd [b3] wA wC:=by rw[hwC];exact u2.set _ (.inl (by simp))
 have h2C:=(u3.block _ (blk_lt h2) (by simpa using hne)).trans h2
 have l3:=run_cells_blk (n:=32) s3.2 (by rw[bts_length];exact keyB_length k)
 have s4:=store_blk h2C (l:=bts (keyB k)) (by rw[List.size_toArray,bts_length,bts_length,keyB_length,z32_length]) (bts_one _)
 have r1:=s1.1
 have r2:=s2.1
 have r3:=s3.1
 have HU:Hid (Upd [] w (wC.setRow b2 (bts (keyB k)).toArray)):=by
  show Upd _ _ _
  have a1:Upd [] w wA:=by rw[hwA];exact((Upd.refl _ _).alloc _).alloc _
  have a2:Upd [b2] wC (wC.setRow b2 (bts (keyB k)).toArray):=upd_row (Upd.refl _ _) _ (.inl (by simp))
  exact(a1.late u3 (fun i hi=> .inr (by simp at hi;omega))).late a2 (fun i hi=> .inr (by simp at hi;omega))
 have H2C:=Lib.hid h2C
 have HW:=Lib.hid hwA
 have HB:=Lib.hid (And.intro hb2 hb3)
 have rr:=@results_cell_row Tryz.prog
 rw[hwA,hb3] at r1
 rw[hb3] at r2 r3 l3
 rw[hb2] at s4
 have hik:(Tryz.prog.info? 35).map (·.size)=some (bts (keyB k)).toArray.size:=by rw[List.size_toArray,bts_length,keyB_length];exact infoID
 clear hwA hb3 h2 h3 s1 s2 s3 hw1 hwB hwC u1 u2 u3 h2C hne rr HW HB
 have HB2:=Lib.hid hb2
 have el:keyB k=((z32.set 0 (u8I (wrap64 (Int.tmod k 7*41)))).set 1 (u8I (k / 256))).set 31 (u8I k):=rfl
 rw[← el] at l3
 clear el hb2
 go_enter Tryz.func20,Tryz.ntmps20
 go_wp2_with fail
 have hb2:=HB2.out
 rw[← hb2]
 refine bodyPost_ret (results_cell_row (p:=2) (ty:=35) ?_ _ _ b2 _ _ _ _ ?_ (setRow_heap _ _ _ _ _ _ H2C.out) Tryz.underlying35 rfl hik) ?_ ?_
 ·rfl
 ·rfl
 ·rfl
 exact⟨rfl,HU.out⟩
end Go.Proofs.YtgfbepakonjbnaaGreat
end
section
namespace Go.Proofs.YtgfbepakonjbnaaGreat
open Go.RowKit
theorem leftN_four:∀h,leftN (fun i=>decide (i<4)) h=h-4
 | 0=>rfl
 | h+1=>by
  unfold leftN
  rw[leftN_four h]
  by_cases e:h<4
  ·rw[decide_eq_true e];simp;omega
  ·rw[decide_eq_false e];simp;omega
theorem leftN_list{h:Nat}:∀{S:List Nat},S.Nodup→(∀s,s∈S→4≤s∧s<h)→leftN (fun i=>decide (i<4) || decide (i∈S)) h+S.length=h-4
 | [],_,_=>by
  have:(fun i=>decide (i<4) || decide (i∈([]:List Nat)))=fun i=>decide (i<4):=by funext i;simp
  rw[this,leftN_four];simp
 | s :: S,hn,hl=>by
  have ih:=leftN_list (h:=h) (List.nodup_cons.1 hn).2 (fun x hx=>hl x (List.mem_cons_of_mem _ hx))
  have hs:=hl s (by simp)
  have:=leftN_take (T:=fun i=>decide (i<4) || decide (i∈S)) (T':=fun i=>decide (i<4) || decide (i∈s :: S)) (s:=s) (fun i=>by
   by_cases e:i=s
   ·subst e;simp
   ·simp[e]) (by simp[(List.nodup_cons.1 hn).1];omega) h
  rw[if_pos hs.2] at this
  simp only[List.length_cons]
  omega
structure TreeIn(C:Nat→Sec)(h r:Nat)(l:List Pair9)(S:List Nat):Prop where
 at_:TreeAt C r l S
 nd:S.Nodup
 low:∀s,s∈S→4≤s∧s<h
theorem TreeIn.left{C:Nat→Sec}{h r:Nat}{l:List Pair9}{S:List Nat}(ht:TreeIn C h r l S):leftN (fun i=>decide (i<4) || decide (i∈S)) h+S.length=h-4:=leftN_list ht.nd ht.low
theorem keys_perm{M:Nat→Option Sec}{h:Nat}{L:List Nat}(ho:MOk M h)(hL:∀i,(M i).isSome=true→i∈L):cntM M h≤L.length:=by
 unfold cntM
 exact(keysM_nodup M h).length_le_of_subset fun i hi=>hL i ((mem_keysM ho).1 hi)
theorem insL_len_le(l:List Pair9)(key v:Bs):(insL l key v).length≤l.length+1:=by rw[insL_length];split<;>omega
end Go.Proofs.YtgfbepakonjbnaaGreat
end
end
section
namespace Go.Proofs.YtgfbepakonjbnaaGreat
open Go.RowKit Go.MapKept Go.ChangeMaps
def Sg.R(g:Sg)(M:Nat→Option Sec)(k:Nat):Nat:=num (g.cur M 0) (4*k) 4
def put0(M:Nat→Option Sec)(s:Sec):Nat→Option Sec:=fun k=>if k=0 then some s else M k
set_option maxHeartbeats 1000000 in
theorem root_ok{w:World}{g:Sg}{M:Nat→Option Sec}(h:SpAt w g M)(hh:1<g.h)(k:Nat)(hk:k<16) :
  Calls Tryz.prog 89 #[.pointer (some ⟨g.x.tb,0,none⟩),.int .i64 (k:Int)] w fun e w'=>e=.returned (.tuple #[.int .u32 (g.R M k:Int),.int .i64 0])∧SpAt w' g M∧Upd g.S w w':=by
 have HH:=Lib.hid (homesS h)
 have H:=Lib.hid h
 have hb:((g.h:Int) == 0)=false:=by rw[beq_eq_false_iff_ne];omega
 have d1:decide ((k:Int)<0)=false:=decide_eq_false (by omega)
 have d2:decide (16≤(k:Int))=false:=decide_eq_false (by omega)
 have d3:decide (16≤k)=false:=decide_eq_false (by omega)
 have HL:=Lib.hid (h.cur_len 0)
 obtain⟨N,hN⟩:∃N:Int,N=(g.R M k:Int):=⟨_,rfl⟩
 have hN0:0≤N:=by omega
 have hN1:N<4294967296:=by have:=num_lt (g.cur M 0) (4*k) 4;unfold Sg.R at hN;omega
 have hwr:IntKind.u32.wrap N=N:=by rw[IntKind.wrap_u32];omega
 have HN:=Lib.hid hN
 rw[← hN]
 clear h hN
 go_enter Tryz.func89,Tryz.ntmps89
 go_wp2_with fail
 refine HH.out.mono ?_
 rintro e w1 ⟨rfl,n1,hn1⟩
 have hu1:Upd [] w w1:=by rw[hn1];exact(Upd.refl _ _).drewN _
 have HRD:=Lib.hid (readS (H.out.below hu1) 0 (by omega))
 have HU1:=Lib.hid hu1
 clear hn1 hu1
 go_wp2_with fail
 refine HRD.out.mono ?_
 rintro e w2 ⟨v,rfl,ho,h2,hu2⟩
 obtain⟨av,lv,cv,rfl⟩:∃a b c,v=.slice a b c:=by obtain⟨a,c,rfl,_⟩:=ho.rd;exact⟨_,_,_,rfl⟩
 have hat:=at_spec _ _ (4*k) 4 w2 ho.rd (by omega) (by omega) (by rw[HL.out];omega) (by rw[HL.out];omega)
 rw[show((4*k:Nat):Int)=4*(k:Int) from by omega,show((4:Nat):Int)=4 from rfl,show((num (g.cur M 0) (4*k) 4:Nat):Int)=N from by rw[HN.out];rfl] at hat
 have HAT:=Lib.hid hat
 have HU2:=Lib.hid ((HU1.out.mono (by simp)).trans (hu2.mono g.mem))
 have H2:=Lib.hid h2
 clear ho hat h2 hu2
 go_wp2_with fail
 refine HAT.out.mono ?_
 rintro e w' ⟨rfl,rfl⟩
 go_wp2_with fail
 go_ret2
 exact⟨rfl,H2.out,HU2.out⟩
set_option maxRecDepth 100000 in
set_option maxHeartbeats 2000000 in
theorem setroot_ok{w:World}{g:Sg}{M:Nat→Option Sec}(h:SpAt w g M)(hh:1<g.h)(hc:(M 0).isSome=true∨cntM M g.h<40)(k:Nat)(hk:k<16)(V:Nat) :
  Calls Tryz.prog 172 #[.pointer (some ⟨g.x.tb,0,none⟩),.int .i64 (k:Int),.int .u32 (V:Int)] w fun e w'=>e=.returned (.int .i64 0)∧SpAt w' g (put0 M (put (g.cur M 0) (4*k) 4 V))∧Upd g.S w w':=by
 have HH:=Lib.hid (homesS h)
 have H:=Lib.hid h
 have HC:=Lib.hid hc
 have hb:((g.h:Int) == 0)=false:=by rw[beq_eq_false_iff_ne];omega
 have d1:decide ((k:Int)<0)=false:=decide_eq_false (by omega)
 have d2:decide (16≤(k:Int))=false:=decide_eq_false (by omega)
 have d3:decide (16≤k)=false:=decide_eq_false (by omega)
 have HL:=Lib.hid (h.cur_len 0)
 clear h hc
 go_enter Tryz.func172,Tryz.ntmps172
 go_wp2_with fail
 refine HH.out.mono ?_
 rintro e w1 ⟨rfl,n1,hn1⟩
 have hu1:Upd [] w w1:=by rw[hn1];exact(Upd.refl _ _).drewN _
 have HRD:Hid (Calls Tryz.prog 155 #[.pointer (some ⟨g.x.tb,0,none⟩),.int .i64 0] w1 fun e w'=>∃v,e=.returned (.tuple #[v,.int .i64 0])∧OwnN w' 5 (fun k=>w1.heap.size≤k) v (g.cur M 0)∧SpAt w' g M∧Upd [g.j.jb] w1 w'):=Lib.hid (readS (H.out.below hu1) 0 (by omega))
 have HU1:=Lib.hid hu1
 clear hn1 hu1
 go_wp2_with fail
 refine HRD.out.mono ?_
 rintro e w2 ⟨v,rfl,ho,h2,hu2⟩
 obtain⟨kb,c,rfl,_,hkb,-⟩:=ho.sec HL.out
 have ho2:=ho.own (by rw[HL.out];omega)
 have HLT:=Lib.hid (show w.heap.size≤kb from Nat.le_trans HU1.out.size hkb)
 have HO2:=Lib.hid ho2
 have H1:=Lib.hid (H.out.below HU1.out)
 have HU12:=Lib.hid hu2
 have HU2:=Lib.hid ((HU1.out.mono (by simp)).trans (hu2.mono g.mem))
 have H2:=Lib.hid h2
 have HKB:=Lib.hid hkb
 clear ho ho2 hkb h2 hu2
 go_wp2_with fail
 go_loopw [29] (fun i wr=>∃q:Nat,q≤4∧i=.int .i64 (q:Int)∧Own wr 5 (fun k=>w1.heap.size≤k) (.slice (some ⟨kb,0,none⟩) 512 c) (putK (g.cur M 0) (4*k) 4 V q)∧Upd [kb] w2 wr) (fun i _=>4-(intOf i).toNat)
 case atStart=>exact⟨0,by omega,rfl,by rw[putK_zero];exact HO2.out,Upd.refl _ _⟩
 case round=>
  obtain⟨q,hq,rfl,ho,hu⟩:=hrel
  by_cases hlt:q<4
  ·have hlt':decide ((q:Int)<4)=true:=decide_eq_true (by omega)
   have hlen:(putK (g.cur M 0) (4*k) 4 V q).length=512:=by rw[putK_length (by omega) (by rw[HL.out];omega)];exact HL.out
   have hst:=putK_step (b:=g.cur M 0) (a:=4*k) (n:=4) (v:=V) hlt (by rw[HL.out];omega)
   obtain⟨I,hI⟩:∃I,I=4*k+q:=⟨_,rfl⟩
   have hIk:4*(k:Int)+(q:Int)=(I:Int):=by omega
   obtain⟨hcl,hf⟩:=ho.cell512 hlen (q:=I) (by omega)
   obtain⟨Y,hY⟩:∃Y,Y=V / 256 ^ (4-1-q) % 256:=⟨_,rfl⟩
   have o2:=own_set512 ho hlen (q:=I) (by omega) (y:=Y) (by omega)
   have eY:UInt8.ofNat Y=UInt8.ofNat (V / 256 ^ (4-1-q)):=by
    apply UInt8.toNat_inj.1
    rw[UInt8.toNat_ofNat',UInt8.toNat_ofNat',hY];omega
   rw[eY,hI,hst,← hI] at o2
   have u2:Upd [kb] wr (wr.setCell ⟨kb,I,none⟩ (.int .u8 (Y:Int))):=(Upd.refl _ _).set _ (by simp)
   have HO:=Lib.hid o2
   have HUx:=Lib.hid (hu.trans u2)
   have i0:(0:Int)≤(I:Int):=by omega
   have i1:(I:Int)<512:=by omega
   have s0:decide ((24:Int)-8*(q:Int)<0)=false:=decide_eq_false (by omega)
   have hsh:(0:Int)≤24-8*(q:Int):=by omega
   have hsh2:24-8*(q:Int)≤24:=by omega
   have hYI:(V:Int) / 2 ^ (24-8*q) % 256=(Y:Int):=by
    have e1:(2:Int) ^ (24-8*q)=((256 ^ (4-1-q):Nat):Int):=by
     rw[show(256:Nat)=2 ^ 8 from rfl,← Nat.pow_mul,Int.natCast_pow,show 24-8*q=8*(4-1-q) from by omega];rfl
    rw[e1,hY];omega
   have HYI:=Lib.hid hYI
   clear ho hu hlen hst hI eY o2 u2 hYI hY
   go_wp2_with fail
   exact⟨⟨q+1,by omega,by go_num,by rw[HYI.out];exact HO.out,by rw[HYI.out];exact HUx.out⟩,by simp[intOf];omega⟩
  ·obtain rfl:q=4:=by omega
   have hlt':decide (((4:Nat):Int)<4)=false:=rfl
   rw[putK_full] at ho
   have hlen:(put (g.cur M 0) (4*k) 4 V).length=512:=by rw[put_length (by rw[HL.out];omega)];exact HL.out
   have h3:=H1.out.late H2.out HU12.out hu (fun q hq=>by simp at hq;subst hq;exact HKB.out)
   have HW:Hid (Calls Tryz.prog 140 #[.pointer (some ⟨g.x.tb,0,none⟩),.int .i64 0,.slice (some ⟨kb,0,none⟩) 512 c] wr fun e w'=>e=.returned (.int .i64 0)∧SpAt w' g (put0 M (put (g.cur M 0) (4*k) 4 V))∧Upd [g.x.wb] wr w'):=Lib.hid (writeS h3 0 (by omega) _ _ ho.rd hlen HC.out)
   have HU3:=Lib.hid (HU2.out.late hu (fun k hk=>by simp at hk;subst hk;exact .inr HLT.out))
   clear ho hu hlen h3
   go_wp2_with fail
   refine HW.out.mono ?_
   rintro e w4 ⟨rfl,h4,hu4⟩
   have H4:=Lib.hid h4
   have HU4:=Lib.hid (HU3.out.trans (hu4.mono g.memw))
   clear h4 hu4
   go_wp2_with fail
   go_ret
   exact⟨rfl,H4.out,HU4.out⟩
end Go.Proofs.YtgfbepakonjbnaaGreat
end
section
set_option linter.unusedSimpArgs false
set_option linter.unusedVariables false
namespace Go.Proofs.YtgfbepakonjbnaaGreat
open Go.RowKit Go.MapKept Go.ChangeMaps
section
def valR(n a l:Nat):Bs:=put (put (put z16 0 4 n) 4 4 a) 8 4 l
theorem valR_length(n a l:Nat):(valR n a l).length=16:=by
 have h1:=put_len (b:=z16) (L:=16) rfl (a:=0) (n:=4) (v:=n) (by omega)
 have h2:=put_len h1 (a:=4) (n:=4) (v:=a) (by omega)
 exact put_len h2 (a:=8) (n:=4) (v:=l) (by omega)
theorem num_valR{n a l:Nat}(hn:n<4294967296)(ha:a<4294967296)(hl:l<4294967296):num (valR n a l) 0 4=n∧num (valR n a l) 4 4=a∧num (valR n a l) 8 4=l:=by
 have h1:=put_len (b:=z16) (L:=16) rfl (a:=0) (n:=4) (v:=n) (by omega)
 have h2:=put_len h1 (a:=4) (n:=4) (v:=a) (by omega)
 unfold valR
 refine⟨?_,?_,?_⟩
 ·rw[num_put_ne _ (by rw[h2];omega) (.inl (by omega)),num_put_ne _ (by rw[h1];omega) (.inl (by omega)),num_put (by decide) (by omega)]
 ·rw[num_put_ne _ (by rw[h2];omega) (.inl (by omega)),num_put (by rw[h1];omega) (by omega)]
 ·rw[num_put (by rw[h2];omega) (by omega)]
def Rc.ent(r:Rc):Pair9:=(r.key,valR r.n r.at_ r.len)
def recL:List Rc→Bs→Option Rc
 | [],_=>none
 | r :: R,key=>if ltB r.key key then recL R key else if r.key=key then some r else none
theorem lookL_rec:∀(R:List Rc) (key:Bs),lookL (R.map Rc.ent) key=(recL R key).map fun r=>valR r.n r.at_ r.len
 | [],_=>rfl
 | r :: R,key=>by
  have ih:=lookL_rec R key
  simp only[List.map_cons,lookL,recL]
  by_cases h:ltB r.key key=true
  ·rw[if_pos (show ltB r.ent.1 key=true from h),if_pos h,ih]
  ·rw[if_neg (show ¬ltB r.ent.1 key=true from h),if_neg h]
   by_cases e:r.key=key
   ·rw[if_pos (show r.ent.1=key from e),if_pos e];rfl
   ·rw[if_neg (show ¬r.ent.1=key from e),if_neg e];rfl
theorem recL_some:∀{R:List Rc} {key:Bs} {r:Rc},recL R key=some r→r∈R∧r.key=key
 | [],_,_,h=>by cases h
 | x :: R,key,r,h=>by
  unfold recL at h
  split at h
  ·obtain⟨h1,h2⟩:=recL_some h
   exact⟨List.mem_cons_of_mem _ h1,h2⟩
  ·split at h
   ·rename_i e;cases h;exact⟨List.mem_cons_self ..,e⟩
   ·cases h
theorem RecsAt.perm'{K:Nat→Option Pk}{R R':List Rc}(k:RecsAt K R)(h:R.Perm R'):RecsAt K R':=
 ⟨fun r hr=>k.rec_ r (h.symm.subset hr),fun n p hp=>by rw[← liveOf_perm h];exact k.live n p hp⟩
def insR:List Rc→Rc→List Rc
 | [],x=>[x]
 | r :: R,x=>if ltB r.key x.key then r :: insR R x else if r.key=x.key then x :: R else x :: r :: R
theorem insR_ent:∀(R:List Rc) (x:Rc),(insR R x).map Rc.ent=insL (R.map Rc.ent) x.key (valR x.n x.at_ x.len)
 | [],_=>rfl
 | r :: R,x=>by
  have ih:=insR_ent R x
  simp only[List.map_cons,insL,insR]
  by_cases h:ltB r.key x.key=true
  ·rw[if_pos (show ltB r.ent.1 x.key=true from h),if_pos h,List.map_cons,ih]
  ·rw[if_neg (show ¬ltB r.ent.1 x.key=true from h),if_neg h]
   by_cases e:r.key=x.key
   ·rw[if_pos (show r.ent.1=x.key from e),if_pos e];rfl
   ·rw[if_neg (show ¬r.ent.1=x.key from e),if_neg e];rfl
def SortR(R:List Rc):Prop:=(R.map (·.key)).Pairwise (fun x y=>ltB x y=true)
theorem insR_perm:∀{R:List Rc} {x:Rc},recL R x.key=none→(insR R x).Perm (x :: R)
 | [],x,_=>List.Perm.refl _
 | r :: R,x,hn=>by
  unfold recL at hn
  unfold insR
  by_cases h:ltB r.key x.key=true
  ·rw[if_pos h] at hn ⊢
   exact((insR_perm hn).cons r).trans (List.Perm.swap x r R)
  ·rw[if_neg h] at hn ⊢
   by_cases e:r.key=x.key
   ·rw[if_pos e] at hn;cases hn
   ·rw[if_neg e]
theorem insR_repl:∀{R:List Rc} {key:Bs} {y:Rc},recL R key=some y→∃A B,R=A++y :: B∧∀x:Rc,x.key=key→insR R x=A++x :: B
 | [],key,y,h=>by cases h
 | r :: R,key,y,h=>by
  unfold recL at h
  by_cases hl:ltB r.key key=true
  ·rw[if_pos hl] at h
   obtain⟨A,B,e1,e2⟩:=insR_repl h
   refine⟨r :: A,B,by rw[e1];rfl,fun x hx=>?_⟩
   unfold insR
   rw[hx,if_pos hl,e2 x hx];rfl
  ·rw[if_neg hl] at h
   by_cases e:r.key=key
   ·rw[if_pos e] at h
    cases h
    refine⟨[],R,rfl,fun x hx=>?_⟩
    unfold insR
    rw[hx,if_neg hl,if_pos e];rfl
   ·rw[if_neg e] at h;cases h
theorem insR_length_le(R:List Rc)(x:Rc):(insR R x).length≤R.length+1:=by
 induction R with
 | nil=>simp[insR]
 | cons r R ih=>
  unfold insR
  split
  ·simp only[List.length_cons];omega
  ·split<;>simp only[List.length_cons]<;>omega
theorem insR_mem:∀{R:List Rc} {x y:Rc},y∈insR R x→y=x∨y∈R
 | [],x,y,h=>by simp[insR] at h;exact .inl h
 | r :: R,x,y,h=>by
  unfold insR at h
  split at h
  ·rcases List.mem_cons.1 h with e | e
   ·exact .inr (by rw[e];exact List.mem_cons_self ..)
   ·rcases insR_mem e with q | q
    ·exact .inl q
    ·exact .inr (List.mem_cons_of_mem _ q)
  ·split at h
   ·rcases List.mem_cons.1 h with e | e
    ·exact .inl e
    ·exact .inr (List.mem_cons_of_mem _ e)
   ·rcases List.mem_cons.1 h with e | e
    ·exact .inl e
    ·exact .inr e
theorem insR_sort:∀{R:List Rc} {x:Rc},SortR R→SortR (insR R x)
 | [],x,_=>by unfold SortR insR;simp
 | r :: R,x,hs=>by
  have hs2:=List.pairwise_cons.1 hs
  unfold insR
  by_cases h:ltB r.key x.key=true
  ·rw[if_pos h]
   refine List.pairwise_cons.2 ⟨fun k hk=>?_,insR_sort hs2.2⟩
   obtain⟨y,hy,rfl⟩:=List.mem_map.1 hk
   rcases insR_mem hy with rfl | q
   ·exact h
   ·exact hs2.1 _ (List.mem_map.2 ⟨y,q,rfl⟩)
  ·rw[if_neg h]
   by_cases e:r.key=x.key
   ·rw[if_pos e]
    exact List.pairwise_cons.2 ⟨fun k hk=>by have:=hs2.1 k hk;dsimp only at this ⊢;rw[← e];exact this,hs2.2⟩
   ·rw[if_neg e]
    have hlt:ltB x.key r.key=true:=by
     cases q:ltB x.key r.key
     ·exact absurd (ltB_total (by simpa using h) q) e
     ·rfl
    refine List.pairwise_cons.2 ⟨fun k hk=>?_,hs⟩
    rcases List.mem_cons.1 hk with rfl | q
    ·exact hlt
    ·exact ltB_trans hlt (hs2.1 k q)
theorem recL_of_mem:∀{R:List Rc} {x:Rc},SortR R→x∈R→recL R x.key=some x
 | [],x,_,h=>by simp at h
 | r :: R,x,hs,h=>by
  have hs2:=List.pairwise_cons.1 hs
  unfold recL
  rcases List.mem_cons.1 h with rfl | h
  ·rw[ltB_irrefl,if_neg (by simp),if_pos rfl]
  ·rw[if_pos (hs2.1 _ (List.mem_map.2 ⟨x,h,rfl⟩))]
   exact recL_of_mem hs2.2 h
theorem insR_self:∀(R:List Rc) (x:Rc),x∈insR R x
 | [],x=>by simp[insR]
 | r :: R,x=>by
  unfold insR
  split
  ·exact List.mem_cons_of_mem _ (insR_self R x)
  ·split<;>exact List.mem_cons_self ..
theorem insR_keep:∀{R:List Rc} {x y:Rc},y∈R→y.key≠x.key→y∈insR R x
 | [],x,y,h,_=>by simp at h
 | r :: R,x,y,h,hne=>by
  unfold insR
  split
  ·rcases List.mem_cons.1 h with rfl | h
   ·exact List.mem_cons_self ..
   ·exact List.mem_cons_of_mem _ (insR_keep h hne)
  ·split
   ·rename_i e
    rcases List.mem_cons.1 h with rfl | h
    ·exact absurd e hne
    ·exact List.mem_cons_of_mem _ h
   ·exact List.mem_cons_of_mem _ h
theorem recL_ins{R:List Rc}(hs:SortR R)(x:Rc):recL (insR R x) x.key=some x:=recL_of_mem (insR_sort hs) (insR_self R x)
theorem recL_ins_ne{R:List Rc}(hs:SortR R)(x:Rc){key:Bs}(hk:key≠x.key):recL (insR R x) key=recL R key:=by
 cases hq:recL R key with
 | some z=>
  obtain⟨h1,h2⟩:=recL_some hq
  have:=recL_of_mem (insR_sort hs) (insR_keep (x:=x) h1 (by rw[h2];exact hk))
  rw[h2] at this;exact this
 | none=>
  cases hp:recL (insR R x) key with
  | none=>rfl
  | some z=>
   exfalso
   obtain⟨h1,h2⟩:=recL_some hp
   rcases insR_mem h1 with rfl | h3
   ·exact hk h2.symm
   ·have:=recL_of_mem hs h3
    rw[h2,hq] at this;cases this
def InP(K:Nat→Option Pk)(i:Nat):Prop:=∃n p,K n=some p∧p.start≤i∧i<p.start+16
structure KpM(C:Nat→Sec)(h:Nat)(T:Nat→Bool)(r:Nat)(S:List Nat)(K:Nat→Option Pk)(Rp Rt:List Rc):Prop where
 pk:PksAt C h T K
 rc:RecsAt K Rp
 tr:TreeAt C r (Rt.map Rc.ent) S
 nd:S.Nodup
 low:∀s,s∈S→4≤s∧s<h
 only:∀i,T i=true↔i<4∨i∈S∨InP K i
 apart:∀s,s∈S→¬InP K s
theorem InP.set{K:Nat→Option Pk}{n:Nat}{p:Pk}{i:Nat}:InP (setP K n (some p)) i↔(p.start≤i∧i<p.start+16)∨∃m q,m≠n∧K m=some q∧q.start≤i∧i<q.start+16:=by
 constructor
 ·rintro⟨m,q,hq,h1,h2⟩
  by_cases e:m=n
  ·subst e;rw[setP_same] at hq;cases hq;exact .inl ⟨h1,h2⟩
  ·rw[setP_ne _ _ e] at hq;exact .inr ⟨m,q,e,hq,h1,h2⟩
 ·rintro(⟨h1,h2⟩ | ⟨m,q,e,hq,h1,h2⟩)
  ·exact⟨n,p,setP_same _ _ _,h1,h2⟩
  ·exact⟨m,q,by rw[setP_ne _ _ e];exact hq,h1,h2⟩
theorem InP.same{K:Nat→Option Pk}{n:Nat}{p p':Pk}(hn:K n=some p)(hs:p'.start=p.start)(i:Nat):InP (setP K n (some p')) i↔InP K i:=by
 rw[InP.set,hs]
 constructor
 ·rintro(⟨h1,h2⟩ | ⟨m,q,e,hq,h1,h2⟩)
  ·exact⟨n,p,hn,h1,h2⟩
  ·exact⟨m,q,hq,h1,h2⟩
 ·rintro⟨m,q,hq,h1,h2⟩
  by_cases e:m=n
  ·rw[e,hn] at hq;cases hq;exact .inl ⟨h1,h2⟩
  ·exact .inr ⟨m,q,e,hq,h1,h2⟩
theorem InP.new{K:Nat→Option Pk}{n:Nat}{p:Pk}(hn:K n=none)(i:Nat):InP (setP K n (some p)) i↔(p.start≤i∧i<p.start+16)∨InP K i:=by
 rw[InP.set]
 refine or_congr Iff.rfl ⟨?_,?_⟩
 ·rintro⟨m,q,e,hq,h1,h2⟩;exact⟨m,q,hq,h1,h2⟩
 ·rintro⟨m,q,hq,h1,h2⟩
  exact⟨m,q,(fun e=>by rw[e,hn] at hq;cases hq),hq,h1,h2⟩
theorem InP.gone{C:Nat→Sec}{h:Nat}{T:Nat→Bool}{K:Nat→Option Pk}(k:PksAt C h T K){n:Nat}{p:Pk}(hn:K n=some p)(i:Nat):InP (setP K n none) i↔InP K i∧¬(p.start≤i∧i<p.start+16):=by
 constructor
 ·rintro⟨m,q,hq,h1,h2⟩
  by_cases e:m=n
  ·rw[e,setP_same] at hq;cases hq
  ·rw[setP_ne _ _ e] at hq
   have:=k.apart m q n p hq hn e
   exact⟨⟨m,q,hq,h1,h2⟩,by omega⟩
 ·rintro⟨⟨m,q,hq,h1,h2⟩,h3⟩
  by_cases e:m=n
  ·rw[e,hn] at hq;cases hq;exact absurd ⟨h1,h2⟩ h3
  ·exact⟨m,q,by rw[setP_ne _ _ e];exact hq,h1,h2⟩
section
variable {C C':Nat→Sec} {h r:Nat} {T T':Nat→Bool} {S:List Nat} {K K':Nat→Option Pk} {Rp Rt:List Rc}
theorem KpM.drop(k:KpM C h T r S K Rp Rt)(hpk:PksAt C' h T' K'){x:Rc}{Rp':List Rc}(hd:DropOut K T x.n x.len K' T')(hp:Rp.Perm (x :: Rp'))(hc:∀i,i≠1→i≠2→i≠3→C' i=C i):KpM C' h T' r S K' Rp' Rt:=by
 have hrc:=k.rc.drop hp hd
 have htr:TreeAt C' r (Rt.map Rc.ent) S:=k.tr.keep fun s hs=>by have:=k.low s hs;exact hc s (by omega) (by omega) (by omega)
 obtain⟨p,hn,_,⟨_,rfl,hT⟩ | ⟨_,rfl,rfl⟩⟩:=hd
 ·refine⟨hpk,hrc,htr,k.nd,k.low,fun i=>?_,fun s hs q=>k.apart s hs ((InP.gone k.pk hn s).1 q).1⟩
  rw[hT,InP.gone k.pk hn]
  have h4:=(k.pk.low _ _ hn).1
  by_cases e:p.start≤i∧i<p.start+16
  ·rw[if_pos e]
   refine⟨(fun q=>by cases q),?_⟩
   rintro(q | q | ⟨_,q⟩)
   ·omega
   ·exact absurd ⟨_,p,hn,e.1,e.2⟩ (k.apart i q)
   ·exact absurd e q
  ·rw[if_neg e,k.only i]
   exact or_congr Iff.rfl (or_congr Iff.rfl ⟨fun q=>⟨q,e⟩,fun q=>q.1⟩)
 ·refine⟨hpk,hrc,htr,k.nd,k.low,fun i=>?_,fun s hs q=>k.apart s hs ((InP.same hn (p':=⟨p.start,p.data,p.live-x.len⟩) rfl s).1 q)⟩
  rw[InP.same hn (p':=⟨p.start,p.data,p.live-x.len⟩) rfl]
  exact k.only i
theorem KpM.add(k:KpM C h T r S K Rp Rt)(hpk:PksAt C' h T' K'){key b:List UInt8}{y:Nat × Nat}(hk:key.length=32)(hb:b.length≤4200)(ha:AddOut K T h (frameB key b) K' T' (some y))
  (hc:∀i,i≠1→i≠2→i≠3→(∀p,K' y.1=some p→¬(p.start≤i∧i<p.start+16))→C' i=C i):KpM C' h T' r S K' (⟨y.1,y.2,key,b⟩ :: Rp) Rt∧(∀s,s∈S→C' s=C s):=by
 have hrc:=(k.rc.add hk hb ha).1
 have hS:∀s,s∈S→¬InP K' s:=fun s hs q=>by
  rcases ha with⟨free,p,_,h1,h2,h3,rfl,rfl⟩ | ⟨st,q1,h1,h2,h3,rfl,h4⟩
  ·exact k.apart s hs ((InP.same h2 (p':=⟨p.start,p.data++frameB key b,p.live+(frameB key b).length⟩) rfl s).1 q)
  ·rcases (InP.new (q1.free_none h1) s).1 q with q | q
   ·dsimp only at q
    have:=h3.2.1 (s-st) (by omega)
    rw[show st+(s-st)=s by omega,Bool.eq_false_iff] at this
    exact this ((k.only s).2 (.inr (.inl hs)))
   ·exact k.apart s hs q
 have hsame:∀s,s∈S→C' s=C s:=fun s hs=>by
  have:=k.low s hs
  exact hc s (by omega) (by omega) (by omega) (fun p hp q=>hS s hs ⟨_,p,hp,q.1,q.2⟩)
 refine⟨⟨hpk,hrc,k.tr.keep hsame,k.nd,k.low,fun i=>?_,hS⟩,hsame⟩
 rcases ha with⟨free,p,_,h1,h2,h3,rfl,rfl⟩ | ⟨st,q1,h1,h2,h3,rfl,h4⟩
 ·rw[InP.same h2 (p':=⟨p.start,p.data++frameB key b,p.live+(frameB key b).length⟩) rfl];exact k.only i
 ·rw[InP.new (q1.free_none h1),h4]
  by_cases e:st≤i∧i<st+16
  ·rw[if_pos e];exact⟨fun _=> .inr (.inr (.inl e)),fun _=>rfl⟩
  ·rw[if_neg e,k.only i]
   exact or_congr Iff.rfl (or_congr Iff.rfl ⟨fun q=> .inr q,fun q=>q.resolve_left e⟩)
end
theorem KpM.put{g:Sg}{M M':Nat→Option Sec}{r r':Nat}{S:List Nat}{K:Nat→Option Pk}{Rp Rt:List Rc}{m:Nat}{w':World}(k:KpM (g.cur M) g.h (g.T M) r S K Rp Rt)(hs:SpAt w' g M'){x:Rc}(hp:PutTop g M M' r r' (Rt.map Rc.ent) S x.key (valR x.n x.at_ x.len) m) :
  ∃S',KpM (g.cur M') g.h (g.T M') r' S' K Rp (insR Rt x)∧Grown g M M' S S' 4 m:=by
 obtain⟨S',h1,_,hG,_⟩:=hp
 rw[← insR_ent] at h1
 have hh:=hG.held ⟨k.nd,k.low,fun s q=>(k.only s).2 (.inr (.inl q))⟩
 have hS:∀s,s∈S'→¬InP K s:=fun s q i=>by
  rcases hG.new s q with c | c
  ·exact k.apart s c i
  ·have:=(k.only s).2 (.inr (.inr i))
   rw[c.1] at this;cases this
 refine⟨S',⟨k.pk.turn (fun i=>hs.cur_len i) (cur_congr g (hG.keep 2 (fun q=>by have:=hh.low 2 q;omega) (by omega))) (cur_congr g (hG.keep 3 (fun q=>by have:=hh.low 3 q;omega) (by omega)))
   (fun n p hp i i1 i2=>cur_congr g (hG.keep i (fun q=>hS i q ⟨n,p,hp,i1,i2⟩) (by have:=(k.pk.low n p hp).1;omega))) (fun n p hp i hi=>?_),k.rc,h1,hh.nd,hh.low,fun i=>?_,hS⟩,hG⟩
 ·rw[hG.T,k.pk.taken n p hp i hi];rfl
 ·rw[hG.T,Bool.or_eq_true,k.only i,decide_eq_true_iff]
  constructor
  ·rintro((q | q | q) | q)
   ·exact .inl q
   ·exact .inr (.inl (hG.sub i q))
   ·exact .inr (.inr q)
   ·exact .inr (.inl q)
  ·rintro(q | q | q)
   ·exact .inl (.inl q)
   ·exact .inr q
   ·exact .inl (.inr (.inr q))
theorem KpM.turn{g:Sg}{M M':Nat→Option Sec}{r:Nat}{S:List Nat}{K:Nat→Option Pk}{Rp Rt:List Rc}{w':World}(k:KpM (g.cur M) g.h (g.T M) r S K Rp Rt)(hs:SpAt w' g M')(h:∀i,i≠0→M' i=M i):KpM (g.cur M') g.h (g.T M') r S K Rp Rt:=by
 have hT:g.T M'=g.T M:=T_congr g (h 1 (by omega))
 rw[hT]
 exact⟨k.pk.turn (fun i=>hs.cur_len i) (cur_congr g (h 2 (by omega))) (cur_congr g (h 3 (by omega))) (fun n p hp i i1 i2=>cur_congr g (h i (by have:=(k.pk.low n p hp).1;omega))) (fun n p hp i hi=>k.pk.taken n p hp i hi),
  k.rc,k.tr.keep fun s q=>cur_congr g (h s (by have:=k.low s q;omega)),k.nd,k.low,k.only,k.apart⟩
structure KpAt(g:Sg)(M:Nat→Option Sec)(S:List Nat)(K:Nat→Option Pk)(R:List Rc):Prop where
 m:KpM (g.cur M) g.h (g.T M) (g.R M 0) S K R R
 sort:SortR R
end
end Go.Proofs.YtgfbepakonjbnaaGreat
end
