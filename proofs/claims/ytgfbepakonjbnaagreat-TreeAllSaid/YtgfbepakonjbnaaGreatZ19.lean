/-
  slices.Delete of one element, at rows of keys, of values, of numbers. (Written by tools/mkdel.py.)
-/
import Derived.Test.YtgfbepakonjbnaaGreatZ14
import Derived.Lib.AppendZeros
import Derived.Test.YtgfbepakonjbnaaGreatZ18
set_option maxRecDepth 100000
set_option maxHeartbeats 16000000
section
set_option linter.unusedSimpArgs false
set_option linter.unusedVariables false
namespace Go.Proofs.YtgfbepakonjbnaaGreat
open Go.RowKit Go.MapKept Go.ChangeMaps
theorem Ac8{t e ty:TypeId}{z:Value}{sz:Nat}(ht:Tryz.prog.underlying t=some (.slice e))(hv:∀w,(zeroValue e).run Tryz.prog w=.ok z w)(hz:z.cells.size=sz)(h1:∀u∈z.cells.toList,u.oneCell'=true){w:World}{g o n c:Nat}{cur:Array Value}(hg:w.heap[g]?=some (.cells cur e (0,0)))(hfit:o+n*sz<=cur.size)(hn:0<n) :
  ∃r:Array Value,(∀ty,(Builtin.clear_ #[t] ty #[.slice (some ⟨g,o,none⟩) n c]).run Tryz.prog w=.ok (.tuple #[]) (w.setRow g r))/\r.size=cur.size/\r.toList.take o=cur.toList.take o:=by
 obtain⟨m,rfl⟩:∃m,n=m+1:=⟨n-1,by omega⟩;have hzl:(Builtin.zeroCells z.cells (m+1)).toList.length=(m+1)*sz:=by rw[Array.length_toList,size_zeroCells,hz]
 have hz1:∀u∈(Builtin.zeroCells z.cells (m+1)).toList,u.oneCell'=true:=by
  intro u hu;simp only[Builtin.zeroCells,Array.mem_toList_iff,Array.mem_map,Array.mem_range] at hu;obtain⟨q,hq,rfl⟩:=hu;have hpos:0<z.cells.size:=Nat.pos_of_ne_zero λ e=>by rw[e] at hq;omega
  rw[getElem!_pos z.cells (q % z.cells.size) (Nat.mod_lt _ hpos)];exact h1 _ (by simp)
 have hst:=run_storeCells_at Tryz.prog g o e (Builtin.zeroCells z.cells (m+1)).toList 0 cur w hg (by rw[hzl];exact hfit) hz1;simp only[Nat.add_zero] at hst;obtain⟨r,hr⟩:∃r:Array Value,r=(cur.toList.take o++(Builtin.zeroCells z.cells (m+1)).toList++cur.toList.drop (o+(Builtin.zeroCells z.cells (m+1)).toList.length)).toArray:=⟨_,rfl⟩;rw[← hr] at hst;obtain⟨Z,hZ⟩:∃Z,Z=Builtin.zeroCells z.cells (m+1):=⟨_,rfl⟩;refine⟨r,λ ty=>?_,?_,?_⟩
 ·rw[← hZ] at hst;simp[Builtin.clear_,run_underlying ht,hv];rw[← hZ,hst];rfl
 ·rw[hr];simp only[List.size_toArray,List.length_append,List.length_take,List.length_drop,Array.length_toList,size_zeroCells,hz];omega
 ·rw[hr];show List.take o (_++_++_)=_
  rw[List.append_assoc,List.take_append,List.take_take,Nat.min_self,List.length_take,Array.length_toList,Nat.min_eq_left (by omega),Nat.sub_self,List.take_zero,List.append_nil]
def Ab2(w:World)(B:Nat)(e:TypeId)(sz n N:Nat)(v:Value)(xs:List Value)(en:Ending)(w':World):Prop:=
 ∃g c cur,v=.slice (some ⟨g,0,none⟩) n c/\w.heap[g]?=some (.cells cur e (0,0))/\en=.returned (.slice (some ⟨g,0,none⟩) N c)/\w'.ownsRow B e sz (.slice (some ⟨g,0,none⟩) N c) N xs/\Upd [g] w w'
section
theorem Cs5{w:World}{B n N i j:Nat}{v:Value}{xs:List Value}(hown:w.ownsRow B 35 32 v n xs)(hn:n<=100)(hnN:n=N+1)(hj:j=i+1)(hi:i<=N)(h1x:∀u∈xs,u.oneCell'=true) :
  Calls Tryz.prog 194 #[v,.int .i64 (i:Int),.int .i64 (j:Int)] w (Ab2 w B 35 32 n N v (xs.take (i*32)++xs.drop (j*32))):=by
 rcases hown.2 with⟨_,h0⟩ | ⟨g,cap,cur,rfl,hb,hg,hcap,hcm,hsz,ht⟩
 ·omega
 obtain⟨i0,hi0,hz0,hz1,hz2⟩:=info_parts Aa8;have hxl:xs.length=n*32:=by rw[← ht,List.length_take];simp[hsz];omega
 have hN:N=i+(n-j):=by omega
 have hnl:(xs.drop (j*32)).length=(n-j)*32:=by rw[List.length_drop,hxl];omega
 have hA:∃ad:Addr,(if cap=j then(some (⟨g,0,none⟩:Addr)) else some ⟨g,j*32,none⟩)=some ad/\∀k u,(xs.drop (j*32))[k]?=some u->w.drew.cell? (ad.add k)=some u:=by
  by_cases hc:cap=j
  ·refine⟨_,if_pos hc,λ k u hu=>?_⟩;have:(xs.drop (j*32)).length=0:=by rw[hnl];omega
   rw[List.length_eq_zero_iff.1 this] at hu;simp at hu
  ·refine⟨_,if_neg hc,λ k u hu=>?_⟩;rw[List.getElem?_drop,← ht,List.getElem?_take] at hu;split at hu
   ·rw[I5];have e:=A4 (w:=w.drew) hg (j*32+k);rw[e,← Array.getElem?_toList];exact hu
   ·simp at hu
 obtain⟨ad,had,hcells⟩:=hA;obtain⟨W1,hW1⟩:∃W1,W1=w.drew.setRow g (cur.toList.take (i*32)++xs.drop (j*32)++cur.toList.drop (i*32+(xs.drop (j*32)).length)).toArray:=⟨_,rfl⟩;have hrun:∀ty,(Builtin.append_ #[216,216] ty #[.slice (some ⟨g,0,none⟩) i cap,.slice (some ad) (n-j) (cap-j)]).run Tryz.prog w.drew=.ok (.slice (some ⟨g,0,none⟩) N cap) W1:=λ ty=>by
  have:=run_append_room (P:=Tryz.prog) w.drew 216 ty 35 i0 Tryz.underlying216 hi0 g i cap cur hg ad (n-j) (cap-j) (xs.drop (j*32)) (by rw[hz1];exact hnl) hcells (λ u hu=>h1x u (List.mem_of_mem_drop hu)) (by omega) (by rw[hz1,hnl,hsz];omega);rw[hz1,← hN,← hW1] at this;exact this
 have hg1:W1.heap[g]?=some (.cells (cur.toList.take (i*32)++xs.drop (j*32)++cur.toList.drop (i*32+(xs.drop (j*32)).length)).toArray 35 (0,0)):=by rw[hW1];exact setRow_heap _ _ _ _ _ _ hg
 obtain⟨c1,hc1⟩:∃c1:List Value,c1=cur.toList.take (i*32)++xs.drop (j*32)++cur.toList.drop (i*32+(xs.drop (j*32)).length):=⟨_,rfl⟩;rw[← hc1] at hg1 hW1;have hl1:c1.length=cur.size:=by rw[hc1];simp only[List.length_append,List.length_take,List.length_drop,hxl,Array.length_toList,hsz];omega
 obtain⟨r,hclr,hrs,hrt⟩:=Ac8 (t:=216) (e:=35) (ty:=0) (z:=.agg (bts (List.replicate 32 0)).toArray) (sz:=32) Tryz.underlying216 (λ w=>by kernel_rfl) rfl (by decide) (o:=N*32) (n:=n-N) (c:=cap-N) hg1 (by rw[List.size_toArray,hl1,hsz];omega) (by omega);have HP:Hid (Ab2 w B 35 32 n N (.slice (some ⟨g,0,none⟩) n cap) (xs.take (i*32)++xs.drop (j*32)) (.returned (.slice (some ⟨g,0,none⟩) N cap)) (W1.setRow g r)):=by
  show Ab2 _ _ _ _ _ _ _ _ _ _
  refine⟨g,cap,cur,rfl,hg,rfl,⟨?_,.inr ⟨g,cap,r,rfl,hb,setRow_heap _ _ _ _ _ _ hg1,by omega,hcm,by rw[hrs,List.size_toArray,hl1,hsz],?_⟩⟩,?_⟩
  ·rw[List.length_append,List.length_take,hxl,hnl];omega
  ·rw[hrt];show c1.take (N*32)=_
   rw[hc1,List.append_assoc,← List.append_assoc,List.take_append_of_le_length (by simp only[List.length_append,List.length_take,Array.length_toList,hsz,hnl];omega),List.take_of_length_le (by simp only[List.length_append,List.length_take,Array.length_toList,hsz,hnl];omega)];congr 1
   rw[← ht,List.take_take];congr 1
   omega
  ·rw[hW1];exact D5 (D5 (Upd.refl _ _).drew _ (.inl (by simp))) _ (.inl (by simp))
 have e1:((i:Int) == (j:Int))=false:=by rw[beq_eq_false_iff_ne];omega
 have b1:(i:Int)<=(j:Int):=by omega
 have b2:(j:Int)<=(n:Int):=by omega
 have b3:(n:Int)<=(cap:Int):=by omega
 have b4:j<=n:=by omega
 have b5:i<=j:=by omega
 have b6:n<=cap:=by omega
 have b7:N<=n:=by omega
 have b8:i<=cap:=by omega
 have b9:j<=cap:=by omega
 have b10:¬(cap=N):=by omega
 have b11:N<=cap:=by omega
 have b12:i<=n:=by omega
 have b13:¬(i=j):=by omega
 have HRUN:=η hrun;have HAD:=η had;clear hown hN hnN hnl hcells hW1 hrun hg1 hc1 hl1 hrs hrt hg hsz ht hj hi hi0 hz0 hz1 hz2 hxl h1x hn hb hcap hcm;have had:=HAD.out;go_enter Tryz.func194,Tryz.ntmps194
 go_wp2_with fail
 go_region_law (first | (refine G5 (by rfl) _ _ _ (by rfl) (by rfl) (by first | rfl | simp[Act.eval,Act.put,had]) HRUN.out ?_))
 all_goals
  go_wp2_with fail
  go_ret;exact HP.out
end
section
theorem Cs6{w:World}{B n N i j:Nat}{v:Value}{xs:List Value}(hown:w.ownsRow B 115 16 v n xs)(hn:n<=100)(hnN:n=N+1)(hj:j=i+1)(hi:i<=N)(h1x:∀u∈xs,u.oneCell'=true) :
  Calls Tryz.prog 195 #[v,.int .i64 (i:Int),.int .i64 (j:Int)] w (Ab2 w B 115 16 n N v (xs.take (i*16)++xs.drop (j*16))):=by
 rcases hown.2 with⟨_,h0⟩ | ⟨g,cap,cur,rfl,hb,hg,hcap,hcm,hsz,ht⟩
 ·omega
 obtain⟨i0,hi0,hz0,hz1,hz2⟩:=info_parts Aa9;have hxl:xs.length=n*16:=by rw[← ht,List.length_take];simp[hsz];omega
 have hN:N=i+(n-j):=by omega
 have hnl:(xs.drop (j*16)).length=(n-j)*16:=by rw[List.length_drop,hxl];omega
 have hA:∃ad:Addr,(if cap=j then(some (⟨g,0,none⟩:Addr)) else some ⟨g,j*16,none⟩)=some ad/\∀k u,(xs.drop (j*16))[k]?=some u->w.drew.cell? (ad.add k)=some u:=by
  by_cases hc:cap=j
  ·refine⟨_,if_pos hc,λ k u hu=>?_⟩;have:(xs.drop (j*16)).length=0:=by rw[hnl];omega
   rw[List.length_eq_zero_iff.1 this] at hu;simp at hu
  ·refine⟨_,if_neg hc,λ k u hu=>?_⟩;rw[List.getElem?_drop,← ht,List.getElem?_take] at hu;split at hu
   ·rw[I5];have e:=A4 (w:=w.drew) hg (j*16+k);rw[e,← Array.getElem?_toList];exact hu
   ·simp at hu
 obtain⟨ad,had,hcells⟩:=hA;obtain⟨W1,hW1⟩:∃W1,W1=w.drew.setRow g (cur.toList.take (i*16)++xs.drop (j*16)++cur.toList.drop (i*16+(xs.drop (j*16)).length)).toArray:=⟨_,rfl⟩;have hrun:∀ty,(Builtin.append_ #[217,217] ty #[.slice (some ⟨g,0,none⟩) i cap,.slice (some ad) (n-j) (cap-j)]).run Tryz.prog w.drew=.ok (.slice (some ⟨g,0,none⟩) N cap) W1:=λ ty=>by
  have:=run_append_room (P:=Tryz.prog) w.drew 217 ty 115 i0 Tryz.underlying217 hi0 g i cap cur hg ad (n-j) (cap-j) (xs.drop (j*16)) (by rw[hz1];exact hnl) hcells (λ u hu=>h1x u (List.mem_of_mem_drop hu)) (by omega) (by rw[hz1,hnl,hsz];omega);rw[hz1,← hN,← hW1] at this;exact this
 have hg1:W1.heap[g]?=some (.cells (cur.toList.take (i*16)++xs.drop (j*16)++cur.toList.drop (i*16+(xs.drop (j*16)).length)).toArray 115 (0,0)):=by rw[hW1];exact setRow_heap _ _ _ _ _ _ hg
 obtain⟨c1,hc1⟩:∃c1:List Value,c1=cur.toList.take (i*16)++xs.drop (j*16)++cur.toList.drop (i*16+(xs.drop (j*16)).length):=⟨_,rfl⟩;rw[← hc1] at hg1 hW1;have hl1:c1.length=cur.size:=by rw[hc1];simp only[List.length_append,List.length_take,List.length_drop,hxl,Array.length_toList,hsz];omega
 obtain⟨r,hclr,hrs,hrt⟩:=Ac8 (t:=217) (e:=115) (ty:=0) (z:=.agg (bts (List.replicate 16 0)).toArray) (sz:=16) Tryz.underlying217 (λ w=>by kernel_rfl) rfl (by decide) (o:=N*16) (n:=n-N) (c:=cap-N) hg1 (by rw[List.size_toArray,hl1,hsz];omega) (by omega);have HP:Hid (Ab2 w B 115 16 n N (.slice (some ⟨g,0,none⟩) n cap) (xs.take (i*16)++xs.drop (j*16)) (.returned (.slice (some ⟨g,0,none⟩) N cap)) (W1.setRow g r)):=by
  show Ab2 _ _ _ _ _ _ _ _ _ _
  refine⟨g,cap,cur,rfl,hg,rfl,⟨?_,.inr ⟨g,cap,r,rfl,hb,setRow_heap _ _ _ _ _ _ hg1,by omega,hcm,by rw[hrs,List.size_toArray,hl1,hsz],?_⟩⟩,?_⟩
  ·rw[List.length_append,List.length_take,hxl,hnl];omega
  ·rw[hrt];show c1.take (N*16)=_
   rw[hc1,List.append_assoc,← List.append_assoc,List.take_append_of_le_length (by simp only[List.length_append,List.length_take,Array.length_toList,hsz,hnl];omega),List.take_of_length_le (by simp only[List.length_append,List.length_take,Array.length_toList,hsz,hnl];omega)];congr 1
   rw[← ht,List.take_take];congr 1
   omega
  ·rw[hW1];exact D5 (D5 (Upd.refl _ _).drew _ (.inl (by simp))) _ (.inl (by simp))
 have e1:((i:Int) == (j:Int))=false:=by rw[beq_eq_false_iff_ne];omega
 have b1:(i:Int)<=(j:Int):=by omega
 have b2:(j:Int)<=(n:Int):=by omega
 have b3:(n:Int)<=(cap:Int):=by omega
 have b4:j<=n:=by omega
 have b5:i<=j:=by omega
 have b6:n<=cap:=by omega
 have b7:N<=n:=by omega
 have b8:i<=cap:=by omega
 have b9:j<=cap:=by omega
 have b10:¬(cap=N):=by omega
 have b11:N<=cap:=by omega
 have b12:i<=n:=by omega
 have b13:¬(i=j):=by omega
 have HRUN:=η hrun;have HAD:=η had;clear hown hN hnN hnl hcells hW1 hrun hg1 hc1 hl1 hrs hrt hg hsz ht hj hi hi0 hz0 hz1 hz2 hxl h1x hn hb hcap hcm;have had:=HAD.out;go_enter Tryz.func195,Tryz.ntmps195
 go_wp2_with fail
 go_region_law (first | (refine G5 (by rfl) _ _ _ (by rfl) (by rfl) (by first | rfl | simp[Act.eval,Act.put,had]) HRUN.out ?_))
 all_goals
  go_wp2_with fail
  go_ret;exact HP.out
end
section
theorem Cs7{w:World}{B n N i j:Nat}{v:Value}{xs:List Value}(hown:w.ownsRow B 79 1 v n xs)(hn:n<=100)(hnN:n=N+1)(hj:j=i+1)(hi:i<=N)(h1x:∀u∈xs,u.oneCell'=true) :
  Calls Tryz.prog 232 #[v,.int .i64 (i:Int),.int .i64 (j:Int)] w (Ab2 w B 79 1 n N v (xs.take (i*1)++xs.drop (j*1))):=by
 rcases hown.2 with⟨_,h0⟩ | ⟨g,cap,cur,rfl,hb,hg,hcap,hcm,hsz,ht⟩
 ·omega
 obtain⟨i0,hi0,hz0,hz1,hz2⟩:=info_parts Ab0;have hxl:xs.length=n*1:=by rw[← ht,List.length_take];simp[hsz];omega
 have hN:N=i+(n-j):=by omega
 have hnl:(xs.drop (j*1)).length=(n-j)*1:=by rw[List.length_drop,hxl];omega
 have hA:∃ad:Addr,(if cap=j then(some (⟨g,0,none⟩:Addr)) else some ⟨g,j*1,none⟩)=some ad/\∀k u,(xs.drop (j*1))[k]?=some u->w.drew.cell? (ad.add k)=some u:=by
  by_cases hc:cap=j
  ·refine⟨_,if_pos hc,λ k u hu=>?_⟩;have:(xs.drop (j*1)).length=0:=by rw[hnl];omega
   rw[List.length_eq_zero_iff.1 this] at hu;simp at hu
  ·refine⟨_,if_neg hc,λ k u hu=>?_⟩;rw[List.getElem?_drop,← ht,List.getElem?_take] at hu;split at hu
   ·rw[I5];have e:=A4 (w:=w.drew) hg (j*1+k);rw[e,← Array.getElem?_toList];exact hu
   ·simp at hu
 obtain⟨ad,had,hcells⟩:=hA;obtain⟨W1,hW1⟩:∃W1,W1=w.drew.setRow g (cur.toList.take (i*1)++xs.drop (j*1)++cur.toList.drop (i*1+(xs.drop (j*1)).length)).toArray:=⟨_,rfl⟩;have hrun:∀ty,(Builtin.append_ #[218,218] ty #[.slice (some ⟨g,0,none⟩) i cap,.slice (some ad) (n-j) (cap-j)]).run Tryz.prog w.drew=.ok (.slice (some ⟨g,0,none⟩) N cap) W1:=λ ty=>by
  have:=run_append_room (P:=Tryz.prog) w.drew 218 ty 79 i0 Tryz.underlying218 hi0 g i cap cur hg ad (n-j) (cap-j) (xs.drop (j*1)) (by rw[hz1];exact hnl) hcells (λ u hu=>h1x u (List.mem_of_mem_drop hu)) (by omega) (by rw[hz1,hnl,hsz];omega);rw[hz1,← hN,← hW1] at this;exact this
 have hg1:W1.heap[g]?=some (.cells (cur.toList.take (i*1)++xs.drop (j*1)++cur.toList.drop (i*1+(xs.drop (j*1)).length)).toArray 79 (0,0)):=by rw[hW1];exact setRow_heap _ _ _ _ _ _ hg
 obtain⟨c1,hc1⟩:∃c1:List Value,c1=cur.toList.take (i*1)++xs.drop (j*1)++cur.toList.drop (i*1+(xs.drop (j*1)).length):=⟨_,rfl⟩;rw[← hc1] at hg1 hW1;have hl1:c1.length=cur.size:=by rw[hc1];simp only[List.length_append,List.length_take,List.length_drop,hxl,Array.length_toList,hsz];omega
 obtain⟨r,hclr,hrs,hrt⟩:=Ac8 (t:=218) (e:=79) (ty:=0) (z:=.int .u32 0) (sz:=1) Tryz.underlying218 (λ w=>by kernel_rfl) rfl (by decide) (o:=N*1) (n:=n-N) (c:=cap-N) hg1 (by rw[List.size_toArray,hl1,hsz];omega) (by omega);have HP:Hid (Ab2 w B 79 1 n N (.slice (some ⟨g,0,none⟩) n cap) (xs.take (i*1)++xs.drop (j*1)) (.returned (.slice (some ⟨g,0,none⟩) N cap)) (W1.setRow g r)):=by
  show Ab2 _ _ _ _ _ _ _ _ _ _
  refine⟨g,cap,cur,rfl,hg,rfl,⟨?_,.inr ⟨g,cap,r,rfl,hb,setRow_heap _ _ _ _ _ _ hg1,by omega,hcm,by rw[hrs,List.size_toArray,hl1,hsz],?_⟩⟩,?_⟩
  ·rw[List.length_append,List.length_take,hxl,hnl];omega
  ·rw[hrt];show c1.take (N*1)=_
   rw[hc1,List.append_assoc,← List.append_assoc,List.take_append_of_le_length (by simp only[List.length_append,List.length_take,Array.length_toList,hsz,hnl];omega),List.take_of_length_le (by simp only[List.length_append,List.length_take,Array.length_toList,hsz,hnl];omega)];congr 1
   rw[← ht,List.take_take];congr 1
   omega
  ·rw[hW1];exact D5 (D5 (Upd.refl _ _).drew _ (.inl (by simp))) _ (.inl (by simp))
 have e1:((i:Int) == (j:Int))=false:=by rw[beq_eq_false_iff_ne];omega
 have b1:(i:Int)<=(j:Int):=by omega
 have b2:(j:Int)<=(n:Int):=by omega
 have b3:(n:Int)<=(cap:Int):=by omega
 have b4:j<=n:=by omega
 have b5:i<=j:=by omega
 have b6:n<=cap:=by omega
 have b7:N<=n:=by omega
 have b8:i<=cap:=by omega
 have b9:j<=cap:=by omega
 have b10:¬(cap=N):=by omega
 have b11:N<=cap:=by omega
 have b12:i<=n:=by omega
 have b13:¬(i=j):=by omega
 have HRUN:=η hrun;have HAD:=η had;clear hown hN hnN hnl hcells hW1 hrun hg1 hc1 hl1 hrs hrt hg hsz ht hj hi hi0 hz0 hz1 hz2 hxl h1x hn hb hcap hcm;have had:=HAD.out;simp only[Nat.mul_one] at had hclr;go_enter Tryz.func232,Tryz.ntmps232
 go_wp2_with fail
 go_region_law (first | (refine G5 (by rfl) _ _ _ (by rfl) (by rfl) (by first | rfl | simp[Act.eval,Act.put,had]) HRUN.out ?_))
 all_goals
  go_wp2_with fail
  go_ret;exact HP.out
end
theorem Bp6{t e:TypeId}{i0:TypeInfo}(ht:Tryz.prog.underlying t=some (.slice e))(hi:Tryz.prog.info? e=some i0){w:World}{a:Option Addr}{n c:Nat}(hn:n<=c)(ty:TypeId):(Builtin.append_ #[t,t] ty #[.slice a n c,.slice none 0 0]).run Tryz.prog w=.ok (.slice a n c) w:=by
 cases a<;>simp[Builtin.append_,run_underlying ht,sizeOf,typeInfo,hi,Builtin.lenOf,hn,run_firstCells_none,storeCells]
theorem Ah6{n:Nat}(h:n<=200):wrap64 (n:Int)=(n:Int)/\IntKind.i64.wrap (n:Int)=(n:Int)/\¬((n:Int)<0):=by
 refine⟨?_,?_,by omega⟩
 ·unfold wrap64;omega
 ·rw[IntKind.wrap_i64];omega
theorem V0{T e:TypeId}{sz bytes:Nat}{z:Value}(hu:Tryz.prog.underlying T=some (.slice e))(hi:(Tryz.prog.info? e).map (λ i=>(i.zero,i.size,i.bytes))=some (some z,sz,bytes))(hzs:z.cells.size=sz)(h0:0<sz)(hby:bytes<=1000)
  {w:World} {B n:Nat} {v:Value} {xs:List Value} (hp:w.ownsRow B e sz v n xs) (hl:n<=1000) (hB:B<=w.heap.size) {ad:Addr} {m c:Nat} (hm:m<=1000) (hm0:0<n+m) (cs:List Value) (hc:cs.length=m*sz) (hcells:∀(j:Nat) (u:Value),cs[j]?=some u->w.cell? (ad.add j)=some u) (h1:∀u∈cs,u.oneCell'=true) :
  ∃a c' w' S,(∀ty,(Builtin.append_ #[T,T] ty #[v,.slice (some ad) m c]).run Tryz.prog w=.ok (.slice a (n+m) c') w')/\w'.ownsRow B e sz (.slice a (n+m) c') (n+m) (xs++cs)/\Upd S w w'/\(∀k,k∈S->B<=k/\∃c,w.heap[k]?=some (.cells c e (0,0))):=by
 obtain⟨i0,hi0,hz0,hz1,hz2⟩:=info_parts hi;have hmul:(n+m)*bytes<=140737488355328:=Nat.le_trans (Nat.mul_le_mul (show n+m<=2000 by omega) hby) (by decide);obtain⟨v',w',hrun,hown,hg,_⟩:=run_append_own (P:=Tryz.prog) w B T 0 e i0 z sz bytes hu hi0 hz0 hz1 hz2 hzs h0 v n xs hp ad m c cs hc hcells h1 (by unfold maxLen;omega) hmul hB;have hs:∃a c',v'=.slice a (n+m) c':=by
  rcases hown.2 with⟨_,h⟩ | ⟨g,cap,cur,h,_⟩
  ·omega
  ·exact⟨_,_,h⟩
 obtain⟨a,c',rfl⟩:=hs;rcases hp.2 with⟨rfl,_⟩ | ⟨g,cap,cur,rfl,hb,hgb,_⟩
 ·exact⟨a,c',w',[],λ _=>hrun,hown,⟨hg.os,hg.tape,hg.output,hg.size,λ k hk _=>hg.block k hk (by simp[Value.ownBlock])⟩,by simp⟩
 ·exact⟨a,c',w',[g],λ _=>hrun,hown,⟨hg.os,hg.tape,hg.output,hg.size,λ k hk hS=>hg.block k hk (by simp[Value.ownBlock];rintro rfl;exact hS (by simp))⟩,by simp;exact⟨hb,_,hgb⟩⟩
section
theorem Cr3{w:World}{n:Nat}(h0:0<n)(hn:n<=200) :
  Calls Tryz.prog 261 #[.slice none 0 0,.int .i64 (n:Int)] w λ e w'=>∃g c,e=.returned (.slice (some ⟨g,0,none⟩) 0 c)/\w'.ownsRow w.heap.size 115 16 (.slice (some ⟨g,0,none⟩) 0 c) 0 []/\Upd [] w w':=by
 have h63:(n:Int)<=9223372036854775807:=by omega
 have h48:n*16<=281474976710656:=by omega
 obtain⟨i0,hi0,hz0,hz1,hz2⟩:=info_parts Aa9;obtain⟨Z,hZ⟩:∃Z:Value,Z=.agg (bts (List.replicate 16 0)).toArray:=⟨_,rfl⟩;have hz0':i0.zero=some Z:=by rw[hz0,hZ]
 have hZs:Z.cells.size=16:=by rw[hZ];rfl
 obtain⟨G,hG⟩:∃G,G=grownCap w n 0 115:=⟨_,rfl⟩;have hGn:n<=G:=by rw[hG];exact grownCap_ge w _ _ _
 have hGm:G<=maxLen:=by rw[hG];exact grownCap_le_maxLen w _ _ _ (by unfold maxLen;omega)
 obtain⟨ROW,hROW⟩:∃ROW:Array Value,ROW=Builtin.zeroCells Z.cells n++Builtin.zeroCells Z.cells (G-n):=⟨_,rfl⟩;have hRs:ROW.size=G*16:=by rw[hROW,Array.size_append,size_zeroCells,size_zeroCells,hZs];omega
 obtain⟨W1,hW1⟩:∃W1,W1=w.drew.alloc (.cells ROW 115):=⟨_,rfl⟩;obtain⟨N,hN⟩:∃N,N=w.heap.size:=⟨_,rfl⟩;have hrz:∀ty,(Builtin.append_ #[217,3] ty #[.slice none 0 0,.int .i64 (n:Int)]).run Tryz.prog w=.ok (.slice (some ⟨N,0,none⟩) n G) W1:=λ ty=>by
  have h:=Lib.run_append_nil_zeros (P:=Tryz.prog) w 217 3 ty 115 i0 Z .i64 .i64 Tryz.underlying217 Tryz.underlying3 hi0 hz0' n h0 (by rw[hz1];decide) h63 (by rw[hz2];exact h48);rw[← hG,← hROW] at h;rw[hN,hW1];exact h
 have hN1:W1.heap[N]?=some (.cells ROW 115 (0,0)):=by rw[hW1,hN];exact A6 (w:=w.drew) _
 have hu1:Upd [] w W1:=by rw[hW1];exact((Upd.refl [] w).drew).alloc _
 have HP:Hid (W1.ownsRow w.heap.size 115 16 (.slice (some ⟨N,0,none⟩) 0 G) 0 []/\Upd [] w W1):=by
  show _/\_
  exact⟨⟨by simp,.inr ⟨N,G,ROW,rfl,by omega,hN1,Nat.zero_le _,hGm,hRs,by simp⟩⟩,hu1⟩
 have hp:(0:Int)<(n:Int):=by omega
 obtain⟨hw,hw2,hnn⟩:=Ah6 hn;clear hi0 hz0 hz1 hz2 hz0' hZ hZs hG hGn hGm hROW hRs hW1 hN hN1 hu1 h0 hn;go_enter Tryz.func261,Tryz.ntmps261
 go_wp2_with (first | (at_builtin;refine O6 rfl _ _ 217 3 rfl rfl rfl hrz ?_))
 go_ret;exact⟨N,G,rfl,HP.out.1,HP.out.2⟩
theorem Cp6{w:World} :
  Calls Tryz.prog 261 #[.slice none 0 0,.int .i64 0] w λ e w'=>e=.returned (.slice none 0 0)/\Upd [] w w':=by
 go_enter Tryz.func261,Tryz.ntmps261
 go_wp2_with fail
 go_ret;exact⟨rfl,Upd.refl _ _⟩
theorem Ci1{w:World}{b:Nat}(hb:w.heap[b]?=some (.cells #[.slice none 0 0,.slice none 0 0] 217 (0,0))) :
  Calls Tryz.prog 230 #[.slice (some ⟨b,0,none⟩) 2 2] w λ e w'=>e=.returned (.slice none 0 0)/\Upd [] w w':=by
 obtain⟨i0,hi0,hz0,hz1,hz2⟩:=info_parts Aa9;have happ:∀ty w,(Builtin.append_ #[217,217] ty #[.slice none 0 0,.slice none 0 0]).run Tryz.prog w=.ok (.slice none 0 0) w:=λ ty w=>Bp6 Tryz.underlying217 hi0 (Nat.le_refl _) ty;have HB:=η hb;clear hi0 hz0 hz1 hz2 hb;go_enter Tryz.func230,Tryz.ntmps230
 go_wp2_with fail
 go_loopw [11,3] (λ i s wr=>∃q:Nat,q<=2/\i=.int .i64 (q:Int)/\s=.int .i64 0/\w=wr) (λ i _ _=>2-(intOf i).toNat)
 case atStart=>exact⟨0,by omega,rfl,rfl,rfl⟩
 case round=>
  obtain⟨q,hq,rfl,rfl,rfl⟩:=hrel;rcases Nat.lt_or_ge q 2 with hlt | hge
  ·have hc:w.cell? ⟨b,0+q,none⟩=some (.slice none 0 0):=by
    rw[A4 HB.out];rcases (by omega:q=0∨q=1) with rfl | rfl<;>rfl
   have hc':w.cell? ⟨b,q,none⟩=some (.slice none 0 0):=by simpa using hc
   have d1:decide ((q:Int)<2)=true:=decide_eq_true (by omega);have d2:(q:Int)<2:=by omega
   go_wp2_with fail
   exact⟨⟨q+1,by omega,by go_num,rfl,trivial⟩,by simp[intOf];omega⟩
  ·obtain rfl:q=2:=by omega
   go_wp2_with fail
   refine Cp6.mono ?_;rintro e w1 ⟨rfl,hu1⟩;have HB1:=η ((hu1.block _ (A2 HB.out) (by simp)).trans HB.out);have HU1:=η hu1;clear hu1;go_wp2_with fail
   go_loopw [27,6] (λ i s wr=>∃q:Nat,q<=2/\i=.int .i64 (q:Int)/\s=.slice none 0 0/\w1=wr) (λ i _ _=>2-(intOf i).toNat)
   case atStart=>exact⟨0,by omega,rfl,rfl,rfl⟩
   case round=>
    obtain⟨q,hq,rfl,rfl,rfl⟩:=hrel;rcases Nat.lt_or_ge q 2 with hlt | hge
    ·have hc:w1.cell? ⟨b,q,none⟩=some (.slice none 0 0):=by
      rw[A4 HB1.out];rcases (by omega:q=0∨q=1) with rfl | rfl<;>rfl
     have d1:decide ((q:Int)<2)=true:=decide_eq_true (by omega);have d2:(q:Int)<2:=by omega
     go_wp2_with (first | (at_builtin;refine B4 rfl _ _ _ rfl rfl rfl (λ ty=>happ ty _) ?_))
     exact⟨⟨q+1,by omega,by go_num,rfl,trivial⟩,by simp[intOf];omega⟩
    ·obtain rfl:q=2:=by omega
     go_wp2_with fail
     go_ret;exact⟨rfl,HU1.out⟩
theorem Cs8{w:World}{b:Nat}{a1 a2:Addr}{n1 n2 c1 c2:Nat}(hb:w.heap[b]?=some (.cells #[.slice (some a1) n1 c1,.slice (some a2) n2 c2] 217 (0,0)))(h1:0<n1)(h2:0<n2)(hn:n1+n2<=100){x1 x2:List Value}(l1:x1.length=n1*16)(l2:x2.length=n2*16)
  (r1:∀(j:Nat) (u:Value),x1[j]?=some u->w.cell? (a1.add j)=some u) (r2:∀(j:Nat) (u:Value),x2[j]?=some u->w.cell? (a2.add j)=some u) (o1:∀u∈x1,u.oneCell'=true) (o2:∀u∈x2,u.oneCell'=true) :
  Calls Tryz.prog 230 #[.slice (some ⟨b,0,none⟩) 2 2] w λ e w'=>∃a c,e=.returned (.slice a (n1+n2) c)/\w'.ownsRow w.heap.size 115 16 (.slice a (n1+n2) c) (n1+n2) (x1++x2)/\Upd [] w w':=by
 have HB:=η hb;have HN:=η (And.intro h1 (And.intro h2 hn));have HL:=η (And.intro l1 l2);have HR:Hid (∀w',Upd [] w w'->(∀(j:Nat) (u:Value),x1[j]?=some u->w'.cell? (a1.add j)=some u)/\(∀(j:Nat) (u:Value),x2[j]?=some u->w'.cell? (a2.add j)=some u)):=by
  show ∀w',_
  exact λ w' hu=>⟨λ j u hj=>D7 (r1 j u hj) hu (by simp),λ j u hj=>D7 (r2 j u hj) hu (by simp)⟩
 have HO:=η (And.intro o1 o2);obtain⟨sz,hsz⟩:∃sz:Nat->Nat,sz 0=0/\sz 1=n1/\sz 2=n1+n2:=⟨λ q=>if q=0 then 0 else if q=1 then n1 else n1+n2,rfl,rfl,rfl⟩;have HSZ:=η hsz;clear hb h1 h2 hn l1 l2 r1 r2 o1 o2 hsz;go_enter Tryz.func230,Tryz.ntmps230
 go_wp2_with fail
 go_loopw [11,3] (λ i s wr=>∃q:Nat,q<=2/\i=.int .i64 (q:Int)/\s=.int .i64 (sz q:Int)/\w=wr) (λ i _ _=>2-(intOf i).toNat)
 case atStart=>exact⟨0,by omega,rfl,by rw[HSZ.out.1];rfl,rfl⟩
 case round=>
  obtain⟨q,hq,rfl,rfl,rfl⟩:=hrel;rcases Nat.lt_or_ge q 2 with hlt | hge
  ·obtain⟨aq,nq,cq,hc,hs,hq200⟩:∃aq nq cq,w.cell? ⟨b,q,none⟩=some (.slice (some aq) nq cq)/\sz (q+1)=sz q+nq/\sz q+nq<=100:=by
    have:=HN.out;rcases (by omega:q=0∨q=1) with rfl | rfl
    ·exact⟨a1,n1,c1,by rw[A4 HB.out];rfl,by rw[HSZ.out.1,HSZ.out.2.1];omega,by rw[HSZ.out.1];omega⟩
    ·exact⟨a2,n2,c2,by rw[A4 HB.out];rfl,by rw[HSZ.out.2.1,HSZ.out.2.2],by rw[HSZ.out.2.1];omega⟩
   obtain⟨s,hse⟩:∃s,s=sz q:=⟨_,rfl⟩;rw[← hse] at hs hq200 ⊢;have d1:decide ((q:Int)<2)=true:=decide_eq_true (by omega);have d2:(q:Int)<2:=by omega
   have d3:¬((s:Int)+(nq:Int)<0):=by omega
   have d4:wrap64 ((s:Int)+(nq:Int))=(s:Int)+(nq:Int):=by unfold wrap64;omega
   have HS:=η hs;clear hs hse;go_wp2_with fail
   exact⟨⟨q+1,by omega,by go_num,by rw[HS.out];go_num,trivial⟩,by simp[intOf];omega⟩
  ·obtain rfl:q=2:=by omega
   have hn12:=HN.out;rw[HSZ.out.2.2];obtain⟨n,hnn⟩:∃n,n=n1+n2:=⟨_,rfl⟩;rw[← hnn];have HG:=η (Cr3 (w:=w) (n:=n) (by omega) (by omega));have HNN:=η hnn;clear hn12 hnn;go_wp2_with fail
   refine HG.out.mono ?_;rintro e w1 ⟨gg,cg,rfl,hown,hu1⟩;have HB1:Hid (∀w',Upd [] w w'->w'.heap[b]?=some (.cells #[.slice (some a1) n1 c1,.slice (some a2) n2 c2] 217 (0,0))):=by
    show ∀w',_
    exact λ w' hu=>(hu.block _ (A2 HB.out) (by simp)).trans HB.out
   have HO1:=η hown;have HU1:=η hu1;clear hu1 hown;go_wp2_with fail
   go_loopw [27,6] (λ i s wr=>∃q:Nat,q<=2/\i=.int .i64 (q:Int)/\wr.ownsRow w.heap.size 115 16 s (sz q) (if q=0 then [] else if q=1 then x1 else x1++x2)/\Upd [] w wr) (λ i _ _=>2-(intOf i).toNat)
   case atStart=>exact⟨0,by omega,rfl,by rw[HSZ.out.1];exact HO1.out,HU1.out⟩
   case round=>
    obtain⟨q,hq,rfl,hown,hu⟩:=hrel;obtain⟨sa,sc,rfl⟩:=C4 hown;rcases Nat.lt_or_ge q 2 with hlt | hge
    ·have hst:∃aq nq cq av cv w' S,wr.cell? ⟨b,q,none⟩=some (.slice (some aq) nq cq)/\(∀ty,(Builtin.append_ #[217,217] ty #[.slice sa (sz q) sc,.slice (some aq) nq cq]).run Tryz.prog wr=.ok (.slice av (sz (q+1)) cv) w')/\w'.ownsRow w.heap.size 115 16 (.slice av (sz (q+1)) cv) (sz (q+1)) (if q+1=0 then [] else if q+1=1 then x1 else x1++x2)/\Upd S wr w'/\(∀k,k∈S->w.heap.size<=k/\∃c,wr.heap[k]?=some (.cells c 115 (0,0))):=by
      have hn12:=HN.out;rcases (by omega:q=0∨q=1) with rfl | rfl
      ·rw[HSZ.out.1] at hown;obtain⟨av,cv,w',S,e1,e2,e3,e4⟩:=V0 (T:=217) Tryz.underlying217 Aa9 rfl (by decide) (by decide) hown (by omega) hu.size (ad:=a1) (m:=n1) (c:=c1) (by omega) (by omega) x1 HL.out.1 (HR.out wr hu).1 HO.out.1;simp only[Nat.zero_add,if_true,List.nil_append] at e1 e2;refine⟨a1,n1,c1,av,cv,w',S,by rw[A4 (HB1.out wr hu)];rfl,?_,?_,e3,e4⟩
       ·intro ty;rw[show sz (0+1)=n1 from HSZ.out.2.1,HSZ.out.1];exact e1 ty
       ·show w'.ownsRow _ _ _ (.slice av (sz 1) cv) (sz 1) x1
        rw[HSZ.out.2.1];exact e2
      ·rw[HSZ.out.2.1] at hown;obtain⟨av,cv,w',S,e1,e2,e3,e4⟩:=V0 (T:=217) Tryz.underlying217 Aa9 rfl (by decide) (by decide) hown (by omega) hu.size (ad:=a2) (m:=n2) (c:=c2) (by omega) (by omega) x2 HL.out.2 (HR.out wr hu).2 HO.out.2;refine⟨a2,n2,c2,av,cv,w',S,by rw[A4 (HB1.out wr hu)];rfl,?_,?_,e3,e4⟩
       ·intro ty;rw[show sz (1+1)=n1+n2 from HSZ.out.2.2,HSZ.out.2.1];exact e1 ty
       ·show w'.ownsRow _ _ _ (.slice av (sz 2) cv) (sz 2) (x1++x2)
        rw[HSZ.out.2.2];exact e2
     obtain⟨aq,nq,cq,av,cv,w',S,hc,hrun,hown',hu',hS⟩:=hst;have d1:decide ((q:Int)<2)=true:=decide_eq_true (by omega);have d2:(q:Int)<2:=by omega
     have HW:=η hown';have HUW:=η (hu.late hu' (λ k hk=> .inr (hS k hk).1));clear hown hown' hu hu' hS;go_wp2_with (first | (at_builtin;refine B4 rfl _ _ _ rfl rfl rfl hrun ?_))
     exact⟨⟨q+1,by omega,by go_num,HW.out,HUW.out⟩,by simp[intOf];omega⟩
    ·obtain rfl:q=2:=by omega
     rw[HSZ.out.2.2] at hown;have HW:=η hown;have HUW:=η hu;clear hown hu;go_wp2_with fail
     go_ret;exact⟨sa,sc,by rw[← HSZ.out.2.2];rfl,HW.out,HUW.out⟩
end
section
theorem Cr4{w:World}{n:Nat}(h0:0<n)(hn:n<=200) :
  Calls Tryz.prog 262 #[.slice none 0 0,.int .i64 (n:Int)] w λ e w'=>∃g c,e=.returned (.slice (some ⟨g,0,none⟩) 0 c)/\w'.ownsRow w.heap.size 79 1 (.slice (some ⟨g,0,none⟩) 0 c) 0 []/\Upd [] w w':=by
 have h63:(n:Int)<=9223372036854775807:=by omega
 have h48:n*4<=281474976710656:=by omega
 obtain⟨i0,hi0,hz0,hz1,hz2⟩:=info_parts Ab0;obtain⟨Z,hZ⟩:∃Z:Value,Z=.int .u32 0:=⟨_,rfl⟩;have hz0':i0.zero=some Z:=by rw[hz0,hZ]
 have hZs:Z.cells.size=1:=by rw[hZ];rfl
 obtain⟨G,hG⟩:∃G,G=grownCap w n 0 79:=⟨_,rfl⟩;have hGn:n<=G:=by rw[hG];exact grownCap_ge w _ _ _
 have hGm:G<=maxLen:=by rw[hG];exact grownCap_le_maxLen w _ _ _ (by unfold maxLen;omega)
 obtain⟨ROW,hROW⟩:∃ROW:Array Value,ROW=Builtin.zeroCells Z.cells n++Builtin.zeroCells Z.cells (G-n):=⟨_,rfl⟩;have hRs:ROW.size=G*1:=by rw[hROW,Array.size_append,size_zeroCells,size_zeroCells,hZs];omega
 obtain⟨W1,hW1⟩:∃W1,W1=w.drew.alloc (.cells ROW 79):=⟨_,rfl⟩;obtain⟨N,hN⟩:∃N,N=w.heap.size:=⟨_,rfl⟩;have hrz:∀ty,(Builtin.append_ #[218,3] ty #[.slice none 0 0,.int .i64 (n:Int)]).run Tryz.prog w=.ok (.slice (some ⟨N,0,none⟩) n G) W1:=λ ty=>by
  have h:=Lib.run_append_nil_zeros (P:=Tryz.prog) w 218 3 ty 79 i0 Z .i64 .i64 Tryz.underlying218 Tryz.underlying3 hi0 hz0' n h0 (by rw[hz1];decide) h63 (by rw[hz2];exact h48);rw[← hG,← hROW] at h;rw[hN,hW1];exact h
 have hN1:W1.heap[N]?=some (.cells ROW 79 (0,0)):=by rw[hW1,hN];exact A6 (w:=w.drew) _
 have hu1:Upd [] w W1:=by rw[hW1];exact((Upd.refl [] w).drew).alloc _
 have HP:Hid (W1.ownsRow w.heap.size 79 1 (.slice (some ⟨N,0,none⟩) 0 G) 0 []/\Upd [] w W1):=by
  show _/\_
  exact⟨⟨by simp,.inr ⟨N,G,ROW,rfl,by omega,hN1,Nat.zero_le _,hGm,hRs,by simp⟩⟩,hu1⟩
 have hp:(0:Int)<(n:Int):=by omega
 obtain⟨hw,hw2,hnn⟩:=Ah6 hn;clear hi0 hz0 hz1 hz2 hz0' hZ hZs hG hGn hGm hROW hRs hW1 hN hN1 hu1 h0 hn;go_enter Tryz.func262,Tryz.ntmps262
 go_wp2_with (first | (at_builtin;refine O6 rfl _ _ 218 3 rfl rfl rfl hrz ?_))
 go_ret;exact⟨N,G,rfl,HP.out.1,HP.out.2⟩
theorem Cp7{w:World} :
  Calls Tryz.prog 262 #[.slice none 0 0,.int .i64 0] w λ e w'=>e=.returned (.slice none 0 0)/\Upd [] w w':=by
 go_enter Tryz.func262,Tryz.ntmps262
 go_wp2_with fail
 go_ret;exact⟨rfl,Upd.refl _ _⟩
theorem Ci2{w:World}{b:Nat}(hb:w.heap[b]?=some (.cells #[.slice none 0 0,.slice none 0 0] 218 (0,0))) :
  Calls Tryz.prog 231 #[.slice (some ⟨b,0,none⟩) 2 2] w λ e w'=>e=.returned (.slice none 0 0)/\Upd [] w w':=by
 obtain⟨i0,hi0,hz0,hz1,hz2⟩:=info_parts Ab0;have happ:∀ty w,(Builtin.append_ #[218,218] ty #[.slice none 0 0,.slice none 0 0]).run Tryz.prog w=.ok (.slice none 0 0) w:=λ ty w=>Bp6 Tryz.underlying218 hi0 (Nat.le_refl _) ty;have HB:=η hb;clear hi0 hz0 hz1 hz2 hb;go_enter Tryz.func231,Tryz.ntmps231
 go_wp2_with fail
 go_loopw [11,3] (λ i s wr=>∃q:Nat,q<=2/\i=.int .i64 (q:Int)/\s=.int .i64 0/\w=wr) (λ i _ _=>2-(intOf i).toNat)
 case atStart=>exact⟨0,by omega,rfl,rfl,rfl⟩
 case round=>
  obtain⟨q,hq,rfl,rfl,rfl⟩:=hrel;rcases Nat.lt_or_ge q 2 with hlt | hge
  ·have hc:w.cell? ⟨b,0+q,none⟩=some (.slice none 0 0):=by
    rw[A4 HB.out];rcases (by omega:q=0∨q=1) with rfl | rfl<;>rfl
   have hc':w.cell? ⟨b,q,none⟩=some (.slice none 0 0):=by simpa using hc
   have d1:decide ((q:Int)<2)=true:=decide_eq_true (by omega);have d2:(q:Int)<2:=by omega
   go_wp2_with fail
   exact⟨⟨q+1,by omega,by go_num,rfl,trivial⟩,by simp[intOf];omega⟩
  ·obtain rfl:q=2:=by omega
   go_wp2_with fail
   refine Cp7.mono ?_;rintro e w1 ⟨rfl,hu1⟩;have HB1:=η ((hu1.block _ (A2 HB.out) (by simp)).trans HB.out);have HU1:=η hu1;clear hu1;go_wp2_with fail
   go_loopw [27,6] (λ i s wr=>∃q:Nat,q<=2/\i=.int .i64 (q:Int)/\s=.slice none 0 0/\w1=wr) (λ i _ _=>2-(intOf i).toNat)
   case atStart=>exact⟨0,by omega,rfl,rfl,rfl⟩
   case round=>
    obtain⟨q,hq,rfl,rfl,rfl⟩:=hrel;rcases Nat.lt_or_ge q 2 with hlt | hge
    ·have hc:w1.cell? ⟨b,q,none⟩=some (.slice none 0 0):=by
      rw[A4 HB1.out];rcases (by omega:q=0∨q=1) with rfl | rfl<;>rfl
     have d1:decide ((q:Int)<2)=true:=decide_eq_true (by omega);have d2:(q:Int)<2:=by omega
     go_wp2_with (first | (at_builtin;refine B4 rfl _ _ _ rfl rfl rfl (λ ty=>happ ty _) ?_))
     exact⟨⟨q+1,by omega,by go_num,rfl,trivial⟩,by simp[intOf];omega⟩
    ·obtain rfl:q=2:=by omega
     go_wp2_with fail
     go_ret;exact⟨rfl,HU1.out⟩
theorem Cs9{w:World}{b:Nat}{a1 a2:Addr}{n1 n2 c1 c2:Nat}(hb:w.heap[b]?=some (.cells #[.slice (some a1) n1 c1,.slice (some a2) n2 c2] 218 (0,0)))(h1:0<n1)(h2:0<n2)(hn:n1+n2<=100){x1 x2:List Value}(l1:x1.length=n1*1)(l2:x2.length=n2*1)
  (r1:∀(j:Nat) (u:Value),x1[j]?=some u->w.cell? (a1.add j)=some u) (r2:∀(j:Nat) (u:Value),x2[j]?=some u->w.cell? (a2.add j)=some u) (o1:∀u∈x1,u.oneCell'=true) (o2:∀u∈x2,u.oneCell'=true) :
  Calls Tryz.prog 231 #[.slice (some ⟨b,0,none⟩) 2 2] w λ e w'=>∃a c,e=.returned (.slice a (n1+n2) c)/\w'.ownsRow w.heap.size 79 1 (.slice a (n1+n2) c) (n1+n2) (x1++x2)/\Upd [] w w':=by
 have HB:=η hb;have HN:=η (And.intro h1 (And.intro h2 hn));have HL:=η (And.intro l1 l2);have HR:Hid (∀w',Upd [] w w'->(∀(j:Nat) (u:Value),x1[j]?=some u->w'.cell? (a1.add j)=some u)/\(∀(j:Nat) (u:Value),x2[j]?=some u->w'.cell? (a2.add j)=some u)):=by
  show ∀w',_
  exact λ w' hu=>⟨λ j u hj=>D7 (r1 j u hj) hu (by simp),λ j u hj=>D7 (r2 j u hj) hu (by simp)⟩
 have HO:=η (And.intro o1 o2);obtain⟨sz,hsz⟩:∃sz:Nat->Nat,sz 0=0/\sz 1=n1/\sz 2=n1+n2:=⟨λ q=>if q=0 then 0 else if q=1 then n1 else n1+n2,rfl,rfl,rfl⟩;have HSZ:=η hsz;clear hb h1 h2 hn l1 l2 r1 r2 o1 o2 hsz;go_enter Tryz.func231,Tryz.ntmps231
 go_wp2_with fail
 go_loopw [11,3] (λ i s wr=>∃q:Nat,q<=2/\i=.int .i64 (q:Int)/\s=.int .i64 (sz q:Int)/\w=wr) (λ i _ _=>2-(intOf i).toNat)
 case atStart=>exact⟨0,by omega,rfl,by rw[HSZ.out.1];rfl,rfl⟩
 case round=>
  obtain⟨q,hq,rfl,rfl,rfl⟩:=hrel;rcases Nat.lt_or_ge q 2 with hlt | hge
  ·obtain⟨aq,nq,cq,hc,hs,hq200⟩:∃aq nq cq,w.cell? ⟨b,q,none⟩=some (.slice (some aq) nq cq)/\sz (q+1)=sz q+nq/\sz q+nq<=100:=by
    have:=HN.out;rcases (by omega:q=0∨q=1) with rfl | rfl
    ·exact⟨a1,n1,c1,by rw[A4 HB.out];rfl,by rw[HSZ.out.1,HSZ.out.2.1];omega,by rw[HSZ.out.1];omega⟩
    ·exact⟨a2,n2,c2,by rw[A4 HB.out];rfl,by rw[HSZ.out.2.1,HSZ.out.2.2],by rw[HSZ.out.2.1];omega⟩
   obtain⟨s,hse⟩:∃s,s=sz q:=⟨_,rfl⟩;rw[← hse] at hs hq200 ⊢;have d1:decide ((q:Int)<2)=true:=decide_eq_true (by omega);have d2:(q:Int)<2:=by omega
   have d3:¬((s:Int)+(nq:Int)<0):=by omega
   have d4:wrap64 ((s:Int)+(nq:Int))=(s:Int)+(nq:Int):=by unfold wrap64;omega
   have HS:=η hs;clear hs hse;go_wp2_with fail
   exact⟨⟨q+1,by omega,by go_num,by rw[HS.out];go_num,trivial⟩,by simp[intOf];omega⟩
  ·obtain rfl:q=2:=by omega
   have hn12:=HN.out;rw[HSZ.out.2.2];obtain⟨n,hnn⟩:∃n,n=n1+n2:=⟨_,rfl⟩;rw[← hnn];have HG:=η (Cr4 (w:=w) (n:=n) (by omega) (by omega));have HNN:=η hnn;clear hn12 hnn;go_wp2_with fail
   refine HG.out.mono ?_;rintro e w1 ⟨gg,cg,rfl,hown,hu1⟩;have HB1:Hid (∀w',Upd [] w w'->w'.heap[b]?=some (.cells #[.slice (some a1) n1 c1,.slice (some a2) n2 c2] 218 (0,0))):=by
    show ∀w',_
    exact λ w' hu=>(hu.block _ (A2 HB.out) (by simp)).trans HB.out
   have HO1:=η hown;have HU1:=η hu1;clear hu1 hown;go_wp2_with fail
   go_loopw [27,6] (λ i s wr=>∃q:Nat,q<=2/\i=.int .i64 (q:Int)/\wr.ownsRow w.heap.size 79 1 s (sz q) (if q=0 then [] else if q=1 then x1 else x1++x2)/\Upd [] w wr) (λ i _ _=>2-(intOf i).toNat)
   case atStart=>exact⟨0,by omega,rfl,by rw[HSZ.out.1];exact HO1.out,HU1.out⟩
   case round=>
    obtain⟨q,hq,rfl,hown,hu⟩:=hrel;obtain⟨sa,sc,rfl⟩:=C4 hown;rcases Nat.lt_or_ge q 2 with hlt | hge
    ·have hst:∃aq nq cq av cv w' S,wr.cell? ⟨b,q,none⟩=some (.slice (some aq) nq cq)/\(∀ty,(Builtin.append_ #[218,218] ty #[.slice sa (sz q) sc,.slice (some aq) nq cq]).run Tryz.prog wr=.ok (.slice av (sz (q+1)) cv) w')/\w'.ownsRow w.heap.size 79 1 (.slice av (sz (q+1)) cv) (sz (q+1)) (if q+1=0 then [] else if q+1=1 then x1 else x1++x2)/\Upd S wr w'/\(∀k,k∈S->w.heap.size<=k/\∃c,wr.heap[k]?=some (.cells c 79 (0,0))):=by
      have hn12:=HN.out;rcases (by omega:q=0∨q=1) with rfl | rfl
      ·rw[HSZ.out.1] at hown;obtain⟨av,cv,w',S,e1,e2,e3,e4⟩:=V0 (T:=218) Tryz.underlying218 Ab0 rfl (by decide) (by decide) hown (by omega) hu.size (ad:=a1) (m:=n1) (c:=c1) (by omega) (by omega) x1 HL.out.1 (HR.out wr hu).1 HO.out.1;simp only[Nat.zero_add,if_true,List.nil_append] at e1 e2;refine⟨a1,n1,c1,av,cv,w',S,by rw[A4 (HB1.out wr hu)];rfl,?_,?_,e3,e4⟩
       ·intro ty;rw[show sz (0+1)=n1 from HSZ.out.2.1,HSZ.out.1];exact e1 ty
       ·show w'.ownsRow _ _ _ (.slice av (sz 1) cv) (sz 1) x1
        rw[HSZ.out.2.1];exact e2
      ·rw[HSZ.out.2.1] at hown;obtain⟨av,cv,w',S,e1,e2,e3,e4⟩:=V0 (T:=218) Tryz.underlying218 Ab0 rfl (by decide) (by decide) hown (by omega) hu.size (ad:=a2) (m:=n2) (c:=c2) (by omega) (by omega) x2 HL.out.2 (HR.out wr hu).2 HO.out.2;refine⟨a2,n2,c2,av,cv,w',S,by rw[A4 (HB1.out wr hu)];rfl,?_,?_,e3,e4⟩
       ·intro ty;rw[show sz (1+1)=n1+n2 from HSZ.out.2.2,HSZ.out.2.1];exact e1 ty
       ·show w'.ownsRow _ _ _ (.slice av (sz 2) cv) (sz 2) (x1++x2)
        rw[HSZ.out.2.2];exact e2
     obtain⟨aq,nq,cq,av,cv,w',S,hc,hrun,hown',hu',hS⟩:=hst;have d1:decide ((q:Int)<2)=true:=decide_eq_true (by omega);have d2:(q:Int)<2:=by omega
     have HW:=η hown';have HUW:=η (hu.late hu' (λ k hk=> .inr (hS k hk).1));clear hown hown' hu hu' hS;go_wp2_with (first | (at_builtin;refine B4 rfl _ _ _ rfl rfl rfl hrun ?_))
     exact⟨⟨q+1,by omega,by go_num,HW.out,HUW.out⟩,by simp[intOf];omega⟩
    ·obtain rfl:q=2:=by omega
     rw[HSZ.out.2.2] at hown;have HW:=η hown;have HUW:=η hu;clear hown hu;go_wp2_with fail
     go_ret;exact⟨sa,sc,by rw[← HSZ.out.2.2];rfl,HW.out,HUW.out⟩
end
section
attribute [-go_sem] loadCells storeCells Instr.build
def O9(kd:Int):Nat:=if kd=1 then 5 else 6
theorem An3{kd:Int}(hkd:kd=1∨kd=2)(a a2 a3:Option Addr)(n c n2 c2 n3 c3:Nat)(w:World) :
  Calls Tryz.prog 126 #[.agg #[.int .i64 kd,.slice a n c,.slice a2 n2 c2,.slice a3 n3 c3]] w λ e w'=>e=.returned (.bool (decide (n<O9 kd)))/\Upd [] w w':=by
 have h1:=A6 (w:=w) (.cells #[.int .i64 kd,.slice a n c,.slice a2 n2 c2,.slice a3 n3 c3] 220);have m0:=A4 h1 0;have m1:=A4 h1 1;have hu:Upd [] w (w.alloc (.cells #[.int .i64 kd,.slice a n c,.slice a2 n2 c2,.slice a3 n3 c3] 220)):=(Upd.refl _ _).alloc _;have HU:=η hu;clear h1 hu;rcases hkd with rfl | rfl
 ·by_cases hn:n<5
  ·have d:decide ((n:Int)<5)=true:=decide_eq_true (by omega);have e:decide (n<O9 1)=true:=decide_eq_true (by unfold O9;simpa using hn);rw[e];clear e hn;go_enter Tryz.func126,Tryz.ntmps126
   go_wp2_with fail
   go_ret;exact⟨rfl,HU.out⟩
  ·have d:decide ((n:Int)<5)=false:=decide_eq_false (by omega);have e:decide (n<O9 1)=false:=decide_eq_false (by unfold O9;simpa using hn);rw[e];clear e hn;go_enter Tryz.func126,Tryz.ntmps126
   go_wp2_with fail
   go_ret;exact⟨rfl,HU.out⟩
 ·by_cases hn:n<6
  ·have d:decide ((n:Int)<6)=true:=decide_eq_true (by omega);have e:decide (n<O9 2)=true:=decide_eq_true (by unfold O9;simpa using hn);rw[e];clear e hn;go_enter Tryz.func126,Tryz.ntmps126
   go_wp2_with fail
   go_ret;exact⟨rfl,HU.out⟩
  ·have d:decide ((n:Int)<6)=false:=decide_eq_false (by omega);have e:decide (n<O9 2)=false:=decide_eq_false (by unfold O9;simpa using hn);rw[e];clear e hn;go_enter Tryz.func126,Tryz.ntmps126
   go_wp2_with fail
   go_ret;exact⟨rfl,HU.out⟩
theorem Ar6{w:World}{g:Sg}{M:Nat->Option Sec}(h:B7 w g M){kd:Int}(hkd:kd=1∨kd=2){a a2 a3:Option Addr}{n c n2 c2 n3 c3:Nat}{enc:Sec}(at_:Nat)(hat:at_<g.h)(hat2:at_<4294967296)(hn:O9 kd<=n->L7 g.S w kd (.slice a n c) (.slice a2 n2 c2) (.slice a3 n3 c3) enc)(hc:O9 kd<=n->(M at_).isSome=true∨F2 M g.h<40) :
  Calls Tryz.prog 196 #[.pointer (some ⟨g.x.tb,0,none⟩),.int .u32 (at_:Int),.agg #[.int .i64 kd,.slice a n c,.slice a2 n2 c2,.slice a3 n3 c3]] w λ e w'=>e=.returned (.int .i64 0)/\B7 w' g (if O9 kd<=n then F1 M at_ enc else M)/\Upd [g.x.wb] w w':=by
 obtain⟨M',hM'⟩:∃M':Nat->Option Sec,M'=if O9 kd<=n then F1 M at_ enc else M:=⟨_,rfl⟩;rw[← hM'];have HM:=η hM';clear hM';obtain⟨wA,hwA⟩:∃wA,wA=w.alloc (.cells #[.int .i64 kd,.slice a n c,.slice a2 n2 c2,.slice a3 n3 c3] 220):=⟨_,rfl⟩;have hu:Upd [] w wA:=by rw[hwA];exact(Upd.refl _ _).alloc _
 obtain⟨b5,hb5⟩:∃b,b=w.heap.size:=⟨_,rfl⟩;have h5:wA.heap[b5]?=some (.cells #[.int .i64 kd,.slice a n c,.slice a2 n2 c2,.slice a3 n3 c3] 220 (0,0)):=by rw[hwA,hb5];exact A6 _
 have l5:=A7 (n:=4) (cs:=[.int .i64 kd,.slice a n c,.slice a2 n2 c2,.slice a3 n3 c3]) h5 rfl;have HSM:=η (An3 hkd a a2 a3 n c n2 c2 n3 c3 wA);have H5:=η h5;have HA:=η (h.below hu);have HU:=η hu;have HW:=η hwA;have HB:=η hb5;have HN:Hid (O9 kd<=n->L7 g.S wA kd (.slice a n c) (.slice a2 n2 c2) (.slice a3 n3 c3) enc):=η (λ q=>(hn q).below hu);have HC:=η hc;rw[hwA,hb5] at l5;clear h hu h5 hwA hb5 hn hc;go_enter Tryz.func196,Tryz.ntmps196
 go_wp2_with fail
 rw[← HW.out,← HB.out];refine HSM.out.mono ?_;rintro e w1 ⟨rfl,hu1⟩;by_cases hl:n<O9 kd
 ·have d:decide (n<O9 kd)=true:=decide_eq_true hl;have H1:Hid (B7 w1 g M'):=by show B7 _ _ _;rw[HM.out,if_neg (by omega)];exact HA.out.below hu1
  have HU1:=η (HU.out.trans hu1);clear hu1 hl;rw[d];go_wp2_with fail
  go_ret;exact⟨rfl,H1.out,HU1.out.mono (by simp)⟩
 ·have d:decide (n<O9 kd)=false:=decide_eq_false hl;have h1:=HA.out.below hu1;have h51:=(hu1.block _ (A2 H5.out) (by simp)).trans H5.out;have l51:=A7 (n:=4) (cs:=[.int .i64 kd,.slice a n c,.slice a2 n2 c2,.slice a3 n3 c3]) h51 rfl;have HWR:=η (N6 h1 ((HN.out (by omega)).below hu1) at_ hat hat2 (HC.out (by omega)));have HU1:=η (HU.out.trans hu1);have HM2:Hid (M'=F1 M at_ enc):=by show M'=_;rw[HM.out,if_pos (by omega)]
  rw[d];clear hu1 hl h1 h51;go_wp2_with fail
  refine HWR.out.mono ?_;rintro e w2 ⟨rfl,h2,hu2⟩;rw[← HM2.out] at h2;have H2:=η h2;have HU2:=η ((HU1.out.mono (by simp)).trans hu2);clear h2 hu2;go_wp2_with fail
  go_ret;exact⟨rfl,H2.out,HU2.out⟩
end
section
attribute [-go_sem] loadCells storeCells Instr.build Instr.buildSlice
theorem F5{w w':World}{B n sz:Nat}{e:TypeId}{v:Value}{xs:List Value}(h:w.ownsRow B e sz v n xs){S:List Nat}(hu:Upd S w w')(hS:∀a l c,v=.slice (some a) l c->a.block∉S):w'.ownsRow B e sz v n xs:=by
 refine⟨h.1,?_⟩;rcases h.2 with h | ⟨g,cap,cur,hv,hb,hg,r⟩
 ·exact .inl h
 ·exact .inr ⟨g,cap,cur,hv,hb,(hu.block _ (A2 hg) (hS _ _ _ hv)).trans hg,r⟩
theorem I7{w:World}{g:Sg}{M:Nat->Option Sec}(h:B7 w g M){B n sz:Nat}{e:TypeId}{v:Value}{xs:List Value}(ho:w.ownsRow B e sz v n xs)(hT:Ty9 e):∀a l c,v=.slice (some a) l c->a.block∉g.S:=by
 intro a l c e1;rcases ho.2 with⟨rfl,_⟩ | ⟨gb,cap,cur,rfl,_,hg,_⟩
 ·cases e1
 ·cases e1;exact h.other9 hg hT
theorem Ae5{w:World}{B n sz:Nat}{e:TypeId}{v:Value}{xs:List Value}(ho:w.ownsRow B e sz v n xs):∀a l c,v=.slice (some a) l c->a.block<w.heap.size/\B<=a.block:=by
 intro a l c e1;rcases ho.2 with⟨rfl,_⟩ | ⟨gb,cap,cur,rfl,hb,hg,_⟩
 ·cases e1
 ·cases e1;exact⟨A2 hg,hb⟩
theorem At8(kd:Int)(a:Option Addr)(n c:Nat)(w:World):(Instr.build 220 #[(0,.int .i64 kd),(1,.slice a n c)]).run Tryz.prog w=.ok (.agg #[.int .i64 kd,.slice a n c,.slice none 0 0,.slice none 0 0]) w:=run_build w _ _ _ (by kernel_rfl)
theorem Ap5(kd:Int)(w:World):(Instr.build 220 #[(0,.int .i64 kd)]).run Tryz.prog w=.ok (.agg #[.int .i64 kd,.slice none 0 0,.slice none 0 0,.slice none 0 0]) w:=run_build w _ _ _ (by kernel_rfl)
theorem Ba9(a a':Option Addr)(n c n' c':Nat)(w:World):(Instr.buildSlice 347 2 #[(0,.slice a n c),(1,.slice a' n' c')]).run Tryz.prog w=.ok (.slice (some ⟨w.heap.size,0,none⟩) 2 2) (w.alloc (.cells #[.slice a n c,.slice a' n' c'] 217)):=by kernel_rfl
theorem Bb0(a a':Option Addr)(n c n' c':Nat)(w:World):(Instr.buildSlice 349 2 #[(0,.slice a n c),(1,.slice a' n' c')]).run Tryz.prog w=.ok (.slice (some ⟨w.heap.size,0,none⟩) 2 2) (w.alloc (.cells #[.slice a n c,.slice a' n' c'] 218)):=by kernel_rfl
theorem RRd.from{w:World}{B g n c sz:Nat}{e:TypeId}{es:List (List Value)}(h:w.ownsRow B e sz (.slice (some ⟨g,0,none⟩) n c) n es.flatten)(hn:n=es.length)(hl:∀x,x∈es->x.length=sz){i:Nat}(hi:i<=n):RRd w (.slice (some ⟨g,i*sz,none⟩) (n-i) (c-i)) sz (es.drop i):=by
 subst hn;rcases h.2 with⟨e1,_⟩ | ⟨g',cap,cur,e1,hb,hg,hc,_⟩
 ·cases e1
 ·have hr:=Au9 h rfl hl;obtain⟨ao,cap',e2,_,hh⟩:=hr;cases e1;cases e2
  refine⟨_,_,by rw[List.length_drop],by rw[List.length_drop];omega,λ hp=>⟨g,i*sz,rfl,λ j x hx u v hv=>?_⟩⟩;rw[List.length_drop] at hp;obtain⟨b,off,e3,hcell⟩:=hh (by omega);cases e3
  rw[List.getElem?_drop] at hx;have:=hcell (i+j) x hx u v hv;rw[← this];congr 2
  rw[Nat.add_mul];omega
theorem KRd.from{w:World}{B g n c:Nat}{ds:List Nat}(h:D8 w B (.slice (some ⟨g,0,none⟩) n c) ds)(hn:n=ds.length){i:Nat}(hi:i<=n):KRd w (.slice (some ⟨g,i,none⟩) (n-i) (c-i)) (ds.drop i):=by
 subst hn;rcases h.2 with⟨e1,_⟩ | ⟨g',cap,cur,e1,hb,hg,hc,_⟩
 ·cases e1
 ·obtain⟨ao,cap',e2,_,hh⟩:=h.rd;cases e1;cases e2
  refine⟨_,_,by rw[List.length_drop],by rw[List.length_drop];omega,λ hp=>⟨g,i,rfl,λ j x hx=>?_⟩⟩;rw[List.length_drop] at hp;obtain⟨b,off,e3,hcell⟩:=hh (by omega);cases e3
  rw[List.getElem?_drop] at hx;have:=hcell (i+j) x hx;rw[← this];congr 2
  omega
theorem Ar7{w:World}{B gk n ck:Nat}{ks:List Bs}(h:C3 w B (.slice (some ⟨gk,0,none⟩) n ck) ks)(hl:∀x,x∈ks->x.length=32){i:Nat}{k0:Bs}(hk:ks[i]?=some k0):(loadCells ⟨gk,i*32,none⟩ 32).run Tryz.prog w=.ok (bts k0).toArray w:=by
 obtain⟨ao,cap,e,_,hh⟩:=h.rd hl;have hi:=(List.getElem?_eq_some_iff.1 hk).1;obtain⟨b,off,e2,hr⟩:=hh (by rw[List.length_map];omega);have hr:=hr i (bts k0) (by rw[List.getElem?_map,hk];rfl);rw[e2] at e;cases e
 rw[Nat.zero_add] at hr;exact B2 hr (hl _ (List.mem_of_getElem? hk))
theorem S7{w:World}{B gd n cd:Nat}{ds:List Nat}(h:D8 w B (.slice (some ⟨gd,0,none⟩) n cd) ds){i s:Nat}(hk:ds[i]?=some s):w.cell? ⟨gd,i,none⟩=some (.int .u32 (s:Int)):=by
 obtain⟨ao,cap,e,_,hh⟩:=h.rd;have hi:=(List.getElem?_eq_some_iff.1 hk).1;obtain⟨b,off,e2,hr⟩:=hh (by omega);have hr:=hr i s hk;rw[e2] at e;cases e
 rw[Nat.zero_add] at hr;exact hr
theorem Ab9{w:World}{B n sz g c:Nat}{e:TypeId}{xs:List Value}(h:w.ownsRow B e sz (.slice (some ⟨g,0,none⟩) n c) n xs)(hn:0<n):∀(j:Nat) (u:Value),xs[j]?=some u->w.cell? ((⟨g,0,none⟩:Addr).add j)=some u:=λ j u hj=>by
 obtain⟨g',cap,e1,_,_,hc,_⟩:=F3 h hn;cases e1
 rw[I5,Nat.zero_add];exact hc j u hj
theorem Bb1{w:World}{B n:Nat}{v:Value}{k1 k2:List Bs}(h:w.ownsRow B 35 32 v n ((k1.map bts).flatten++(k2.map bts).flatten))(hn:n=k1.length+k2.length):C3 w B v (k1++k2):=by
 subst hn;unfold C3;rw[List.length_append,List.map_append,List.flatten_append];exact h
theorem Cn6{l:List Bs}{i:Nat}{n:Nat}(h:∀x,x∈l->x.length=n):((l.eraseIdx i).map bts).flatten=(l.map bts).flatten.take (i*n)++(l.map bts).flatten.drop ((i+1)*n):=by
 rw[← Ak8 i (M9 h),← Ab7 (i+1) (M9 h),List.eraseIdx_eq_take_drop_succ];simp[List.map_take,List.map_drop]
theorem Ar8{w:World}{B gk ck n i j N:Nat}{ks:List Bs}(h:C3 w B (.slice (some ⟨gk,0,none⟩) n ck) ks)(hl:∀x,x∈ks->x.length=32)(hn:n<=100)(hnk:ks.length=n)(hi:i<n)(hj:j=i+1)(hN:(ks.eraseIdx i).length=N) :
  Calls Tryz.prog 194 #[.slice (some ⟨gk,0,none⟩) n ck,.int .i64 (i:Int),.int .i64 (j:Int)] w λ e w'=>∃cur,e=.returned (.slice (some ⟨gk,0,none⟩) N ck)/\C3 w' B (.slice (some ⟨gk,0,none⟩) N ck) (ks.eraseIdx i)/\w.heap[gk]?=some (.cells cur 35 (0,0))/\Upd [gk] w w':=by
 subst hnk;rw[List.length_eraseIdx,if_pos hi] at hN;refine(Cs5 h hn (by omega:ks.length=N+1) hj (by omega) (V6 _)).mono λ e w' hp=>?_;obtain⟨g,c,cur,e1,h1,h2,h3,h4⟩:=hp;cases e1
 refine⟨cur,h2,?_,h1,h4⟩;unfold C3;rw[List.length_eraseIdx,if_pos hi,show ks.length-1=N by omega,Cn6 hl,← hj];exact h3
theorem Cb4{w:World}{B gk ck n i j N:Nat}{ks:List Bs}(h:F7 w B (.slice (some ⟨gk,0,none⟩) n ck) ks)(hl:∀x,x∈ks->x.length=16)(hn:n<=100)(hnk:ks.length=n)(hi:i<n)(hj:j=i+1)(hN:(ks.eraseIdx i).length=N) :
  Calls Tryz.prog 195 #[.slice (some ⟨gk,0,none⟩) n ck,.int .i64 (i:Int),.int .i64 (j:Int)] w λ e w'=>∃cur,e=.returned (.slice (some ⟨gk,0,none⟩) N ck)/\F7 w' B (.slice (some ⟨gk,0,none⟩) N ck) (ks.eraseIdx i)/\w.heap[gk]?=some (.cells cur 115 (0,0))/\Upd [gk] w w':=by
 subst hnk;rw[List.length_eraseIdx,if_pos hi] at hN;refine(Cs6 h hn (by omega:ks.length=N+1) hj (by omega) (V6 _)).mono λ e w' hp=>?_;obtain⟨g,c,cur,e1,h1,h2,h3,h4⟩:=hp;cases e1
 refine⟨cur,h2,?_,h1,h4⟩;unfold F7;rw[List.length_eraseIdx,if_pos hi,show ks.length-1=N by omega,Cn6 hl,← hj];exact h3
theorem Bf1{w:World}{B gk ck n i j N:Nat}{ds:List Nat}(h:D8 w B (.slice (some ⟨gk,0,none⟩) n ck) ds)(hn:n<=100)(hnk:ds.length=n)(hi:i<n)(hj:j=i+1)(hN:(ds.eraseIdx i).length=N) :
  Calls Tryz.prog 232 #[.slice (some ⟨gk,0,none⟩) n ck,.int .i64 (i:Int),.int .i64 (j:Int)] w λ e w'=>∃cur,e=.returned (.slice (some ⟨gk,0,none⟩) N ck)/\D8 w' B (.slice (some ⟨gk,0,none⟩) N ck) (ds.eraseIdx i)/\w.heap[gk]?=some (.cells cur 79 (0,0))/\Upd [gk] w w':=by
 subst hnk;rw[List.length_eraseIdx,if_pos hi] at hN;refine(Cs7 h hn (by omega:ds.length=N+1) hj (by omega) (λ u hu=>by obtain⟨d,_,rfl⟩:=List.mem_map.1 hu;rfl)).mono λ e w' hp=>?_;obtain⟨g,c,cur,e1,h1,h2,h3,h4⟩:=hp;cases e1
 refine⟨cur,h2,?_,h1,h4⟩;unfold D8;rw[List.length_eraseIdx,if_pos hi,show ds.length-1=N by omega,List.eraseIdx_eq_take_drop_succ,List.map_append,List.map_take,List.map_drop];simpa [hj] using h3
theorem Bp7(w:World)(X Y Z U:Array Value):((((w.alloc (.cells X 220)).alloc (.cells Y 220)).alloc (.cells Z 220)).alloc (.cells U 220)).heap[w.heap.size]?=some (.cells X 220 (0,0))/\
  ((((w.alloc (.cells X 220)).alloc (.cells Y 220)).alloc (.cells Z 220)).alloc (.cells U 220)).heap[w.heap.size+1]?=some (.cells Y 220 (0,0))/\
  ((((w.alloc (.cells X 220)).alloc (.cells Y 220)).alloc (.cells Z 220)).alloc (.cells U 220)).heap[w.heap.size+1+1]?=some (.cells Z 220 (0,0))/\
  ((((w.alloc (.cells X 220)).alloc (.cells Y 220)).alloc (.cells Z 220)).alloc (.cells U 220)).heap[w.heap.size+1+1+1]?=some (.cells U 220 (0,0)):=by
 refine⟨?_,?_,?_,?_⟩
 ·rw[A9 (by simp;try omega),A9 (by simp;try omega),A9 (by simp)];exact A6 _
 ·rw[A9 (by simp;try omega),A9 (by simp;try omega)];have:=A6 (w:=w.alloc (.cells X 220)) (.cells Y 220);simpa using this
 ·rw[A9 (by simp;try omega)];have:=A6 (w:=(w.alloc (.cells X 220)).alloc (.cells Y 220)) (.cells Z 220);simpa using this
 ·have:=A6 (w:=((w.alloc (.cells X 220)).alloc (.cells Y 220)).alloc (.cells Z 220)) (.cells U 220);simpa using this
def T0(g:Sg)(M:Nat->Option Sec)(d B s1 s2 at_ i:Nat)(ks:List Bs)(ds:List Nat)(K V:List Bs)(D:List Nat)(w:World)(e:Ending)(w':World):Prop:=
 ∃a c a' c' ks' ds' M',e=.returned (.tuple #[.agg #[.int .i64 2,.slice a ks'.length c,.slice none 0 0,.slice a' ds'.length c'],.int .i64 0])/\C3 w' B (.slice a ks'.length c) ks'/\D8 w' B (.slice a' ds'.length c') ds'/\B7 w' g M'/\(∃S,Upd S w w'/\∀k,k∈S->k∈g.S∨B<=k)/\
  ((K.length<=V2 d/\ks'=ks.eraseIdx i/\ds'=ds.eraseIdx (i+1)/\M'=Aj8 (Aa6 g (F1 M s1 (Aj7 d K V D)) s2) (d+1) at_ ks' [] ds')∨
  (V2 d<K.length/\∃k',K[K.length / 2]?=some k'/\ks'=ks.set i k'/\ds'=ds/\M'=F1 (F1 (F1 M s1 (Aj7 d (K.take (K.length / 2)) (V.take (K.length / 2)) (D.take (K.length / 2+1)))) s2 (Aj7 d (Al7 d K (K.length / 2)) (V.drop (K.length / 2)) (D.drop (K.length / 2+1)))) at_ (B5 ks' ds')))
theorem Bb2{w:World}{g:Sg}{M:Nat->Option Sec}(h:B7 w g M)(hh:1<g.h)(hh2:g.h<=4096)(hc:(M 1).isSome=true∨F2 M g.h<40)(s:Nat)(hs:4<=s)(hs2:s<g.h)(ht:g.T M s=true) :
  Calls Tryz.prog 129 #[.pointer (some ⟨g.x.tb,0,none⟩),.int .i64 (s:Int),.int .i64 1] w λ e w'=>e=.returned (.int .i64 0)/\B7 w' g (Aa6 g M s)/\Upd g.S w w':=
 Cl5 h hh hh2 hc s 1 (by omega) (by omega) hs (by omega) (λ q hq=>by rw[show s+q=s by omega];exact ht)
theorem Bi9{i j:Nat}(h:j=i+1)(hi:i<=1000):IntKind.i64.wrap ((i:Int)+1)=(j:Int)/\wrap64 ((i:Int)+1)=(j:Int):=by
 subst h;refine⟨?_,?_⟩
 ·rw[IntKind.wrap_i64];omega
 ·unfold wrap64;omega
theorem Bx1{i j:Nat}(h:j=i+2)(hi:i<=1000):IntKind.i64.wrap ((i:Int)+2)=(j:Int):=by
 subst h;rw[IntKind.wrap_i64];omega
theorem Aj9{s:Nat}(h:s<4294967296):IntKind.i64.wrap (s:Int)=(s:Int)/\wrap64 (s:Int)=(s:Int):=by
 refine⟨?_,?_⟩
 ·rw[IntKind.wrap_i64];omega
 ·unfold wrap64;omega
theorem Ci3{w:World}{g:Sg}{M:Nat->Option Sec}(h:B7 w g M){B:Nat}{vk vv:Value}{ks vs:List Bs}(hk:C3 w B vk ks)(hv:F7 w B vv vs)(hok:K5 ks vs):L7 g.S w 1 vk vv (.slice none 0 0) (C8 ks vs):=
 ⟨I7 h hk (.inr (.inr (.inl rfl))),I7 h hv (.inr (.inr (.inr (.inl rfl)))),(λ a l c e=>by cases e),.inl ⟨ks,vs,rfl,hk.rd hok.k,hv.rd hok.v,hok,rfl⟩⟩
theorem Bf2{w:World}{g:Sg}{M:Nat->Option Sec}(h:B7 w g M){B B':Nat}{vk vd:Value}{ks:List Bs}{ds:List Nat}(hk:C3 w B vk ks)(hd:D8 w B' vd ds)(hok:G0 ks ds):L7 g.S w 2 vk (.slice none 0 0) vd (B5 ks ds):=
 ⟨I7 h hk (.inr (.inr (.inl rfl))),(λ a l c e=>by cases e),I7 h hd (.inr (.inr (.inr (.inr rfl)))),.inr ⟨ks,ds,rfl,hk.rd hok.k,hd.rd,hok,rfl⟩⟩
theorem Al8{ks:List Bs}{ds:List Nat}(h:G0 ks ds){i:Nat}(hi:i<ks.length):G0 (ks.eraseIdx i) (ds.eraseIdx (i+1)):=
 ⟨λ x q=>h.k x ((List.eraseIdx_sublist _ _).subset q),λ x q=>h.d x ((List.eraseIdx_sublist _ _).subset q),by rw[List.length_eraseIdx,List.length_eraseIdx,if_pos hi,if_pos (by rw[h.n];omega),h.n];omega,by have:=h.most;rw[List.length_eraseIdx];split<;>omega⟩
theorem C3.turn{w:World}{B:Nat}{v:Value}{vs:List Bs}(h:C3 w B v vs)(hl:∀x,x∈vs->x.length=32){P:Nat}(hP:P<vs.length){x:Bs}(hx:x.length=32) :
  ∃gv cap cur r,v=.slice (some ⟨gv,0,none⟩) vs.length cap/\B<=gv/\w.heap[gv]?=some (.cells cur 35 (0,0))/\(storeCells ⟨gv,P*32,none⟩ (bts x) 0).run Tryz.prog w=.ok () (w.setRow gv r)/\C3 (w.setRow gv r) B v (vs.set P x):=by
 rcases h.2 with⟨_,h0⟩ | ⟨gv,cap,cur,rfl,hb,hg,hc,hm,hs,ht⟩
 ·omega
 ·have hcl:cur.toList.length=cap*32:=by rw[Array.length_toList,hs]
  have hbl:=A8 x;have hrun:=run_storeCells_at (P:=Tryz.prog) gv (P*32) _ (bts x) 0 cur w hg (by rw[hbl,hx,hs];omega) (G7 x);refine⟨gv,cap,cur,_,rfl,hb,hg,hrun,?_⟩;have hfl:=M5 (M9 hl);rw[List.length_map] at hfl;unfold C3;refine⟨?_,.inr ⟨gv,cap,_,by rw[List.length_set],hb,setRow_heap _ _ _ _ _ _ hg,by rw[List.length_set];exact hc,hm,?_,?_⟩⟩
  ·rw[M5 (M9 (n:=32) (by intro y hy;rcases List.mem_or_eq_of_mem_set hy with q | q;exact hl y q;rw[q];exact hx)),List.length_map]
  ·rw[List.size_toArray];simp only[List.length_append,List.length_take,List.length_drop,hcl,hbl,hx];omega
  ·rw[Bm9 hl hP,List.length_set,← ht,Nat.add_zero,hbl,hx];have e1:(List.take (vs.length*32) cur.toList).take (P*32)=cur.toList.take (P*32):=by rw[List.take_take];congr 1;omega
   rw[e1,List.append_assoc,List.append_assoc,List.take_append,List.take_append,List.take_of_length_le (i:=vs.length*32) (l:=cur.toList.take (P*32)) (by rw[List.length_take];omega),List.take_of_length_le (i:=_) (l:=bts x) (by rw[List.length_take,hcl,hbl,hx];omega)];congr 2
   rw[List.drop_take,show P*32+32=(P+1)*32 from by omega];congr 1
   rw[List.length_take,hcl,hbl,hx];omega
theorem Bp8{w:World}{B gk n ck:Nat}{ks:List Bs}(h:C3 w B (.slice (some ⟨gk,0,none⟩) n ck) ks)(hl:∀x,x∈ks->x.length=32)(hn:ks.length=n){i:Nat}(hi:i<n){x:Bs}(hx:x.length=32) :
  ∃cur r,w.heap[gk]?=some (.cells cur 35 (0,0))/\(storeCells ⟨gk,i*32,none⟩ (bts x) 0).run Tryz.prog w=.ok () (w.setRow gk r)/\C3 (w.setRow gk r) B (.slice (some ⟨gk,0,none⟩) n ck) (ks.set i x):=by
 subst hn;obtain⟨gv,cap,cur,r,e,_,h1,h2,h3⟩:=h.turn hl hi hx;cases e
 exact⟨cur,r,h1,h2,h3⟩
end
end Go.Proofs.YtgfbepakonjbnaaGreat
end
