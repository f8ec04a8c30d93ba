/-
  The document's stands: does an anchor stand there? (Written by tools/put/rdT.py.)
-/
import Derived.Test.YtplppdbdfhkljaaGreatA14
set_option maxRecDepth 100000
set_option maxHeartbeats 16000000
section
set_option linter.unusedSimpArgs false
set_option linter.unusedVariables false
namespace Go.Proofs.YtplppdbdfhkljaaGreat
open Go.RowKit Go.MapKept Go.ChangeMaps
section
attribute [-go_sem] loadCells storeCells Instr.build run_string_add_if run_slice_l run_slice_h run_slice_string run_slice_string_h run_slice_string_l
theorem stands_bools{b:Sec}{n:Nat}{c1 c2 c3 c4 c5 c6 c7 c8:Bool}(hb:b.length=512)(h1:c1=decide (b.take 8=b.drop 504))(h2:c2=decide (0<numI b 0 8))(h3:c3=decide (1≤numI b 8 8))(h4:c4=decide (numI b 8 8<4611686018427387904))
  (h5:c5=decide (8≤num b 20 4)) (h6:c6=decide (num b 20 4≤1024)) (h7:c7=decide (num b 16 4<num b 20 4)) (h8:c8=decide (num b 20 4+10≤n)) :
  (ancOf b).okB n=(c1 && c2 && c3 && c4 && c5 && c6 && c7 && c8):=by
 have hlt:numI b 504 8<18446744073709551616:=by
  have:=num_lt b 504 8
  have e:(256:Nat) ^ 8=18446744073709551616:=by decide
  unfold numI;omega
 have hnn:=numI_nonneg b 504 8
 have h0:=numI_nonneg b 0 8
 have e1:(b.take 8=b.drop 504)↔numI b 0 8=numI b 504 8:=by
  have h504:b.drop 504=be 8 (numI b 504 8).toNat:=(drop504_be hb (by omega)).2 (by unfold numI;omega)
  rw[h504,take8_be (by omega) (by omega)]
  unfold numI
  constructor
  ·intro e;rw[e];omega
  ·intro e;omega
 unfold Anc.okB ancOf tagOf
 show((if numI b 0 8=numI b 504 8 then numI b 0 8 else 0) != 0 && decide (1≤numI b 8 8) && decide (numI b 8 8<4611686018427387904) && (decide (8≤num b 20 4) && decide (num b 20 4≤1024) && decide (num b 16 4<num b 20 4) && decide (num b 20 4+10≤n)))=_
 rw[← h3,← h4,← h5,← h6,← h7,← h8]
 have e12:((if numI b 0 8=numI b 504 8 then numI b 0 8 else 0) != 0)=(c1 && c2):=by
  rw[h1,h2]
  by_cases e:numI b 0 8=numI b 504 8
  ·rw[if_pos e,decide_eq_true (e1.2 e),Bool.true_and]
   by_cases z:numI b 0 8=0
   ·rw[z];rfl
   ·rw[decide_eq_true (by omega)];simpa using z
  ·rw[if_neg e,decide_eq_false (fun q=>e (e1.1 q))];rfl
 rw[e12]
 cases c1<;>cases c2<;>cases c3<;>cases c4<;>cases c5<;>cases c6<;>cases c7<;>cases c8<;>rfl
set_option maxRecDepth 100000 in
set_option maxHeartbeats 16000000 in
theorem rstand_spec(w:World)(b:Sec)(hb:b.length=512)(n:Nat)(hn:n≤1000000) :
  Calls Tryz.prog 73 #[.string (str b),.int .i64 (n:Int)] w fun e w'=>e=.returned (.bool ((ancOf b).okB n))∧Upd [] w w':=by
 have HNUM:Hid (∀(a k:Nat) (w:World),1≤k→k≤8→a+k≤512→Calls Tryz.prog 74 #[.string (str b),.int .i64 (a:Int),.int .i64 (k:Int)] w fun e w'=>e=.returned (.int .u64 (numI b a k))∧Upd [] w w'):=by
  show ∀(a k:Nat) (w:World),_
  intro a k w h1 h2 h3
  exact rnumber_spec w b a k h1 h2 (by omega) (by omega)
 obtain⟨y1,hy1⟩:∃y,y=b.take 8:=⟨_,rfl⟩
 obtain⟨y2,hy2⟩:∃y,y=b.drop 504:=⟨_,rfl⟩
 have HS1:Hid (∀w,(Instr.slice 9 (.string (str b)) none (some (.int .i64 8)) none).run Tryz.prog w=.ok (.string (str y1)) w):=Lib.hid (fun w=>by
  have:=run_str_front b 8 (by omega) w
  rw[hy1];simpa using this)
 have HS2:Hid (∀w,(Instr.slice 9 (.string (str b)) (some (.int .i64 504)) none none).run Tryz.prog w=.ok (.string (str y2)) w):=Lib.hid (fun w=>by
  have:=run_str_back b 504 (by omega) w
  rw[hy2];simpa using this)
 obtain⟨c1,hc1⟩:∃c,c=decide (y1=y2):=⟨_,rfl⟩
 have HQ1:=Lib.hid (str_cmp hc1)
 rw[hy1,hy2] at hc1
 obtain⟨rg,hrg⟩:∃x,x=num b 20 4:=⟨_,rfl⟩
 obtain⟨pl,hpl⟩:∃x,x=num b 16 4:=⟨_,rfl⟩
 obtain⟨nu,hnu⟩:∃x,x=numI b 0 8:=⟨_,rfl⟩
 obtain⟨tu,htu⟩:∃x,x=numI b 8 8:=⟨_,rfl⟩
 have hrl:rg<4294967296:=by rw[hrg];exact num_lt b 20 4
 have HN0:Hid (∀w,Calls Tryz.prog 74 #[.string (str b),.int .i64 0,.int .i64 8] w fun e w'=>e=.returned (.int .u64 nu)∧Upd [] w w'):=by
  show ∀w,_
  intro w
  have:=HNUM.out 0 8 w (by omega) (by omega) (by omega)
  rw[hnu];exact this
 have HN8:Hid (∀w,Calls Tryz.prog 74 #[.string (str b),.int .i64 8,.int .i64 8] w fun e w'=>e=.returned (.int .u64 tu)∧Upd [] w w'):=by
  show ∀w,_
  intro w
  have:=HNUM.out 8 8 w (by omega) (by omega) (by omega)
  rw[htu];exact this
 have HN16:Hid (∀w,Calls Tryz.prog 74 #[.string (str b),.int .i64 16,.int .i64 4] w fun e w'=>e=.returned (.int .u64 (pl:Int))∧Upd [] w w'):=by
  show ∀w,_
  intro w
  have:=HNUM.out 16 4 w (by omega) (by omega) (by omega)
  rw[hpl];exact this
 have HN20:Hid (∀w,Calls Tryz.prog 74 #[.string (str b),.int .i64 20,.int .i64 4] w fun e w'=>e=.returned (.int .u64 (rg:Int))∧Upd [] w w'):=by
  show ∀w,_
  intro w
  have:=HNUM.out 20 4 w (by omega) (by omega) (by omega)
  rw[hrg];exact this
 obtain⟨c2,hc2⟩:∃c,c=decide (0<nu):=⟨_,rfl⟩
 obtain⟨c3,hc3⟩:∃c,c=decide (1≤tu):=⟨_,rfl⟩
 obtain⟨c4,hc4⟩:∃c,c=decide (tu<4611686018427387904):=⟨_,rfl⟩
 obtain⟨c5,hc5⟩:∃c,c=decide (8≤rg):=⟨_,rfl⟩
 obtain⟨c6,hc6⟩:∃c,c=decide (rg≤1024):=⟨_,rfl⟩
 obtain⟨c7,hc7⟩:∃c,c=decide (pl<rg):=⟨_,rfl⟩
 obtain⟨c8,hc8⟩:∃c,c=decide (rg+10≤n):=⟨_,rfl⟩
 have HRES:Hid ((ancOf b).okB n=(c1 && c2 && c3 && c4 && c5 && c6 && c7 && c8)):=by
  rw[hnu] at hc2;rw[htu] at hc3 hc4;rw[hpl] at hc7;rw[hrg] at hc5 hc6 hc7 hc8
  exact Lib.hid (stands_bools hb hc1 hc2 hc3 hc4 hc5 hc6 hc7 hc8)
 have HC2:=Lib.hid hc2.symm
 have HC3:=Lib.hid hc3.symm
 have HC4:=Lib.hid hc4.symm
 have HC5:Hid (decide (8≤(rg:Int))=c5∧decide (8≤rg)=c5):=Lib.hid ⟨by rw[hc5];exact decide_eq_decide.2 (by omega),hc5.symm⟩
 have HC6:Hid (decide ((rg:Int)≤1024)=c6∧decide (rg≤1024)=c6):=Lib.hid ⟨by rw[hc6];exact decide_eq_decide.2 (by omega),hc6.symm⟩
 have HC7:Hid (decide ((pl:Int)<(rg:Int))=c7∧decide (pl<rg)=c7):=Lib.hid ⟨by rw[hc7];exact decide_eq_decide.2 (by omega),hc7.symm⟩
 obtain⟨r10,hr10⟩:∃x,x=rg+10:=⟨_,rfl⟩
 have HC8:Hid (decide ((r10:Int)≤(n:Int))=c8∧decide (r10≤n)=c8):=Lib.hid ⟨by rw[hc8,hr10];exact decide_eq_decide.2 (by omega),by rw[hc8,hr10]⟩
 have HW:Hid (IntKind.i64.wrap (rg:Int)=(rg:Int)∧IntKind.i64.wrap ((rg:Int)+10)=(r10:Int)):=by
  show _∧_
  rw[IntKind.wrap_i64,IntKind.wrap_i64]
  refine⟨by omega,by omega⟩
 clear hb hn hy1 hy2 hc1 hc2 hc3 hc4 hc5 hc6 hc7 hc8 hrg hpl hnu htu hrl hr10
 go_enter Tryz.func73,Tryz.ntmps73
 go_wp2_with fail
 refine(HN20.out _).mono ?_
 rintro e w1 ⟨rfl,hu1⟩
 have HU1:=Lib.hid hu1
 clear hu1
 go_wp2_with fail
 refine wp_region_x (fun w'=>Upd [] w1 w') [] (by kernel_rfl) (Upd.refl _ _).drew (fun hHeld=>?_)
 generalize w1.drew=w0 at hHeld ⊢
 refine wpAnyX_take (i:=0) (v:=?_) rfl (by kernel_rfl) (fun _ _ _ h=>h) hHeld (Or.inl ⟨by kernel_rfl,?_⟩) ?_
 rotate_left
 ·(intro w hSw;go_simp<;>with_reducible rfl)
 try simp only[Act.put,List.getElem_toArray,List.getElem_cons_zero,List.getElem_cons_succ,List.setIfInBounds_toArray,List.set_cons_zero,List.set_cons_succ]
 refine wpAnyX_take (i:=1) (v:=?_) rfl (by kernel_rfl) (fun _ _ _ h=>h) hHeld (Or.inl ⟨by kernel_rfl,?_⟩) ?_
 rotate_left
 ·(intro w hSw;have q:=HS1.out;go_simp<;>with_reducible rfl)
 try simp only[Act.put,List.getElem_toArray,List.getElem_cons_zero,List.getElem_cons_succ,List.setIfInBounds_toArray,List.set_cons_zero,List.set_cons_succ]
 refine wpAnyX_take (i:=2) (v:=?_) rfl (by kernel_rfl) (fun _ _ _ h=>h) hHeld (Or.inl ⟨by kernel_rfl,?_⟩) ?_
 rotate_left
 ·(intro w hSw;go_simp<;>with_reducible rfl)
 try simp only[Act.put,List.getElem_toArray,List.getElem_cons_zero,List.getElem_cons_succ,List.setIfInBounds_toArray,List.set_cons_zero,List.set_cons_succ]
 refine wpAnyX_take (i:=3) (v:=?_) rfl (by kernel_rfl) (fun _ _ _ h=>h) hHeld (Or.inl ⟨by kernel_rfl,?_⟩) ?_
 rotate_left
 ·(intro w hSw;have q:=HS2.out;go_simp<;>with_reducible rfl)
 try simp only[Act.put,List.getElem_toArray,List.getElem_cons_zero,List.getElem_cons_succ,List.setIfInBounds_toArray,List.set_cons_zero,List.set_cons_succ]
 refine wpAnyX_take (i:=4) (v:=?_) rfl (by kernel_rfl) (fun _ _ _ h=>h) hHeld (Or.inl ⟨by kernel_rfl,?_⟩) ?_
 rotate_left
 ·(intro w hSw;have q:=HQ1.out;go_simp<;>with_reducible rfl)
 try simp only[Act.put,List.getElem_toArray,List.getElem_cons_zero,List.getElem_cons_succ,List.setIfInBounds_toArray,List.set_cons_zero,List.set_cons_succ]
 refine wpAnyX_take (i:=5) (v:=?_) rfl (by kernel_rfl) (fun _ _ _ h=>h) hHeld (Or.inl ⟨by kernel_rfl,?_⟩) ?_
 rotate_left
 ·(intro w hSw;go_simp<;>with_reducible rfl)
 try simp only[Act.put,List.getElem_toArray,List.getElem_cons_zero,List.getElem_cons_succ,List.setIfInBounds_toArray,List.set_cons_zero,List.set_cons_succ]
 cases c1 with
 | false=>
  refine wpAnyX_take (i:=6) (v:=undef) rfl (by kernel_rfl) (fun _ _ _ h=>h) hHeld (Or.inr ⟨by kernel_rfl,rfl⟩) ?_
  try simp only[Act.put,List.getElem_toArray,List.getElem_cons_zero,List.getElem_cons_succ,List.setIfInBounds_toArray,List.set_cons_zero,List.set_cons_succ]
  refine wpAnyX_ready (rs:=[7]) (by kernel_rfl) (by simp) (AllReadyX.one rfl (fun K hK=>?_))
  go_simp
  refine hK.out _ _ (fun _=>hHeld) ?_
  clear hK K
  try simp only[Act.put,List.getElem_toArray,List.getElem_cons_zero,List.getElem_cons_succ,List.setIfInBounds_toArray,List.set_cons_zero,List.set_cons_succ]
  refine wpAnyX_take (i:=8) (v:=undef) rfl (by kernel_rfl) (fun _ _ _ h=>h) hHeld (Or.inr ⟨by kernel_rfl,rfl⟩) ?_
  try simp only[Act.put,List.getElem_toArray,List.getElem_cons_zero,List.getElem_cons_succ,List.setIfInBounds_toArray,List.set_cons_zero,List.set_cons_succ]
  refine wpAnyX_take (i:=9) (v:=?_) rfl (by kernel_rfl) (fun _ _ _ h=>h) hHeld (Or.inl ⟨by kernel_rfl,?_⟩) ?_
  rotate_left
  ·(intro w hSw;go_simp<;>with_reducible rfl)
  try simp only[Act.put,List.getElem_toArray,List.getElem_cons_zero,List.getElem_cons_succ,List.setIfInBounds_toArray,List.set_cons_zero,List.set_cons_succ]
  refine wpAnyX_take (i:=10) (v:=?_) rfl (by kernel_rfl) (fun _ _ _ h=>h) hHeld (Or.inl ⟨by kernel_rfl,?_⟩) ?_
  rotate_left
  ·(intro w hSw;go_simp<;>with_reducible rfl)
  try simp only[Act.put,List.getElem_toArray,List.getElem_cons_zero,List.getElem_cons_succ,List.setIfInBounds_toArray,List.set_cons_zero,List.set_cons_succ]
  refine wpAnyX_take (i:=11) (v:=undef) rfl (by kernel_rfl) (fun _ _ _ h=>h) hHeld (Or.inr ⟨by kernel_rfl,rfl⟩) ?_
  try simp only[Act.put,List.getElem_toArray,List.getElem_cons_zero,List.getElem_cons_succ,List.setIfInBounds_toArray,List.set_cons_zero,List.set_cons_succ]
  refine wpAnyX_ready (rs:=[12]) (by kernel_rfl) (by simp) (AllReadyX.one rfl (fun K hK=>?_))
  go_simp
  refine hK.out _ _ (fun _=>hHeld) ?_
  clear hK K
  try simp only[Act.put,List.getElem_toArray,List.getElem_cons_zero,List.getElem_cons_succ,List.setIfInBounds_toArray,List.set_cons_zero,List.set_cons_succ]
  refine wpAnyX_take (i:=13) (v:=undef) rfl (by kernel_rfl) (fun _ _ _ h=>h) hHeld (Or.inr ⟨by kernel_rfl,rfl⟩) ?_
  try simp only[Act.put,List.getElem_toArray,List.getElem_cons_zero,List.getElem_cons_succ,List.setIfInBounds_toArray,List.set_cons_zero,List.set_cons_succ]
  refine wpAnyX_take (i:=14) (v:=?_) rfl (by kernel_rfl) (fun _ _ _ h=>h) hHeld (Or.inl ⟨by kernel_rfl,?_⟩) ?_
  rotate_left
  ·(intro w hSw;go_simp<;>with_reducible rfl)
  try simp only[Act.put,List.getElem_toArray,List.getElem_cons_zero,List.getElem_cons_succ,List.setIfInBounds_toArray,List.set_cons_zero,List.set_cons_succ]
  refine wpAnyX_take (i:=15) (v:=?_) rfl (by kernel_rfl) (fun _ _ _ h=>h) hHeld (Or.inl ⟨by kernel_rfl,?_⟩) ?_
  rotate_left
  ·(intro w hSw;go_simp<;>with_reducible rfl)
  try simp only[Act.put,List.getElem_toArray,List.getElem_cons_zero,List.getElem_cons_succ,List.setIfInBounds_toArray,List.set_cons_zero,List.set_cons_succ]
  refine wpAnyX_take (i:=16) (v:=undef) rfl (by kernel_rfl) (fun _ _ _ h=>h) hHeld (Or.inr ⟨by kernel_rfl,rfl⟩) ?_
  try simp only[Act.put,List.getElem_toArray,List.getElem_cons_zero,List.getElem_cons_succ,List.setIfInBounds_toArray,List.set_cons_zero,List.set_cons_succ]
  refine wpAnyX_ready (rs:=[17]) (by kernel_rfl) (by simp) (AllReadyX.one rfl (fun K hK=>?_))
  go_simp
  refine hK.out _ _ (fun _=>hHeld) ?_
  clear hK K
  try simp only[Act.put,List.getElem_toArray,List.getElem_cons_zero,List.getElem_cons_succ,List.setIfInBounds_toArray,List.set_cons_zero,List.set_cons_succ]
  refine wpAnyX_take (i:=18) (v:=undef) rfl (by kernel_rfl) (fun _ _ _ h=>h) hHeld (Or.inr ⟨by kernel_rfl,rfl⟩) ?_
  try simp only[Act.put,List.getElem_toArray,List.getElem_cons_zero,List.getElem_cons_succ,List.setIfInBounds_toArray,List.set_cons_zero,List.set_cons_succ]
  refine wpAnyX_take (i:=19) (v:=?_) rfl (by kernel_rfl) (fun _ _ _ h=>h) hHeld (Or.inl ⟨by kernel_rfl,?_⟩) ?_
  rotate_left
  ·(intro w hSw;go_simp<;>with_reducible rfl)
  try simp only[Act.put,List.getElem_toArray,List.getElem_cons_zero,List.getElem_cons_succ,List.setIfInBounds_toArray,List.set_cons_zero,List.set_cons_succ]
  refine wpAnyX_take (i:=20) (v:=?_) rfl (by kernel_rfl) (fun _ _ _ h=>h) hHeld (Or.inl ⟨by kernel_rfl,?_⟩) ?_
  rotate_left
  ·(intro w hSw;go_simp<;>with_reducible rfl)
  try simp only[Act.put,List.getElem_toArray,List.getElem_cons_zero,List.getElem_cons_succ,List.setIfInBounds_toArray,List.set_cons_zero,List.set_cons_succ]
  refine wpAnyX_take (i:=21) (v:=undef) rfl (by kernel_rfl) (fun _ _ _ h=>h) hHeld (Or.inr ⟨by kernel_rfl,rfl⟩) ?_
  try simp only[Act.put,List.getElem_toArray,List.getElem_cons_zero,List.getElem_cons_succ,List.setIfInBounds_toArray,List.set_cons_zero,List.set_cons_succ]
  refine wpAnyX_take (i:=22) (v:=undef) rfl (by kernel_rfl) (fun _ _ _ h=>h) hHeld (Or.inr ⟨by kernel_rfl,rfl⟩) ?_
  try simp only[Act.put,List.getElem_toArray,List.getElem_cons_zero,List.getElem_cons_succ,List.setIfInBounds_toArray,List.set_cons_zero,List.set_cons_succ]
  refine wpAnyX_take (i:=23) (v:=?_) rfl (by kernel_rfl) (fun _ _ _ h=>h) hHeld (Or.inl ⟨by kernel_rfl,?_⟩) ?_
  rotate_left
  ·(intro w hSw;go_simp<;>with_reducible rfl)
  try simp only[Act.put,List.getElem_toArray,List.getElem_cons_zero,List.getElem_cons_succ,List.setIfInBounds_toArray,List.set_cons_zero,List.set_cons_succ]
  refine wpAnyX_take (i:=24) (v:=?_) rfl (by kernel_rfl) (fun _ _ _ h=>h) hHeld (Or.inl ⟨by kernel_rfl,?_⟩) ?_
  rotate_left
  ·(intro w hSw;go_simp<;>with_reducible rfl)
  try simp only[Act.put,List.getElem_toArray,List.getElem_cons_zero,List.getElem_cons_succ,List.setIfInBounds_toArray,List.set_cons_zero,List.set_cons_succ]
  refine wpAnyX_take (i:=25) (v:=undef) rfl (by kernel_rfl) (fun _ _ _ h=>h) hHeld (Or.inr ⟨by kernel_rfl,rfl⟩) ?_
  try simp only[Act.put,List.getElem_toArray,List.getElem_cons_zero,List.getElem_cons_succ,List.setIfInBounds_toArray,List.set_cons_zero,List.set_cons_succ]
  refine wpAnyX_take (i:=26) (v:=undef) rfl (by kernel_rfl) (fun _ _ _ h=>h) hHeld (Or.inr ⟨by kernel_rfl,rfl⟩) ?_
  try simp only[Act.put,List.getElem_toArray,List.getElem_cons_zero,List.getElem_cons_succ,List.setIfInBounds_toArray,List.set_cons_zero,List.set_cons_succ]
  refine wpAnyX_take (i:=27) (v:=?_) rfl (by kernel_rfl) (fun _ _ _ h=>h) hHeld (Or.inl ⟨by kernel_rfl,?_⟩) ?_
  rotate_left
  ·(intro w hSw;go_simp<;>with_reducible rfl)
  try simp only[Act.put,List.getElem_toArray,List.getElem_cons_zero,List.getElem_cons_succ,List.setIfInBounds_toArray,List.set_cons_zero,List.set_cons_succ]
  refine wpAnyX_take (i:=28) (v:=?_) rfl (by kernel_rfl) (fun _ _ _ h=>h) hHeld (Or.inl ⟨by kernel_rfl,?_⟩) ?_
  rotate_left
  ·(intro w hSw;go_simp<;>with_reducible rfl)
  try simp only[Act.put,List.getElem_toArray,List.getElem_cons_zero,List.getElem_cons_succ,List.setIfInBounds_toArray,List.set_cons_zero,List.set_cons_succ]
  refine wpAnyX_take (i:=29) (v:=undef) rfl (by kernel_rfl) (fun _ _ _ h=>h) hHeld (Or.inr ⟨by kernel_rfl,rfl⟩) ?_
  try simp only[Act.put,List.getElem_toArray,List.getElem_cons_zero,List.getElem_cons_succ,List.setIfInBounds_toArray,List.set_cons_zero,List.set_cons_succ]
  refine wpAnyX_take (i:=31) (v:=undef) rfl (by kernel_rfl) (fun _ _ _ h=>h) hHeld (Or.inr ⟨by kernel_rfl,rfl⟩) ?_
  try simp only[Act.put,List.getElem_toArray,List.getElem_cons_zero,List.getElem_cons_succ,List.setIfInBounds_toArray,List.set_cons_zero,List.set_cons_succ]
  refine wpAnyX_ready (rs:=[30]) (by kernel_rfl) (by simp) (AllReadyX.one rfl (fun K hK=>?_))
  go_simp
  refine hK.out _ _ (fun _=>hHeld) ?_
  clear hK K
  try simp only[Act.put,List.getElem_toArray,List.getElem_cons_zero,List.getElem_cons_succ,List.setIfInBounds_toArray,List.set_cons_zero,List.set_cons_succ]
  refine wpAnyX_take (i:=32) (v:=undef) rfl (by kernel_rfl) (fun _ _ _ h=>h) hHeld (Or.inr ⟨by kernel_rfl,rfl⟩) ?_
  try simp only[Act.put,List.getElem_toArray,List.getElem_cons_zero,List.getElem_cons_succ,List.setIfInBounds_toArray,List.set_cons_zero,List.set_cons_succ]
  refine wpAnyX_take (i:=33) (v:=?_) rfl (by kernel_rfl) (fun _ _ _ h=>h) hHeld (Or.inl ⟨by kernel_rfl,?_⟩) ?_
  rotate_left
  ·(intro w hSw;go_simp<;>with_reducible rfl)
  try simp only[Act.put,List.getElem_toArray,List.getElem_cons_zero,List.getElem_cons_succ,List.setIfInBounds_toArray,List.set_cons_zero,List.set_cons_succ]
  refine wpAnyX_take (i:=34) (v:=?_) rfl (by kernel_rfl) (fun _ _ _ h=>h) hHeld (Or.inl ⟨by kernel_rfl,?_⟩) ?_
  rotate_left
  ·(intro w hSw;go_simp<;>with_reducible rfl)
  try simp only[Act.put,List.getElem_toArray,List.getElem_cons_zero,List.getElem_cons_succ,List.setIfInBounds_toArray,List.set_cons_zero,List.set_cons_succ]
  refine wpAnyX_take (i:=35) (v:=undef) rfl (by kernel_rfl) (fun _ _ _ h=>h) hHeld (Or.inr ⟨by kernel_rfl,rfl⟩) ?_
  try simp only[Act.put,List.getElem_toArray,List.getElem_cons_zero,List.getElem_cons_succ,List.setIfInBounds_toArray,List.set_cons_zero,List.set_cons_succ]
  refine wpAnyX_take (i:=36) (v:=undef) rfl (by kernel_rfl) (fun _ _ _ h=>h) hHeld (Or.inr ⟨by kernel_rfl,rfl⟩) ?_
  try simp only[Act.put,List.getElem_toArray,List.getElem_cons_zero,List.getElem_cons_succ,List.setIfInBounds_toArray,List.set_cons_zero,List.set_cons_succ]
  refine wpAnyX_take (i:=37) (v:=undef) rfl (by kernel_rfl) (fun _ _ _ h=>h) hHeld (Or.inr ⟨by kernel_rfl,rfl⟩) ?_
  try simp only[Act.put,List.getElem_toArray,List.getElem_cons_zero,List.getElem_cons_succ,List.setIfInBounds_toArray,List.set_cons_zero,List.set_cons_succ]
  refine wpAnyX_take (i:=38) (v:=undef) rfl (by kernel_rfl) (fun _ _ _ h=>h) hHeld (Or.inr ⟨by kernel_rfl,rfl⟩) ?_
  try simp only[Act.put,List.getElem_toArray,List.getElem_cons_zero,List.getElem_cons_succ,List.setIfInBounds_toArray,List.set_cons_zero,List.set_cons_succ]
  refine wpAnyX_take (i:=39) (v:=undef) rfl (by kernel_rfl) (fun _ _ _ h=>h) hHeld (Or.inr ⟨by kernel_rfl,rfl⟩) ?_
  try simp only[Act.put,List.getElem_toArray,List.getElem_cons_zero,List.getElem_cons_succ,List.setIfInBounds_toArray,List.set_cons_zero,List.set_cons_succ]
  refine wpAnyX_take (i:=40) (v:=?_) rfl (by kernel_rfl) (fun _ _ _ h=>h) hHeld (Or.inl ⟨by kernel_rfl,?_⟩) ?_
  rotate_left
  ·(intro w hSw;go_simp<;>with_reducible rfl)
  try simp only[Act.put,List.getElem_toArray,List.getElem_cons_zero,List.getElem_cons_succ,List.setIfInBounds_toArray,List.set_cons_zero,List.set_cons_succ]
  refine wpAnyX_take (i:=41) (v:=?_) rfl (by kernel_rfl) (fun _ _ _ h=>h) hHeld (Or.inl ⟨by kernel_rfl,?_⟩) ?_
  rotate_left
  ·(intro w hSw;go_simp<;>with_reducible rfl)
  try simp only[Act.put,List.getElem_toArray,List.getElem_cons_zero,List.getElem_cons_succ,List.setIfInBounds_toArray,List.set_cons_zero,List.set_cons_succ]
  refine wpAnyX_done (by kernel_rfl) ?_ _
  have HU2:=Lib.hid (HU1.out.trans hHeld)
  clear hHeld
  go_wp2_with fail
  go_ret
  exact⟨by rw[HRES.out];first | rfl | simp,HU2.out⟩
 | true=>
 refine wpAnyX_take (i:=6) (v:=?_) rfl (by kernel_rfl) (fun _ _ _ h=>h) hHeld (Or.inl ⟨by kernel_rfl,?_⟩) ?_
 rotate_left
 ·(intro w hSw;go_simp<;>with_reducible rfl)
 try simp only[Act.put,List.getElem_toArray,List.getElem_cons_zero,List.getElem_cons_succ,List.setIfInBounds_toArray,List.set_cons_zero,List.set_cons_succ]
 refine wpAnyX_ready (rs:=[7]) (by kernel_rfl) (by simp) (AllReadyX.one rfl (fun K hK=>?_))
 go_simp
 go_at_call 74
 (with_reducible refine(HN0.out _).mono ?_)
 rintro e wl ⟨rfl,hul⟩
 refine hK.out _ _ (fun _=>hHeld.trans hul) ?_
 replace hHeld:=hHeld.trans hul
 clear hul hK K
 try simp only[Act.put,List.getElem_toArray,List.getElem_cons_zero,List.getElem_cons_succ,List.setIfInBounds_toArray,List.set_cons_zero,List.set_cons_succ]
 refine wpAnyX_take (i:=8) (v:=?_) rfl (by kernel_rfl) (fun _ _ _ h=>h) hHeld (Or.inl ⟨by kernel_rfl,?_⟩) ?_
 rotate_left
 ·(intro w hSw;have q:=HC2.out;go_simp<;>with_reducible rfl)
 try simp only[Act.put,List.getElem_toArray,List.getElem_cons_zero,List.getElem_cons_succ,List.setIfInBounds_toArray,List.set_cons_zero,List.set_cons_succ]
 refine wpAnyX_take (i:=9) (v:=?_) rfl (by kernel_rfl) (fun _ _ _ h=>h) hHeld (Or.inl ⟨by kernel_rfl,?_⟩) ?_
 rotate_left
 ·(intro w hSw;go_simp<;>with_reducible rfl)
 try simp only[Act.put,List.getElem_toArray,List.getElem_cons_zero,List.getElem_cons_succ,List.setIfInBounds_toArray,List.set_cons_zero,List.set_cons_succ]
 refine wpAnyX_take (i:=10) (v:=?_) rfl (by kernel_rfl) (fun _ _ _ h=>h) hHeld (Or.inl ⟨by kernel_rfl,?_⟩) ?_
 rotate_left
 ·(intro w hSw;go_simp<;>with_reducible rfl)
 try simp only[Act.put,List.getElem_toArray,List.getElem_cons_zero,List.getElem_cons_succ,List.setIfInBounds_toArray,List.set_cons_zero,List.set_cons_succ]
 cases c2 with
 | false=>
  refine wpAnyX_take (i:=11) (v:=undef) rfl (by kernel_rfl) (fun _ _ _ h=>h) hHeld (Or.inr ⟨by kernel_rfl,rfl⟩) ?_
  try simp only[Act.put,List.getElem_toArray,List.getElem_cons_zero,List.getElem_cons_succ,List.setIfInBounds_toArray,List.set_cons_zero,List.set_cons_succ]
  refine wpAnyX_ready (rs:=[12]) (by kernel_rfl) (by simp) (AllReadyX.one rfl (fun K hK=>?_))
  go_simp
  refine hK.out _ _ (fun _=>hHeld) ?_
  clear hK K
  try simp only[Act.put,List.getElem_toArray,List.getElem_cons_zero,List.getElem_cons_succ,List.setIfInBounds_toArray,List.set_cons_zero,List.set_cons_succ]
  refine wpAnyX_take (i:=13) (v:=undef) rfl (by kernel_rfl) (fun _ _ _ h=>h) hHeld (Or.inr ⟨by kernel_rfl,rfl⟩) ?_
  try simp only[Act.put,List.getElem_toArray,List.getElem_cons_zero,List.getElem_cons_succ,List.setIfInBounds_toArray,List.set_cons_zero,List.set_cons_succ]
  refine wpAnyX_take (i:=14) (v:=?_) rfl (by kernel_rfl) (fun _ _ _ h=>h) hHeld (Or.inl ⟨by kernel_rfl,?_⟩) ?_
  rotate_left
  ·(intro w hSw;go_simp<;>with_reducible rfl)
  try simp only[Act.put,List.getElem_toArray,List.getElem_cons_zero,List.getElem_cons_succ,List.setIfInBounds_toArray,List.set_cons_zero,List.set_cons_succ]
  refine wpAnyX_take (i:=15) (v:=?_) rfl (by kernel_rfl) (fun _ _ _ h=>h) hHeld (Or.inl ⟨by kernel_rfl,?_⟩) ?_
  rotate_left
  ·(intro w hSw;go_simp<;>with_reducible rfl)
  try simp only[Act.put,List.getElem_toArray,List.getElem_cons_zero,List.getElem_cons_succ,List.setIfInBounds_toArray,List.set_cons_zero,List.set_cons_succ]
  refine wpAnyX_take (i:=16) (v:=undef) rfl (by kernel_rfl) (fun _ _ _ h=>h) hHeld (Or.inr ⟨by kernel_rfl,rfl⟩) ?_
  try simp only[Act.put,List.getElem_toArray,List.getElem_cons_zero,List.getElem_cons_succ,List.setIfInBounds_toArray,List.set_cons_zero,List.set_cons_succ]
  refine wpAnyX_ready (rs:=[17]) (by kernel_rfl) (by simp) (AllReadyX.one rfl (fun K hK=>?_))
  go_simp
  refine hK.out _ _ (fun _=>hHeld) ?_
  clear hK K
  try simp only[Act.put,List.getElem_toArray,List.getElem_cons_zero,List.getElem_cons_succ,List.setIfInBounds_toArray,List.set_cons_zero,List.set_cons_succ]
  refine wpAnyX_take (i:=18) (v:=undef) rfl (by kernel_rfl) (fun _ _ _ h=>h) hHeld (Or.inr ⟨by kernel_rfl,rfl⟩) ?_
  try simp only[Act.put,List.getElem_toArray,List.getElem_cons_zero,List.getElem_cons_succ,List.setIfInBounds_toArray,List.set_cons_zero,List.set_cons_succ]
  refine wpAnyX_take (i:=19) (v:=?_) rfl (by kernel_rfl) (fun _ _ _ h=>h) hHeld (Or.inl ⟨by kernel_rfl,?_⟩) ?_
  rotate_left
  ·(intro w hSw;go_simp<;>with_reducible rfl)
  try simp only[Act.put,List.getElem_toArray,List.getElem_cons_zero,List.getElem_cons_succ,List.setIfInBounds_toArray,List.set_cons_zero,List.set_cons_succ]
  refine wpAnyX_take (i:=20) (v:=?_) rfl (by kernel_rfl) (fun _ _ _ h=>h) hHeld (Or.inl ⟨by kernel_rfl,?_⟩) ?_
  rotate_left
  ·(intro w hSw;go_simp<;>with_reducible rfl)
  try simp only[Act.put,List.getElem_toArray,List.getElem_cons_zero,List.getElem_cons_succ,List.setIfInBounds_toArray,List.set_cons_zero,List.set_cons_succ]
  refine wpAnyX_take (i:=21) (v:=undef) rfl (by kernel_rfl) (fun _ _ _ h=>h) hHeld (Or.inr ⟨by kernel_rfl,rfl⟩) ?_
  try simp only[Act.put,List.getElem_toArray,List.getElem_cons_zero,List.getElem_cons_succ,List.setIfInBounds_toArray,List.set_cons_zero,List.set_cons_succ]
  refine wpAnyX_take (i:=22) (v:=undef) rfl (by kernel_rfl) (fun _ _ _ h=>h) hHeld (Or.inr ⟨by kernel_rfl,rfl⟩) ?_
  try simp only[Act.put,List.getElem_toArray,List.getElem_cons_zero,List.getElem_cons_succ,List.setIfInBounds_toArray,List.set_cons_zero,List.set_cons_succ]
  refine wpAnyX_take (i:=23) (v:=?_) rfl (by kernel_rfl) (fun _ _ _ h=>h) hHeld (Or.inl ⟨by kernel_rfl,?_⟩) ?_
  rotate_left
  ·(intro w hSw;go_simp<;>with_reducible rfl)
  try simp only[Act.put,List.getElem_toArray,List.getElem_cons_zero,List.getElem_cons_succ,List.setIfInBounds_toArray,List.set_cons_zero,List.set_cons_succ]
  refine wpAnyX_take (i:=24) (v:=?_) rfl (by kernel_rfl) (fun _ _ _ h=>h) hHeld (Or.inl ⟨by kernel_rfl,?_⟩) ?_
  rotate_left
  ·(intro w hSw;go_simp<;>with_reducible rfl)
  try simp only[Act.put,List.getElem_toArray,List.getElem_cons_zero,List.getElem_cons_succ,List.setIfInBounds_toArray,List.set_cons_zero,List.set_cons_succ]
  refine wpAnyX_take (i:=25) (v:=undef) rfl (by kernel_rfl) (fun _ _ _ h=>h) hHeld (Or.inr ⟨by kernel_rfl,rfl⟩) ?_
  try simp only[Act.put,List.getElem_toArray,List.getElem_cons_zero,List.getElem_cons_succ,List.setIfInBounds_toArray,List.set_cons_zero,List.set_cons_succ]
  refine wpAnyX_take (i:=26) (v:=undef) rfl (by kernel_rfl) (fun _ _ _ h=>h) hHeld (Or.inr ⟨by kernel_rfl,rfl⟩) ?_
  try simp only[Act.put,List.getElem_toArray,List.getElem_cons_zero,List.getElem_cons_succ,List.setIfInBounds_toArray,List.set_cons_zero,List.set_cons_succ]
  refine wpAnyX_take (i:=27) (v:=?_) rfl (by kernel_rfl) (fun _ _ _ h=>h) hHeld (Or.inl ⟨by kernel_rfl,?_⟩) ?_
  rotate_left
  ·(intro w hSw;go_simp<;>with_reducible rfl)
  try simp only[Act.put,List.getElem_toArray,List.getElem_cons_zero,List.getElem_cons_succ,List.setIfInBounds_toArray,List.set_cons_zero,List.set_cons_succ]
  refine wpAnyX_take (i:=28) (v:=?_) rfl (by kernel_rfl) (fun _ _ _ h=>h) hHeld (Or.inl ⟨by kernel_rfl,?_⟩) ?_
  rotate_left
  ·(intro w hSw;go_simp<;>with_reducible rfl)
  try simp only[Act.put,List.getElem_toArray,List.getElem_cons_zero,List.getElem_cons_succ,List.setIfInBounds_toArray,List.set_cons_zero,List.set_cons_succ]
  refine wpAnyX_take (i:=29) (v:=undef) rfl (by kernel_rfl) (fun _ _ _ h=>h) hHeld (Or.inr ⟨by kernel_rfl,rfl⟩) ?_
  try simp only[Act.put,List.getElem_toArray,List.getElem_cons_zero,List.getElem_cons_succ,List.setIfInBounds_toArray,List.set_cons_zero,List.set_cons_succ]
  refine wpAnyX_take (i:=31) (v:=undef) rfl (by kernel_rfl) (fun _ _ _ h=>h) hHeld (Or.inr ⟨by kernel_rfl,rfl⟩) ?_
  try simp only[Act.put,List.getElem_toArray,List.getElem_cons_zero,List.getElem_cons_succ,List.setIfInBounds_toArray,List.set_cons_zero,List.set_cons_succ]
  refine wpAnyX_ready (rs:=[30]) (by kernel_rfl) (by simp) (AllReadyX.one rfl (fun K hK=>?_))
  go_simp
  refine hK.out _ _ (fun _=>hHeld) ?_
  clear hK K
  try simp only[Act.put,List.getElem_toArray,List.getElem_cons_zero,List.getElem_cons_succ,List.setIfInBounds_toArray,List.set_cons_zero,List.set_cons_succ]
  refine wpAnyX_take (i:=32) (v:=undef) rfl (by kernel_rfl) (fun _ _ _ h=>h) hHeld (Or.inr ⟨by kernel_rfl,rfl⟩) ?_
  try simp only[Act.put,List.getElem_toArray,List.getElem_cons_zero,List.getElem_cons_succ,List.setIfInBounds_toArray,List.set_cons_zero,List.set_cons_succ]
  refine wpAnyX_take (i:=33) (v:=?_) rfl (by kernel_rfl) (fun _ _ _ h=>h) hHeld (Or.inl ⟨by kernel_rfl,?_⟩) ?_
  rotate_left
  ·(intro w hSw;go_simp<;>with_reducible rfl)
  try simp only[Act.put,List.getElem_toArray,List.getElem_cons_zero,List.getElem_cons_succ,List.setIfInBounds_toArray,List.set_cons_zero,List.set_cons_succ]
  refine wpAnyX_take (i:=34) (v:=?_) rfl (by kernel_rfl) (fun _ _ _ h=>h) hHeld (Or.inl ⟨by kernel_rfl,?_⟩) ?_
  rotate_left
  ·(intro w hSw;go_simp<;>with_reducible rfl)
  try simp only[Act.put,List.getElem_toArray,List.getElem_cons_zero,List.getElem_cons_succ,List.setIfInBounds_toArray,List.set_cons_zero,List.set_cons_succ]
  refine wpAnyX_take (i:=35) (v:=undef) rfl (by kernel_rfl) (fun _ _ _ h=>h) hHeld (Or.inr ⟨by kernel_rfl,rfl⟩) ?_
  try simp only[Act.put,List.getElem_toArray,List.getElem_cons_zero,List.getElem_cons_succ,List.setIfInBounds_toArray,List.set_cons_zero,List.set_cons_succ]
  refine wpAnyX_take (i:=36) (v:=undef) rfl (by kernel_rfl) (fun _ _ _ h=>h) hHeld (Or.inr ⟨by kernel_rfl,rfl⟩) ?_
  try simp only[Act.put,List.getElem_toArray,List.getElem_cons_zero,List.getElem_cons_succ,List.setIfInBounds_toArray,List.set_cons_zero,List.set_cons_succ]
  refine wpAnyX_take (i:=37) (v:=undef) rfl (by kernel_rfl) (fun _ _ _ h=>h) hHeld (Or.inr ⟨by kernel_rfl,rfl⟩) ?_
  try simp only[Act.put,List.getElem_toArray,List.getElem_cons_zero,List.getElem_cons_succ,List.setIfInBounds_toArray,List.set_cons_zero,List.set_cons_succ]
  refine wpAnyX_take (i:=38) (v:=undef) rfl (by kernel_rfl) (fun _ _ _ h=>h) hHeld (Or.inr ⟨by kernel_rfl,rfl⟩) ?_
  try simp only[Act.put,List.getElem_toArray,List.getElem_cons_zero,List.getElem_cons_succ,List.setIfInBounds_toArray,List.set_cons_zero,List.set_cons_succ]
  refine wpAnyX_take (i:=39) (v:=undef) rfl (by kernel_rfl) (fun _ _ _ h=>h) hHeld (Or.inr ⟨by kernel_rfl,rfl⟩) ?_
  try simp only[Act.put,List.getElem_toArray,List.getElem_cons_zero,List.getElem_cons_succ,List.setIfInBounds_toArray,List.set_cons_zero,List.set_cons_succ]
  refine wpAnyX_take (i:=40) (v:=?_) rfl (by kernel_rfl) (fun _ _ _ h=>h) hHeld (Or.inl ⟨by kernel_rfl,?_⟩) ?_
  rotate_left
  ·(intro w hSw;go_simp<;>with_reducible rfl)
  try simp only[Act.put,List.getElem_toArray,List.getElem_cons_zero,List.getElem_cons_succ,List.setIfInBounds_toArray,List.set_cons_zero,List.set_cons_succ]
  refine wpAnyX_take (i:=41) (v:=?_) rfl (by kernel_rfl) (fun _ _ _ h=>h) hHeld (Or.inl ⟨by kernel_rfl,?_⟩) ?_
  rotate_left
  ·(intro w hSw;go_simp<;>with_reducible rfl)
  try simp only[Act.put,List.getElem_toArray,List.getElem_cons_zero,List.getElem_cons_succ,List.setIfInBounds_toArray,List.set_cons_zero,List.set_cons_succ]
  refine wpAnyX_done (by kernel_rfl) ?_ _
  have HU2:=Lib.hid (HU1.out.trans hHeld)
  clear hHeld
  go_wp2_with fail
  go_ret
  exact⟨by rw[HRES.out];first | rfl | simp,HU2.out⟩
 | true=>
 refine wpAnyX_take (i:=11) (v:=?_) rfl (by kernel_rfl) (fun _ _ _ h=>h) hHeld (Or.inl ⟨by kernel_rfl,?_⟩) ?_
 rotate_left
 ·(intro w hSw;go_simp<;>with_reducible rfl)
 try simp only[Act.put,List.getElem_toArray,List.getElem_cons_zero,List.getElem_cons_succ,List.setIfInBounds_toArray,List.set_cons_zero,List.set_cons_succ]
 refine wpAnyX_ready (rs:=[12]) (by kernel_rfl) (by simp) (AllReadyX.one rfl (fun K hK=>?_))
 go_simp
 go_at_call 74
 (with_reducible refine(HN8.out _).mono ?_)
 rintro e wl ⟨rfl,hul⟩
 refine hK.out _ _ (fun _=>hHeld.trans hul) ?_
 replace hHeld:=hHeld.trans hul
 clear hul hK K
 try simp only[Act.put,List.getElem_toArray,List.getElem_cons_zero,List.getElem_cons_succ,List.setIfInBounds_toArray,List.set_cons_zero,List.set_cons_succ]
 refine wpAnyX_take (i:=13) (v:=?_) rfl (by kernel_rfl) (fun _ _ _ h=>h) hHeld (Or.inl ⟨by kernel_rfl,?_⟩) ?_
 rotate_left
 ·(intro w hSw;have q:=HC3.out;go_simp<;>with_reducible rfl)
 try simp only[Act.put,List.getElem_toArray,List.getElem_cons_zero,List.getElem_cons_succ,List.setIfInBounds_toArray,List.set_cons_zero,List.set_cons_succ]
 refine wpAnyX_take (i:=14) (v:=?_) rfl (by kernel_rfl) (fun _ _ _ h=>h) hHeld (Or.inl ⟨by kernel_rfl,?_⟩) ?_
 rotate_left
 ·(intro w hSw;go_simp<;>with_reducible rfl)
 try simp only[Act.put,List.getElem_toArray,List.getElem_cons_zero,List.getElem_cons_succ,List.setIfInBounds_toArray,List.set_cons_zero,List.set_cons_succ]
 refine wpAnyX_take (i:=15) (v:=?_) rfl (by kernel_rfl) (fun _ _ _ h=>h) hHeld (Or.inl ⟨by kernel_rfl,?_⟩) ?_
 rotate_left
 ·(intro w hSw;go_simp<;>with_reducible rfl)
 try simp only[Act.put,List.getElem_toArray,List.getElem_cons_zero,List.getElem_cons_succ,List.setIfInBounds_toArray,List.set_cons_zero,List.set_cons_succ]
 cases c3 with
 | false=>
  refine wpAnyX_take (i:=16) (v:=undef) rfl (by kernel_rfl) (fun _ _ _ h=>h) hHeld (Or.inr ⟨by kernel_rfl,rfl⟩) ?_
  try simp only[Act.put,List.getElem_toArray,List.getElem_cons_zero,List.getElem_cons_succ,List.setIfInBounds_toArray,List.set_cons_zero,List.set_cons_succ]
  refine wpAnyX_ready (rs:=[17]) (by kernel_rfl) (by simp) (AllReadyX.one rfl (fun K hK=>?_))
  go_simp
  refine hK.out _ _ (fun _=>hHeld) ?_
  clear hK K
  try simp only[Act.put,List.getElem_toArray,List.getElem_cons_zero,List.getElem_cons_succ,List.setIfInBounds_toArray,List.set_cons_zero,List.set_cons_succ]
  refine wpAnyX_take (i:=18) (v:=undef) rfl (by kernel_rfl) (fun _ _ _ h=>h) hHeld (Or.inr ⟨by kernel_rfl,rfl⟩) ?_
  try simp only[Act.put,List.getElem_toArray,List.getElem_cons_zero,List.getElem_cons_succ,List.setIfInBounds_toArray,List.set_cons_zero,List.set_cons_succ]
  refine wpAnyX_take (i:=19) (v:=?_) rfl (by kernel_rfl) (fun _ _ _ h=>h) hHeld (Or.inl ⟨by kernel_rfl,?_⟩) ?_
  rotate_left
  ·(intro w hSw;go_simp<;>with_reducible rfl)
  try simp only[Act.put,List.getElem_toArray,List.getElem_cons_zero,List.getElem_cons_succ,List.setIfInBounds_toArray,List.set_cons_zero,List.set_cons_succ]
  refine wpAnyX_take (i:=20) (v:=?_) rfl (by kernel_rfl) (fun _ _ _ h=>h) hHeld (Or.inl ⟨by kernel_rfl,?_⟩) ?_
  rotate_left
  ·(intro w hSw;go_simp<;>with_reducible rfl)
  try simp only[Act.put,List.getElem_toArray,List.getElem_cons_zero,List.getElem_cons_succ,List.setIfInBounds_toArray,List.set_cons_zero,List.set_cons_succ]
  refine wpAnyX_take (i:=21) (v:=undef) rfl (by kernel_rfl) (fun _ _ _ h=>h) hHeld (Or.inr ⟨by kernel_rfl,rfl⟩) ?_
  try simp only[Act.put,List.getElem_toArray,List.getElem_cons_zero,List.getElem_cons_succ,List.setIfInBounds_toArray,List.set_cons_zero,List.set_cons_succ]
  refine wpAnyX_take (i:=22) (v:=undef) rfl (by kernel_rfl) (fun _ _ _ h=>h) hHeld (Or.inr ⟨by kernel_rfl,rfl⟩) ?_
  try simp only[Act.put,List.getElem_toArray,List.getElem_cons_zero,List.getElem_cons_succ,List.setIfInBounds_toArray,List.set_cons_zero,List.set_cons_succ]
  refine wpAnyX_take (i:=23) (v:=?_) rfl (by kernel_rfl) (fun _ _ _ h=>h) hHeld (Or.inl ⟨by kernel_rfl,?_⟩) ?_
  rotate_left
  ·(intro w hSw;go_simp<;>with_reducible rfl)
  try simp only[Act.put,List.getElem_toArray,List.getElem_cons_zero,List.getElem_cons_succ,List.setIfInBounds_toArray,List.set_cons_zero,List.set_cons_succ]
  refine wpAnyX_take (i:=24) (v:=?_) rfl (by kernel_rfl) (fun _ _ _ h=>h) hHeld (Or.inl ⟨by kernel_rfl,?_⟩) ?_
  rotate_left
  ·(intro w hSw;go_simp<;>with_reducible rfl)
  try simp only[Act.put,List.getElem_toArray,List.getElem_cons_zero,List.getElem_cons_succ,List.setIfInBounds_toArray,List.set_cons_zero,List.set_cons_succ]
  refine wpAnyX_take (i:=25) (v:=undef) rfl (by kernel_rfl) (fun _ _ _ h=>h) hHeld (Or.inr ⟨by kernel_rfl,rfl⟩) ?_
  try simp only[Act.put,List.getElem_toArray,List.getElem_cons_zero,List.getElem_cons_succ,List.setIfInBounds_toArray,List.set_cons_zero,List.set_cons_succ]
  refine wpAnyX_take (i:=26) (v:=undef) rfl (by kernel_rfl) (fun _ _ _ h=>h) hHeld (Or.inr ⟨by kernel_rfl,rfl⟩) ?_
  try simp only[Act.put,List.getElem_toArray,List.getElem_cons_zero,List.getElem_cons_succ,List.setIfInBounds_toArray,List.set_cons_zero,List.set_cons_succ]
  refine wpAnyX_take (i:=27) (v:=?_) rfl (by kernel_rfl) (fun _ _ _ h=>h) hHeld (Or.inl ⟨by kernel_rfl,?_⟩) ?_
  rotate_left
  ·(intro w hSw;go_simp<;>with_reducible rfl)
  try simp only[Act.put,List.getElem_toArray,List.getElem_cons_zero,List.getElem_cons_succ,List.setIfInBounds_toArray,List.set_cons_zero,List.set_cons_succ]
  refine wpAnyX_take (i:=28) (v:=?_) rfl (by kernel_rfl) (fun _ _ _ h=>h) hHeld (Or.inl ⟨by kernel_rfl,?_⟩) ?_
  rotate_left
  ·(intro w hSw;go_simp<;>with_reducible rfl)
  try simp only[Act.put,List.getElem_toArray,List.getElem_cons_zero,List.getElem_cons_succ,List.setIfInBounds_toArray,List.set_cons_zero,List.set_cons_succ]
  refine wpAnyX_take (i:=29) (v:=undef) rfl (by kernel_rfl) (fun _ _ _ h=>h) hHeld (Or.inr ⟨by kernel_rfl,rfl⟩) ?_
  try simp only[Act.put,List.getElem_toArray,List.getElem_cons_zero,List.getElem_cons_succ,List.setIfInBounds_toArray,List.set_cons_zero,List.set_cons_succ]
  refine wpAnyX_take (i:=31) (v:=undef) rfl (by kernel_rfl) (fun _ _ _ h=>h) hHeld (Or.inr ⟨by kernel_rfl,rfl⟩) ?_
  try simp only[Act.put,List.getElem_toArray,List.getElem_cons_zero,List.getElem_cons_succ,List.setIfInBounds_toArray,List.set_cons_zero,List.set_cons_succ]
  refine wpAnyX_ready (rs:=[30]) (by kernel_rfl) (by simp) (AllReadyX.one rfl (fun K hK=>?_))
  go_simp
  refine hK.out _ _ (fun _=>hHeld) ?_
  clear hK K
  try simp only[Act.put,List.getElem_toArray,List.getElem_cons_zero,List.getElem_cons_succ,List.setIfInBounds_toArray,List.set_cons_zero,List.set_cons_succ]
  refine wpAnyX_take (i:=32) (v:=undef) rfl (by kernel_rfl) (fun _ _ _ h=>h) hHeld (Or.inr ⟨by kernel_rfl,rfl⟩) ?_
  try simp only[Act.put,List.getElem_toArray,List.getElem_cons_zero,List.getElem_cons_succ,List.setIfInBounds_toArray,List.set_cons_zero,List.set_cons_succ]
  refine wpAnyX_take (i:=33) (v:=?_) rfl (by kernel_rfl) (fun _ _ _ h=>h) hHeld (Or.inl ⟨by kernel_rfl,?_⟩) ?_
  rotate_left
  ·(intro w hSw;go_simp<;>with_reducible rfl)
  try simp only[Act.put,List.getElem_toArray,List.getElem_cons_zero,List.getElem_cons_succ,List.setIfInBounds_toArray,List.set_cons_zero,List.set_cons_succ]
  refine wpAnyX_take (i:=34) (v:=?_) rfl (by kernel_rfl) (fun _ _ _ h=>h) hHeld (Or.inl ⟨by kernel_rfl,?_⟩) ?_
  rotate_left
  ·(intro w hSw;go_simp<;>with_reducible rfl)
  try simp only[Act.put,List.getElem_toArray,List.getElem_cons_zero,List.getElem_cons_succ,List.setIfInBounds_toArray,List.set_cons_zero,List.set_cons_succ]
  refine wpAnyX_take (i:=35) (v:=undef) rfl (by kernel_rfl) (fun _ _ _ h=>h) hHeld (Or.inr ⟨by kernel_rfl,rfl⟩) ?_
  try simp only[Act.put,List.getElem_toArray,List.getElem_cons_zero,List.getElem_cons_succ,List.setIfInBounds_toArray,List.set_cons_zero,List.set_cons_succ]
  refine wpAnyX_take (i:=36) (v:=undef) rfl (by kernel_rfl) (fun _ _ _ h=>h) hHeld (Or.inr ⟨by kernel_rfl,rfl⟩) ?_
  try simp only[Act.put,List.getElem_toArray,List.getElem_cons_zero,List.getElem_cons_succ,List.setIfInBounds_toArray,List.set_cons_zero,List.set_cons_succ]
  refine wpAnyX_take (i:=37) (v:=undef) rfl (by kernel_rfl) (fun _ _ _ h=>h) hHeld (Or.inr ⟨by kernel_rfl,rfl⟩) ?_
  try simp only[Act.put,List.getElem_toArray,List.getElem_cons_zero,List.getElem_cons_succ,List.setIfInBounds_toArray,List.set_cons_zero,List.set_cons_succ]
  refine wpAnyX_take (i:=38) (v:=undef) rfl (by kernel_rfl) (fun _ _ _ h=>h) hHeld (Or.inr ⟨by kernel_rfl,rfl⟩) ?_
  try simp only[Act.put,List.getElem_toArray,List.getElem_cons_zero,List.getElem_cons_succ,List.setIfInBounds_toArray,List.set_cons_zero,List.set_cons_succ]
  refine wpAnyX_take (i:=39) (v:=undef) rfl (by kernel_rfl) (fun _ _ _ h=>h) hHeld (Or.inr ⟨by kernel_rfl,rfl⟩) ?_
  try simp only[Act.put,List.getElem_toArray,List.getElem_cons_zero,List.getElem_cons_succ,List.setIfInBounds_toArray,List.set_cons_zero,List.set_cons_succ]
  refine wpAnyX_take (i:=40) (v:=?_) rfl (by kernel_rfl) (fun _ _ _ h=>h) hHeld (Or.inl ⟨by kernel_rfl,?_⟩) ?_
  rotate_left
  ·(intro w hSw;go_simp<;>with_reducible rfl)
  try simp only[Act.put,List.getElem_toArray,List.getElem_cons_zero,List.getElem_cons_succ,List.setIfInBounds_toArray,List.set_cons_zero,List.set_cons_succ]
  refine wpAnyX_take (i:=41) (v:=?_) rfl (by kernel_rfl) (fun _ _ _ h=>h) hHeld (Or.inl ⟨by kernel_rfl,?_⟩) ?_
  rotate_left
  ·(intro w hSw;go_simp<;>with_reducible rfl)
  try simp only[Act.put,List.getElem_toArray,List.getElem_cons_zero,List.getElem_cons_succ,List.setIfInBounds_toArray,List.set_cons_zero,List.set_cons_succ]
  refine wpAnyX_done (by kernel_rfl) ?_ _
  have HU2:=Lib.hid (HU1.out.trans hHeld)
  clear hHeld
  go_wp2_with fail
  go_ret
  exact⟨by rw[HRES.out];first | rfl | simp,HU2.out⟩
 | true=>
 refine wpAnyX_take (i:=16) (v:=?_) rfl (by kernel_rfl) (fun _ _ _ h=>h) hHeld (Or.inl ⟨by kernel_rfl,?_⟩) ?_
 rotate_left
 ·(intro w hSw;go_simp<;>with_reducible rfl)
 try simp only[Act.put,List.getElem_toArray,List.getElem_cons_zero,List.getElem_cons_succ,List.setIfInBounds_toArray,List.set_cons_zero,List.set_cons_succ]
 refine wpAnyX_ready (rs:=[17]) (by kernel_rfl) (by simp) (AllReadyX.one rfl (fun K hK=>?_))
 go_simp
 go_at_call 74
 (with_reducible refine(HN8.out _).mono ?_)
 rintro e wl ⟨rfl,hul⟩
 refine hK.out _ _ (fun _=>hHeld.trans hul) ?_
 replace hHeld:=hHeld.trans hul
 clear hul hK K
 try simp only[Act.put,List.getElem_toArray,List.getElem_cons_zero,List.getElem_cons_succ,List.setIfInBounds_toArray,List.set_cons_zero,List.set_cons_succ]
 refine wpAnyX_take (i:=18) (v:=?_) rfl (by kernel_rfl) (fun _ _ _ h=>h) hHeld (Or.inl ⟨by kernel_rfl,?_⟩) ?_
 rotate_left
 ·(intro w hSw;have q:=HC4.out;go_simp<;>with_reducible rfl)
 try simp only[Act.put,List.getElem_toArray,List.getElem_cons_zero,List.getElem_cons_succ,List.setIfInBounds_toArray,List.set_cons_zero,List.set_cons_succ]
 refine wpAnyX_take (i:=19) (v:=?_) rfl (by kernel_rfl) (fun _ _ _ h=>h) hHeld (Or.inl ⟨by kernel_rfl,?_⟩) ?_
 rotate_left
 ·(intro w hSw;go_simp<;>with_reducible rfl)
 try simp only[Act.put,List.getElem_toArray,List.getElem_cons_zero,List.getElem_cons_succ,List.setIfInBounds_toArray,List.set_cons_zero,List.set_cons_succ]
 refine wpAnyX_take (i:=20) (v:=?_) rfl (by kernel_rfl) (fun _ _ _ h=>h) hHeld (Or.inl ⟨by kernel_rfl,?_⟩) ?_
 rotate_left
 ·(intro w hSw;go_simp<;>with_reducible rfl)
 try simp only[Act.put,List.getElem_toArray,List.getElem_cons_zero,List.getElem_cons_succ,List.setIfInBounds_toArray,List.set_cons_zero,List.set_cons_succ]
 cases c4 with
 | false=>
  refine wpAnyX_take (i:=21) (v:=undef) rfl (by kernel_rfl) (fun _ _ _ h=>h) hHeld (Or.inr ⟨by kernel_rfl,rfl⟩) ?_
  try simp only[Act.put,List.getElem_toArray,List.getElem_cons_zero,List.getElem_cons_succ,List.setIfInBounds_toArray,List.set_cons_zero,List.set_cons_succ]
  refine wpAnyX_take (i:=22) (v:=undef) rfl (by kernel_rfl) (fun _ _ _ h=>h) hHeld (Or.inr ⟨by kernel_rfl,rfl⟩) ?_
  try simp only[Act.put,List.getElem_toArray,List.getElem_cons_zero,List.getElem_cons_succ,List.setIfInBounds_toArray,List.set_cons_zero,List.set_cons_succ]
  refine wpAnyX_take (i:=23) (v:=?_) rfl (by kernel_rfl) (fun _ _ _ h=>h) hHeld (Or.inl ⟨by kernel_rfl,?_⟩) ?_
  rotate_left
  ·(intro w hSw;go_simp<;>with_reducible rfl)
  try simp only[Act.put,List.getElem_toArray,List.getElem_cons_zero,List.getElem_cons_succ,List.setIfInBounds_toArray,List.set_cons_zero,List.set_cons_succ]
  refine wpAnyX_take (i:=24) (v:=?_) rfl (by kernel_rfl) (fun _ _ _ h=>h) hHeld (Or.inl ⟨by kernel_rfl,?_⟩) ?_
  rotate_left
  ·(intro w hSw;go_simp<;>with_reducible rfl)
  try simp only[Act.put,List.getElem_toArray,List.getElem_cons_zero,List.getElem_cons_succ,List.setIfInBounds_toArray,List.set_cons_zero,List.set_cons_succ]
  refine wpAnyX_take (i:=25) (v:=undef) rfl (by kernel_rfl) (fun _ _ _ h=>h) hHeld (Or.inr ⟨by kernel_rfl,rfl⟩) ?_
  try simp only[Act.put,List.getElem_toArray,List.getElem_cons_zero,List.getElem_cons_succ,List.setIfInBounds_toArray,List.set_cons_zero,List.set_cons_succ]
  refine wpAnyX_take (i:=26) (v:=undef) rfl (by kernel_rfl) (fun _ _ _ h=>h) hHeld (Or.inr ⟨by kernel_rfl,rfl⟩) ?_
  try simp only[Act.put,List.getElem_toArray,List.getElem_cons_zero,List.getElem_cons_succ,List.setIfInBounds_toArray,List.set_cons_zero,List.set_cons_succ]
  refine wpAnyX_take (i:=27) (v:=?_) rfl (by kernel_rfl) (fun _ _ _ h=>h) hHeld (Or.inl ⟨by kernel_rfl,?_⟩) ?_
  rotate_left
  ·(intro w hSw;go_simp<;>with_reducible rfl)
  try simp only[Act.put,List.getElem_toArray,List.getElem_cons_zero,List.getElem_cons_succ,List.setIfInBounds_toArray,List.set_cons_zero,List.set_cons_succ]
  refine wpAnyX_take (i:=28) (v:=?_) rfl (by kernel_rfl) (fun _ _ _ h=>h) hHeld (Or.inl ⟨by kernel_rfl,?_⟩) ?_
  rotate_left
  ·(intro w hSw;go_simp<;>with_reducible rfl)
  try simp only[Act.put,List.getElem_toArray,List.getElem_cons_zero,List.getElem_cons_succ,List.setIfInBounds_toArray,List.set_cons_zero,List.set_cons_succ]
  refine wpAnyX_take (i:=29) (v:=undef) rfl (by kernel_rfl) (fun _ _ _ h=>h) hHeld (Or.inr ⟨by kernel_rfl,rfl⟩) ?_
  try simp only[Act.put,List.getElem_toArray,List.getElem_cons_zero,List.getElem_cons_succ,List.setIfInBounds_toArray,List.set_cons_zero,List.set_cons_succ]
  refine wpAnyX_take (i:=31) (v:=undef) rfl (by kernel_rfl) (fun _ _ _ h=>h) hHeld (Or.inr ⟨by kernel_rfl,rfl⟩) ?_
  try simp only[Act.put,List.getElem_toArray,List.getElem_cons_zero,List.getElem_cons_succ,List.setIfInBounds_toArray,List.set_cons_zero,List.set_cons_succ]
  refine wpAnyX_ready (rs:=[30]) (by kernel_rfl) (by simp) (AllReadyX.one rfl (fun K hK=>?_))
  go_simp
  refine hK.out _ _ (fun _=>hHeld) ?_
  clear hK K
  try simp only[Act.put,List.getElem_toArray,List.getElem_cons_zero,List.getElem_cons_succ,List.setIfInBounds_toArray,List.set_cons_zero,List.set_cons_succ]
  refine wpAnyX_take (i:=32) (v:=undef) rfl (by kernel_rfl) (fun _ _ _ h=>h) hHeld (Or.inr ⟨by kernel_rfl,rfl⟩) ?_
  try simp only[Act.put,List.getElem_toArray,List.getElem_cons_zero,List.getElem_cons_succ,List.setIfInBounds_toArray,List.set_cons_zero,List.set_cons_succ]
  refine wpAnyX_take (i:=33) (v:=?_) rfl (by kernel_rfl) (fun _ _ _ h=>h) hHeld (Or.inl ⟨by kernel_rfl,?_⟩) ?_
  rotate_left
  ·(intro w hSw;go_simp<;>with_reducible rfl)
  try simp only[Act.put,List.getElem_toArray,List.getElem_cons_zero,List.getElem_cons_succ,List.setIfInBounds_toArray,List.set_cons_zero,List.set_cons_succ]
  refine wpAnyX_take (i:=34) (v:=?_) rfl (by kernel_rfl) (fun _ _ _ h=>h) hHeld (Or.inl ⟨by kernel_rfl,?_⟩) ?_
  rotate_left
  ·(intro w hSw;go_simp<;>with_reducible rfl)
  try simp only[Act.put,List.getElem_toArray,List.getElem_cons_zero,List.getElem_cons_succ,List.setIfInBounds_toArray,List.set_cons_zero,List.set_cons_succ]
  refine wpAnyX_take (i:=35) (v:=undef) rfl (by kernel_rfl) (fun _ _ _ h=>h) hHeld (Or.inr ⟨by kernel_rfl,rfl⟩) ?_
  try simp only[Act.put,List.getElem_toArray,List.getElem_cons_zero,List.getElem_cons_succ,List.setIfInBounds_toArray,List.set_cons_zero,List.set_cons_succ]
  refine wpAnyX_take (i:=36) (v:=undef) rfl (by kernel_rfl) (fun _ _ _ h=>h) hHeld (Or.inr ⟨by kernel_rfl,rfl⟩) ?_
  try simp only[Act.put,List.getElem_toArray,List.getElem_cons_zero,List.getElem_cons_succ,List.setIfInBounds_toArray,List.set_cons_zero,List.set_cons_succ]
  refine wpAnyX_take (i:=37) (v:=undef) rfl (by kernel_rfl) (fun _ _ _ h=>h) hHeld (Or.inr ⟨by kernel_rfl,rfl⟩) ?_
  try simp only[Act.put,List.getElem_toArray,List.getElem_cons_zero,List.getElem_cons_succ,List.setIfInBounds_toArray,List.set_cons_zero,List.set_cons_succ]
  refine wpAnyX_take (i:=38) (v:=undef) rfl (by kernel_rfl) (fun _ _ _ h=>h) hHeld (Or.inr ⟨by kernel_rfl,rfl⟩) ?_
  try simp only[Act.put,List.getElem_toArray,List.getElem_cons_zero,List.getElem_cons_succ,List.setIfInBounds_toArray,List.set_cons_zero,List.set_cons_succ]
  refine wpAnyX_take (i:=39) (v:=undef) rfl (by kernel_rfl) (fun _ _ _ h=>h) hHeld (Or.inr ⟨by kernel_rfl,rfl⟩) ?_
  try simp only[Act.put,List.getElem_toArray,List.getElem_cons_zero,List.getElem_cons_succ,List.setIfInBounds_toArray,List.set_cons_zero,List.set_cons_succ]
  refine wpAnyX_take (i:=40) (v:=?_) rfl (by kernel_rfl) (fun _ _ _ h=>h) hHeld (Or.inl ⟨by kernel_rfl,?_⟩) ?_
  rotate_left
  ·(intro w hSw;go_simp<;>with_reducible rfl)
  try simp only[Act.put,List.getElem_toArray,List.getElem_cons_zero,List.getElem_cons_succ,List.setIfInBounds_toArray,List.set_cons_zero,List.set_cons_succ]
  refine wpAnyX_take (i:=41) (v:=?_) rfl (by kernel_rfl) (fun _ _ _ h=>h) hHeld (Or.inl ⟨by kernel_rfl,?_⟩) ?_
  rotate_left
  ·(intro w hSw;go_simp<;>with_reducible rfl)
  try simp only[Act.put,List.getElem_toArray,List.getElem_cons_zero,List.getElem_cons_succ,List.setIfInBounds_toArray,List.set_cons_zero,List.set_cons_succ]
  refine wpAnyX_done (by kernel_rfl) ?_ _
  have HU2:=Lib.hid (HU1.out.trans hHeld)
  clear hHeld
  go_wp2_with fail
  go_ret
  exact⟨by rw[HRES.out];first | rfl | simp,HU2.out⟩
 | true=>
 refine wpAnyX_take (i:=21) (v:=?_) rfl (by kernel_rfl) (fun _ _ _ h=>h) hHeld (Or.inl ⟨by kernel_rfl,?_⟩) ?_
 rotate_left
 ·(intro w hSw;go_simp<;>with_reducible rfl)
 try simp only[Act.put,List.getElem_toArray,List.getElem_cons_zero,List.getElem_cons_succ,List.setIfInBounds_toArray,List.set_cons_zero,List.set_cons_succ]
 refine wpAnyX_take (i:=22) (v:=?_) rfl (by kernel_rfl) (fun _ _ _ h=>h) hHeld (Or.inl ⟨by kernel_rfl,?_⟩) ?_
 rotate_left
 ·(intro w hSw;obtain⟨q1,q2⟩:=HC5.out;go_simp<;>with_reducible rfl)
 try simp only[Act.put,List.getElem_toArray,List.getElem_cons_zero,List.getElem_cons_succ,List.setIfInBounds_toArray,List.set_cons_zero,List.set_cons_succ]
 refine wpAnyX_take (i:=23) (v:=?_) rfl (by kernel_rfl) (fun _ _ _ h=>h) hHeld (Or.inl ⟨by kernel_rfl,?_⟩) ?_
 rotate_left
 ·(intro w hSw;go_simp<;>with_reducible rfl)
 try simp only[Act.put,List.getElem_toArray,List.getElem_cons_zero,List.getElem_cons_succ,List.setIfInBounds_toArray,List.set_cons_zero,List.set_cons_succ]
 refine wpAnyX_take (i:=24) (v:=?_) rfl (by kernel_rfl) (fun _ _ _ h=>h) hHeld (Or.inl ⟨by kernel_rfl,?_⟩) ?_
 rotate_left
 ·(intro w hSw;go_simp<;>with_reducible rfl)
 try simp only[Act.put,List.getElem_toArray,List.getElem_cons_zero,List.getElem_cons_succ,List.setIfInBounds_toArray,List.set_cons_zero,List.set_cons_succ]
 cases c5 with
 | false=>
  refine wpAnyX_take (i:=25) (v:=undef) rfl (by kernel_rfl) (fun _ _ _ h=>h) hHeld (Or.inr ⟨by kernel_rfl,rfl⟩) ?_
  try simp only[Act.put,List.getElem_toArray,List.getElem_cons_zero,List.getElem_cons_succ,List.setIfInBounds_toArray,List.set_cons_zero,List.set_cons_succ]
  refine wpAnyX_take (i:=26) (v:=undef) rfl (by kernel_rfl) (fun _ _ _ h=>h) hHeld (Or.inr ⟨by kernel_rfl,rfl⟩) ?_
  try simp only[Act.put,List.getElem_toArray,List.getElem_cons_zero,List.getElem_cons_succ,List.setIfInBounds_toArray,List.set_cons_zero,List.set_cons_succ]
  refine wpAnyX_take (i:=27) (v:=?_) rfl (by kernel_rfl) (fun _ _ _ h=>h) hHeld (Or.inl ⟨by kernel_rfl,?_⟩) ?_
  rotate_left
  ·(intro w hSw;go_simp<;>with_reducible rfl)
  try simp only[Act.put,List.getElem_toArray,List.getElem_cons_zero,List.getElem_cons_succ,List.setIfInBounds_toArray,List.set_cons_zero,List.set_cons_succ]
  refine wpAnyX_take (i:=28) (v:=?_) rfl (by kernel_rfl) (fun _ _ _ h=>h) hHeld (Or.inl ⟨by kernel_rfl,?_⟩) ?_
  rotate_left
  ·(intro w hSw;go_simp<;>with_reducible rfl)
  try simp only[Act.put,List.getElem_toArray,List.getElem_cons_zero,List.getElem_cons_succ,List.setIfInBounds_toArray,List.set_cons_zero,List.set_cons_succ]
  refine wpAnyX_take (i:=29) (v:=undef) rfl (by kernel_rfl) (fun _ _ _ h=>h) hHeld (Or.inr ⟨by kernel_rfl,rfl⟩) ?_
  try simp only[Act.put,List.getElem_toArray,List.getElem_cons_zero,List.getElem_cons_succ,List.setIfInBounds_toArray,List.set_cons_zero,List.set_cons_succ]
  refine wpAnyX_take (i:=31) (v:=undef) rfl (by kernel_rfl) (fun _ _ _ h=>h) hHeld (Or.inr ⟨by kernel_rfl,rfl⟩) ?_
  try simp only[Act.put,List.getElem_toArray,List.getElem_cons_zero,List.getElem_cons_succ,List.setIfInBounds_toArray,List.set_cons_zero,List.set_cons_succ]
  refine wpAnyX_ready (rs:=[30]) (by kernel_rfl) (by simp) (AllReadyX.one rfl (fun K hK=>?_))
  go_simp
  refine hK.out _ _ (fun _=>hHeld) ?_
  clear hK K
  try simp only[Act.put,List.getElem_toArray,List.getElem_cons_zero,List.getElem_cons_succ,List.setIfInBounds_toArray,List.set_cons_zero,List.set_cons_succ]
  refine wpAnyX_take (i:=32) (v:=undef) rfl (by kernel_rfl) (fun _ _ _ h=>h) hHeld (Or.inr ⟨by kernel_rfl,rfl⟩) ?_
  try simp only[Act.put,List.getElem_toArray,List.getElem_cons_zero,List.getElem_cons_succ,List.setIfInBounds_toArray,List.set_cons_zero,List.set_cons_succ]
  refine wpAnyX_take (i:=33) (v:=?_) rfl (by kernel_rfl) (fun _ _ _ h=>h) hHeld (Or.inl ⟨by kernel_rfl,?_⟩) ?_
  rotate_left
  ·(intro w hSw;go_simp<;>with_reducible rfl)
  try simp only[Act.put,List.getElem_toArray,List.getElem_cons_zero,List.getElem_cons_succ,List.setIfInBounds_toArray,List.set_cons_zero,List.set_cons_succ]
  refine wpAnyX_take (i:=34) (v:=?_) rfl (by kernel_rfl) (fun _ _ _ h=>h) hHeld (Or.inl ⟨by kernel_rfl,?_⟩) ?_
  rotate_left
  ·(intro w hSw;go_simp<;>with_reducible rfl)
  try simp only[Act.put,List.getElem_toArray,List.getElem_cons_zero,List.getElem_cons_succ,List.setIfInBounds_toArray,List.set_cons_zero,List.set_cons_succ]
  refine wpAnyX_take (i:=35) (v:=undef) rfl (by kernel_rfl) (fun _ _ _ h=>h) hHeld (Or.inr ⟨by kernel_rfl,rfl⟩) ?_
  try simp only[Act.put,List.getElem_toArray,List.getElem_cons_zero,List.getElem_cons_succ,List.setIfInBounds_toArray,List.set_cons_zero,List.set_cons_succ]
  refine wpAnyX_take (i:=36) (v:=undef) rfl (by kernel_rfl) (fun _ _ _ h=>h) hHeld (Or.inr ⟨by kernel_rfl,rfl⟩) ?_
  try simp only[Act.put,List.getElem_toArray,List.getElem_cons_zero,List.getElem_cons_succ,List.setIfInBounds_toArray,List.set_cons_zero,List.set_cons_succ]
  refine wpAnyX_take (i:=37) (v:=undef) rfl (by kernel_rfl) (fun _ _ _ h=>h) hHeld (Or.inr ⟨by kernel_rfl,rfl⟩) ?_
  try simp only[Act.put,List.getElem_toArray,List.getElem_cons_zero,List.getElem_cons_succ,List.setIfInBounds_toArray,List.set_cons_zero,List.set_cons_succ]
  refine wpAnyX_take (i:=38) (v:=undef) rfl (by kernel_rfl) (fun _ _ _ h=>h) hHeld (Or.inr ⟨by kernel_rfl,rfl⟩) ?_
  try simp only[Act.put,List.getElem_toArray,List.getElem_cons_zero,List.getElem_cons_succ,List.setIfInBounds_toArray,List.set_cons_zero,List.set_cons_succ]
  refine wpAnyX_take (i:=39) (v:=undef) rfl (by kernel_rfl) (fun _ _ _ h=>h) hHeld (Or.inr ⟨by kernel_rfl,rfl⟩) ?_
  try simp only[Act.put,List.getElem_toArray,List.getElem_cons_zero,List.getElem_cons_succ,List.setIfInBounds_toArray,List.set_cons_zero,List.set_cons_succ]
  refine wpAnyX_take (i:=40) (v:=?_) rfl (by kernel_rfl) (fun _ _ _ h=>h) hHeld (Or.inl ⟨by kernel_rfl,?_⟩) ?_
  rotate_left
  ·(intro w hSw;go_simp<;>with_reducible rfl)
  try simp only[Act.put,List.getElem_toArray,List.getElem_cons_zero,List.getElem_cons_succ,List.setIfInBounds_toArray,List.set_cons_zero,List.set_cons_succ]
  refine wpAnyX_take (i:=41) (v:=?_) rfl (by kernel_rfl) (fun _ _ _ h=>h) hHeld (Or.inl ⟨by kernel_rfl,?_⟩) ?_
  rotate_left
  ·(intro w hSw;go_simp<;>with_reducible rfl)
  try simp only[Act.put,List.getElem_toArray,List.getElem_cons_zero,List.getElem_cons_succ,List.setIfInBounds_toArray,List.set_cons_zero,List.set_cons_succ]
  refine wpAnyX_done (by kernel_rfl) ?_ _
  have HU2:=Lib.hid (HU1.out.trans hHeld)
  clear hHeld
  go_wp2_with fail
  go_ret
  exact⟨by rw[HRES.out];first | rfl | simp,HU2.out⟩
 | true=>
 refine wpAnyX_take (i:=25) (v:=?_) rfl (by kernel_rfl) (fun _ _ _ h=>h) hHeld (Or.inl ⟨by kernel_rfl,?_⟩) ?_
 rotate_left
 ·(intro w hSw;go_simp<;>with_reducible rfl)
 try simp only[Act.put,List.getElem_toArray,List.getElem_cons_zero,List.getElem_cons_succ,List.setIfInBounds_toArray,List.set_cons_zero,List.set_cons_succ]
 refine wpAnyX_take (i:=26) (v:=?_) rfl (by kernel_rfl) (fun _ _ _ h=>h) hHeld (Or.inl ⟨by kernel_rfl,?_⟩) ?_
 rotate_left
 ·(intro w hSw;obtain⟨q1,q2⟩:=HC6.out;go_simp<;>with_reducible rfl)
 try simp only[Act.put,List.getElem_toArray,List.getElem_cons_zero,List.getElem_cons_succ,List.setIfInBounds_toArray,List.set_cons_zero,List.set_cons_succ]
 refine wpAnyX_take (i:=27) (v:=?_) rfl (by kernel_rfl) (fun _ _ _ h=>h) hHeld (Or.inl ⟨by kernel_rfl,?_⟩) ?_
 rotate_left
 ·(intro w hSw;go_simp<;>with_reducible rfl)
 try simp only[Act.put,List.getElem_toArray,List.getElem_cons_zero,List.getElem_cons_succ,List.setIfInBounds_toArray,List.set_cons_zero,List.set_cons_succ]
 refine wpAnyX_take (i:=28) (v:=?_) rfl (by kernel_rfl) (fun _ _ _ h=>h) hHeld (Or.inl ⟨by kernel_rfl,?_⟩) ?_
 rotate_left
 ·(intro w hSw;go_simp<;>with_reducible rfl)
 try simp only[Act.put,List.getElem_toArray,List.getElem_cons_zero,List.getElem_cons_succ,List.setIfInBounds_toArray,List.set_cons_zero,List.set_cons_succ]
 cases c6 with
 | false=>
  refine wpAnyX_take (i:=29) (v:=undef) rfl (by kernel_rfl) (fun _ _ _ h=>h) hHeld (Or.inr ⟨by kernel_rfl,rfl⟩) ?_
  try simp only[Act.put,List.getElem_toArray,List.getElem_cons_zero,List.getElem_cons_succ,List.setIfInBounds_toArray,List.set_cons_zero,List.set_cons_succ]
  refine wpAnyX_take (i:=31) (v:=undef) rfl (by kernel_rfl) (fun _ _ _ h=>h) hHeld (Or.inr ⟨by kernel_rfl,rfl⟩) ?_
  try simp only[Act.put,List.getElem_toArray,List.getElem_cons_zero,List.getElem_cons_succ,List.setIfInBounds_toArray,List.set_cons_zero,List.set_cons_succ]
  refine wpAnyX_ready (rs:=[30]) (by kernel_rfl) (by simp) (AllReadyX.one rfl (fun K hK=>?_))
  go_simp
  refine hK.out _ _ (fun _=>hHeld) ?_
  clear hK K
  try simp only[Act.put,List.getElem_toArray,List.getElem_cons_zero,List.getElem_cons_succ,List.setIfInBounds_toArray,List.set_cons_zero,List.set_cons_succ]
  refine wpAnyX_take (i:=32) (v:=undef) rfl (by kernel_rfl) (fun _ _ _ h=>h) hHeld (Or.inr ⟨by kernel_rfl,rfl⟩) ?_
  try simp only[Act.put,List.getElem_toArray,List.getElem_cons_zero,List.getElem_cons_succ,List.setIfInBounds_toArray,List.set_cons_zero,List.set_cons_succ]
  refine wpAnyX_take (i:=33) (v:=?_) rfl (by kernel_rfl) (fun _ _ _ h=>h) hHeld (Or.inl ⟨by kernel_rfl,?_⟩) ?_
  rotate_left
  ·(intro w hSw;go_simp<;>with_reducible rfl)
  try simp only[Act.put,List.getElem_toArray,List.getElem_cons_zero,List.getElem_cons_succ,List.setIfInBounds_toArray,List.set_cons_zero,List.set_cons_succ]
  refine wpAnyX_take (i:=34) (v:=?_) rfl (by kernel_rfl) (fun _ _ _ h=>h) hHeld (Or.inl ⟨by kernel_rfl,?_⟩) ?_
  rotate_left
  ·(intro w hSw;go_simp<;>with_reducible rfl)
  try simp only[Act.put,List.getElem_toArray,List.getElem_cons_zero,List.getElem_cons_succ,List.setIfInBounds_toArray,List.set_cons_zero,List.set_cons_succ]
  refine wpAnyX_take (i:=35) (v:=undef) rfl (by kernel_rfl) (fun _ _ _ h=>h) hHeld (Or.inr ⟨by kernel_rfl,rfl⟩) ?_
  try simp only[Act.put,List.getElem_toArray,List.getElem_cons_zero,List.getElem_cons_succ,List.setIfInBounds_toArray,List.set_cons_zero,List.set_cons_succ]
  refine wpAnyX_take (i:=36) (v:=undef) rfl (by kernel_rfl) (fun _ _ _ h=>h) hHeld (Or.inr ⟨by kernel_rfl,rfl⟩) ?_
  try simp only[Act.put,List.getElem_toArray,List.getElem_cons_zero,List.getElem_cons_succ,List.setIfInBounds_toArray,List.set_cons_zero,List.set_cons_succ]
  refine wpAnyX_take (i:=37) (v:=undef) rfl (by kernel_rfl) (fun _ _ _ h=>h) hHeld (Or.inr ⟨by kernel_rfl,rfl⟩) ?_
  try simp only[Act.put,List.getElem_toArray,List.getElem_cons_zero,List.getElem_cons_succ,List.setIfInBounds_toArray,List.set_cons_zero,List.set_cons_succ]
  refine wpAnyX_take (i:=38) (v:=undef) rfl (by kernel_rfl) (fun _ _ _ h=>h) hHeld (Or.inr ⟨by kernel_rfl,rfl⟩) ?_
  try simp only[Act.put,List.getElem_toArray,List.getElem_cons_zero,List.getElem_cons_succ,List.setIfInBounds_toArray,List.set_cons_zero,List.set_cons_succ]
  refine wpAnyX_take (i:=39) (v:=undef) rfl (by kernel_rfl) (fun _ _ _ h=>h) hHeld (Or.inr ⟨by kernel_rfl,rfl⟩) ?_
  try simp only[Act.put,List.getElem_toArray,List.getElem_cons_zero,List.getElem_cons_succ,List.setIfInBounds_toArray,List.set_cons_zero,List.set_cons_succ]
  refine wpAnyX_take (i:=40) (v:=?_) rfl (by kernel_rfl) (fun _ _ _ h=>h) hHeld (Or.inl ⟨by kernel_rfl,?_⟩) ?_
  rotate_left
  ·(intro w hSw;go_simp<;>with_reducible rfl)
  try simp only[Act.put,List.getElem_toArray,List.getElem_cons_zero,List.getElem_cons_succ,List.setIfInBounds_toArray,List.set_cons_zero,List.set_cons_succ]
  refine wpAnyX_take (i:=41) (v:=?_) rfl (by kernel_rfl) (fun _ _ _ h=>h) hHeld (Or.inl ⟨by kernel_rfl,?_⟩) ?_
  rotate_left
  ·(intro w hSw;go_simp<;>with_reducible rfl)
  try simp only[Act.put,List.getElem_toArray,List.getElem_cons_zero,List.getElem_cons_succ,List.setIfInBounds_toArray,List.set_cons_zero,List.set_cons_succ]
  refine wpAnyX_done (by kernel_rfl) ?_ _
  have HU2:=Lib.hid (HU1.out.trans hHeld)
  clear hHeld
  go_wp2_with fail
  go_ret
  exact⟨by rw[HRES.out];first | rfl | simp,HU2.out⟩
 | true=>
 refine wpAnyX_take (i:=29) (v:=?_) rfl (by kernel_rfl) (fun _ _ _ h=>h) hHeld (Or.inl ⟨by kernel_rfl,?_⟩) ?_
 rotate_left
 ·(intro w hSw;go_simp<;>with_reducible rfl)
 try simp only[Act.put,List.getElem_toArray,List.getElem_cons_zero,List.getElem_cons_succ,List.setIfInBounds_toArray,List.set_cons_zero,List.set_cons_succ]
 refine wpAnyX_take (i:=31) (v:=?_) rfl (by kernel_rfl) (fun _ _ _ h=>h) hHeld (Or.inl ⟨by kernel_rfl,?_⟩) ?_
 rotate_left
 ·(intro w hSw;go_simp<;>with_reducible rfl)
 try simp only[Act.put,List.getElem_toArray,List.getElem_cons_zero,List.getElem_cons_succ,List.setIfInBounds_toArray,List.set_cons_zero,List.set_cons_succ]
 refine wpAnyX_ready (rs:=[30]) (by kernel_rfl) (by simp) (AllReadyX.one rfl (fun K hK=>?_))
 go_simp
 go_at_call 74
 (with_reducible refine(HN16.out _).mono ?_)
 rintro e wl ⟨rfl,hul⟩
 refine hK.out _ _ (fun _=>hHeld.trans hul) ?_
 replace hHeld:=hHeld.trans hul
 clear hul hK K
 try simp only[Act.put,List.getElem_toArray,List.getElem_cons_zero,List.getElem_cons_succ,List.setIfInBounds_toArray,List.set_cons_zero,List.set_cons_succ]
 refine wpAnyX_take (i:=32) (v:=?_) rfl (by kernel_rfl) (fun _ _ _ h=>h) hHeld (Or.inl ⟨by kernel_rfl,?_⟩) ?_
 rotate_left
 ·(intro w hSw;obtain⟨q1,q2⟩:=HC7.out;go_simp<;>with_reducible rfl)
 try simp only[Act.put,List.getElem_toArray,List.getElem_cons_zero,List.getElem_cons_succ,List.setIfInBounds_toArray,List.set_cons_zero,List.set_cons_succ]
 refine wpAnyX_take (i:=33) (v:=?_) rfl (by kernel_rfl) (fun _ _ _ h=>h) hHeld (Or.inl ⟨by kernel_rfl,?_⟩) ?_
 rotate_left
 ·(intro w hSw;go_simp<;>with_reducible rfl)
 try simp only[Act.put,List.getElem_toArray,List.getElem_cons_zero,List.getElem_cons_succ,List.setIfInBounds_toArray,List.set_cons_zero,List.set_cons_succ]
 refine wpAnyX_take (i:=34) (v:=?_) rfl (by kernel_rfl) (fun _ _ _ h=>h) hHeld (Or.inl ⟨by kernel_rfl,?_⟩) ?_
 rotate_left
 ·(intro w hSw;go_simp<;>with_reducible rfl)
 try simp only[Act.put,List.getElem_toArray,List.getElem_cons_zero,List.getElem_cons_succ,List.setIfInBounds_toArray,List.set_cons_zero,List.set_cons_succ]
 cases c7 with
 | false=>
  refine wpAnyX_take (i:=35) (v:=undef) rfl (by kernel_rfl) (fun _ _ _ h=>h) hHeld (Or.inr ⟨by kernel_rfl,rfl⟩) ?_
  try simp only[Act.put,List.getElem_toArray,List.getElem_cons_zero,List.getElem_cons_succ,List.setIfInBounds_toArray,List.set_cons_zero,List.set_cons_succ]
  refine wpAnyX_take (i:=36) (v:=undef) rfl (by kernel_rfl) (fun _ _ _ h=>h) hHeld (Or.inr ⟨by kernel_rfl,rfl⟩) ?_
  try simp only[Act.put,List.getElem_toArray,List.getElem_cons_zero,List.getElem_cons_succ,List.setIfInBounds_toArray,List.set_cons_zero,List.set_cons_succ]
  refine wpAnyX_take (i:=37) (v:=undef) rfl (by kernel_rfl) (fun _ _ _ h=>h) hHeld (Or.inr ⟨by kernel_rfl,rfl⟩) ?_
  try simp only[Act.put,List.getElem_toArray,List.getElem_cons_zero,List.getElem_cons_succ,List.setIfInBounds_toArray,List.set_cons_zero,List.set_cons_succ]
  refine wpAnyX_take (i:=38) (v:=undef) rfl (by kernel_rfl) (fun _ _ _ h=>h) hHeld (Or.inr ⟨by kernel_rfl,rfl⟩) ?_
  try simp only[Act.put,List.getElem_toArray,List.getElem_cons_zero,List.getElem_cons_succ,List.setIfInBounds_toArray,List.set_cons_zero,List.set_cons_succ]
  refine wpAnyX_take (i:=39) (v:=undef) rfl (by kernel_rfl) (fun _ _ _ h=>h) hHeld (Or.inr ⟨by kernel_rfl,rfl⟩) ?_
  try simp only[Act.put,List.getElem_toArray,List.getElem_cons_zero,List.getElem_cons_succ,List.setIfInBounds_toArray,List.set_cons_zero,List.set_cons_succ]
  refine wpAnyX_take (i:=40) (v:=?_) rfl (by kernel_rfl) (fun _ _ _ h=>h) hHeld (Or.inl ⟨by kernel_rfl,?_⟩) ?_
  rotate_left
  ·(intro w hSw;go_simp<;>with_reducible rfl)
  try simp only[Act.put,List.getElem_toArray,List.getElem_cons_zero,List.getElem_cons_succ,List.setIfInBounds_toArray,List.set_cons_zero,List.set_cons_succ]
  refine wpAnyX_take (i:=41) (v:=?_) rfl (by kernel_rfl) (fun _ _ _ h=>h) hHeld (Or.inl ⟨by kernel_rfl,?_⟩) ?_
  rotate_left
  ·(intro w hSw;go_simp<;>with_reducible rfl)
  try simp only[Act.put,List.getElem_toArray,List.getElem_cons_zero,List.getElem_cons_succ,List.setIfInBounds_toArray,List.set_cons_zero,List.set_cons_succ]
  refine wpAnyX_done (by kernel_rfl) ?_ _
  have HU2:=Lib.hid (HU1.out.trans hHeld)
  clear hHeld
  go_wp2_with fail
  go_ret
  exact⟨by rw[HRES.out];first | rfl | simp,HU2.out⟩
 | true=>
 refine wpAnyX_take (i:=35) (v:=?_) rfl (by kernel_rfl) (fun _ _ _ h=>h) hHeld (Or.inl ⟨by kernel_rfl,?_⟩) ?_
 rotate_left
 ·(intro w hSw;go_simp<;>with_reducible rfl)
 try simp only[Act.put,List.getElem_toArray,List.getElem_cons_zero,List.getElem_cons_succ,List.setIfInBounds_toArray,List.set_cons_zero,List.set_cons_succ]
 refine wpAnyX_take (i:=36) (v:=?_) rfl (by kernel_rfl) (fun _ _ _ h=>h) hHeld (Or.inl ⟨by kernel_rfl,?_⟩) ?_
 rotate_left
 ·(intro w hSw;obtain⟨q1,q2⟩:=HW.out;go_simp<;>with_reducible rfl)
 try simp only[Act.put,List.getElem_toArray,List.getElem_cons_zero,List.getElem_cons_succ,List.setIfInBounds_toArray,List.set_cons_zero,List.set_cons_succ]
 refine wpAnyX_take (i:=37) (v:=?_) rfl (by kernel_rfl) (fun _ _ _ h=>h) hHeld (Or.inl ⟨by kernel_rfl,?_⟩) ?_
 rotate_left
 ·(intro w hSw;obtain⟨q1,q2⟩:=HW.out;go_simp<;>with_reducible rfl)
 try simp only[Act.put,List.getElem_toArray,List.getElem_cons_zero,List.getElem_cons_succ,List.setIfInBounds_toArray,List.set_cons_zero,List.set_cons_succ]
 refine wpAnyX_take (i:=38) (v:=?_) rfl (by kernel_rfl) (fun _ _ _ h=>h) hHeld (Or.inl ⟨by kernel_rfl,?_⟩) ?_
 rotate_left
 ·(intro w hSw;go_simp<;>with_reducible rfl)
 try simp only[Act.put,List.getElem_toArray,List.getElem_cons_zero,List.getElem_cons_succ,List.setIfInBounds_toArray,List.set_cons_zero,List.set_cons_succ]
 refine wpAnyX_take (i:=39) (v:=?_) rfl (by kernel_rfl) (fun _ _ _ h=>h) hHeld (Or.inl ⟨by kernel_rfl,?_⟩) ?_
 rotate_left
 ·(intro w hSw;obtain⟨q1,q2⟩:=HC8.out;go_simp<;>with_reducible rfl)
 try simp only[Act.put,List.getElem_toArray,List.getElem_cons_zero,List.getElem_cons_succ,List.setIfInBounds_toArray,List.set_cons_zero,List.set_cons_succ]
 refine wpAnyX_take (i:=40) (v:=?_) rfl (by kernel_rfl) (fun _ _ _ h=>h) hHeld (Or.inl ⟨by kernel_rfl,?_⟩) ?_
 rotate_left
 ·(intro w hSw;go_simp<;>with_reducible rfl)
 try simp only[Act.put,List.getElem_toArray,List.getElem_cons_zero,List.getElem_cons_succ,List.setIfInBounds_toArray,List.set_cons_zero,List.set_cons_succ]
 refine wpAnyX_take (i:=41) (v:=?_) rfl (by kernel_rfl) (fun _ _ _ h=>h) hHeld (Or.inl ⟨by kernel_rfl,?_⟩) ?_
 rotate_left
 ·(intro w hSw;go_simp<;>with_reducible rfl)
 try simp only[Act.put,List.getElem_toArray,List.getElem_cons_zero,List.getElem_cons_succ,List.setIfInBounds_toArray,List.set_cons_zero,List.set_cons_succ]
 refine wpAnyX_done (by kernel_rfl) ?_ _
 have HU2:=Lib.hid (HU1.out.trans hHeld)
 clear hHeld
 go_wp2_with fail
 go_ret
 exact⟨by rw[HRES.out];first | rfl | simp,HU2.out⟩
end
end Go.Proofs.YtplppdbdfhkljaaGreat
end
