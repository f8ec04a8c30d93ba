/-
  The document's home: all that is away is written home, and the next anchor. (Written by tools/put/rdK.py.)
-/
import Derived.Test.YtplppdbdfhkljaaGreatA12
set_option maxRecDepth 100000
set_option maxHeartbeats 16000000
section
set_option linter.unusedSimpArgs false
set_option linter.unusedVariables false
namespace Go.Proofs.YtplppdbdfhkljaaGreat
open Go.RowKit Go.MapKept Go.ChangeMaps
section
attribute [-go_sem] loadCells storeCells Instr.build run_string_add_if
def homeF(J:Jn)(D:Dk):Nat→Dk
 | 0=>D
 | k+1=>match J.away k with
  | some s=>((homeF J D k).write ((2+J.last.ring+k:Nat):Int) s).1
  | none=>homeF J D k
theorem homeF_n(J:Jn)(D:Dk):∀k,(homeF J D k).n=D.n
 | 0=>rfl
 | k+1=>by
  have ih:=homeF_n J D k
  unfold homeF
  cases J.away k with
  | none=>exact ih
  | some s=>rw[Dk.write_n];exact ih
theorem homeF_on{J:Jn}{D:Dk}(h:D.On)(hJ:J.Ok D.n):∀k,(homeF J D k).On
 | 0=>h
 | k+1=>by
  have ih:=homeF_on h hJ k
  unfold homeF
  cases ha:J.away k with
  | none=>exact ih
  | some s=>
   have:=hJ.away k s ha
   exact(ih.written (by rw[homeF_n];omega) this.2).1
theorem homeL_app{J:Jn}:∀(l:List Nat) (D:Dk) (m:List Nat),(homeL J D l).2=0→homeL J D (l++m)=homeL J (homeL J D l).1 m
 | [],D,m,_=>rfl
 | i :: l,D,m,h=>by
  rw[homeL_cons] at h
  rw[List.cons_append,homeL_cons,homeL_cons]
  by_cases e:(D.write ((2+J.last.ring+i:Nat):Int) ((J.away i).getD [])).2≠0
  ·rw[if_pos e] at h;exact absurd h e
  ·rw[if_neg e] at h
   rw[if_neg e,if_neg e]
   exact homeL_app l _ m h
theorem homeL_eq{J:Jn}{D:Dk}(h:D.On)(hJ:J.Ok D.n):∀k,homeL J D ((List.range k).filter fun i=>(J.away i).isSome)=(homeF J D k,0)
 | 0=>rfl
 | k+1=>by
  have ih:=homeL_eq h hJ k
  rw[List.range_succ,List.filter_append,homeL_app _ _ _ (by rw[ih]),ih]
  cases ha:J.away k with
  | none=>
   rw[List.filter_cons_of_neg (by rw[ha];simp),show homeF J D (k+1)=homeF J D k by rw[homeF,ha]]
   rfl
  | some s=>
   have hs:=hJ.away k s ha
   rw[List.filter_cons_of_pos (by rw[ha];rfl)]
   show homeL J (homeF J D k) [k]=_
   rw[homeL_cons,ha]
   have hw:=(homeF_on h hJ k).written (i:=2+J.last.ring+k) (b:=s) (by rw[homeF_n];omega) hs.2
   rw[if_neg (by show ¬(((homeF J D k).write ((2+J.last.ring+k:Nat):Int) s).2≠0);rw[hw.2];decide)]
   show(((homeF J D k).write ((2+J.last.ring+k:Nat):Int) s).1,(0:Int))=(homeF J D (k+1),0)
   rw[show homeF J D (k+1)=((homeF J D k).write ((2+J.last.ring+k:Nat):Int) s).1 by rw[homeF,ha]]
def homeD(J:Jn)(D:Dk):Dk:=(((homeF J D (J.homes D.n)).flush.1.write ((J.last.number+1) % 2) J.next.sector).1).flush.1
theorem anc_len(a:Anc):a.sector.length=512:=by
 rw[anc_bytes]
 unfold ancB
 simp only[List.length_append,be_length,List.length_replicate]
theorem slot_nat(J:Jn)(h:1≤J.last.number):∃i:Nat,(J.last.number+1) % 2=(i:Int)∧i<2:=⟨((J.last.number+1) % 2).toNat,by omega,by omega⟩
theorem settleD_eq{J:Jn}{D:Dk}(h:D.On)(hok:D.Ok)(hJ:J.Ok D.n):J.settleD D=(homeD J D,0)∧(homeF J D (J.homes D.n)).flush.1.On∧((homeF J D (J.homes D.n)).flush.1.write ((J.last.number+1) % 2) J.next.sector).1.On∧((homeF J D (J.homes D.n)).flush.1.write ((J.last.number+1) % 2) J.next.sector).2=0∧(homeD J D).On∧(homeD J D).n=D.n:=by
 have h1:=homeL_eq h hJ (J.homes D.n)
 have h2:=(homeF_on h hJ (J.homes D.n)).flushed
 have hn:(homeF J D (J.homes D.n)).flush.1.n=D.n:=by rw[Dk.flush_n,homeF_n]
 obtain⟨i,hi,hi2⟩:=slot_nat J hJ.num0
 have h3:=h2.1.written (i:=i) (b:=J.next.sector) (by rw[hn];have:=hok.n0;omega) (anc_len _)
 rw[← hi] at h3
 have h4:=h3.1.flushed
 refine⟨?_,h2.1,h3.1,h3.2,h4.1,?_⟩
 ·unfold Jn.settleD Jn.keys
  rw[h1]
  rw[if_neg (show ¬((homeF J D (J.homes D.n),(0:Int)).2≠0) by simp)]
  show(if(homeF J D (J.homes D.n)).flush.2≠0 then _ else _)=_
  rw[if_neg (by rw[h2.2];decide)]
  show(if((homeF J D (J.homes D.n)).flush.1.write ((J.last.number+1) % 2) J.next.sector).2≠0 then _ else _)=_
  rw[if_neg (by rw[h3.2];decide)]
  show((homeF J D (J.homes D.n)).flush.1.write ((J.last.number+1) % 2) J.next.sector).1.flush=_
  unfold homeD
  exact Prod.ext rfl h4.2
 ·unfold homeD
  rw[Dk.flush_n,Dk.write_n,hn]
theorem RjmAt.step{w w':World}{q:QG}{J:Jn}{D D':Dk}(h:RjmAt w q J D)(hd:RdkAt w' q.r D')(hu:Upd q.r.all w w')(hn:D'.n=D.n):RjmAt w' q J D':=by
 have hap:=h.apart
 obtain⟨l,h1,h2⟩:=h.now
 have hh:J.homes D'.n=J.homes D.n:=by rw[hn]
 refine⟨hd,?_,?_,⟨l,h1.upd hu (hap _ (by simp[QG.own])),by rw[hh];exact h2⟩,by rw[hn];exact h.ok,h.ne⟩
 ·rw[hh];exact(hu.block _ (blk_lt h.st) (hap _ (by simp[QG.own]))).trans h.st
 ·rw[hh];exact h.away.upd hu (hap _ (by simp[QG.own]))
theorem RdkAt.on{w:World}{g:RG}{D:Dk}(h:RdkAt w g D):D.On:=⟨h.off,h.armed⟩
def awayF(aw:Nat→Option Sec)(k:Nat):Nat→Option Sec:=fun i=>if i<k then none else aw i
theorem awayB_set{aw:Nat→Option Sec}{h k:Nat}(hk:k<h):(awayB (awayF aw k) h).set k (.bool false)=awayB (awayF aw (k+1)) h:=by
 refine List.ext_getElem? fun i=>?_
 rw[List.getElem?_set]
 by_cases hi:i<h
 ·by_cases e:k=i
  ·subst e
   rw[if_pos rfl,if_pos (by rw[awayB_length];exact hk),awayB_get hi]
   unfold awayF;rw[if_pos (by omega)];rfl
  ·rw[if_neg e,awayB_get hi,awayB_get hi]
   unfold awayF
   by_cases e2:i<k
   ·rw[if_pos e2,if_pos (by omega)]
   ·rw[if_neg e2,if_neg (by omega)]
 ·have e1:(awayB (awayF aw k) h)[i]?=none:=List.getElem?_eq_none (by rw[awayB_length];omega)
  have e2:(awayB (awayF aw (k+1)) h)[i]?=none:=List.getElem?_eq_none (by rw[awayB_length];omega)
  rw[e1,e2]
  split
  ·next e=>rw[if_neg (by rw[awayB_length];omega)]
  ·rfl
set_option maxRecDepth 100000 in
set_option maxHeartbeats 16000000 in
theorem rhome_spec{w:World}{q:QG}{J:Jn}{D:Dk}(h:RjmAt w q J D)(hnum:J.last.number<4611686018427387904) :
  Calls Tryz.prog 76 #[.pointer (some ⟨q.jb,0,none⟩)] w fun e w'=>e=.returned (.int .i64 0)∧RjmAt w' q J.settled (homeD J D)∧Upd q.all w w':=by
 have hJ:=h.ok
 have hDk:=h.disk.ok
 have hset:=settleD_eq h.disk.on hDk hJ
 obtain⟨hm,hhm⟩:∃hm,hm=J.homes D.n:=⟨_,rfl⟩
 have HHM:=Lib.hid hhm
 have HH:=Lib.hid h
 have HSET:=Lib.hid hset
 have HJ:=Lib.hid hJ
 have hhm4:hm≤4096:=by rw[hhm];unfold Jn.homes;have:=hDk.n1;omega
 have HDN:=Lib.hid (And.intro hDk.n0 hDk.n1)
 have HLIM:=Lib.hid hnum
 clear hset hJ hDk
 have HST:Hid (∀k w',k≤hm→RdkAt w' q.r (homeF J D k)→Upd q.r.all w w'→RjmAt w' q J (homeF J D k)):=by
  show ∀k w',_
  intro k w' _ hd hu
  exact HH.out.step hd hu (homeF_n J D k)
 go_enter Tryz.func76,Tryz.ntmps76
 clear h hhm
 go_wp2_with fail
 go_loopw [4,3] (fun i er wr=>∃k:Nat,k≤hm∧i=.int .i64 (k:Int)∧er=.int .i64 0∧RdkAt wr q.r (homeF J D k)∧Upd q.r.all w wr) (fun i _ _=>hm-(intOf i).toNat)
 case atStart=>exact⟨0,Nat.zero_le _,rfl,rfl,HH.out.disk,Upd.refl _ _⟩
 case round=>
  obtain⟨k,hk,rfl,rfl,hd,hu⟩:=hrel
  have HJR:=Lib.hid (HST.out k wr hk hd hu)
  have HD:=Lib.hid hd
  have HU:=Lib.hid hu
  obtain⟨c0,c1,c2,c3,c4,c5,c6,c7,c8,c9,c10⟩:=HJR.out.cells
  rw[homeF_n,← HHM.out] at c5 c6 c7
  clear hd hu
  rcases Nat.lt_or_ge k hm with hlt | hge
  ·have e1:decide ((k:Int)<(hm:Int))=true:=decide_eq_true (by omega)
   have e2:decide (k<hm)=true:=decide_eq_true hlt
   have i0:(0:Int)≤(k:Int):=by omega
   have i1:(k:Int)<(hm:Int):=by omega
   have ka:=HJR.out.away.cell (awayB_get (aw:=J.away) (h:=J.homes (homeF J D k).n) (i:=k) (by rw[homeF_n,← HHM.out];exact hlt))
   obtain⟨nl,hn1,hn2⟩:=HJR.out.now
   cases haw:J.away k with
   | none=>
    rw[haw] at ka
    have HF:Hid (homeF J D (k+1)=homeF J D k):=by show _=_;rw[homeF,haw]
    clear haw hn1 hn2
    go_wp2_with fail
    exact⟨⟨k+1,by omega,by go_num,rfl,by rw[HF.out];exact HD.out,HU.out⟩,by simp[intOf];omega⟩
   | some s=>
    rw[haw] at ka
    have kn:=hn1.cell (hn2.away k s (by rw[homeF_n,← HHM.out];exact hlt) haw)
    have hs:=HJ.out.away k s haw
    obtain⟨A,hA⟩:∃A,A=2+J.last.ring+k:=⟨_,rfl⟩
    have HF:Hid (homeF J D (k+1)=((homeF J D k).write (A:Int) s).1):=by show _=_;rw[homeF,haw,hA]
    have hwr:=(homeF_on HH.out.disk.on HJ.out k).written (i:=A) (b:=s) (by rw[homeF_n,hA];have:=hs.1;omega) hs.2
    have hro:=HJ.out.ring1
    have HW1:Hid (IntKind.i64.wrap (2+(J.last.ring:Int))=((2+J.last.ring:Nat):Int)∧IntKind.i64.wrap (((2+J.last.ring:Nat):Int)+(k:Int))=(A:Int)∧IntKind.i64.wrap (2+(J.last.ring:Int)+(k:Int))=(A:Int)):=by
     show _∧_∧_
     rw[IntKind.wrap_i64,IntKind.wrap_i64,IntKind.wrap_i64,hA]
     refine⟨by omega,by omega,by omega⟩
    obtain⟨R1,hR1⟩:∃R1,R1=2+J.last.ring:=⟨_,rfl⟩
    rw[← hR1] at HW1
    have HWR:Hid (∀w',Upd [] wr w'→Calls Tryz.prog 69 #[.pointer (some ⟨q.r.rb,0,none⟩),.int .i64 (A:Int),.string (str s)] w' fun e w''=>e=.returned (.int .i64 0)∧RdkAt w'' q.r (homeF J D (k+1))∧Upd q.r.all w' w''):=by
     show ∀w',_
     intro w' hu
     have:=rwrite_spec (HD.out.below hu) (A:Int) s
     rw[hwr.2] at this
     rw[HF.out];exact this
    have HCC:Hid (∀w',Upd [] wr w'→w'.cell? ⟨q.jb,0,none⟩=some (.pointer (some ⟨q.r.rb,0,none⟩))∧w'.cell? ⟨q.jb,1,none⟩=some (.int .i64 (J.last.ring:Int))∧w'.cell? ⟨q.jb,7,none⟩=some (.slice (some ⟨q.nb,0,none⟩) hm q.cn)∧w'.cell? ⟨q.nb,k,none⟩=some (.string (str s))):=by
     show ∀w',_
     intro w' hu
     exact⟨cell_updW c0 hu (by simp),cell_updW c1 hu (by simp),cell_updW c7 hu (by simp),cell_updW kn hu (by simp)⟩
    clear haw hn1 hn2 hA hro hR1 hs hwr
    go_wp2_with fail
    refine wp_region_x (fun w'=>Upd [] wr w') [18] (by kernel_rfl) (Upd.refl _ _).drew (fun hHeld=>?_)
    generalize wr.drew=w0 at hHeld ⊢
    refine wpAnyX_take (i:=0) (v:=?_) rfl (by kernel_rfl) (fun _ _ _ h=>h) hHeld (Or.inl ⟨by kernel_rfl,?_⟩) ?_
    rotate_left
    ·(intro w hSw;go_simp<;>with_reducible rfl)
    try simp only[Act.put,List.getElem_toArray,List.getElem_cons_zero,List.getElem_cons_succ,List.setIfInBounds_toArray,List.set_cons_zero,List.set_cons_succ]
    refine wpAnyX_take (i:=1) (v:=?_) rfl (by kernel_rfl) (fun _ _ _ h=>h) hHeld (Or.inl ⟨by kernel_rfl,?_⟩) ?_
    rotate_left
    ·(intro w hSw;go_simp<;>with_reducible rfl)
    try simp only[Act.put,List.getElem_toArray,List.getElem_cons_zero,List.getElem_cons_succ,List.setIfInBounds_toArray,List.set_cons_zero,List.set_cons_succ]
    refine wpAnyX_take (i:=2) (v:=?_) rfl (by kernel_rfl) (fun _ _ _ h=>h) hHeld (Or.inl ⟨by kernel_rfl,?_⟩) ?_
    rotate_left
    ·(intro w hSw;go_simp<;>with_reducible rfl)
    try simp only[Act.put,List.getElem_toArray,List.getElem_cons_zero,List.getElem_cons_succ,List.setIfInBounds_toArray,List.set_cons_zero,List.set_cons_succ]
    refine wpAnyX_take (i:=4) (v:=?_) rfl (by kernel_rfl) (fun _ _ _ h=>h) hHeld (Or.inl ⟨by kernel_rfl,?_⟩) ?_
    rotate_left
    ·(intro w hSw;go_simp<;>with_reducible rfl)
    try simp only[Act.put,List.getElem_toArray,List.getElem_cons_zero,List.getElem_cons_succ,List.setIfInBounds_toArray,List.set_cons_zero,List.set_cons_succ]
    refine wpAnyX_take (i:=5) (v:=?_) rfl (by kernel_rfl) (fun _ _ _ h=>h) hHeld (Or.inl ⟨by kernel_rfl,?_⟩) ?_
    rotate_left
    ·(intro w hSw;go_simp<;>with_reducible rfl)
    try simp only[Act.put,List.getElem_toArray,List.getElem_cons_zero,List.getElem_cons_succ,List.setIfInBounds_toArray,List.set_cons_zero,List.set_cons_succ]
    refine wpAnyX_take (i:=6) (v:=?_) rfl (by kernel_rfl) (fun _ _ _ h=>h) hHeld (Or.inl ⟨by kernel_rfl,?_⟩) ?_
    rotate_left
    ·(intro w hSw;go_simp<;>with_reducible rfl)
    try simp only[Act.put,List.getElem_toArray,List.getElem_cons_zero,List.getElem_cons_succ,List.setIfInBounds_toArray,List.set_cons_zero,List.set_cons_succ]
    refine wpAnyX_take (i:=9) (v:=?_) rfl (by kernel_rfl) (fun _ _ _ h=>h) hHeld (Or.inl ⟨by kernel_rfl,?_⟩) ?_
    rotate_left
    ·(intro w hSw;go_simp<;>with_reducible rfl)
    try simp only[Act.put,List.getElem_toArray,List.getElem_cons_zero,List.getElem_cons_succ,List.setIfInBounds_toArray,List.set_cons_zero,List.set_cons_succ]
    refine wpAnyX_take (i:=11) (v:=?_) rfl (by kernel_rfl) (fun _ _ _ h=>h) hHeld (Or.inl ⟨by kernel_rfl,?_⟩) ?_
    rotate_left
    ·(intro w hSw;go_simp<;>with_reducible rfl)
    try simp only[Act.put,List.getElem_toArray,List.getElem_cons_zero,List.getElem_cons_succ,List.setIfInBounds_toArray,List.set_cons_zero,List.set_cons_succ]
    refine wpAnyX_take (i:=12) (v:=?_) rfl (by kernel_rfl) (fun _ _ _ h=>h) hHeld (Or.inl ⟨by kernel_rfl,?_⟩) ?_
    rotate_left
    ·(intro w hSw;go_simp<;>with_reducible rfl)
    try simp only[Act.put,List.getElem_toArray,List.getElem_cons_zero,List.getElem_cons_succ,List.setIfInBounds_toArray,List.set_cons_zero,List.set_cons_succ]
    refine wpAnyX_take (i:=13) (v:=?_) rfl (by kernel_rfl) (fun _ _ _ h=>h) hHeld (Or.inl ⟨by kernel_rfl,?_⟩) ?_
    rotate_left
    ·(intro w hSw;go_simp<;>with_reducible rfl)
    try simp only[Act.put,List.getElem_toArray,List.getElem_cons_zero,List.getElem_cons_succ,List.setIfInBounds_toArray,List.set_cons_zero,List.set_cons_succ]
    refine wpAnyX_take (i:=15) (v:=?_) rfl (by kernel_rfl) (fun _ _ _ h=>h) hHeld (Or.inl ⟨by kernel_rfl,?_⟩) ?_
    rotate_left
    ·(intro w hSw;go_simp<;>with_reducible rfl)
    try simp only[Act.put,List.getElem_toArray,List.getElem_cons_zero,List.getElem_cons_succ,List.setIfInBounds_toArray,List.set_cons_zero,List.set_cons_succ]
    refine wpAnyX_take (i:=3) (v:=?_) rfl (by kernel_rfl) (fun _ _ _ h=>h) hHeld (Or.inl ⟨by kernel_rfl,?_⟩) ?_
    rotate_left
    ·(intro w hSw;obtain⟨x0,x1,x7,xn⟩:=HCC.out _ hSw;go_simp<;>with_reducible rfl)
    try simp only[Act.put,List.getElem_toArray,List.getElem_cons_zero,List.getElem_cons_succ,List.setIfInBounds_toArray,List.set_cons_zero,List.set_cons_succ]
    refine wpAnyX_take (i:=7) (v:=?_) rfl (by kernel_rfl) (fun _ _ _ h=>h) hHeld (Or.inl ⟨by kernel_rfl,?_⟩) ?_
    rotate_left
    ·(intro w hSw;obtain⟨x0,x1,x7,xn⟩:=HCC.out _ hSw;go_simp<;>with_reducible rfl)
    try simp only[Act.put,List.getElem_toArray,List.getElem_cons_zero,List.getElem_cons_succ,List.setIfInBounds_toArray,List.set_cons_zero,List.set_cons_succ]
    refine wpAnyX_take (i:=14) (v:=?_) rfl (by kernel_rfl) (fun _ _ _ h=>h) hHeld (Or.inl ⟨by kernel_rfl,?_⟩) ?_
    rotate_left
    ·(intro w hSw;obtain⟨x0,x1,x7,xn⟩:=HCC.out _ hSw;go_simp<;>with_reducible rfl)
    try simp only[Act.put,List.getElem_toArray,List.getElem_cons_zero,List.getElem_cons_succ,List.setIfInBounds_toArray,List.set_cons_zero,List.set_cons_succ]
    refine wpAnyX_take (i:=8) (v:=?_) rfl (by kernel_rfl) (fun _ _ _ h=>h) hHeld (Or.inl ⟨by kernel_rfl,?_⟩) ?_
    rotate_left
    ·(intro w hSw;have wq:=HW1.out.1;go_simp<;>with_reducible rfl)
    try simp only[Act.put,List.getElem_toArray,List.getElem_cons_zero,List.getElem_cons_succ,List.setIfInBounds_toArray,List.set_cons_zero,List.set_cons_succ]
    refine wpAnyX_take (i:=10) (v:=?_) rfl (by kernel_rfl) (fun _ _ _ h=>h) hHeld (Or.inl ⟨by kernel_rfl,?_⟩) ?_
    rotate_left
    ·(intro w hSw;have wq:=HW1.out.2.1;have wq2:=HW1.out.2.2;go_simp<;>with_reducible rfl)
    try simp only[Act.put,List.getElem_toArray,List.getElem_cons_zero,List.getElem_cons_succ,List.setIfInBounds_toArray,List.set_cons_zero,List.set_cons_succ]
    refine wpAnyX_take (i:=16) (v:=?_) rfl (by kernel_rfl) (fun _ _ _ h=>h) hHeld (Or.inl ⟨by kernel_rfl,?_⟩) ?_
    rotate_left
    ·(intro w hSw;go_simp<;>with_reducible rfl)
    try simp only[Act.put,List.getElem_toArray,List.getElem_cons_zero,List.getElem_cons_succ,List.setIfInBounds_toArray,List.set_cons_zero,List.set_cons_succ]
    refine wpAnyX_take (i:=17) (v:=?_) rfl (by kernel_rfl) (fun _ _ _ h=>h) hHeld (Or.inl ⟨by kernel_rfl,?_⟩) ?_
    rotate_left
    ·(intro w hSw;obtain⟨x0,x1,x7,xn⟩:=HCC.out _ hSw;go_simp<;>with_reducible rfl)
    try simp only[Act.put,List.getElem_toArray,List.getElem_cons_zero,List.getElem_cons_succ,List.setIfInBounds_toArray,List.set_cons_zero,List.set_cons_succ]
    refine wpAnyX_ready (rs:=[18]) (by kernel_rfl) (by simp) (AllReadyX.one rfl (fun K hK=>?_))
    go_simp
    go_at_call 69
    (with_reducible refine(HWR.out _ hHeld).mono ?_)
    rintro e wl ⟨rfl,hdl,hul⟩
    refine hK.out _ _ (noneUp_not (by kernel_rfl)) ?_
    clear hK K
    try simp only[Act.put,List.getElem_toArray,List.getElem_cons_zero,List.getElem_cons_succ,List.setIfInBounds_toArray,List.set_cons_zero,List.set_cons_succ]
    refine wpAnyX_free (by kernel_rfl) ?_
    refine wpAnyX_take (i:=19) (v:=?_) rfl (by kernel_rfl) (fun _ _ _ h=>h) trivial (Or.inl ⟨by kernel_rfl,?_⟩) ?_
    rotate_left
    ·(intro w hSw;go_simp<;>with_reducible rfl)
    try simp only[Act.put,List.getElem_toArray,List.getElem_cons_zero,List.getElem_cons_succ,List.setIfInBounds_toArray,List.set_cons_zero,List.set_cons_succ]
    refine wpAnyX_done (by kernel_rfl) ?_ _
    have HDL:=Lib.hid hdl
    have HUL:=Lib.hid ((HU.out.trans (hHeld.mono (by simp))).trans hul)
    clear hdl hul hHeld
    go_wp2_with fail
    exact⟨⟨k+1,by omega,by go_num,rfl,HDL.out,HUL.out⟩,by simp[intOf];omega⟩
  ·obtain rfl:k=hm:=by omega
   have e1:decide ((k:Int)<(k:Int))=false:=by simp
   have e2:decide (k<k)=false:=by simp
   obtain⟨D1,hD1⟩:∃D1,D1=homeF J D k:=⟨_,rfl⟩
   have HD1:=Lib.hid hD1
   have hkh:=HHM.out
   obtain⟨hs0,hs1,hs2,hs3,hs4,hs5⟩:=HSET.out
   rw[← hkh,← hD1] at hs1 hs2 hs3
   have HEQ:Hid (homeD J D=((D1.flush.1.write ((J.last.number+1) % 2) J.next.sector).1).flush.1):=by
    show _=_
    unfold homeD
    rw[← hkh,← hD1]
   have hdd:=HD.out
   rw[← hD1] at hdd
   have hdn1:D1.n=D.n:=by rw[hD1,homeF_n]
   have HFL:Hid (∀w',Upd [] wr w'→Calls Tryz.prog 70 #[.pointer (some ⟨q.r.rb,0,none⟩)] w' fun e w''=>e=.returned (.int .i64 0)∧RdkAt w'' q.r D1.flush.1∧Upd q.r.all w' w''):=by
    show ∀w',_
    intro w' hu
    refine(rflush_spec (hdd.below hu)).mono ?_
    rintro e w2 ⟨rfl,_,a,b⟩
    exact⟨rfl,a,b⟩
   obtain⟨si,hsi,hsi2⟩:=slot_nat J HJ.out.num0
   have hnum0:=HJ.out.num0
   have hturn:=HJ.out.turn1
   have hturn0:=HJ.out.turn0
   have hplace:=HJ.out.place
   have hring:=HJ.out.ring1
   obtain⟨s1,hs1'⟩:∃s1,s1=J.last.number+1:=⟨_,rfl⟩
   have HNUM:Hid (IntKind.u64.wrap (J.last.number+1)=s1∧(J.last.number+1) % 18446744073709551616=s1):=by
    show _∧_
    rw[IntKind.wrap_u64,hs1'];omega
   have HREM:Hid (s1.tmod 2=(si:Int)∧s1 % 2=(si:Int)∧IntKind.u64.wrap (si:Int)=(si:Int)∧IntKind.i64.wrap (si:Int)=(si:Int)):=by
    show _∧_∧_∧_
    rw[IntKind.wrap_u64,IntKind.wrap_i64]
    refine⟨?_,by rw[hs1'];exact hsi,by omega,by omega⟩
    rw[Int.tmod_eq_emod_of_nonneg (by omega),hs1'];exact hsi
   have HAN:Hid (∀w,Calls Tryz.prog 71 #[.int .u64 s1,.int .u64 J.turn,.int .i64 (J.place:Int),.int .i64 (J.last.ring:Int)] w fun e w'=>e=.returned (.string (str J.next.sector))∧Upd [] w w'):=by
    show ∀w,_
    intro w
    have:=ranchor_spec w s1.toNat J.turn.toNat J.place J.last.ring (by omega) (by omega) (by omega) (by omega)
    rw[show((s1.toNat:Nat):Int)=s1 by omega,show((J.turn.toNat:Nat):Int)=J.turn by omega] at this
    rw[anc_bytes]
    unfold Jn.next
    rw[← hs1']
    exact this
   have HW2:Hid (∀w',RdkAt w' q.r D1.flush.1→Calls Tryz.prog 69 #[.pointer (some ⟨q.r.rb,0,none⟩),.int .i64 (si:Int),.string (str J.next.sector)] w' fun e w''=>e=.returned (.int .i64 0)∧RdkAt w'' q.r (D1.flush.1.write ((J.last.number+1) % 2) J.next.sector).1∧Upd q.r.all w' w''):=by
    show ∀w',_
    intro w' hd
    have:=rwrite_spec hd (si:Int) J.next.sector
    rw[← hsi,hs3] at this
    rw[← hsi]
    exact this
   have HFL2:Hid (∀w',RdkAt w' q.r (D1.flush.1.write ((J.last.number+1) % 2) J.next.sector).1→Calls Tryz.prog 70 #[.pointer (some ⟨q.r.rb,0,none⟩)] w' fun e w''=>e=.returned (.int .i64 0)∧RdkAt w'' q.r (homeD J D)∧Upd q.r.all w' w''):=by
    show ∀w',_
    intro w' hd
    refine(rflush_spec hd).mono ?_
    rintro e w2 ⟨rfl,_,a,b⟩
    rw[HEQ.out]
    exact⟨rfl,a,b⟩
   have HNB:=Lib.hid (And.intro hs1' hnum0)
   have HSD:=Lib.hid hs5
   have HK1:=Lib.hid hkh
   clear hs0 hs1 hs2 hs3 hs4 hs5 hdd hdn1 hsi hsi2 hnum0 hturn hturn0 hplace hring hs1' hD1 hkh hnum
   go_wp2_with fail
   refine(HFL.out _ (Upd.refl _ _)).mono ?_
   rintro e w2 ⟨rfl,hd2,hu2⟩
   have HD2:=Lib.hid hd2
   have HU2:=Lib.hid (HU.out.trans hu2)
   have hj2:=HH.out.step hd2 HU2.out (by rw[Dk.flush_n,HD1.out,homeF_n])
   obtain⟨b0,b1,b2,b3,b4,_⟩:=hj2.cells
   have HCC:Hid (∀w',Upd [] w2 w'→w'.cell? ⟨q.jb,0,none⟩=some (.pointer (some ⟨q.r.rb,0,none⟩))∧w'.cell? ⟨q.jb,1,none⟩=some (.int .i64 (J.last.ring:Int))∧w'.cell? ⟨q.jb,2,none⟩=some (.int .u64 J.last.number)∧w'.cell? ⟨q.jb,3,none⟩=some (.int .u64 J.turn)∧w'.cell? ⟨q.jb,4,none⟩=some (.int .i64 (J.place:Int))):=by
    show ∀w',_
    intro w' hu
    exact⟨cell_updW b0 hu (by simp),cell_updW b1 hu (by simp),cell_updW b2 hu (by simp),cell_updW b3 hu (by simp),cell_updW b4 hu (by simp)⟩
   clear hd2 hu2 hj2 b0 b1 b2 b3 b4 c0 c1 c2 c3 c4 c5 c6 c7 c8 c9 c10
   go_wp2_with fail
   refine wp_region_x (fun w'=>Upd [] w2 w') [29] (by kernel_rfl) (Upd.refl _ _).drew (fun hHeld=>?_)
   generalize w2.drew=w0 at hHeld ⊢
   refine wpAnyX_take (i:=0) (v:=?_) rfl (by kernel_rfl) (fun _ _ _ h=>h) hHeld (Or.inl ⟨by kernel_rfl,?_⟩) ?_
   rotate_left
   ·(intro w hSw;go_simp<;>with_reducible rfl)
   try simp only[Act.put,List.getElem_toArray,List.getElem_cons_zero,List.getElem_cons_succ,List.setIfInBounds_toArray,List.set_cons_zero,List.set_cons_succ]
   refine wpAnyX_take (i:=1) (v:=?_) rfl (by kernel_rfl) (fun _ _ _ h=>h) hHeld (Or.inl ⟨by kernel_rfl,?_⟩) ?_
   rotate_left
   ·(intro w hSw;go_simp<;>with_reducible rfl)
   try simp only[Act.put,List.getElem_toArray,List.getElem_cons_zero,List.getElem_cons_succ,List.setIfInBounds_toArray,List.set_cons_zero,List.set_cons_succ]
   refine wpAnyX_take (i:=2) (v:=?_) rfl (by kernel_rfl) (fun _ _ _ h=>h) hHeld (Or.inl ⟨by kernel_rfl,?_⟩) ?_
   rotate_left
   ·(intro w hSw;go_simp<;>with_reducible rfl)
   try simp only[Act.put,List.getElem_toArray,List.getElem_cons_zero,List.getElem_cons_succ,List.setIfInBounds_toArray,List.set_cons_zero,List.set_cons_succ]
   refine wpAnyX_take (i:=4) (v:=?_) rfl (by kernel_rfl) (fun _ _ _ h=>h) hHeld (Or.inl ⟨by kernel_rfl,?_⟩) ?_
   rotate_left
   ·(intro w hSw;go_simp<;>with_reducible rfl)
   try simp only[Act.put,List.getElem_toArray,List.getElem_cons_zero,List.getElem_cons_succ,List.setIfInBounds_toArray,List.set_cons_zero,List.set_cons_succ]
   refine wpAnyX_take (i:=5) (v:=?_) rfl (by kernel_rfl) (fun _ _ _ h=>h) hHeld (Or.inl ⟨by kernel_rfl,?_⟩) ?_
   rotate_left
   ·(intro w hSw;go_simp<;>with_reducible rfl)
   try simp only[Act.put,List.getElem_toArray,List.getElem_cons_zero,List.getElem_cons_succ,List.setIfInBounds_toArray,List.set_cons_zero,List.set_cons_succ]
   refine wpAnyX_take (i:=6) (v:=?_) rfl (by kernel_rfl) (fun _ _ _ h=>h) hHeld (Or.inl ⟨by kernel_rfl,?_⟩) ?_
   rotate_left
   ·(intro w hSw;go_simp<;>with_reducible rfl)
   try simp only[Act.put,List.getElem_toArray,List.getElem_cons_zero,List.getElem_cons_succ,List.setIfInBounds_toArray,List.set_cons_zero,List.set_cons_succ]
   refine wpAnyX_take (i:=11) (v:=?_) rfl (by kernel_rfl) (fun _ _ _ h=>h) hHeld (Or.inl ⟨by kernel_rfl,?_⟩) ?_
   rotate_left
   ·(intro w hSw;go_simp<;>with_reducible rfl)
   try simp only[Act.put,List.getElem_toArray,List.getElem_cons_zero,List.getElem_cons_succ,List.setIfInBounds_toArray,List.set_cons_zero,List.set_cons_succ]
   refine wpAnyX_take (i:=12) (v:=?_) rfl (by kernel_rfl) (fun _ _ _ h=>h) hHeld (Or.inl ⟨by kernel_rfl,?_⟩) ?_
   rotate_left
   ·(intro w hSw;go_simp<;>with_reducible rfl)
   try simp only[Act.put,List.getElem_toArray,List.getElem_cons_zero,List.getElem_cons_succ,List.setIfInBounds_toArray,List.set_cons_zero,List.set_cons_succ]
   refine wpAnyX_take (i:=13) (v:=?_) rfl (by kernel_rfl) (fun _ _ _ h=>h) hHeld (Or.inl ⟨by kernel_rfl,?_⟩) ?_
   rotate_left
   ·(intro w hSw;go_simp<;>with_reducible rfl)
   try simp only[Act.put,List.getElem_toArray,List.getElem_cons_zero,List.getElem_cons_succ,List.setIfInBounds_toArray,List.set_cons_zero,List.set_cons_succ]
   refine wpAnyX_take (i:=16) (v:=?_) rfl (by kernel_rfl) (fun _ _ _ h=>h) hHeld (Or.inl ⟨by kernel_rfl,?_⟩) ?_
   rotate_left
   ·(intro w hSw;go_simp<;>with_reducible rfl)
   try simp only[Act.put,List.getElem_toArray,List.getElem_cons_zero,List.getElem_cons_succ,List.setIfInBounds_toArray,List.set_cons_zero,List.set_cons_succ]
   refine wpAnyX_take (i:=17) (v:=?_) rfl (by kernel_rfl) (fun _ _ _ h=>h) hHeld (Or.inl ⟨by kernel_rfl,?_⟩) ?_
   rotate_left
   ·(intro w hSw;go_simp<;>with_reducible rfl)
   try simp only[Act.put,List.getElem_toArray,List.getElem_cons_zero,List.getElem_cons_succ,List.setIfInBounds_toArray,List.set_cons_zero,List.set_cons_succ]
   refine wpAnyX_take (i:=18) (v:=?_) rfl (by kernel_rfl) (fun _ _ _ h=>h) hHeld (Or.inl ⟨by kernel_rfl,?_⟩) ?_
   rotate_left
   ·(intro w hSw;go_simp<;>with_reducible rfl)
   try simp only[Act.put,List.getElem_toArray,List.getElem_cons_zero,List.getElem_cons_succ,List.setIfInBounds_toArray,List.set_cons_zero,List.set_cons_succ]
   refine wpAnyX_take (i:=20) (v:=?_) rfl (by kernel_rfl) (fun _ _ _ h=>h) hHeld (Or.inl ⟨by kernel_rfl,?_⟩) ?_
   rotate_left
   ·(intro w hSw;go_simp<;>with_reducible rfl)
   try simp only[Act.put,List.getElem_toArray,List.getElem_cons_zero,List.getElem_cons_succ,List.setIfInBounds_toArray,List.set_cons_zero,List.set_cons_succ]
   refine wpAnyX_take (i:=21) (v:=?_) rfl (by kernel_rfl) (fun _ _ _ h=>h) hHeld (Or.inl ⟨by kernel_rfl,?_⟩) ?_
   rotate_left
   ·(intro w hSw;go_simp<;>with_reducible rfl)
   try simp only[Act.put,List.getElem_toArray,List.getElem_cons_zero,List.getElem_cons_succ,List.setIfInBounds_toArray,List.set_cons_zero,List.set_cons_succ]
   refine wpAnyX_take (i:=22) (v:=?_) rfl (by kernel_rfl) (fun _ _ _ h=>h) hHeld (Or.inl ⟨by kernel_rfl,?_⟩) ?_
   rotate_left
   ·(intro w hSw;go_simp<;>with_reducible rfl)
   try simp only[Act.put,List.getElem_toArray,List.getElem_cons_zero,List.getElem_cons_succ,List.setIfInBounds_toArray,List.set_cons_zero,List.set_cons_succ]
   refine wpAnyX_take (i:=24) (v:=?_) rfl (by kernel_rfl) (fun _ _ _ h=>h) hHeld (Or.inl ⟨by kernel_rfl,?_⟩) ?_
   rotate_left
   ·(intro w hSw;go_simp<;>with_reducible rfl)
   try simp only[Act.put,List.getElem_toArray,List.getElem_cons_zero,List.getElem_cons_succ,List.setIfInBounds_toArray,List.set_cons_zero,List.set_cons_succ]
   refine wpAnyX_take (i:=25) (v:=?_) rfl (by kernel_rfl) (fun _ _ _ h=>h) hHeld (Or.inl ⟨by kernel_rfl,?_⟩) ?_
   rotate_left
   ·(intro w hSw;go_simp<;>with_reducible rfl)
   try simp only[Act.put,List.getElem_toArray,List.getElem_cons_zero,List.getElem_cons_succ,List.setIfInBounds_toArray,List.set_cons_zero,List.set_cons_succ]
   refine wpAnyX_take (i:=26) (v:=?_) rfl (by kernel_rfl) (fun _ _ _ h=>h) hHeld (Or.inl ⟨by kernel_rfl,?_⟩) ?_
   rotate_left
   ·(intro w hSw;go_simp<;>with_reducible rfl)
   try simp only[Act.put,List.getElem_toArray,List.getElem_cons_zero,List.getElem_cons_succ,List.setIfInBounds_toArray,List.set_cons_zero,List.set_cons_succ]
   refine wpAnyX_take (i:=3) (v:=?_) rfl (by kernel_rfl) (fun _ _ _ h=>h) hHeld (Or.inl ⟨by kernel_rfl,?_⟩) ?_
   rotate_left
   ·(intro w hSw;obtain⟨x0,x1,x2,x3,x4⟩:=HCC.out _ hSw;go_simp<;>with_reducible rfl)
   try simp only[Act.put,List.getElem_toArray,List.getElem_cons_zero,List.getElem_cons_succ,List.setIfInBounds_toArray,List.set_cons_zero,List.set_cons_succ]
   refine wpAnyX_take (i:=7) (v:=?_) rfl (by kernel_rfl) (fun _ _ _ h=>h) hHeld (Or.inl ⟨by kernel_rfl,?_⟩) ?_
   rotate_left
   ·(intro w hSw;obtain⟨x0,x1,x2,x3,x4⟩:=HCC.out _ hSw;go_simp<;>with_reducible rfl)
   try simp only[Act.put,List.getElem_toArray,List.getElem_cons_zero,List.getElem_cons_succ,List.setIfInBounds_toArray,List.set_cons_zero,List.set_cons_succ]
   refine wpAnyX_take (i:=14) (v:=?_) rfl (by kernel_rfl) (fun _ _ _ h=>h) hHeld (Or.inl ⟨by kernel_rfl,?_⟩) ?_
   rotate_left
   ·(intro w hSw;obtain⟨x0,x1,x2,x3,x4⟩:=HCC.out _ hSw;go_simp<;>with_reducible rfl)
   try simp only[Act.put,List.getElem_toArray,List.getElem_cons_zero,List.getElem_cons_succ,List.setIfInBounds_toArray,List.set_cons_zero,List.set_cons_succ]
   refine wpAnyX_take (i:=19) (v:=?_) rfl (by kernel_rfl) (fun _ _ _ h=>h) hHeld (Or.inl ⟨by kernel_rfl,?_⟩) ?_
   rotate_left
   ·(intro w hSw;obtain⟨x0,x1,x2,x3,x4⟩:=HCC.out _ hSw;go_simp<;>with_reducible rfl)
   try simp only[Act.put,List.getElem_toArray,List.getElem_cons_zero,List.getElem_cons_succ,List.setIfInBounds_toArray,List.set_cons_zero,List.set_cons_succ]
   refine wpAnyX_take (i:=23) (v:=?_) rfl (by kernel_rfl) (fun _ _ _ h=>h) hHeld (Or.inl ⟨by kernel_rfl,?_⟩) ?_
   rotate_left
   ·(intro w hSw;obtain⟨x0,x1,x2,x3,x4⟩:=HCC.out _ hSw;go_simp<;>with_reducible rfl)
   try simp only[Act.put,List.getElem_toArray,List.getElem_cons_zero,List.getElem_cons_succ,List.setIfInBounds_toArray,List.set_cons_zero,List.set_cons_succ]
   refine wpAnyX_take (i:=27) (v:=?_) rfl (by kernel_rfl) (fun _ _ _ h=>h) hHeld (Or.inl ⟨by kernel_rfl,?_⟩) ?_
   rotate_left
   ·(intro w hSw;obtain⟨x0,x1,x2,x3,x4⟩:=HCC.out _ hSw;go_simp<;>with_reducible rfl)
   try simp only[Act.put,List.getElem_toArray,List.getElem_cons_zero,List.getElem_cons_succ,List.setIfInBounds_toArray,List.set_cons_zero,List.set_cons_succ]
   refine wpAnyX_take (i:=8) (v:=?_) rfl (by kernel_rfl) (fun _ _ _ h=>h) hHeld (Or.inl ⟨by kernel_rfl,?_⟩) ?_
   rotate_left
   ·(intro w hSw;obtain⟨wq1,wq2⟩:=HNUM.out;go_simp<;>with_reducible rfl)
   try simp only[Act.put,List.getElem_toArray,List.getElem_cons_zero,List.getElem_cons_succ,List.setIfInBounds_toArray,List.set_cons_zero,List.set_cons_succ]
   refine wpAnyX_take (i:=15) (v:=?_) rfl (by kernel_rfl) (fun _ _ _ h=>h) hHeld (Or.inl ⟨by kernel_rfl,?_⟩) ?_
   rotate_left
   ·(intro w hSw;obtain⟨wq1,wq2⟩:=HNUM.out;go_simp<;>with_reducible rfl)
   try simp only[Act.put,List.getElem_toArray,List.getElem_cons_zero,List.getElem_cons_succ,List.setIfInBounds_toArray,List.set_cons_zero,List.set_cons_succ]
   refine wpAnyX_take (i:=9) (v:=?_) rfl (by kernel_rfl) (fun _ _ _ h=>h) hHeld (Or.inl ⟨by kernel_rfl,?_⟩) ?_
   rotate_left
   ·(intro w hSw;obtain⟨wq1,wq2,wq3,wq4⟩:=HREM.out;go_simp<;>with_reducible rfl)
   try simp only[Act.put,List.getElem_toArray,List.getElem_cons_zero,List.getElem_cons_succ,List.setIfInBounds_toArray,List.set_cons_zero,List.set_cons_succ]
   refine wpAnyX_take (i:=10) (v:=?_) rfl (by kernel_rfl) (fun _ _ _ h=>h) hHeld (Or.inl ⟨by kernel_rfl,?_⟩) ?_
   rotate_left
   ·(intro w hSw;obtain⟨wq1,wq2,wq3,wq4⟩:=HREM.out;go_simp<;>with_reducible rfl)
   try simp only[Act.put,List.getElem_toArray,List.getElem_cons_zero,List.getElem_cons_succ,List.setIfInBounds_toArray,List.set_cons_zero,List.set_cons_succ]
   refine wpAnyX_ready (rs:=[28]) (by kernel_rfl) (by simp) (AllReadyX.one rfl (fun K hK=>?_))
   go_simp
   go_at_call 71
   (with_reducible refine(HAN.out _).mono ?_)
   rintro e wl ⟨rfl,hul⟩
   refine hK.out _ _ (fun _=>hHeld.trans hul) ?_
   replace hHeld:=hHeld.trans hul
   clear hul hK K
   try simp only[Act.put,List.getElem_toArray,List.getElem_cons_zero,List.getElem_cons_succ,List.setIfInBounds_toArray,List.set_cons_zero,List.set_cons_succ]
   refine wpAnyX_ready (rs:=[29]) (by kernel_rfl) (by simp) (AllReadyX.one rfl (fun K hK=>?_))
   go_simp
   go_at_call 69
   (with_reducible refine(HW2.out _ (HD2.out.below hHeld)).mono ?_)
   rintro e w3 ⟨rfl,hd3,hu3⟩
   refine hK.out _ _ (noneUp_not (by kernel_rfl)) ?_
   clear hK K
   try simp only[Act.put,List.getElem_toArray,List.getElem_cons_zero,List.getElem_cons_succ,List.setIfInBounds_toArray,List.set_cons_zero,List.set_cons_succ]
   refine wpAnyX_free (by kernel_rfl) ?_
   refine wpAnyX_take (i:=30) (v:=?_) rfl (by kernel_rfl) (fun _ _ _ h=>h) trivial (Or.inl ⟨by kernel_rfl,?_⟩) ?_
   rotate_left
   ·(intro w hSw;go_simp<;>with_reducible rfl)
   try simp only[Act.put,List.getElem_toArray,List.getElem_cons_zero,List.getElem_cons_succ,List.setIfInBounds_toArray,List.set_cons_zero,List.set_cons_succ]
   refine wpAnyX_done (by kernel_rfl) ?_ _
   have HD3:=Lib.hid hd3
   have HU3:=Lib.hid ((HU2.out.trans (hHeld.mono (by simp))).trans hu3)
   clear hd3 hu3 hHeld
   have hj3:=HH.out.step HD3.out HU3.out (by rw[Dk.write_n,Dk.flush_n,HD1.out,homeF_n])
   obtain⟨b0,_⟩:=hj3.cells
   clear hj3
   go_wp2_with fail
   refine(HFL2.out _ HD3.out).mono ?_
   rintro e w4 ⟨rfl,hd4,hu4⟩
   have HU4:=Lib.hid (HU3.out.trans hu4)
   have HJ4:=Lib.hid (HH.out.step hd4 HU4.out HSD.out)
   clear hd4 hu4 b0
   obtain⟨w5,hw5⟩:∃x,x=(w4.setCell ⟨q.jb,2,none⟩ (.int .u64 s1)).setCell ⟨q.jb,8,none⟩ (.int .i64 0):=⟨_,rfl⟩
   obtain⟨b0,b1,b2,b3,b4,b5,b6,b7,b8,b9,b10⟩:=HJ4.out.cells
   have st1:=storeW1 HJ4.out.st 2 (v:=.int .u64 s1) (by simp) rfl
   have st2:=storeW1 (blk_set HJ4.out.st 2 (.int .u64 s1)) 8 (v:=.int .i64 0) (by simp) rfl
   have hu5:Upd [q.jb] w4 w5:=by rw[hw5];exact((Upd.refl _ _).set _ (.inl (by simp))).set _ (.inl (by simp))
   rw[← hw5] at st2
   have h5:w5.heap[q.jb]?=some (.cells #[.pointer (some ⟨q.r.rb,0,none⟩),.int .i64 (J.last.ring:Int),.int .u64 s1,.int .u64 J.turn,.int .i64 (J.place:Int),.int .i64 (J.homes (homeD J D).n:Int),.slice (some ⟨q.ab,0,none⟩) (J.homes (homeD J D).n) q.ca,.slice (some ⟨q.nb,0,none⟩) (J.homes (homeD J D).n) q.cn,.int .i64 0,.int .i64 J.lives,.bool J.done] 150 (0,0)):=by
    rw[hw5];exact blk_set (blk_set HJ4.out.st 2 _) 8 _
   have H5:=Lib.hid h5
   have HU5:=Lib.hid hu5
   have HW5:=Lib.hid hw5
   have hjab:q.jb≠q.ab:=by
    rintro e
    obtain⟨r,hr⟩:=HJ4.out.away
    have:=HJ4.out.st
    rw[e,hr] at this;simp at this
   have hjnb:q.nb≠q.ab:=by
    rintro e
    obtain⟨l,⟨r1,hl⟩,_⟩:=HJ4.out.now
    obtain⟨r,hr⟩:=HJ4.out.away
    rw[e,hr] at hl;simp at hl
   have hjnj:q.nb≠q.jb:=by
    rintro e
    obtain⟨l,⟨r1,hl⟩,_⟩:=HJ4.out.now
    have:=HJ4.out.st
    rw[← e,hl] at this;simp at this
   have HNE:=Lib.hid (And.intro hjab (And.intro hjnb hjnj))
   have haw5:BolBl w5 q.ab (awayB J.away k):=by
    have:=HJ4.out.away.upd hu5 (by simp;exact fun e=>hjab e.symm)
    rwa [HSD.out,← HK1.out] at this
   have HAW5:=Lib.hid haw5
   obtain⟨wq1,wq2⟩:=HNUM.out
   have hhn:J.homes (homeD J D).n=k:=by rw[HSD.out,← HK1.out]
   rw[hhn] at b5 b6 b7 H5
   have HHN:=Lib.hid hhn
   clear hu5 h5 hw5 hjab hjnb hjnj haw5 hhn
   go_wp2_with fail
   go_loopw [5] (fun i wr=>∃m:Nat,m≤k∧i=.int .i64 (m:Int)∧BolBl wr q.ab (awayB (awayF J.away m) k)∧Upd [q.ab] w5 wr) (fun i _=>k-(intOf i).toNat)
   case atStart=>exact⟨0,Nat.zero_le _,rfl,by have:=HAW5.out;have e:awayF J.away 0=J.away:=(by funext i;unfold awayF;rw[if_neg (by omega)]);rw[e];exact this,Upd.refl _ _⟩
   case round=>
    obtain⟨m,hm,rfl,hb,hu⟩:=hrel
    have HB:=Lib.hid hb
    have HU6:=Lib.hid hu
    have hj6:=(hu.block _ (blk_lt H5.out) (by simp;exact HNE.out.1)).trans H5.out
    have H6:=Lib.hid hj6
    have x5:wr.cell? ⟨q.jb,5,none⟩=some (.int .i64 (k:Int)):=by rw[blk_cell hj6];rfl
    have x6:wr.cell? ⟨q.jb,6,none⟩=some (.slice (some ⟨q.ab,0,none⟩) k q.ca):=by rw[blk_cell hj6];rfl
    clear b0 b1 b2 b3 b4 b5 b6 b7 b8 b9 b10 st1 st2 hj6 hb hu wq1 wq2
    rcases Nat.lt_or_ge m k with hlt | hge2
    ·have f1:decide ((m:Int)<(k:Int))=true:=decide_eq_true (by omega)
     have f2:decide (m<k)=true:=decide_eq_true hlt
     have j0:(0:Int)≤(m:Int):=by omega
     have j1:(m:Int)<(k:Int):=by omega
     have hset:=HB.out.set (i:=m) (by rw[awayB_length];exact hlt) (.bool false)
     rw[awayB_set hlt] at hset
     obtain⟨rest,hrest⟩:=HB.out
     have sb:=storeW1 hrest m (v:=.bool false) (by simp[awayB_length];omega) rfl
     have HSB:=Lib.hid hset
     have HUN:Hid (Upd [q.ab] w5 (wr.setCell ⟨q.ab,m,none⟩ (.bool false))):=Lib.hid (HU6.out.set _ (.inl (by simp)))
     clear hset hrest
     go_wp2_with fail
     exact⟨⟨m+1,by omega,by go_num,HSB.out,HUN.out⟩,by simp[intOf];omega⟩
    ·obtain rfl:m=k:=by omega
     have f1:decide ((m:Int)<(m:Int))=false:=by simp
     have f2:decide (m<m)=false:=by simp
     go_wp2_with fail
     go_ret
     have hap:=HJ4.out.apart
     have hu45:=HU5.out
     have hu5r:=HU6.out
     refine⟨rfl,⟨?_,?_,?_,?_,?_,HJ4.out.ne⟩,?_⟩
     ·exact(HJ4.out.disk.upd hu45 (fun x hx=>by simp;rintro rfl;exact hap _ (by simp[QG.own]) hx)).upd hu5r (fun x hx=>by simp;rintro rfl;exact hap _ (by simp[QG.own]) hx)
     ·have e1:J.settled.homes (homeD J D).n=m:=HHN.out
      rw[e1]
      have:=H6.out
      rw[HNB.out.1] at this
      exact this
     ·have e1:J.settled.homes (homeD J D).n=m:=HHN.out
      rw[e1]
      have e2:awayB (awayF J.away m) m=awayB J.settled.away m:=by
       unfold awayB
       refine List.map_congr_left fun i hi=>?_
       have:=List.mem_range.1 hi
       unfold awayF
       rw[if_pos this];rfl
      rw[← e2];exact HB.out
     ·obtain⟨l,h1,h2⟩:=HJ4.out.now
      have hnx:=HNE.out
      exact⟨l,(h1.upd hu45 (by simp;exact hnx.2.2)).upd hu5r (by simp;exact hnx.2.1),h2.len,h2.str,fun i s _ e=>by cases e⟩
     ·have ho:=HJ4.out.ok
      exact⟨ho.ring0,ho.ring1,ho.fits,ho.place,ho.place,by have:=ho.num0;show 1≤J.last.number+1;omega,by have:=ho.num1;have:=HNB.out;have:=HLIM.out;show J.last.number+1<18446744073709551616;omega,ho.turn0,ho.turn0,ho.turn1,by show 0≤100000000;omega,fun i s e=>by cases e⟩
     ·have hS:∀x,x∈q.r.all→x∈q.all:=fun x hx=>by simp[QG.all,hx]
      exact((HU4.out.mono hS).trans (hu45.mono (by simp[QG.all,QG.own]))).trans (hu5r.mono (by simp[QG.all,QG.own]))
end
section
attribute [-go_sem] loadCells storeCells Instr.build run_string_add_if
theorem settle_eq{J:Jn}{D:Dk}(h:D.On)(hok:D.Ok)(hJ:J.Ok D.n):J.settle D=J.settled:=by
 unfold Jn.settle
 rw[(settleD_eq h hok hJ).1,if_neg (by simp)]
set_option maxRecDepth 100000 in
set_option maxHeartbeats 4000000 in
theorem rck_spec{w:World}{q:QG}{J:Jn}{D:Dk}(h:RjmAt w q J D)(hnum:J.last.number<4611686018427387904)(hu:J.used=0↔J.keys D.n=[]) :
  Calls Tryz.prog 146 #[.pointer (some ⟨q.jb,0,none⟩)] w fun e w'=>e=.returned (.int .i64 (J.ckD D).2)∧RjmAt w' q (J.ck D) (J.ckD D).1∧Upd q.all w w':=by
 have HO:=Lib.hid (rover_spec h)
 have HH:=Lib.hid h
 obtain⟨m,hm⟩:∃m,m=decide (J.may D≠0):=⟨_,rfl⟩
 rw[← hm] at HO
 have HM:=Lib.hid hm
 have HN:=Lib.hid hnum
 have HU:=Lib.hid hu
 have hge:decide ((4611686018427387904:Int)≤J.last.number)=false:=decide_eq_false (by omega)
 clear h hm hnum hu
 go_enter Tryz.func146,Tryz.ntmps146
 go_wp2_with fail
 refine HO.out.mono ?_
 rintro e w1 ⟨rfl,hu1⟩
 have HU1:=Lib.hid hu1
 have H1:=Lib.hid (HH.out.below hu1)
 clear hu1
 cases m with
 | true=>
  have HR:Hid (J.ckD D=(D,8)∧J.ck D=J):=by
   show _∧_
   unfold Jn.ckD Jn.ck
   rw[if_pos (of_decide_eq_true HM.out.symm),if_pos (of_decide_eq_true HM.out.symm)]
   exact⟨rfl,rfl⟩
  go_wp2_with fail
  go_ret
  rw[HR.out.1,HR.out.2]
  exact⟨rfl,H1.out,HU1.out.mono (by simp)⟩
 | false=>
  have hmay:¬(J.may D≠0):=of_decide_eq_false HM.out.symm
  have HMY:=Lib.hid hmay
  clear hmay
  obtain⟨_,_,c2,_,_,_,_,_,c8,_,_⟩:=H1.out.cells
  rcases Nat.eq_zero_or_pos J.used with h0 | h0
  ·have e0:((J.used:Int) == 0)=true:=by rw[h0];rfl
   have HR:Hid (J.ckD D=(D,0)∧J.ck D=J):=by
    show _∧_
    unfold Jn.ckD Jn.ck
    rw[if_neg HMY.out,if_neg HMY.out,if_pos (HU.out.1 h0),if_pos (HU.out.1 h0)]
    exact⟨rfl,rfl⟩
   clear h0
   go_wp2_with fail
   go_ret
   rw[HR.out.1,HR.out.2]
   exact⟨rfl,H1.out,HU1.out.mono (by simp)⟩
  ·have e0:((J.used:Int) == 0)=false:=by rw[beq_eq_false_iff_ne];omega
   have hk:¬J.keys D.n=[]:=fun q=>by have:=HU.out.2 q;omega
   have HR:Hid (J.ckD D=(homeD J D,0)∧J.ck D=J.settled):=by
    show _∧_
    have hn:=HN.out
    unfold Jn.ckD Jn.ck
    rw[if_neg HMY.out,if_neg HMY.out,if_neg hk,if_neg hk,if_neg (by omega),if_neg (by omega),(settleD_eq H1.out.disk.on H1.out.disk.ok H1.out.ok).1,settle_eq H1.out.disk.on H1.out.disk.ok H1.out.ok]
    exact⟨rfl,rfl⟩
   have HHM:=Lib.hid (rhome_spec H1.out HN.out)
   clear h0 hk
   go_wp2_with fail
   refine HHM.out.mono ?_
   rintro e w2 ⟨rfl,hj,hu2⟩
   have HJ:=Lib.hid hj
   have HU2:=Lib.hid ((HU1.out.mono (by simp)).trans hu2)
   clear hj hu2
   go_wp2_with fail
   go_ret
   rw[HR.out.1,HR.out.2]
   exact⟨rfl,HJ.out,HU2.out⟩
end
section
attribute [-go_sem] loadCells storeCells Instr.build run_string_add_if
structure PutsGood(homes:Nat)(l:List Put):Prop where
 each:∀p∈l,0≤p.1∧p.1<(homes:Int)∧p.2.length=512
 nd:(l.map (·.1)).Nodup
 n:l.length≤100
theorem fitsL_ok9{homes:Nat}:∀{l:List Put} {seen:List Int},(∀p∈l,0≤p.1∧p.1<(homes:Int)∧p.2.length=512∧p.1∉seen)→(l.map (·.1)).Nodup→fitsL homes seen l=0
 | [],_,_,_=>rfl
 | (i,b) :: l,seen,h,hn=>by
  obtain⟨h1,h2,h3,h4⟩:=h (i,b) (by simp)
  rw[List.map_cons,List.nodup_cons] at hn
  show(if i<0∨(homes:Int)≤i∨i∈seen then 1 else if b.length≠512 then 9 else fitsL homes (i :: seen) l)=0
  have h1':0≤i:=h1
  have h2':i<(homes:Int):=h2
  have h4':i∉seen:=h4
  rw[if_neg (by rintro(q | q | q);omega;omega;exact h4' q),if_neg (by simpa using h3)]
  refine fitsL_ok9 (fun p hp=>?_) hn.2
  obtain⟨a,b2,c,d⟩:=h p (by simp[hp])
  refine⟨a,b2,c,fun q=>?_⟩
  rcases List.mem_cons.1 q with e | e
  ·exact hn.1 (List.mem_map.2 ⟨p,hp,e⟩)
  ·exact d e
theorem PutsGood.fits{J:Jn}{n:Nat}{l:List Put}(h:PutsGood (J.homes n) l):J.fits n l=if 40<l.length∨J.last.ring≤l.length then 2 else 0:=by
 unfold Jn.fits
 have h0:fitsL (J.homes n) [] l=0:=fitsL_ok9 (fun p hp=>by obtain⟨a,b,c⟩:=h.each p hp;exact⟨a,b,c,by simp⟩) h.nd
 rw[h0,if_neg (by decide)]
theorem PutsGood.apart{homes:Nat}{l:List Put}(h:PutsGood homes l){i k:Nat}(hi:i<l.length)(hk:k<i):l[k].1≠l[i].1:=by
 have:=List.pairwise_iff_getElem.1 h.nd k i (by rw[List.length_map];omega) (by rw[List.length_map];exact hi) hk
 rw[List.getElem_map,List.getElem_map] at this
 exact this
set_option maxRecDepth 100000 in
set_option maxHeartbeats 8000000 in
theorem rright_spec{w:World}{q:QG}{J:Jn}{D:Dk}(h:RjmAt w q J D){v:Value}{l:List Put}(hp:PutsAt w v l)(hg:PutsGood (J.homes D.n) l) :
  Calls Tryz.prog 145 #[.pointer (some ⟨q.jb,0,none⟩),v] w fun e w'=>e=.returned (.int .i64 (J.fits D.n l))∧Upd [] w w':=by
 obtain⟨av,cv,rfl⟩:=hp.shape
 have HP:=Lib.hid hp
 have HH:=Lib.hid h
 have HG:=Lib.hid hg
 obtain⟨hm,hhm⟩:∃hm,hm=J.homes D.n:=⟨_,rfl⟩
 have HHM:=Lib.hid hhm
 have hn:=hg.n
 have HF:=Lib.hid hg.fits
 clear h hp hg hhm
 go_enter Tryz.func145,Tryz.ntmps145
 go_wp2_with fail
 go_loopw [5] (fun i wr=>∃k:Nat,k≤l.length∧i=.int .i64 (k:Int)∧Upd [] w wr) (fun i _=>l.length-(intOf i).toNat)
 case atStart=>exact⟨0,Nat.zero_le _,rfl,Upd.refl _ _⟩
 case round=>
  obtain⟨k,hk,rfl,hu⟩:=hrel
  obtain⟨wa,rfl⟩:∃wa:World,wa=wr:=⟨_,rfl⟩
  have HU:=Lib.hid hu
  clear hu
  rcases Nat.lt_or_ge k l.length with hlt | hge
  ·have e1:decide ((k:Int)<(l.length:Int))=true:=decide_eq_true (by omega)
   have e2:decide (k<l.length)=true:=decide_eq_true hlt
   have i0:(0:Int)≤(k:Int):=by omega
   have i1:(k:Int)<(l.length:Int):=by omega
   obtain⟨g,cap,da,dc,e,hc1,hc2,_⟩:=(HP.out.below HU.out).get k hlt
   cases e
   obtain⟨b1,b2,b3⟩:=HG.out.each _ (List.getElem_mem hlt)
   rw[← HHM.out] at b2
   rw[b3] at hc2
   have HAP:Hid (∀m,(hm:m<k)→l[m].1≠l[k].1):=Lib.hid (fun m hm=>HG.out.apart hlt hm)
   obtain⟨x,hx⟩:∃x,x=l[k].1:=⟨_,rfl⟩
   rw[← hx] at hc1 b1 b2 HAP
   have f1:decide (x<0)=false:=decide_eq_false (by omega)
   have f2:decide ((hm:Int)≤x)=false:=decide_eq_false (by omega)
   have HC:Hid (∀w',Upd [] wa w'→w'.cell? ⟨g,k*2,none⟩=some (.int .i64 x)∧w'.cell? ⟨q.jb,5,none⟩=some (.int .i64 (hm:Int))):=by
    show ∀w',_
    intro w' hu
    obtain⟨_,_,_,_,_,c5,_⟩:=(HH.out.below (HU.out.trans hu)).cells
    rw[← HHM.out] at c5
    exact⟨cell_updW hc1 hu (by simp),c5⟩
   have HC2:=Lib.hid hc2
   clear hx b1 b2 b3 hc1 hc2
   go_wp2_with fail
   refine wp_region_x (fun w'=>Upd [] wa w') [] (by kernel_rfl) (Upd.refl _ _).drew (fun hHeld=>?_)
   generalize wa.drew=w0 at hHeld ⊢
   refine wpAnyX_take (i:=0) (v:=?_) rfl (by kernel_rfl) (fun _ _ _ h=>h) hHeld (Or.inl ⟨by kernel_rfl,?_⟩) ?_
   rotate_left
   ·(intro w hSw;go_simp<;>with_reducible rfl)
   try simp only[Act.put,List.getElem_toArray,List.getElem_cons_zero,List.getElem_cons_succ,List.setIfInBounds_toArray,List.set_cons_zero,List.set_cons_succ]
   refine wpAnyX_take (i:=1) (v:=?_) rfl (by kernel_rfl) (fun _ _ _ h=>h) hHeld (Or.inl ⟨by kernel_rfl,?_⟩) ?_
   rotate_left
   ·(intro w hSw;go_simp<;>with_reducible rfl)
   try simp only[Act.put,List.getElem_toArray,List.getElem_cons_zero,List.getElem_cons_succ,List.setIfInBounds_toArray,List.set_cons_zero,List.set_cons_succ]
   refine wpAnyX_take (i:=2) (v:=?_) rfl (by kernel_rfl) (fun _ _ _ h=>h) hHeld (Or.inl ⟨by kernel_rfl,?_⟩) ?_
   rotate_left
   ·(intro w hSw;go_simp<;>with_reducible rfl)
   try simp only[Act.put,List.getElem_toArray,List.getElem_cons_zero,List.getElem_cons_succ,List.setIfInBounds_toArray,List.set_cons_zero,List.set_cons_succ]
   refine wpAnyX_take (i:=3) (v:=?_) rfl (by kernel_rfl) (fun _ _ _ h=>h) hHeld (Or.inl ⟨by kernel_rfl,?_⟩) ?_
   rotate_left
   ·(intro w hSw;go_simp<;>with_reducible rfl)
   try simp only[Act.put,List.getElem_toArray,List.getElem_cons_zero,List.getElem_cons_succ,List.setIfInBounds_toArray,List.set_cons_zero,List.set_cons_succ]
   refine wpAnyX_take (i:=4) (v:=?_) rfl (by kernel_rfl) (fun _ _ _ h=>h) hHeld (Or.inl ⟨by kernel_rfl,?_⟩) ?_
   rotate_left
   ·(intro w hSw;obtain⟨x0,x5⟩:=HC.out _ hSw;go_simp<;>with_reducible rfl)
   try simp only[Act.put,List.getElem_toArray,List.getElem_cons_zero,List.getElem_cons_succ,List.setIfInBounds_toArray,List.set_cons_zero,List.set_cons_succ]
   refine wpAnyX_take (i:=5) (v:=?_) rfl (by kernel_rfl) (fun _ _ _ h=>h) hHeld (Or.inl ⟨by kernel_rfl,?_⟩) ?_
   rotate_left
   ·(intro w hSw;go_simp<;>with_reducible rfl)
   try simp only[Act.put,List.getElem_toArray,List.getElem_cons_zero,List.getElem_cons_succ,List.setIfInBounds_toArray,List.set_cons_zero,List.set_cons_succ]
   refine wpAnyX_take (i:=6) (v:=?_) rfl (by kernel_rfl) (fun _ _ _ h=>h) hHeld (Or.inl ⟨by kernel_rfl,?_⟩) ?_
   rotate_left
   ·(intro w hSw;go_simp<;>with_reducible rfl)
   try simp only[Act.put,List.getElem_toArray,List.getElem_cons_zero,List.getElem_cons_succ,List.setIfInBounds_toArray,List.set_cons_zero,List.set_cons_succ]
   refine wpAnyX_take (i:=7) (v:=?_) rfl (by kernel_rfl) (fun _ _ _ h=>h) hHeld (Or.inl ⟨by kernel_rfl,?_⟩) ?_
   rotate_left
   ·(intro w hSw;go_simp<;>with_reducible rfl)
   try simp only[Act.put,List.getElem_toArray,List.getElem_cons_zero,List.getElem_cons_succ,List.setIfInBounds_toArray,List.set_cons_zero,List.set_cons_succ]
   refine wpAnyX_take (i:=8) (v:=?_) rfl (by kernel_rfl) (fun _ _ _ h=>h) hHeld (Or.inl ⟨by kernel_rfl,?_⟩) ?_
   rotate_left
   ·(intro w hSw;go_simp<;>with_reducible rfl)
   try simp only[Act.put,List.getElem_toArray,List.getElem_cons_zero,List.getElem_cons_succ,List.setIfInBounds_toArray,List.set_cons_zero,List.set_cons_succ]
   refine wpAnyX_take (i:=9) (v:=?_) rfl (by kernel_rfl) (fun _ _ _ h=>h) hHeld (Or.inl ⟨by kernel_rfl,?_⟩) ?_
   rotate_left
   ·(intro w hSw;go_simp<;>with_reducible rfl)
   try simp only[Act.put,List.getElem_toArray,List.getElem_cons_zero,List.getElem_cons_succ,List.setIfInBounds_toArray,List.set_cons_zero,List.set_cons_succ]
   refine wpAnyX_take (i:=10) (v:=?_) rfl (by kernel_rfl) (fun _ _ _ h=>h) hHeld (Or.inl ⟨by kernel_rfl,?_⟩) ?_
   rotate_left
   ·(intro w hSw;go_simp<;>with_reducible rfl)
   try simp only[Act.put,List.getElem_toArray,List.getElem_cons_zero,List.getElem_cons_succ,List.setIfInBounds_toArray,List.set_cons_zero,List.set_cons_succ]
   refine wpAnyX_take (i:=11) (v:=?_) rfl (by kernel_rfl) (fun _ _ _ h=>h) hHeld (Or.inl ⟨by kernel_rfl,?_⟩) ?_
   rotate_left
   ·(intro w hSw;obtain⟨x0,x5⟩:=HC.out _ hSw;go_simp<;>with_reducible rfl)
   try simp only[Act.put,List.getElem_toArray,List.getElem_cons_zero,List.getElem_cons_succ,List.setIfInBounds_toArray,List.set_cons_zero,List.set_cons_succ]
   refine wpAnyX_take (i:=12) (v:=?_) rfl (by kernel_rfl) (fun _ _ _ h=>h) hHeld (Or.inl ⟨by kernel_rfl,?_⟩) ?_
   rotate_left
   ·(intro w hSw;go_simp<;>with_reducible rfl)
   try simp only[Act.put,List.getElem_toArray,List.getElem_cons_zero,List.getElem_cons_succ,List.setIfInBounds_toArray,List.set_cons_zero,List.set_cons_succ]
   refine wpAnyX_take (i:=13) (v:=?_) rfl (by kernel_rfl) (fun _ _ _ h=>h) hHeld (Or.inl ⟨by kernel_rfl,?_⟩) ?_
   rotate_left
   ·(intro w hSw;go_simp<;>with_reducible rfl)
   try simp only[Act.put,List.getElem_toArray,List.getElem_cons_zero,List.getElem_cons_succ,List.setIfInBounds_toArray,List.set_cons_zero,List.set_cons_succ]
   refine wpAnyX_take (i:=14) (v:=?_) rfl (by kernel_rfl) (fun _ _ _ h=>h) hHeld (Or.inl ⟨by kernel_rfl,?_⟩) ?_
   rotate_left
   ·(intro w hSw;go_simp<;>with_reducible rfl)
   try simp only[Act.put,List.getElem_toArray,List.getElem_cons_zero,List.getElem_cons_succ,List.setIfInBounds_toArray,List.set_cons_zero,List.set_cons_succ]
   refine wpAnyX_take (i:=15) (v:=?_) rfl (by kernel_rfl) (fun _ _ _ h=>h) hHeld (Or.inl ⟨by kernel_rfl,?_⟩) ?_
   rotate_left
   ·(intro w hSw;obtain⟨x0,x5⟩:=HC.out _ hSw;go_simp<;>with_reducible rfl)
   try simp only[Act.put,List.getElem_toArray,List.getElem_cons_zero,List.getElem_cons_succ,List.setIfInBounds_toArray,List.set_cons_zero,List.set_cons_succ]
   refine wpAnyX_take (i:=16) (v:=?_) rfl (by kernel_rfl) (fun _ _ _ h=>h) hHeld (Or.inl ⟨by kernel_rfl,?_⟩) ?_
   rotate_left
   ·(intro w hSw;go_simp<;>with_reducible rfl)
   try simp only[Act.put,List.getElem_toArray,List.getElem_cons_zero,List.getElem_cons_succ,List.setIfInBounds_toArray,List.set_cons_zero,List.set_cons_succ]
   refine wpAnyX_take (i:=17) (v:=?_) rfl (by kernel_rfl) (fun _ _ _ h=>h) hHeld (Or.inl ⟨by kernel_rfl,?_⟩) ?_
   rotate_left
   ·(intro w hSw;go_simp<;>with_reducible rfl)
   try simp only[Act.put,List.getElem_toArray,List.getElem_cons_zero,List.getElem_cons_succ,List.setIfInBounds_toArray,List.set_cons_zero,List.set_cons_succ]
   refine wpAnyX_done (by kernel_rfl) ?_ _
   obtain⟨w2,hw2⟩:∃x,x=w0:=⟨_,rfl⟩
   rw[← hw2] at hHeld ⊢
   clear hw2
   have HU2:=Lib.hid (HU.out.trans hHeld)
   have HUr:=Lib.hid hHeld
   clear hHeld
   go_wp2_with fail
   go_loopw [6] (fun i wr=>∃m:Nat,m≤k∧i=.int .i64 (m:Int)∧Upd [] w2 wr) (fun i _=>k-(intOf i).toNat)
   case atStart=>exact⟨0,Nat.zero_le _,rfl,Upd.refl _ _⟩
   case round=>
    obtain⟨m,hmk,rfl,hu3⟩:=hrel
    have HU3:=Lib.hid hu3
    clear hu3
    rcases Nat.lt_or_ge m k with hlt2 | hge2
    ·have g1:decide ((m:Int)<(k:Int))=true:=decide_eq_true (by omega)
     have g2:decide (m<k)=true:=decide_eq_true hlt2
     have j0:(0:Int)≤(m:Int):=by omega
     have j1:(m:Int)<(l.length:Int):=by omega
     obtain⟨g',cap',da',dc',e,hd1,_⟩:=(HP.out.below (HU2.out.trans HU3.out)).get m (by omega)
     cases e
     have hne:=HAP.out m hlt2
     obtain⟨y,hy⟩:∃y,y=l[m].1:=⟨_,rfl⟩
     rw[← hy] at hd1 hne
     have hbe:(y == x)=false:=by rw[beq_eq_false_iff_ne];exact hne
     have hbe2:decide (y=x)=false:=decide_eq_false hne
     have HD:Hid (∀w',Upd [] wr w'→w'.cell? ⟨g,m*2,none⟩=some (.int .i64 y)∧w'.cell? ⟨g,k*2,none⟩=some (.int .i64 x)):=by
      show ∀w',_
      intro w' hu
      exact⟨cell_updW hd1 hu (by simp),(HC.out _ ((HUr.out.trans HU3.out).trans hu)).1⟩
     clear hy hne hd1
     go_wp2_with fail
     refine wp_region_x (fun w'=>Upd [] wr w') [] (by kernel_rfl) (Upd.refl _ _).drew (fun hHeld=>?_)
     generalize wr.drew=w0 at hHeld ⊢
     refine wpAnyX_take (i:=0) (v:=?_) rfl (by kernel_rfl) (fun _ _ _ h=>h) hHeld (Or.inl ⟨by kernel_rfl,?_⟩) ?_
     rotate_left
     ·(intro w hSw;go_simp<;>with_reducible rfl)
     try simp only[Act.put,List.getElem_toArray,List.getElem_cons_zero,List.getElem_cons_succ,List.setIfInBounds_toArray,List.set_cons_zero,List.set_cons_succ]
     refine wpAnyX_take (i:=1) (v:=?_) rfl (by kernel_rfl) (fun _ _ _ h=>h) hHeld (Or.inl ⟨by kernel_rfl,?_⟩) ?_
     rotate_left
     ·(intro w hSw;go_simp<;>with_reducible rfl)
     try simp only[Act.put,List.getElem_toArray,List.getElem_cons_zero,List.getElem_cons_succ,List.setIfInBounds_toArray,List.set_cons_zero,List.set_cons_succ]
     refine wpAnyX_take (i:=2) (v:=?_) rfl (by kernel_rfl) (fun _ _ _ h=>h) hHeld (Or.inl ⟨by kernel_rfl,?_⟩) ?_
     rotate_left
     ·(intro w hSw;go_simp<;>with_reducible rfl)
     try simp only[Act.put,List.getElem_toArray,List.getElem_cons_zero,List.getElem_cons_succ,List.setIfInBounds_toArray,List.set_cons_zero,List.set_cons_succ]
     refine wpAnyX_take (i:=3) (v:=?_) rfl (by kernel_rfl) (fun _ _ _ h=>h) hHeld (Or.inl ⟨by kernel_rfl,?_⟩) ?_
     rotate_left
     ·(intro w hSw;go_simp<;>with_reducible rfl)
     try simp only[Act.put,List.getElem_toArray,List.getElem_cons_zero,List.getElem_cons_succ,List.setIfInBounds_toArray,List.set_cons_zero,List.set_cons_succ]
     refine wpAnyX_take (i:=4) (v:=?_) rfl (by kernel_rfl) (fun _ _ _ h=>h) hHeld (Or.inl ⟨by kernel_rfl,?_⟩) ?_
     rotate_left
     ·(intro w hSw;obtain⟨x0,x1⟩:=HD.out _ hSw;go_simp<;>with_reducible rfl)
     try simp only[Act.put,List.getElem_toArray,List.getElem_cons_zero,List.getElem_cons_succ,List.setIfInBounds_toArray,List.set_cons_zero,List.set_cons_succ]
     refine wpAnyX_take (i:=5) (v:=?_) rfl (by kernel_rfl) (fun _ _ _ h=>h) hHeld (Or.inl ⟨by kernel_rfl,?_⟩) ?_
     rotate_left
     ·(intro w hSw;go_simp<;>with_reducible rfl)
     try simp only[Act.put,List.getElem_toArray,List.getElem_cons_zero,List.getElem_cons_succ,List.setIfInBounds_toArray,List.set_cons_zero,List.set_cons_succ]
     refine wpAnyX_take (i:=6) (v:=?_) rfl (by kernel_rfl) (fun _ _ _ h=>h) hHeld (Or.inl ⟨by kernel_rfl,?_⟩) ?_
     rotate_left
     ·(intro w hSw;go_simp<;>with_reducible rfl)
     try simp only[Act.put,List.getElem_toArray,List.getElem_cons_zero,List.getElem_cons_succ,List.setIfInBounds_toArray,List.set_cons_zero,List.set_cons_succ]
     refine wpAnyX_take (i:=7) (v:=?_) rfl (by kernel_rfl) (fun _ _ _ h=>h) hHeld (Or.inl ⟨by kernel_rfl,?_⟩) ?_
     rotate_left
     ·(intro w hSw;go_simp<;>with_reducible rfl)
     try simp only[Act.put,List.getElem_toArray,List.getElem_cons_zero,List.getElem_cons_succ,List.setIfInBounds_toArray,List.set_cons_zero,List.set_cons_succ]
     refine wpAnyX_take (i:=8) (v:=?_) rfl (by kernel_rfl) (fun _ _ _ h=>h) hHeld (Or.inl ⟨by kernel_rfl,?_⟩) ?_
     rotate_left
     ·(intro w hSw;go_simp<;>with_reducible rfl)
     try simp only[Act.put,List.getElem_toArray,List.getElem_cons_zero,List.getElem_cons_succ,List.setIfInBounds_toArray,List.set_cons_zero,List.set_cons_succ]
     refine wpAnyX_take (i:=9) (v:=?_) rfl (by kernel_rfl) (fun _ _ _ h=>h) hHeld (Or.inl ⟨by kernel_rfl,?_⟩) ?_
     rotate_left
     ·(intro w hSw;obtain⟨x0,x1⟩:=HD.out _ hSw;go_simp<;>with_reducible rfl)
     try simp only[Act.put,List.getElem_toArray,List.getElem_cons_zero,List.getElem_cons_succ,List.setIfInBounds_toArray,List.set_cons_zero,List.set_cons_succ]
     refine wpAnyX_take (i:=10) (v:=?_) rfl (by kernel_rfl) (fun _ _ _ h=>h) hHeld (Or.inl ⟨by kernel_rfl,?_⟩) ?_
     rotate_left
     ·(intro w hSw;go_simp<;>with_reducible rfl)
     try simp only[Act.put,List.getElem_toArray,List.getElem_cons_zero,List.getElem_cons_succ,List.setIfInBounds_toArray,List.set_cons_zero,List.set_cons_succ]
     refine wpAnyX_done (by kernel_rfl) ?_ _
     have HU4:=Lib.hid (HU3.out.trans hHeld)
     clear hHeld
     go_wp2_with fail
     exact⟨⟨m+1,by omega,by go_num,HU4.out⟩,by simp[intOf];omega⟩
    ·obtain rfl:m=k:=by omega
     have g1:decide ((m:Int)<(m:Int))=false:=by simp
     have g2:decide (m<m)=false:=by simp
     have hc2:=cell_updW HC2.out (HUr.out.trans HU3.out) (by simp)
     go_wp2_with fail
     first
      | exact⟨⟨m+1,by omega,by go_num,HU2.out.trans HU3.out⟩,by simp[intOf];omega⟩
      | (refine⟨⟨_,_,⟨m+1,by omega,by go_num,HU2.out.trans HU3.out⟩,rfl⟩,by simp[intOf];omega⟩)
      | (trace_state;fail)
  ·obtain rfl:k=l.length:=by omega
   have e1:decide ((l.length:Int)<(l.length:Int))=false:=by simp
   have e2:decide (l.length<l.length)=false:=by simp
   obtain⟨_,c1,_⟩:=(HH.out.below HU.out).cells
   have hf:=HF.out
   by_cases h40:40<l.length
   ·have g1:decide ((40:Int)<(l.length:Int))=true:=decide_eq_true (by omega)
    have g2:decide (40<l.length)=true:=decide_eq_true h40
    rw[if_pos (.inl h40)] at hf
    have HF2:=Lib.hid hf
    clear hf h40
    go_wp2_with fail
    go_ret
    exact⟨by rw[HF2.out];rfl,HU.out⟩
   ·have g1:decide ((40:Int)<(l.length:Int))=false:=decide_eq_false (by omega)
    have g2:decide (40<l.length)=false:=decide_eq_false h40
    by_cases hrg:J.last.ring≤l.length
    ·have g3:decide ((J.last.ring:Int)≤(l.length:Int))=true:=decide_eq_true (by omega)
     have g4:decide (J.last.ring≤l.length)=true:=decide_eq_true hrg
     rw[if_pos (.inr hrg)] at hf
     have HF2:=Lib.hid hf
     clear hf h40 hrg
     go_wp2_with fail
     go_ret
     exact⟨by rw[HF2.out];rfl,HU.out⟩
    ·have g3:decide ((J.last.ring:Int)≤(l.length:Int))=false:=decide_eq_false (by omega)
     have g4:decide (J.last.ring≤l.length)=false:=decide_eq_false hrg
     rw[if_neg (by rintro(a | a);exact h40 a;exact hrg a)] at hf
     have HF2:=Lib.hid hf
     clear hf h40 hrg
     go_wp2_with fail
     go_ret
     exact⟨by rw[HF2.out];rfl,HU.out⟩
end
end Go.Proofs.YtplppdbdfhkljaaGreat
end
