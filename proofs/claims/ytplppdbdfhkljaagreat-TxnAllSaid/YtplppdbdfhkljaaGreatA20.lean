/-
  The document's Commit. (Written by tools/put/rdO.py.)
-/
import Derived.Test.YtplppdbdfhkljaaGreatA14
import Derived.Test.YtplppdbdfhkljaaGreatA17
set_option maxRecDepth 100000
set_option maxHeartbeats 16000000
section
set_option linter.unusedSimpArgs false
set_option linter.unusedVariables false
namespace Go.Proofs.YtplppdbdfhkljaaGreat
open Go.RowKit Go.MapKept Go.ChangeMaps
section
attribute [-go_sem] loadCells storeCells Instr.build run_string_add_if run_slice_l run_slice_h
def PutsHi(w:World)(B:Nat)(v:Value)(l:List Put):Prop:=
 ∃ps:List (Int × Value),w.ownsRow B 110 2 v ps.length (putCells ps)∧ps.length=l.length∧∀(k:Nat) (p:Int × Value),ps[k]?=some p→∃q:Put,l[k]?=some q∧p.1=q.1∧Rd w p.2 q.2∧∀b off n c,p.2=.slice (some ⟨b,off,none⟩) n c→B≤b
theorem PutsHi.at_{w:World}{B:Nat}{v:Value}{l:List Put}(h:PutsHi w B v l):PutsAt w v l:=by
 obtain⟨ps,h1,h2,h3⟩:=h
 refine⟨ps,⟨h1.1,h1.2.imp id ?_⟩,h2,fun k p hp=>?_⟩
 ·rintro⟨g,cap,cur,e1,_,e3⟩
  exact⟨g,cap,cur,e1,Nat.zero_le _,e3⟩
 ·obtain⟨q,a,b,c,_⟩:=h3 k p hp
  exact⟨q,a,b,c⟩
theorem PutsHi.upd{w w':World}{B:Nat}{v:Value}{l:List Put}(h:PutsHi w B v l){S:List Nat}(hu:Upd S w w')(hS:∀k,k∈S→k<B):PutsHi w' B v l:=by
 obtain⟨ps,h1,h2,h3⟩:=h
 refine⟨ps,⟨h1.1,h1.2.imp id ?_⟩,h2,fun k p hp=>?_⟩
 ·rintro⟨g,cap,cur,e1,e2,e3,e4⟩
  exact⟨g,cap,cur,e1,e2,(hu.block _ (blk_lt e3) (fun q=>by have:=hS g q;omega)).trans e3,e4⟩
 ·obtain⟨q,a,b,⟨ao,cap,e,hc,hh⟩,d⟩:=h3 k p hp
  refine⟨q,a,b,⟨ao,cap,e,hc,fun hl=>?_⟩,d⟩
  obtain⟨bb,off,ea,hcell⟩:=hh hl
  have hbB:=d bb off _ _ (by rw[e,ea])
  exact⟨bb,off,ea,fun i hi=>cell_updW (hcell i hi) hu (fun x=>by have:=hS bb x;omega)⟩
theorem PutsHi.below{w w':World}{B:Nat}{v:Value}{l:List Put}(h:PutsHi w B v l)(hu:Upd [] w w'):PutsHi w' B v l:=h.upd hu (by simp)
theorem undBs:Tryz.prog.underlying 34=some (.slice (Tryz.prog.elem 34)):=by kernel_rfl
theorem sizeBs(w:World):(Go.sizeOf (Tryz.prog.elem 34)).run Tryz.prog w=.ok 1 w:=by kernel_rfl
theorem add_zeroB(a:Addr):a.add 0=a:=by unfold Addr.add;split<;>simp_all
theorem bs_front(a:Option Addr)(k n c:Nat)(hk:k≤c)(w:World):(Instr.slice 34 (.slice a n c) none (some (.int .i64 (k:Int))) none).run Tryz.prog w=.ok (.slice a k c) w:=by
 rw[run_slice_h (P:=Tryz.prog) w 34 a n c undBs .i64 (k:Int) (by omega) (by omega),sizeBs]
 simp[Result.andThen,sliced]
 intro _
 cases a with
 | none=>rfl
 | some a=>simp[add_zeroB]
theorem bs_back(b off k n c:Nat)(hk:k≤n)(hc:k<c)(w:World):(Instr.slice 34 (.slice (some ⟨b,off,none⟩) n c) (some (.int .i64 (k:Int))) none none).run Tryz.prog w=.ok (.slice (some ⟨b,off+k,none⟩) (n-k) (c-k)) w:=by
 rw[run_slice_l (P:=Tryz.prog) w 34 (some ⟨b,off,none⟩) n c undBs .i64 (k:Int) (by omega) (by omega),sizeBs]
 simp[Result.andThen,sliced,addr_add]
 omega
theorem Rd.take8{w:World}{b off n c k:Nat}{l:List UInt8}(h:Rd w (.slice (some ⟨b,off,none⟩) n c) l)(hl:l.length=n)(hk:k≤n):Rd w (.slice (some ⟨b,off,none⟩) k c) (l.take k):=by
 obtain⟨ao,cap,e,hc,hh⟩:=h
 cases e
 refine⟨_,_,by rw[List.length_take,hl,Nat.min_eq_left hk],by rw[List.length_take];omega,fun hp=>?_⟩
 rw[List.length_take] at hp
 obtain⟨b',off',e2,hcell⟩:=hh (by omega)
 refine⟨b',off',e2,fun i hi=>?_⟩
 rw[List.length_take] at hi
 have:=hcell i (by omega)
 rw[this];simp
theorem Rd.drop8{w:World}{b off n c k:Nat}{l:List UInt8}(h:Rd w (.slice (some ⟨b,off,none⟩) n c) l)(hl:l.length=n)(hk:k≤n):Rd w (.slice (some ⟨b,off+k,none⟩) (n-k) (c-k)) (l.drop k):=by
 obtain⟨ao,cap,e,hc,hh⟩:=h
 cases e
 refine⟨_,_,by rw[List.length_drop,hl],by rw[List.length_drop];omega,fun hp=>?_⟩
 rw[List.length_drop] at hp
 obtain⟨b',off',e2,hcell⟩:=hh (by omega)
 cases e2
 refine⟨b,off+k,rfl,fun i hi=>?_⟩
 rw[List.length_drop] at hi
 have:=hcell (k+i) (by omega)
 rw[show off+k+i=off+(k+i) by omega,this];simp
theorem ckD_zero{J:Jn}{D:Dk}(h:D.On)(hok:D.Ok)(hJ:J.Ok D.n)(hm:¬(J.may D≠0))(hn:J.last.number<4611686018427387904):(J.ckD D).2=0:=by
 unfold Jn.ckD
 rw[if_neg hm]
 split
 ·rfl
 ·rw[if_neg (by omega),(settleD_eq h hok hJ).1]
theorem ck_same{J J1:Jn}{D D1:Dk}{l:List Put}(h:D.On)(hok:D.Ok)(hJ:J.Ok D.n)(h1:J1=if J.tight l then J.ck D else J)(h2:D1=if J.tight l then(J.ckD D).1 else D):J1.turn=J.turn∧J1.place=J.place∧J1.last.ring=J.last.ring∧D1.n=D.n:=by
 by_cases ht:J.tight l
 ·rw[if_pos ht] at h1 h2
  unfold Jn.ck at h1
  unfold Jn.ckD at h2
  by_cases a1:J.may D≠0
  ·rw[if_pos a1] at h1 h2;subst h1 h2;exact⟨rfl,rfl,rfl,rfl⟩
  ·rw[if_neg a1] at h1 h2
   by_cases a2:J.keys D.n=[]
   ·rw[if_pos a2] at h1 h2;subst h1 h2;exact⟨rfl,rfl,rfl,rfl⟩
   ·rw[if_neg a2] at h1 h2
    by_cases a3:4611686018427387904≤J.last.number
    ·rw[if_pos a3] at h1 h2;subst h1 h2;exact⟨rfl,rfl,rfl,rfl⟩
    ·rw[if_neg a3] at h1 h2
     have hs:=settleD_eq h hok hJ
     rw[settle_eq h hok hJ] at h1
     rw[hs.1] at h2
     subst h1 h2
     exact⟨rfl,rfl,rfl,hs.2.2.2.2.2⟩
 ·rw[if_neg ht] at h1 h2;subst h1 h2;exact⟨rfl,rfl,rfl,rfl⟩
theorem Jn.at_place{J:Jn}{n:Nat}(h:J.Ok n):J.at J.place=2+J.place:=by unfold Jn.at;rw[Nat.mod_eq_of_lt h.place]
set_option maxRecDepth 100000 in
set_option maxHeartbeats 32000000 in
theorem rcom_spec{w:World}{q:QG}{J:Jn}{D:Dk}(h:RjmAt w q J D){B:Nat}{v:Value}{l:List Put}(hp:PutsHi w B v l)(hB:∀k,k∈q.all→k<B)(hg:PutsGood (J.homes D.n) l)(hnum:J.last.number<4611686018427387000)(htn:J.turn<4611686018427387000)(hu:J.used=0↔J.keys D.n=[]) :
  Calls Tryz.prog 132 #[.pointer (some ⟨q.jb,0,none⟩),v] w fun e w'=>e=.returned (.int .i64 (J.comD D l).2)∧RjmAt w' q (J.com D l) (J.comD D l).1∧Upd q.all w w':=by
 obtain⟨av,cv,rfl⟩:=hp.at_.shape
 have HO:=Lib.hid (rover_spec h)
 have HH:=Lib.hid h
 have HP:=Lib.hid hp
 have HG:=Lib.hid hg
 have HBB:=Lib.hid hB
 have HN:=Lib.hid hnum
 have HT:=Lib.hid htn
 have HU0:=Lib.hid hu
 have hl100:=hg.n
 obtain⟨m,hm⟩:∃m,m=decide (J.may D≠0):=⟨_,rfl⟩
 rw[← hm] at HO
 have HM:=Lib.hid hm
 have hge:decide ((4611686018427387903:Int)≤J.turn)=false:=decide_eq_false (by omega)
 clear h hp hg hnum htn hu hm hB
 go_enter Tryz.func132,Tryz.ntmps132
 go_wp2_with fail
 refine HO.out.mono ?_
 rintro e w1 ⟨rfl,hu1⟩
 have HU1:=Lib.hid hu1
 have H1:=Lib.hid (HH.out.below hu1)
 have HP1:=Lib.hid (HP.out.below hu1)
 clear hu1
 cases m with
 | true=>
  have HR:Hid (J.comD D l=(D,8)∧J.com D l=J):=by
   show _∧_
   unfold Jn.comD Jn.com
   rw[if_pos (of_decide_eq_true HM.out.symm),if_pos (of_decide_eq_true HM.out.symm)]
   exact⟨rfl,rfl⟩
  go_wp2_with fail
  go_ret
  rw[HR.out.1,HR.out.2]
  exact⟨rfl,H1.out,HU1.out.mono (by simp)⟩
 | false=>
 have hmay:¬(J.may D≠0):=of_decide_eq_false HM.out.symm
 have HMY:=Lib.hid hmay
 clear hmay
 have HRT:=Lib.hid (rright_spec H1.out HP1.out.at_ HG.out)
 obtain⟨ft,hft⟩:∃ft,ft=J.fits D.n l:=⟨_,rfl⟩
 rw[← hft] at HRT
 have HFT:=Lib.hid hft
 clear hft
 go_wp2_with fail
 refine HRT.out.mono ?_
 rintro e w2 ⟨rfl,hu2⟩
 have HU2:=Lib.hid (HU1.out.trans hu2)
 have H2:=Lib.hid (H1.out.below hu2)
 have HP2:=Lib.hid (HP1.out.below hu2)
 clear hu2
 by_cases hf0:ft=0
 rotate_left
 ·have d1:(ft == 0)=false:=by rw[beq_eq_false_iff_ne];exact hf0
  have HR:Hid (J.comD D l=(D,ft)∧J.com D l=J):=by
   show _∧_
   have hf1:J.fits D.n l≠0:=by rw[← HFT.out];exact hf0
   unfold Jn.comD Jn.com
   rw[if_neg HMY.out,if_neg HMY.out,if_pos hf1,if_pos hf1,HFT.out]
   exact⟨rfl,rfl⟩
  clear hf0
  go_wp2_with fail
  go_ret
  rw[HR.out.1,HR.out.2]
  exact⟨rfl,H2.out,HU2.out.mono (by simp)⟩
 have d1:(ft == 0)=true:=by rw[hf0];rfl
 have hf1:¬(J.fits D.n l≠0):=by rw[← HFT.out,hf0];decide
 have HF1:=Lib.hid hf1
 have HFZ:=Lib.hid hf0
 clear hf0 hf1
 rcases Nat.eq_zero_or_pos l.length with hl0 | hl0
 ·have d2:((l.length:Int) == 0)=true:=by rw[hl0];rfl
  have hlnil:l=[]:=List.length_eq_zero_iff.1 hl0
  have HR:Hid (J.comD D l=(D,0)∧J.com D l=J):=by
   show _∧_
   unfold Jn.comD Jn.com
   rw[if_neg HMY.out,if_neg HMY.out,if_neg HF1.out,if_neg HF1.out,if_pos hlnil,if_pos hlnil]
   exact⟨rfl,rfl⟩
  clear hl0 hlnil
  go_wp2_with fail
  go_ret
  rw[HR.out.1,HR.out.2]
  exact⟨by rw[← HFZ.out];rfl,H2.out,HU2.out.mono (by simp)⟩
 have d2:((l.length:Int) == 0)=false:=by rw[beq_eq_false_iff_ne];omega
 have hlne:l≠[]:=fun e=>by rw[e] at hl0;simp at hl0
 have h40:l.length≤40∧l.length<J.last.ring:=by
  have:=HG.out.fits (J:=J)
  have h3:=HF1.out
  rw[this] at h3
  by_cases e:40<l.length∨J.last.ring≤l.length
  ·rw[if_pos e] at h3;exact absurd (by decide) h3
  ·omega
 have HL40:=Lib.hid h40
 have HLN:=Lib.hid hlne
 obtain⟨_,c1,_,c3,_,_,_,_,c8,_,_⟩:=H2.out.cells
 obtain⟨J1,hJ1⟩:∃J1,J1=if J.tight l then J.ck D else J:=⟨_,rfl⟩
 obtain⟨D1,hD1⟩:∃D1,D1=if J.tight l then(J.ckD D).1 else D:=⟨_,rfl⟩
 have HJD:=Lib.hid (And.intro hJ1 hD1)
 have hrg:=H2.out.ok.ring1
 have hus:=H2.out.ok.used
 obtain⟨bt,hbt⟩:∃b,b=decide (J.tight l):=⟨_,rfl⟩
 have hcmp:decide ((J.last.ring:Int)-(J.used:Int)<(l.length:Int)+1)=bt:=by rw[hbt];rfl
 have HBT:=Lib.hid hbt
 have HW1:Hid (IntKind.i64.wrap ((l.length:Int)+1)=(l.length:Int)+1∧IntKind.i64.wrap ((J.last.ring:Int)-(J.used:Int))=(J.last.ring:Int)-(J.used:Int)):=by
  show _∧_
  rw[IntKind.wrap_i64,IntKind.wrap_i64]
  omega
 have HCM:=Lib.hid hcmp
 have HC8:Hid (∀w',Upd [] w2 w'→w'.cell? ⟨q.jb,1,none⟩=some (.int .i64 (J.last.ring:Int))∧w'.cell? ⟨q.jb,8,none⟩=some (.int .i64 (J.used:Int))):=by
  show ∀w',_
  intro w' hu
  exact⟨cell_updW c1 hu (by simp),cell_updW c8 hu (by simp)⟩
 have HCK:=Lib.hid (fun w' hu=>rck_spec (w:=w') (H2.out.below hu) (by have:=HN.out;omega) HU0.out)
 clear hlne h40 hJ1 hD1 hrg hus hbt hcmp c1 c8 hl0
 go_wp2_with fail
 refine wp_region_xL (fun w'=>Upd [] w2 w') [] (by kernel_rfl) (by simp only[List.size_toArray,List.length_cons,List.length_nil,Nat.reduceAdd];exact rfl) (by simp only[List.replicate_succ,List.replicate_zero];exact rfl) (Upd.refl _ _).drew (fun hHeld=>?_)
 generalize w2.drew=w0 at hHeld ⊢
 refine takeL (i:=0) (v:=?_) rfl rfl (by kernel_rfl) (fun _ _ _ h=>h) hHeld (Or.inl ⟨by kernel_rfl,?_⟩) (by dsimp only[List.set_cons_succ,List.set_cons_zero]) (by dsimp only[List.set_cons_succ,List.set_cons_zero]) ?_
 rotate_left
 ·(intro w hSw;go_simp<;>with_reducible rfl)
 refine takeL (i:=1) (v:=?_) rfl rfl (by kernel_rfl) (fun _ _ _ h=>h) hHeld (Or.inl ⟨by kernel_rfl,?_⟩) (by dsimp only[List.set_cons_succ,List.set_cons_zero]) (by dsimp only[List.set_cons_succ,List.set_cons_zero]) ?_
 rotate_left
 ·(intro w hSw;go_simp<;>with_reducible rfl)
 refine takeL (i:=3) (v:=?_) rfl rfl (by kernel_rfl) (fun _ _ _ h=>h) hHeld (Or.inl ⟨by kernel_rfl,?_⟩) (by dsimp only[List.set_cons_succ,List.set_cons_zero]) (by dsimp only[List.set_cons_succ,List.set_cons_zero]) ?_
 rotate_left
 ·(intro w hSw;go_simp<;>with_reducible rfl)
 refine takeL (i:=4) (v:=?_) rfl rfl (by kernel_rfl) (fun _ _ _ h=>h) hHeld (Or.inl ⟨by kernel_rfl,?_⟩) (by dsimp only[List.set_cons_succ,List.set_cons_zero]) (by dsimp only[List.set_cons_succ,List.set_cons_zero]) ?_
 rotate_left
 ·(intro w hSw;go_simp<;>with_reducible rfl)
 refine takeL (i:=5) (v:=?_) rfl rfl (by kernel_rfl) (fun _ _ _ h=>h) hHeld (Or.inl ⟨by kernel_rfl,?_⟩) (by dsimp only[List.set_cons_succ,List.set_cons_zero]) (by dsimp only[List.set_cons_succ,List.set_cons_zero]) ?_
 rotate_left
 ·(intro w hSw;go_simp<;>with_reducible rfl)
 refine takeL (i:=7) (v:=?_) rfl rfl (by kernel_rfl) (fun _ _ _ h=>h) hHeld (Or.inl ⟨by kernel_rfl,?_⟩) (by dsimp only[List.set_cons_succ,List.set_cons_zero]) (by dsimp only[List.set_cons_succ,List.set_cons_zero]) ?_
 rotate_left
 ·(intro w hSw;go_simp<;>with_reducible rfl)
 refine takeL (i:=8) (v:=?_) rfl rfl (by kernel_rfl) (fun _ _ _ h=>h) hHeld (Or.inl ⟨by kernel_rfl,?_⟩) (by dsimp only[List.set_cons_succ,List.set_cons_zero]) (by dsimp only[List.set_cons_succ,List.set_cons_zero]) ?_
 rotate_left
 ·(intro w hSw;go_simp<;>with_reducible rfl)
 refine takeL (i:=9) (v:=?_) rfl rfl (by kernel_rfl) (fun _ _ _ h=>h) hHeld (Or.inl ⟨by kernel_rfl,?_⟩) (by dsimp only[List.set_cons_succ,List.set_cons_zero]) (by dsimp only[List.set_cons_succ,List.set_cons_zero]) ?_
 rotate_left
 ·(intro w hSw;go_simp<;>with_reducible rfl)
 refine takeL (i:=2) (v:=?_) rfl rfl (by kernel_rfl) (fun _ _ _ h=>h) hHeld (Or.inl ⟨by kernel_rfl,?_⟩) (by dsimp only[List.set_cons_succ,List.set_cons_zero]) (by dsimp only[List.set_cons_succ,List.set_cons_zero]) ?_
 rotate_left
 ·(intro w hSw;have wq:=HW1.out.1;go_simp<;>with_reducible rfl)
 refine takeL (i:=6) (v:=?_) rfl rfl (by kernel_rfl) (fun _ _ _ h=>h) hHeld (Or.inl ⟨by kernel_rfl,?_⟩) (by dsimp only[List.set_cons_succ,List.set_cons_zero]) (by dsimp only[List.set_cons_succ,List.set_cons_zero]) ?_
 rotate_left
 ·(intro w hSw;obtain⟨x1,x8⟩:=HC8.out _ hSw;go_simp<;>with_reducible rfl)
 refine takeL (i:=10) (v:=?_) rfl rfl (by kernel_rfl) (fun _ _ _ h=>h) hHeld (Or.inl ⟨by kernel_rfl,?_⟩) (by dsimp only[List.set_cons_succ,List.set_cons_zero]) (by dsimp only[List.set_cons_succ,List.set_cons_zero]) ?_
 rotate_left
 ·(intro w hSw;obtain⟨x1,x8⟩:=HC8.out _ hSw;go_simp<;>with_reducible rfl)
 refine takeL (i:=11) (v:=?_) rfl rfl (by kernel_rfl) (fun _ _ _ h=>h) hHeld (Or.inl ⟨by kernel_rfl,?_⟩) (by dsimp only[List.set_cons_succ,List.set_cons_zero]) (by dsimp only[List.set_cons_succ,List.set_cons_zero]) ?_
 rotate_left
 ·(intro w hSw;have wq:=HW1.out.2;go_simp<;>with_reducible rfl)
 refine takeL (i:=12) (v:=?_) rfl rfl (by kernel_rfl) (fun _ _ _ h=>h) hHeld (Or.inl ⟨by kernel_rfl,?_⟩) (by dsimp only[List.set_cons_succ,List.set_cons_zero]) (by dsimp only[List.set_cons_succ,List.set_cons_zero]) ?_
 rotate_left
 ·(intro w hSw;have wq:=HCM.out;go_simp<;>with_reducible rfl)
 refine wpAnyX_done (by kernel_rfl) ?_ _
 obtain⟨w3,hw3⟩:∃x,x=w0:=⟨_,rfl⟩
 rw[← hw3] at hHeld ⊢
 clear hw3
 have HU3:=Lib.hid (HU2.out.trans hHeld)
 have H3:=Lib.hid (H2.out.below hHeld)
 have HP3:=Lib.hid (HP2.out.below hHeld)
 have HCK3:=Lib.hid (HCK.out w3 hHeld)
 have hz:(J.ckD D).2=0:=ckD_zero H3.out.disk.on H3.out.disk.ok H3.out.ok HMY.out (by have:=HN.out;omega)
 rw[hz] at HCK3
 clear hHeld hz c3
 go_upto_if 43 with(fail)
 go_cut [5] (fun s wx=>s=.int .i64 0∧RjmAt wx q J1 D1∧PutsHi wx B (.slice av l.length cv) l∧Upd q.all w wx)
 case first=>
  cases bt with
  | true=>
   go_wp2_with fail
   refine HCK3.out.mono ?_
   rintro e w4 ⟨rfl,hj4,hu4⟩
   have HJ4:=Lib.hid hj4
   have HU4:=Lib.hid hu4
   clear hj4 hu4
   go_wp2_with fail
   go_meet
   have htt:J.tight l:=of_decide_eq_true HBT.out.symm
   exact⟨rfl,by rw[HJD.out.1,HJD.out.2,if_pos htt,if_pos htt];exact HJ4.out,HP3.out.upd HU4.out HBB.out,(HU3.out.mono (by simp)).trans HU4.out⟩
  | false=>
   go_wp2_with fail
   go_meet
   have htt:¬J.tight l:=of_decide_eq_false HBT.out.symm
   exact⟨rfl,by rw[HJD.out.1,HJD.out.2,if_neg htt,if_neg htt];exact H3.out,HP3.out,HU3.out.mono (by simp)⟩
 case rest=>
 obtain⟨rfl,hjx,hpx,hux⟩:=hcut
 obtain⟨wx,rfl⟩:∃x:World,x=wc:=⟨_,rfl⟩
 have HX:=Lib.hid hjx
 have HPX:=Lib.hid hpx
 have HUX:=Lib.hid hux
 have HSM:Hid (J1.turn=J.turn∧J1.place=J.place∧J1.last.ring=J.last.ring∧D1.n=D.n):=Lib.hid (ck_same H3.out.disk.on H3.out.disk.ok H3.out.ok HJD.out.1 HJD.out.2)
 clear hjx hpx hux
 obtain⟨a1,a2,a3,a4⟩:=HSM.out
 have hJ1ok:=HX.out.ok
 have hDk1:=HX.out.disk.ok
 have htn1:J1.turn<4611686018427387000:=by have:=HT.out;omega
 have htn0:=hJ1ok.turn0
 have hrg1:=hJ1ok.ring1
 have hrg0:=hJ1ok.ring0
 have hpl1:=hJ1ok.place
 have HLIM:=Lib.hid (And.intro htn1 (And.intro htn0 (And.intro hrg1 (And.intro hrg0 hpl1))))
 have HOK1:=Lib.hid hJ1ok
 obtain⟨hn40,hnrg⟩:=HL40.out
 have hnrg1:l.length<J1.last.ring:=by omega
 have HLR:=Lib.hid (And.intro hn40 hnrg1)
 have HG1:Hid (PutsGood (J.homes D.n) l):=HG
 have HPD:=Lib.hid (putD_eq HX.out.disk.on hJ1ok HG.out hn40)
 obtain⟨t2,ht2⟩:∃t2,t2=2*J1.turn:=⟨_,rfl⟩
 obtain⟨t3,ht3⟩:∃t3,t3=2*J1.turn+1:=⟨_,rfl⟩
 have HTT:Hid (IntKind.u64.wrap (2*J1.turn)=t2∧IntKind.u64.wrap (t2+1)=t3):=by
  show _∧_
  rw[IntKind.wrap_u64,IntKind.wrap_u64]
  omega
 have HE3:Hid (∀w,Calls Tryz.prog 125 #[.int .u64 t3] w fun e w'=>e=.returned (.string (str (be 8 (2*J1.turn+1).toNat)))∧Upd [] w w'):=by
  show ∀w,_
  intro w
  have:=reightS_spec w t3.toNat (by omega)
  rw[show((t3.toNat:Nat):Int)=t3 by omega,ht3] at this
  rw[ht3];exact this
 have HE2:Hid (∀w,Calls Tryz.prog 125 #[.int .u64 t2] w fun e w'=>e=.returned (.string (str (be 8 (2*J1.turn).toNat)))∧Upd [] w w'):=by
  show ∀w,_
  intro w
  have:=reightS_spec w t2.toNat (by omega)
  rw[show((t2.toNat:Nat):Int)=t2 by omega,ht2] at this
  rw[ht2];exact this
 have HPN:=Lib.hid (rput_spec (w:=wx) (BRow.nil wx wx.heap.size).rd (by simp) 2 l.length (by omega) (by omega) (by omega))
 have hwl:IntKind.u64.wrap (l.length:Int)=(l.length:Int):=by rw[IntKind.wrap_u64];omega
 have hwl2:(l.length:Int) % 18446744073709551616=(l.length:Int):=by omega
 obtain⟨A0,hA0⟩:∃A0,A0=J1.at J1.place:=⟨_,rfl⟩
 have hA0':A0=2+J1.place:=by rw[hA0,Jn.at_place hJ1ok]
 have HA0:=Lib.hid hA0
 have HW0:Hid (IntKind.i64.wrap (2+(J1.place:Int))=(A0:Int)):=by show _=_;rw[IntKind.wrap_i64,hA0'];omega
 obtain⟨xe,hxe⟩:∃x,x=be 8 (2*J1.turn+1).toNat:=⟨_,rfl⟩
 rw[← hxe] at HE3
 have lxe:xe.length=8:=by rw[hxe,be_length]
 obtain⟨xn,hxn⟩:∃x,x=be 2 l.length:=⟨_,rfl⟩
 have lxn:xn.length=2:=by rw[hxn,be_length]
 have HXE:=Lib.hid (And.intro hxe hxn)
 clear a1 a2 a3 a4 hJ1ok hDk1 htn1 htn0 hrg1 hrg0 hpl1 hn40 hnrg hnrg1 ht2 ht3 hA0 hA0' hxe
 go_wp2_with fail
 refine HPN.out.mono ?_
 rintro e wy ⟨an,cn,rfl,hbn,huy⟩
 rw[List.nil_append,← hxn] at hbn
 rw[List.length_nil,Nat.zero_add] at hbn
 have HBN:=Lib.hid hbn
 have HY:=Lib.hid (HX.out.below huy)
 have HPY:=Lib.hid (HPX.out.below huy)
 have HUY:=Lib.hid (HUX.out.trans (huy.mono (by simp)))
 clear hbn huy hxn hwl hwl2
 have HCY:Hid (∀w',Upd [] wy w'→w'.cell? ⟨q.jb,3,none⟩=some (.int .u64 J1.turn)∧w'.cell? ⟨q.jb,0,none⟩=some (.pointer (some ⟨q.r.rb,0,none⟩))∧w'.cell? ⟨q.jb,4,none⟩=some (.int .i64 (J1.place:Int))):=by
  show ∀w',_
  intro w' hu
  obtain⟨x0,_,_,x3,x4,_⟩:=(HY.out.below hu).cells
  exact⟨x3,x0,x4⟩
 have HS1:Hid (∀w,(Op.stringOp .add (str xe) (str xn)).run Tryz.prog w=.ok (.string (str (xe++xn))) w):=Lib.hid (fun w=>run_adds xe xn (by omega) (by omega) w)
 obtain⟨z6,hz6⟩:∃x,x=List.replicate 6 (0:UInt8):=⟨_,rfl⟩
 have lz6:z6.length=6:=by rw[hz6,List.length_replicate]
 have HZ6:Hid (∀w,Calls Tryz.prog 68 #[.int .i64 6] w fun e w'=>e=.returned (.string (str z6))∧Upd [] w w'):=by
  show ∀w,_
  intro w;rw[hz6];exact rzeros_spec w 6 (by omega) (by omega)
 have HS2:Hid (∀w,(Op.stringOp .add (str (xe++xn)) (str z6)).run Tryz.prog w=.ok (.string (str ((xe++xn)++z6))) w):=Lib.hid (fun w=>run_adds _ z6 (by rw[List.length_append];omega) (by omega) w)
 have HH0:Hid ((xe++xn)++z6=hdB J1.turn l.length l 0):=by
  show _=_
  rw[HXE.out.1,HXE.out.2,hz6]
  unfold hdB hcat
  rw[List.append_nil,List.append_assoc]
 obtain⟨h0,hh0⟩:∃x,x=(xe++xn)++z6:=⟨_,rfl⟩
 rw[← hh0] at HS2 HH0
 have LXN:=Lib.hid lxn
 clear lxe lxn lz6 hz6 hh0
 go_wp2_with fail
 refine wp_region_xL (fun w'=>Upd [] wy w') [] (by kernel_rfl) (by simp only[List.size_toArray,List.length_cons,List.length_nil,Nat.reduceAdd];exact rfl) (by simp only[List.replicate_succ,List.replicate_zero];exact rfl) (Upd.refl _ _).drew (fun hHeld=>?_)
 generalize wy.drew=w0 at hHeld ⊢
 refine takeL (i:=0) (v:=?_) rfl rfl (by kernel_rfl) (fun _ _ _ h=>h) hHeld (Or.inl ⟨by kernel_rfl,?_⟩) (by dsimp only[List.set_cons_succ,List.set_cons_zero]) (by dsimp only[List.set_cons_succ,List.set_cons_zero]) ?_
 rotate_left
 ·(intro w hSw;go_simp<;>with_reducible rfl)
 refine takeL (i:=1) (v:=?_) rfl rfl (by kernel_rfl) (fun _ _ _ h=>h) hHeld (Or.inl ⟨by kernel_rfl,?_⟩) (by dsimp only[List.set_cons_succ,List.set_cons_zero]) (by dsimp only[List.set_cons_succ,List.set_cons_zero]) ?_
 rotate_left
 ·(intro w hSw;go_simp<;>with_reducible rfl)
 refine takeL (i:=2) (v:=?_) rfl rfl (by kernel_rfl) (fun _ _ _ h=>h) hHeld (Or.inl ⟨by kernel_rfl,?_⟩) (by dsimp only[List.set_cons_succ,List.set_cons_zero]) (by dsimp only[List.set_cons_succ,List.set_cons_zero]) ?_
 rotate_left
 ·(intro w hSw;go_simp<;>with_reducible rfl)
 refine takeL (i:=7) (v:=?_) rfl rfl (by kernel_rfl) (fun _ _ _ h=>h) hHeld (Or.inl ⟨by kernel_rfl,?_⟩) (by dsimp only[List.set_cons_succ,List.set_cons_zero]) (by dsimp only[List.set_cons_succ,List.set_cons_zero]) ?_
 rotate_left
 ·(intro w hSw;go_simp<;>with_reducible rfl)
 refine takeL (i:=3) (v:=?_) rfl rfl (by kernel_rfl) (fun _ _ _ h=>h) hHeld (Or.inl ⟨by kernel_rfl,?_⟩) (by dsimp only[List.set_cons_succ,List.set_cons_zero]) (by dsimp only[List.set_cons_succ,List.set_cons_zero]) ?_
 rotate_left
 ·(intro w hSw;obtain⟨x3,x0,x4⟩:=HCY.out _ hSw;go_simp<;>with_reducible rfl)
 refine takeL (i:=4) (v:=?_) rfl rfl (by kernel_rfl) (fun _ _ _ h=>h) hHeld (Or.inl ⟨by kernel_rfl,?_⟩) (by dsimp only[List.set_cons_succ,List.set_cons_zero]) (by dsimp only[List.set_cons_succ,List.set_cons_zero]) ?_
 rotate_left
 ·(intro w hSw;have wq:=HTT.out.1;go_simp<;>with_reducible rfl)
 refine takeL (i:=5) (v:=?_) rfl rfl (by kernel_rfl) (fun _ _ _ h=>h) hHeld (Or.inl ⟨by kernel_rfl,?_⟩) (by dsimp only[List.set_cons_succ,List.set_cons_zero]) (by dsimp only[List.set_cons_succ,List.set_cons_zero]) ?_
 rotate_left
 ·(intro w hSw;have wq:=HTT.out.2;go_simp<;>with_reducible rfl)
 refine takeL (i:=8) (v:=?_) rfl rfl (by kernel_rfl) (fun _ _ _ h=>h) hHeld (Or.inl ⟨by kernel_rfl,?_⟩) (by dsimp only[List.set_cons_succ,List.set_cons_zero]) (by dsimp only[List.set_cons_succ,List.set_cons_zero]) ?_
 rotate_left
 ·(intro w hSw;have hcv:=run_str (HBN.out.rd.below hSw) (by rw[LXN.out];omega);go_simp<;>with_reducible rfl)
 refine wpAnyX_ready (rs:=[6]) (by kernel_rfl) (by simp) (AllReadyX.one rfl (fun K hK=>?_))
 go_simp
 go_at_call 125
 (with_reducible refine(HE3.out _).mono ?_)
 rintro e wl ⟨rfl,hul⟩
 refine hK.out _ _ (fun _=>hHeld.trans hul) ?_
 replace hHeld:=hHeld.trans hul
 clear hul hK K
 try simp only[Act.put,List.getElem_toArray,List.getElem_cons_zero,List.getElem_cons_succ,List.setIfInBounds_toArray,List.set_cons_zero,List.set_cons_succ]
 refine takeL (i:=9) (v:=?_) rfl rfl (by kernel_rfl) (fun _ _ _ h=>h) hHeld (Or.inl ⟨by kernel_rfl,?_⟩) (by dsimp only[List.set_cons_succ,List.set_cons_zero]) (by dsimp only[List.set_cons_succ,List.set_cons_zero]) ?_
 rotate_left
 ·(intro w hSw;have ha:=HS1.out;go_simp<;>with_reducible rfl)
 refine wpAnyX_ready (rs:=[10]) (by kernel_rfl) (by simp) (AllReadyX.one rfl (fun K hK=>?_))
 go_simp
 go_at_call 68
 (with_reducible refine(HZ6.out _).mono ?_)
 rintro e wl ⟨rfl,hul⟩
 refine hK.out _ _ (fun _=>hHeld.trans hul) ?_
 replace hHeld:=hHeld.trans hul
 clear hul hK K
 try simp only[Act.put,List.getElem_toArray,List.getElem_cons_zero,List.getElem_cons_succ,List.setIfInBounds_toArray,List.set_cons_zero,List.set_cons_succ]
 refine takeL (i:=11) (v:=?_) rfl rfl (by kernel_rfl) (fun _ _ _ h=>h) hHeld (Or.inl ⟨by kernel_rfl,?_⟩) (by dsimp only[List.set_cons_succ,List.set_cons_zero]) (by dsimp only[List.set_cons_succ,List.set_cons_zero]) ?_
 rotate_left
 ·(intro w hSw;have ha:=HS2.out;go_simp<;>with_reducible rfl)
 refine takeL (i:=12) (v:=?_) rfl rfl (by kernel_rfl) (fun _ _ _ h=>h) hHeld (Or.inl ⟨by kernel_rfl,?_⟩) (by dsimp only[List.set_cons_succ,List.set_cons_zero]) (by dsimp only[List.set_cons_succ,List.set_cons_zero]) ?_
 rotate_left
 ·(intro w hSw;go_simp<;>with_reducible rfl)
 refine wpAnyX_done (by kernel_rfl) ?_ _
 obtain⟨wz,hwz⟩:∃x,x=wl:=⟨_,rfl⟩
 rw[← hwz] at hHeld ⊢
 clear hwz
 have HZ:=Lib.hid (HY.out.below hHeld)
 have HPZ:=Lib.hid (HPY.out.below hHeld)
 have HUZ:=Lib.hid (HUY.out.trans (hHeld.mono (by simp)))
 have HCZ:Hid (∀w',Upd [] wz w'→w'.cell? ⟨q.jb,0,none⟩=some (.pointer (some ⟨q.r.rb,0,none⟩))∧w'.cell? ⟨q.jb,4,none⟩=some (.int .i64 (J1.place:Int))):=by
  show ∀w',_
  intro w' hu
  obtain⟨x0,_,_,_,x4,_⟩:=(HZ.out.below hu).cells
  exact⟨x0,x4⟩
 have HZ512:Hid (∀w,Calls Tryz.prog 68 #[.int .i64 512] w fun e w'=>e=.returned (.string (str zsec))∧Upd [] w w'):=Lib.hid (fun w=>rzeros_spec w 512 (by omega) (by omega))
 have HWZ:Hid (∀w',Upd [] wz w'→Calls Tryz.prog 69 #[.pointer (some ⟨q.r.rb,0,none⟩),.int .i64 (A0:Int),.string (str zsec)] w' fun e w''=>e=.returned (.int .i64 0)∧RdkAt w'' q.r (comF J1 D1 l 0)∧Upd q.r.all w' w''):=by
  show ∀w',_
  intro w' hu
  have h1:=rwrite_spec ((HZ.out.below hu).disk) (A0:Int) zsec
  have h2:=HZ.out.disk.on.written (i:=A0) (b:=zsec) (by rw[HA0.out];exact at_lt HOK1.out _) zsec_len
  rw[h2.2] at h1
  rw[show comF J1 D1 l 0=(D1.write (A0:Int) zsec).1 by rw[comF,HA0.out]]
  exact h1
 clear hHeld
 go_wp2_with fail
 refine wp_region_xL (fun w'=>Upd [] wz w') [10] (by kernel_rfl) (by simp only[List.size_toArray,List.length_cons,List.length_nil,Nat.reduceAdd];exact rfl) (by simp only[List.replicate_succ,List.replicate_zero];exact rfl) (Upd.refl _ _).drew (fun hHeld=>?_)
 generalize wz.drew=w0 at hHeld ⊢
 refine takeL (i:=0) (v:=?_) rfl rfl (by kernel_rfl) (fun _ _ _ h=>h) hHeld (Or.inl ⟨by kernel_rfl,?_⟩) (by dsimp only[List.set_cons_succ,List.set_cons_zero]) (by dsimp only[List.set_cons_succ,List.set_cons_zero]) ?_
 rotate_left
 ·(intro w hSw;go_simp<;>with_reducible rfl)
 refine takeL (i:=1) (v:=?_) rfl rfl (by kernel_rfl) (fun _ _ _ h=>h) hHeld (Or.inl ⟨by kernel_rfl,?_⟩) (by dsimp only[List.set_cons_succ,List.set_cons_zero]) (by dsimp only[List.set_cons_succ,List.set_cons_zero]) ?_
 rotate_left
 ·(intro w hSw;go_simp<;>with_reducible rfl)
 refine takeL (i:=2) (v:=?_) rfl rfl (by kernel_rfl) (fun _ _ _ h=>h) hHeld (Or.inl ⟨by kernel_rfl,?_⟩) (by dsimp only[List.set_cons_succ,List.set_cons_zero]) (by dsimp only[List.set_cons_succ,List.set_cons_zero]) ?_
 rotate_left
 ·(intro w hSw;go_simp<;>with_reducible rfl)
 refine takeL (i:=4) (v:=?_) rfl rfl (by kernel_rfl) (fun _ _ _ h=>h) hHeld (Or.inl ⟨by kernel_rfl,?_⟩) (by dsimp only[List.set_cons_succ,List.set_cons_zero]) (by dsimp only[List.set_cons_succ,List.set_cons_zero]) ?_
 rotate_left
 ·(intro w hSw;go_simp<;>with_reducible rfl)
 refine takeL (i:=5) (v:=?_) rfl rfl (by kernel_rfl) (fun _ _ _ h=>h) hHeld (Or.inl ⟨by kernel_rfl,?_⟩) (by dsimp only[List.set_cons_succ,List.set_cons_zero]) (by dsimp only[List.set_cons_succ,List.set_cons_zero]) ?_
 rotate_left
 ·(intro w hSw;go_simp<;>with_reducible rfl)
 refine takeL (i:=6) (v:=?_) rfl rfl (by kernel_rfl) (fun _ _ _ h=>h) hHeld (Or.inl ⟨by kernel_rfl,?_⟩) (by dsimp only[List.set_cons_succ,List.set_cons_zero]) (by dsimp only[List.set_cons_succ,List.set_cons_zero]) ?_
 rotate_left
 ·(intro w hSw;go_simp<;>with_reducible rfl)
 refine takeL (i:=3) (v:=?_) rfl rfl (by kernel_rfl) (fun _ _ _ h=>h) hHeld (Or.inl ⟨by kernel_rfl,?_⟩) (by dsimp only[List.set_cons_succ,List.set_cons_zero]) (by dsimp only[List.set_cons_succ,List.set_cons_zero]) ?_
 rotate_left
 ·(intro w hSw;obtain⟨x0,x4⟩:=HCZ.out _ hSw;go_simp<;>with_reducible rfl)
 refine takeL (i:=7) (v:=?_) rfl rfl (by kernel_rfl) (fun _ _ _ h=>h) hHeld (Or.inl ⟨by kernel_rfl,?_⟩) (by dsimp only[List.set_cons_succ,List.set_cons_zero]) (by dsimp only[List.set_cons_succ,List.set_cons_zero]) ?_
 rotate_left
 ·(intro w hSw;obtain⟨x0,x4⟩:=HCZ.out _ hSw;go_simp<;>with_reducible rfl)
 refine takeL (i:=8) (v:=?_) rfl rfl (by kernel_rfl) (fun _ _ _ h=>h) hHeld (Or.inl ⟨by kernel_rfl,?_⟩) (by dsimp only[List.set_cons_succ,List.set_cons_zero]) (by dsimp only[List.set_cons_succ,List.set_cons_zero]) ?_
 rotate_left
 ·(intro w hSw;have wq:=HW0.out;go_simp<;>with_reducible rfl)
 refine wpAnyX_ready (rs:=[9]) (by kernel_rfl) (by simp) (AllReadyX.one rfl (fun K hK=>?_))
 go_simp
 go_at_call 68
 (with_reducible refine(HZ512.out _).mono ?_)
 rintro e wl ⟨rfl,hul⟩
 refine hK.out _ _ (fun _=>hHeld.trans hul) ?_
 replace hHeld:=hHeld.trans hul
 clear hul hK K
 try simp only[Act.put,List.getElem_toArray,List.getElem_cons_zero,List.getElem_cons_succ,List.setIfInBounds_toArray,List.set_cons_zero,List.set_cons_succ]
 refine wpAnyX_ready (rs:=[10]) (by kernel_rfl) (by simp) (AllReadyX.one rfl (fun K hK=>?_))
 go_simp
 go_at_call 69
 (with_reducible refine(HWZ.out _ hHeld).mono ?_)
 rintro e wl ⟨rfl,hdl,hul⟩
 refine hK.out _ _ (noneUp_not (by kernel_rfl)) ?_
 clear hK K
 try simp only[Act.put,List.getElem_toArray,List.getElem_cons_zero,List.getElem_cons_succ,List.setIfInBounds_toArray,List.set_cons_zero,List.set_cons_succ]
 refine wpAnyX_free (by kernel_rfl) ?_
 refine takeL (i:=11) (v:=?_) rfl rfl (by kernel_rfl) (fun _ _ _ h=>h) trivial (Or.inl ⟨by kernel_rfl,?_⟩) (by dsimp only[List.set_cons_succ,List.set_cons_zero]) (by dsimp only[List.set_cons_succ,List.set_cons_zero]) ?_
 rotate_left
 ·(intro w hSw;go_simp<;>with_reducible rfl)
 refine wpAnyX_done (by kernel_rfl) ?_ _
 have HDL:=Lib.hid hdl
 have HUL:=Lib.hid ((hHeld.mono (T:=q.r.all) (by simp)).trans hul)
 clear hdl hul hHeld
 go_wp2_with fail
 have HBR:Hid (∀x,x∈q.r.all→x<B):=Lib.hid (fun x hx=>HBB.out x (by simp[QG.all,hx]))
 go_loopw [9,8,5] (fun i hs es wr=>∃k:Nat,k≤l.length∧i=.int .i64 (k:Int)∧hs=.string (str (hdB J1.turn l.length l k))∧es=.int .i64 0∧RdkAt wr q.r (comF J1 D1 l k)∧Upd q.r.all wz wr) (fun i _ _ _=>l.length-(intOf i).toNat)
 case atStart=>exact⟨0,Nat.zero_le _,rfl,by rw[← HH0.out],rfl,HDL.out,HUL.out⟩
 case round=>
  obtain⟨k,hk,rfl,rfl,rfl,hd,hu⟩:=hrel
  have HD:=Lib.hid hd
  have HU:=Lib.hid hu
  have HJR:=Lib.hid (HZ.out.step hd hu (comF_n J1 D1 l k))
  have HPR:=Lib.hid (HPZ.out.upd hu HBR.out)
  clear hd hu
  rcases Nat.lt_or_ge k l.length with hlt | hge2
  ·as_aux_lemma=>
    have e1:decide ((k:Int)<(l.length:Int))=true:=decide_eq_true (by omega)
    have e2:decide (k<l.length)=true:=decide_eq_true hlt
    have i0:(0:Int)≤(k:Int):=by omega
    have i1:(k:Int)<(l.length:Int):=by omega
    obtain⟨g,cap,da,dc,e,hc1,hc2,hrd⟩:=HPR.out.at_.get k hlt
    cases e
    obtain⟨b1,b2,b3⟩:=HG.out.each _ (List.getElem_mem hlt)
    have hgd:l.getD k (0,[])=l[k]:=by rw[List.getD_eq_getElem?_getD,List.getElem?_eq_getElem hlt,Option.getD_some]
    obtain⟨x,hx⟩:∃x,x=l[k].1:=⟨_,rfl⟩
    obtain⟨dat,hdat⟩:∃d,d=l[k].2:=⟨_,rfl⟩
    rw[← hx] at hc1 b1 b2
    rw[← hdat] at hc2 hrd b3
    obtain⟨xN,rfl⟩:=Int.eq_ofNat_of_zero_le b1
    have hhm4:xN<100000:=by have:=HX.out.disk.ok.n1;have:=HSM.out.2.2.2;unfold Jn.homes at b2;omega
    rw[b3] at hc2 hrd
    obtain⟨ao,cap2,e,hdc,hh⟩:=id hrd
    obtain⟨bd,od,e3,_⟩:=hh (by rw[b3];omega)
    injection e with q1 q2 q3
    have hda:da=some ⟨bd,od,none⟩:=q1.trans e3
    subst hda
    rw[← q3,b3] at hdc
    clear q1 q2 q3 e3
    have HRD:=Lib.hid hrd
    have HF1':Hid (hdB J1.turn l.length l (k+1)=(hdB J1.turn l.length l k++be 4 xN)++dat.take 8):=by
     show _=_
     unfold hdB
     rw[show hcat l (k+1)=hcat l k++(be 4 ((xN:Int).toNat)++dat.take 8) by rw[hcat,hgd,← hx,← hdat],show((xN:Int)).toNat=xN by omega]
     simp only[List.append_assoc]
    have hhl:=hdB_length HG.out J1.turn l.length k (by omega)
    obtain⟨hk0,hhk0⟩:∃h,h=hdB J1.turn l.length l k:=⟨_,rfl⟩
    rw[← hhk0] at HF1' hhl ⊢
    have HP4:=Lib.hid (rput_spec (w:=wr) (BRow.nil wr wr.heap.size).rd (by simp) 4 xN (by omega) (by omega) (by omega))
    have hwx:IntKind.u64.wrap (xN:Int)=(xN:Int):=by rw[IntKind.wrap_u64];omega
    have hwx2:(xN:Int) % 18446744073709551616=(xN:Int):=by omega
    obtain⟨x4,hx4⟩:∃x,x=be 4 xN:=⟨_,rfl⟩
    have lx4:x4.length=4:=by rw[hx4,be_length]
    rw[← hx4] at HF1'
    have h40:=HLR.out.1
    have HS3:Hid (∀w,(Op.stringOp .add (str hk0) (str x4)).run Tryz.prog w=.ok (.string (str (hk0++x4))) w):=Lib.hid (fun w=>run_adds hk0 x4 (by omega) (by omega) w)
    have hd8:(dat.take 8).length=8:=by rw[List.length_take,b3];rfl
    have HS4:Hid (∀w,(Op.stringOp .add (str (hk0++x4)) (str (dat.take 8))).run Tryz.prog w=.ok (.string (str ((hk0++x4)++dat.take 8))) w):=Lib.hid (fun w=>run_adds _ _ (by rw[List.length_append];omega) (by omega) w)
    rw[← HF1'.out] at HS4
    have HFR:Hid (∀w,(Instr.slice 34 (.slice (some ⟨bd,od,none⟩) 512 dc) none (some (.int .i64 8)) none).run Tryz.prog w=.ok (.slice (some ⟨bd,od,none⟩) 8 dc) w):=Lib.hid (fun w=>by have:=bs_front (some ⟨bd,od,none⟩) 8 512 dc (by omega) w;simpa using this)
    have HBK:Hid (∀w,(Instr.slice 34 (.slice (some ⟨bd,od,none⟩) 512 dc) (some (.int .i64 8)) none none).run Tryz.prog w=.ok (.slice (some ⟨bd,od+8,none⟩) 504 (dc-8)) w):=Lib.hid (fun w=>by have:=bs_back bd od 8 512 dc (by omega) (by omega) w;simpa using this)
    have HR8:Hid (Rd wr (.slice (some ⟨bd,od,none⟩) 8 dc) (dat.take 8)):=by
     have:=hrd.take8 (n:=512) (k:=8) b3 (by omega)
     exact Lib.hid this
    have HR504:Hid (Rd wr (.slice (some ⟨bd,od+8,none⟩) 504 (dc-8)) (dat.drop 8)):=Lib.hid (by have:=hrd.drop8 (n:=512) (k:=8) b3 (by omega);simpa using this)
    have HC:Hid (∀w',Upd [] wr w'→w'.cell? ⟨g,k*2,none⟩=some (.int .i64 (xN:Int))∧w'.cell? ⟨g,k*2+1,none⟩=some (.slice (some ⟨bd,od,none⟩) 512 dc)):=by
     show ∀w',_
     intro w' hu
     exact⟨cell_updW hc1 hu (by simp),cell_updW hc2 hu (by simp)⟩
    have HDT:=Lib.hid (And.intro hdat (And.intro b3 hgd))
    have HD8:=Lib.hid (And.intro hd8 lx4)
    have HX4:=Lib.hid hx4
    clear b1 b2 b3 hgd hx hdat hdc hh hhm4 hrd hhk0 hhl hx4 lx4 hd8 hc2 h40
    go_wp2_with fail
    refine HP4.out.mono ?_
    rintro e w5 ⟨a5,c5,rfl,hb5,hu5⟩
    rw[List.nil_append] at hb5
    rw[List.length_nil,Nat.zero_add,← HX4.out] at hb5
    have HB5:=Lib.hid hb5
    have HU5:=Lib.hid hu5
    clear hb5 hu5 hwx hwx2 hc1
    go_wp2_with fail
    refine wp_region_xL (fun w'=>Upd [] w5 w') [] (by kernel_rfl) (by simp only[List.size_toArray,List.length_cons,List.length_nil,Nat.reduceAdd];exact rfl) (by simp only[List.replicate_succ,List.replicate_zero];exact rfl) (Upd.refl _ _).drew (fun hHeld=>?_)
    generalize w5.drew=w0 at hHeld ⊢
    refine takeL (i:=0) (v:=?_) rfl rfl (by kernel_rfl) (fun _ _ _ h=>h) hHeld (Or.inl ⟨by kernel_rfl,?_⟩) (by dsimp only[List.set_cons_succ,List.set_cons_zero]) (by dsimp only[List.set_cons_succ,List.set_cons_zero]) ?_
    rotate_left
    ·(intro w hSw;go_simp<;>with_reducible rfl)
    refine takeL (i:=1) (v:=?_) rfl rfl (by kernel_rfl) (fun _ _ _ h=>h) hHeld (Or.inl ⟨by kernel_rfl,?_⟩) (by dsimp only[List.set_cons_succ,List.set_cons_zero]) (by dsimp only[List.set_cons_succ,List.set_cons_zero]) ?_
    rotate_left
    ·(intro w hSw;go_simp<;>with_reducible rfl)
    refine takeL (i:=2) (v:=?_) rfl rfl (by kernel_rfl) (fun _ _ _ h=>h) hHeld (Or.inl ⟨by kernel_rfl,?_⟩) (by dsimp only[List.set_cons_succ,List.set_cons_zero]) (by dsimp only[List.set_cons_succ,List.set_cons_zero]) ?_
    rotate_left
    ·(intro w hSw;have hcv:=run_str (HB5.out.rd.below hSw) (by rw[HD8.out.2];omega);go_simp<;>with_reducible rfl)
    refine takeL (i:=3) (v:=?_) rfl rfl (by kernel_rfl) (fun _ _ _ h=>h) hHeld (Or.inl ⟨by kernel_rfl,?_⟩) (by dsimp only[List.set_cons_succ,List.set_cons_zero]) (by dsimp only[List.set_cons_succ,List.set_cons_zero]) ?_
    rotate_left
    ·(intro w hSw;have ha:=HS3.out;go_simp<;>with_reducible rfl)
    refine takeL (i:=4) (v:=?_) rfl rfl (by kernel_rfl) (fun _ _ _ h=>h) hHeld (Or.inl ⟨by kernel_rfl,?_⟩) (by dsimp only[List.set_cons_succ,List.set_cons_zero]) (by dsimp only[List.set_cons_succ,List.set_cons_zero]) ?_
    rotate_left
    ·(intro w hSw;go_simp<;>with_reducible rfl)
    refine takeL (i:=5) (v:=?_) rfl rfl (by kernel_rfl) (fun _ _ _ h=>h) hHeld (Or.inl ⟨by kernel_rfl,?_⟩) (by dsimp only[List.set_cons_succ,List.set_cons_zero]) (by dsimp only[List.set_cons_succ,List.set_cons_zero]) ?_
    rotate_left
    ·(intro w hSw;go_simp<;>with_reducible rfl)
    refine takeL (i:=6) (v:=?_) rfl rfl (by kernel_rfl) (fun _ _ _ h=>h) hHeld (Or.inl ⟨by kernel_rfl,?_⟩) (by dsimp only[List.set_cons_succ,List.set_cons_zero]) (by dsimp only[List.set_cons_succ,List.set_cons_zero]) ?_
    rotate_left
    ·(intro w hSw;go_simp<;>with_reducible rfl)
    refine takeL (i:=7) (v:=?_) rfl rfl (by kernel_rfl) (fun _ _ _ h=>h) hHeld (Or.inl ⟨by kernel_rfl,?_⟩) (by dsimp only[List.set_cons_succ,List.set_cons_zero]) (by dsimp only[List.set_cons_succ,List.set_cons_zero]) ?_
    rotate_left
    ·(intro w hSw;go_simp<;>with_reducible rfl)
    refine takeL (i:=8) (v:=?_) rfl rfl (by kernel_rfl) (fun _ _ _ h=>h) hHeld (Or.inl ⟨by kernel_rfl,?_⟩) (by dsimp only[List.set_cons_succ,List.set_cons_zero]) (by dsimp only[List.set_cons_succ,List.set_cons_zero]) ?_
    rotate_left
    ·(intro w hSw;obtain⟨x0,x1⟩:=HC.out _ (HU5.out.trans hSw);go_simp<;>with_reducible rfl)
    refine takeL (i:=9) (v:=?_) rfl rfl (by kernel_rfl) (fun _ _ _ h=>h) hHeld (Or.inl ⟨by kernel_rfl,?_⟩) (by dsimp only[List.set_cons_succ,List.set_cons_zero]) (by dsimp only[List.set_cons_succ,List.set_cons_zero]) ?_
    rotate_left
    ·(intro w hSw;have wf:=HFR.out;go_simp<;>with_reducible rfl)
    refine takeL (i:=10) (v:=?_) rfl rfl (by kernel_rfl) (fun _ _ _ h=>h) hHeld (Or.inl ⟨by kernel_rfl,?_⟩) (by dsimp only[List.set_cons_succ,List.set_cons_zero]) (by dsimp only[List.set_cons_succ,List.set_cons_zero]) ?_
    rotate_left
    ·(intro w hSw;have hcv:=run_str (HR8.out.below (HU5.out.trans hSw)) (by rw[HD8.out.1];omega);go_simp<;>with_reducible rfl)
    refine takeL (i:=11) (v:=?_) rfl rfl (by kernel_rfl) (fun _ _ _ h=>h) hHeld (Or.inl ⟨by kernel_rfl,?_⟩) (by dsimp only[List.set_cons_succ,List.set_cons_zero]) (by dsimp only[List.set_cons_succ,List.set_cons_zero]) ?_
    rotate_left
    ·(intro w hSw;have ha:=HS4.out;go_simp<;>with_reducible rfl)
    refine takeL (i:=12) (v:=?_) rfl rfl (by kernel_rfl) (fun _ _ _ h=>h) hHeld (Or.inl ⟨by kernel_rfl,?_⟩) (by dsimp only[List.set_cons_succ,List.set_cons_zero]) (by dsimp only[List.set_cons_succ,List.set_cons_zero]) ?_
    rotate_left
    ·(intro w hSw;go_simp<;>with_reducible rfl)
    refine wpAnyX_done (by kernel_rfl) ?_ _
    obtain⟨w6,hw6⟩:∃x,x=w0:=⟨_,rfl⟩
    rw[← hw6] at hHeld ⊢
    clear hw6
    have HU6:=Lib.hid (HU5.out.trans hHeld)
    have HJ6:=Lib.hid (HJR.out.below (HU5.out.trans hHeld))
    clear hHeld
    obtain⟨hlm1,hlm2,hlm3,hlm4,hlm5⟩:=HLIM.out
    obtain⟨P1,hP1⟩:∃x,x=J1.place+1:=⟨_,rfl⟩
    obtain⟨P2,hP2⟩:∃x,x=P1+k:=⟨_,rfl⟩
    obtain⟨P3,hP3⟩:∃x,x=P2 % J1.last.ring:=⟨_,rfl⟩
    obtain⟨A,hA⟩:∃x,x=2+P3:=⟨_,rfl⟩
    have hAat:A=J1.at (J1.place+1+k):=by rw[hA,hP3,hP2,hP1];rfl
    have hP3lt:P3<J1.last.ring:=by rw[hP3];exact Nat.mod_lt _ (by omega)
    have hkl2:k<100:=by omega
    have HWW:Hid (IntKind.i64.wrap ((J1.place:Int)+1)=(P1:Int)∧IntKind.i64.wrap ((P1:Int)+(k:Int))=(P2:Int)∧(P2:Int).tmod (J1.last.ring:Int)=(P3:Int)∧((P2:Int) % (J1.last.ring:Int))=(P3:Int)∧IntKind.i64.wrap (P3:Int)=(P3:Int)∧IntKind.i64.wrap (2+(P3:Int))=(A:Int)∧((J1.last.ring:Int) == 0)=false∧¬(J1.last.ring=0)):=by
     show _∧_∧_∧_∧_∧_∧_∧_
     rw[IntKind.wrap_i64,IntKind.wrap_i64,IntKind.wrap_i64,IntKind.wrap_i64]
     refine⟨by omega,by omega,?_,?_,by omega,by omega,by rw[beq_eq_false_iff_ne];omega,by omega⟩
     ·rw[Int.tmod_eq_emod_of_nonneg (by omega),hP3];rfl
     ·rw[hP3];rfl
    obtain⟨x2,hx2⟩:∃x,x=be 8 (2*J1.turn).toNat:=⟨_,rfl⟩
    have lx2:x2.length=8:=by rw[hx2,be_length]
    have HE2b:=HE2
    rw[← hx2] at HE2b
    have hdl504:(dat.drop 8).length=504:=by rw[List.length_drop,HDT.out.2.1]
    have HS5:Hid (∀w,(Op.stringOp .add (str x2) (str (dat.drop 8))).run Tryz.prog w=.ok (.string (str (ringSec J1.turn dat))) w):=by
     show ∀w,_
     intro w
     rw[run_adds x2 (dat.drop 8) (by omega) (by omega) w,ringSec_bytes,hx2]
    have HDL504:=Lib.hid hdl504
    have HWR:Hid (∀w',Upd [] w6 w'→Calls Tryz.prog 69 #[.pointer (some ⟨q.r.rb,0,none⟩),.int .i64 (A:Int),.string (str (ringSec J1.turn dat))] w' fun e w''=>e=.returned (.int .i64 0)∧RdkAt w'' q.r (comF J1 D1 l (k+1))∧Upd q.r.all w' w''):=by
     show ∀w',_
     intro w' hu
     have h1:=rwrite_spec ((HJ6.out.below hu).disk) (A:Int) (ringSec J1.turn dat)
     have h2:=HJ6.out.disk.on.written (i:=A) (b:=ringSec J1.turn dat) (by rw[hAat,comF_n];exact at_lt HOK1.out _) (ringSec_len HDT.out.2.1)
     rw[h2.2] at h1
     rw[show comF J1 D1 l (k+1)=((comF J1 D1 l k).write (A:Int) (ringSec J1.turn dat)).1 by rw[comF,HDT.out.2.2,← HDT.out.1,hAat]]
     exact h1
    have HC6:Hid (∀w',Upd [] w6 w'→w'.cell? ⟨q.jb,0,none⟩=some (.pointer (some ⟨q.r.rb,0,none⟩))∧w'.cell? ⟨q.jb,1,none⟩=some (.int .i64 (J1.last.ring:Int))∧w'.cell? ⟨q.jb,3,none⟩=some (.int .u64 J1.turn)∧w'.cell? ⟨q.jb,4,none⟩=some (.int .i64 (J1.place:Int))):=by
     show ∀w',_
     intro w' hu
     obtain⟨y0,y1,_,y3,y4,_⟩:=(HJ6.out.below hu).cells
     exact⟨y0,y1,y3,y4⟩
    clear hlm1 hlm2 hlm3 hlm4 hlm5 hP1 hP2 hP3 hA hAat hP3lt hkl2 hx2 lx2 hdl504
    go_wp2_with fail
    refine wp_region_xL (fun w'=>Upd [] w6 w') [31] (by kernel_rfl) (by simp only[List.size_toArray,List.length_cons,List.length_nil,Nat.reduceAdd];exact rfl) (by simp only[List.replicate_succ,List.replicate_zero];exact rfl) (Upd.refl _ _).drew (fun hHeld=>?_)
    generalize w6.drew=w0 at hHeld ⊢
    refine takeL (i:=0) (v:=?_) rfl rfl (by kernel_rfl) (fun _ _ _ h=>h) hHeld (Or.inl ⟨by kernel_rfl,?_⟩) (by dsimp only[List.set_cons_succ,List.set_cons_zero]) (by dsimp only[List.set_cons_succ,List.set_cons_zero]) ?_
    rotate_left
    ·(intro w hSw;go_simp<;>with_reducible rfl)
    refine takeL (i:=1) (v:=?_) rfl rfl (by kernel_rfl) (fun _ _ _ h=>h) hHeld (Or.inl ⟨by kernel_rfl,?_⟩) (by dsimp only[List.set_cons_succ,List.set_cons_zero]) (by dsimp only[List.set_cons_succ,List.set_cons_zero]) ?_
    rotate_left
    ·(intro w hSw;go_simp<;>with_reducible rfl)
    refine takeL (i:=2) (v:=?_) rfl rfl (by kernel_rfl) (fun _ _ _ h=>h) hHeld (Or.inl ⟨by kernel_rfl,?_⟩) (by dsimp only[List.set_cons_succ,List.set_cons_zero]) (by dsimp only[List.set_cons_succ,List.set_cons_zero]) ?_
    rotate_left
    ·(intro w hSw;go_simp<;>with_reducible rfl)
    refine takeL (i:=4) (v:=?_) rfl rfl (by kernel_rfl) (fun _ _ _ h=>h) hHeld (Or.inl ⟨by kernel_rfl,?_⟩) (by dsimp only[List.set_cons_succ,List.set_cons_zero]) (by dsimp only[List.set_cons_succ,List.set_cons_zero]) ?_
    rotate_left
    ·(intro w hSw;go_simp<;>with_reducible rfl)
    refine takeL (i:=5) (v:=?_) rfl rfl (by kernel_rfl) (fun _ _ _ h=>h) hHeld (Or.inl ⟨by kernel_rfl,?_⟩) (by dsimp only[List.set_cons_succ,List.set_cons_zero]) (by dsimp only[List.set_cons_succ,List.set_cons_zero]) ?_
    rotate_left
    ·(intro w hSw;go_simp<;>with_reducible rfl)
    refine takeL (i:=6) (v:=?_) rfl rfl (by kernel_rfl) (fun _ _ _ h=>h) hHeld (Or.inl ⟨by kernel_rfl,?_⟩) (by dsimp only[List.set_cons_succ,List.set_cons_zero]) (by dsimp only[List.set_cons_succ,List.set_cons_zero]) ?_
    rotate_left
    ·(intro w hSw;go_simp<;>with_reducible rfl)
    refine takeL (i:=9) (v:=?_) rfl rfl (by kernel_rfl) (fun _ _ _ h=>h) hHeld (Or.inl ⟨by kernel_rfl,?_⟩) (by dsimp only[List.set_cons_succ,List.set_cons_zero]) (by dsimp only[List.set_cons_succ,List.set_cons_zero]) ?_
    rotate_left
    ·(intro w hSw;go_simp<;>with_reducible rfl)
    refine takeL (i:=11) (v:=?_) rfl rfl (by kernel_rfl) (fun _ _ _ h=>h) hHeld (Or.inl ⟨by kernel_rfl,?_⟩) (by dsimp only[List.set_cons_succ,List.set_cons_zero]) (by dsimp only[List.set_cons_succ,List.set_cons_zero]) ?_
    rotate_left
    ·(intro w hSw;go_simp<;>with_reducible rfl)
    refine takeL (i:=12) (v:=?_) rfl rfl (by kernel_rfl) (fun _ _ _ h=>h) hHeld (Or.inl ⟨by kernel_rfl,?_⟩) (by dsimp only[List.set_cons_succ,List.set_cons_zero]) (by dsimp only[List.set_cons_succ,List.set_cons_zero]) ?_
    rotate_left
    ·(intro w hSw;go_simp<;>with_reducible rfl)
    refine takeL (i:=13) (v:=?_) rfl rfl (by kernel_rfl) (fun _ _ _ h=>h) hHeld (Or.inl ⟨by kernel_rfl,?_⟩) (by dsimp only[List.set_cons_succ,List.set_cons_zero]) (by dsimp only[List.set_cons_succ,List.set_cons_zero]) ?_
    rotate_left
    ·(intro w hSw;go_simp<;>with_reducible rfl)
    refine takeL (i:=17) (v:=?_) rfl rfl (by kernel_rfl) (fun _ _ _ h=>h) hHeld (Or.inl ⟨by kernel_rfl,?_⟩) (by dsimp only[List.set_cons_succ,List.set_cons_zero]) (by dsimp only[List.set_cons_succ,List.set_cons_zero]) ?_
    rotate_left
    ·(intro w hSw;go_simp<;>with_reducible rfl)
    refine takeL (i:=18) (v:=?_) rfl rfl (by kernel_rfl) (fun _ _ _ h=>h) hHeld (Or.inl ⟨by kernel_rfl,?_⟩) (by dsimp only[List.set_cons_succ,List.set_cons_zero]) (by dsimp only[List.set_cons_succ,List.set_cons_zero]) ?_
    rotate_left
    ·(intro w hSw;go_simp<;>with_reducible rfl)
    refine takeL (i:=19) (v:=?_) rfl rfl (by kernel_rfl) (fun _ _ _ h=>h) hHeld (Or.inl ⟨by kernel_rfl,?_⟩) (by dsimp only[List.set_cons_succ,List.set_cons_zero]) (by dsimp only[List.set_cons_succ,List.set_cons_zero]) ?_
    rotate_left
    ·(intro w hSw;go_simp<;>with_reducible rfl)
    refine takeL (i:=23) (v:=?_) rfl rfl (by kernel_rfl) (fun _ _ _ h=>h) hHeld (Or.inl ⟨by kernel_rfl,?_⟩) (by dsimp only[List.set_cons_succ,List.set_cons_zero]) (by dsimp only[List.set_cons_succ,List.set_cons_zero]) ?_
    rotate_left
    ·(intro w hSw;go_simp<;>with_reducible rfl)
    refine takeL (i:=24) (v:=?_) rfl rfl (by kernel_rfl) (fun _ _ _ h=>h) hHeld (Or.inl ⟨by kernel_rfl,?_⟩) (by dsimp only[List.set_cons_succ,List.set_cons_zero]) (by dsimp only[List.set_cons_succ,List.set_cons_zero]) ?_
    rotate_left
    ·(intro w hSw;go_simp<;>with_reducible rfl)
    refine takeL (i:=25) (v:=?_) rfl rfl (by kernel_rfl) (fun _ _ _ h=>h) hHeld (Or.inl ⟨by kernel_rfl,?_⟩) (by dsimp only[List.set_cons_succ,List.set_cons_zero]) (by dsimp only[List.set_cons_succ,List.set_cons_zero]) ?_
    rotate_left
    ·(intro w hSw;go_simp<;>with_reducible rfl)
    refine takeL (i:=26) (v:=?_) rfl rfl (by kernel_rfl) (fun _ _ _ h=>h) hHeld (Or.inl ⟨by kernel_rfl,?_⟩) (by dsimp only[List.set_cons_succ,List.set_cons_zero]) (by dsimp only[List.set_cons_succ,List.set_cons_zero]) ?_
    rotate_left
    ·(intro w hSw;go_simp<;>with_reducible rfl)
    refine takeL (i:=3) (v:=?_) rfl rfl (by kernel_rfl) (fun _ _ _ h=>h) hHeld (Or.inl ⟨by kernel_rfl,?_⟩) (by dsimp only[List.set_cons_succ,List.set_cons_zero]) (by dsimp only[List.set_cons_succ,List.set_cons_zero]) ?_
    rotate_left
    ·(intro w hSw;obtain⟨y0,y1,y3,y4⟩:=HC6.out _ hSw;go_simp<;>with_reducible rfl)
    refine takeL (i:=7) (v:=?_) rfl rfl (by kernel_rfl) (fun _ _ _ h=>h) hHeld (Or.inl ⟨by kernel_rfl,?_⟩) (by dsimp only[List.set_cons_succ,List.set_cons_zero]) (by dsimp only[List.set_cons_succ,List.set_cons_zero]) ?_
    rotate_left
    ·(intro w hSw;obtain⟨y0,y1,y3,y4⟩:=HC6.out _ hSw;go_simp<;>with_reducible rfl)
    refine takeL (i:=14) (v:=?_) rfl rfl (by kernel_rfl) (fun _ _ _ h=>h) hHeld (Or.inl ⟨by kernel_rfl,?_⟩) (by dsimp only[List.set_cons_succ,List.set_cons_zero]) (by dsimp only[List.set_cons_succ,List.set_cons_zero]) ?_
    rotate_left
    ·(intro w hSw;obtain⟨y0,y1,y3,y4⟩:=HC6.out _ hSw;go_simp<;>with_reducible rfl)
    refine takeL (i:=20) (v:=?_) rfl rfl (by kernel_rfl) (fun _ _ _ h=>h) hHeld (Or.inl ⟨by kernel_rfl,?_⟩) (by dsimp only[List.set_cons_succ,List.set_cons_zero]) (by dsimp only[List.set_cons_succ,List.set_cons_zero]) ?_
    rotate_left
    ·(intro w hSw;obtain⟨y0,y1,y3,y4⟩:=HC6.out _ hSw;go_simp<;>with_reducible rfl)
    refine takeL (i:=8) (v:=?_) rfl rfl (by kernel_rfl) (fun _ _ _ h=>h) hHeld (Or.inl ⟨by kernel_rfl,?_⟩) (by dsimp only[List.set_cons_succ,List.set_cons_zero]) (by dsimp only[List.set_cons_succ,List.set_cons_zero]) ?_
    rotate_left
    ·(intro w hSw;obtain⟨v1,v2,v3,v4,v5,v6,v7,v8⟩:=HWW.out;go_simp<;>with_reducible rfl)
    refine takeL (i:=10) (v:=?_) rfl rfl (by kernel_rfl) (fun _ _ _ h=>h) hHeld (Or.inl ⟨by kernel_rfl,?_⟩) (by dsimp only[List.set_cons_succ,List.set_cons_zero]) (by dsimp only[List.set_cons_succ,List.set_cons_zero]) ?_
    rotate_left
    ·(intro w hSw;obtain⟨v1,v2,v3,v4,v5,v6,v7,v8⟩:=HWW.out;go_simp<;>with_reducible rfl)
    refine takeL (i:=15) (v:=?_) rfl rfl (by kernel_rfl) (fun _ _ _ h=>h) hHeld (Or.inl ⟨by kernel_rfl,?_⟩) (by dsimp only[List.set_cons_succ,List.set_cons_zero]) (by dsimp only[List.set_cons_succ,List.set_cons_zero]) ?_
    rotate_left
    ·(intro w hSw;obtain⟨v1,v2,v3,v4,v5,v6,v7,v8⟩:=HWW.out;go_simp<;>with_reducible rfl)
    refine takeL (i:=16) (v:=?_) rfl rfl (by kernel_rfl) (fun _ _ _ h=>h) hHeld (Or.inl ⟨by kernel_rfl,?_⟩) (by dsimp only[List.set_cons_succ,List.set_cons_zero]) (by dsimp only[List.set_cons_succ,List.set_cons_zero]) ?_
    rotate_left
    ·(intro w hSw;obtain⟨v1,v2,v3,v4,v5,v6,v7,v8⟩:=HWW.out;go_simp<;>with_reducible rfl)
    refine takeL (i:=21) (v:=?_) rfl rfl (by kernel_rfl) (fun _ _ _ h=>h) hHeld (Or.inl ⟨by kernel_rfl,?_⟩) (by dsimp only[List.set_cons_succ,List.set_cons_zero]) (by dsimp only[List.set_cons_succ,List.set_cons_zero]) ?_
    rotate_left
    ·(intro w hSw;have wq:=HTT.out.1;go_simp<;>with_reducible rfl)
    refine takeL (i:=27) (v:=?_) rfl rfl (by kernel_rfl) (fun _ _ _ h=>h) hHeld (Or.inl ⟨by kernel_rfl,?_⟩) (by dsimp only[List.set_cons_succ,List.set_cons_zero]) (by dsimp only[List.set_cons_succ,List.set_cons_zero]) ?_
    rotate_left
    ·(intro w hSw;obtain⟨z0,z1⟩:=HC.out _ (HU6.out.trans hSw);go_simp<;>with_reducible rfl)
    refine takeL (i:=28) (v:=?_) rfl rfl (by kernel_rfl) (fun _ _ _ h=>h) hHeld (Or.inl ⟨by kernel_rfl,?_⟩) (by dsimp only[List.set_cons_succ,List.set_cons_zero]) (by dsimp only[List.set_cons_succ,List.set_cons_zero]) ?_
    rotate_left
    ·(intro w hSw;have wb:=HBK.out;go_simp<;>with_reducible rfl)
    refine takeL (i:=29) (v:=?_) rfl rfl (by kernel_rfl) (fun _ _ _ h=>h) hHeld (Or.inl ⟨by kernel_rfl,?_⟩) (by dsimp only[List.set_cons_succ,List.set_cons_zero]) (by dsimp only[List.set_cons_succ,List.set_cons_zero]) ?_
    rotate_left
    ·(intro w hSw;have hcv:=run_str (HR504.out.below (HU6.out.trans hSw)) (by rw[HDL504.out];omega);go_simp<;>with_reducible rfl)
    refine wpAnyX_ready (rs:=[22]) (by kernel_rfl) (by simp) (AllReadyX.one rfl (fun K hK=>?_))
    go_simp
    go_at_call 125
    (with_reducible refine(HE2b.out _).mono ?_)
    rintro e wl ⟨rfl,hul⟩
    refine hK.out _ _ (fun _=>hHeld.trans hul) ?_
    replace hHeld:=hHeld.trans hul
    clear hul hK K
    try simp only[Act.put,List.getElem_toArray,List.getElem_cons_zero,List.getElem_cons_succ,List.setIfInBounds_toArray,List.set_cons_zero,List.set_cons_succ]
    refine takeL (i:=30) (v:=?_) rfl rfl (by kernel_rfl) (fun _ _ _ h=>h) hHeld (Or.inl ⟨by kernel_rfl,?_⟩) (by dsimp only[List.set_cons_succ,List.set_cons_zero]) (by dsimp only[List.set_cons_succ,List.set_cons_zero]) ?_
    rotate_left
    ·(intro w hSw;have ha:=HS5.out;go_simp<;>with_reducible rfl)
    refine wpAnyX_ready (rs:=[31]) (by kernel_rfl) (by simp) (AllReadyX.one rfl (fun K hK=>?_))
    go_simp
    go_at_call 69
    (with_reducible refine(HWR.out _ hHeld).mono ?_)
    rintro e wl ⟨rfl,hdl,hul⟩
    refine hK.out _ _ (noneUp_not (by kernel_rfl)) ?_
    clear hK K
    try simp only[Act.put,List.getElem_toArray,List.getElem_cons_zero,List.getElem_cons_succ,List.setIfInBounds_toArray,List.set_cons_zero,List.set_cons_succ]
    refine wpAnyX_free (by kernel_rfl) ?_
    refine takeL (i:=32) (v:=?_) rfl rfl (by kernel_rfl) (fun _ _ _ h=>h) trivial (Or.inl ⟨by kernel_rfl,?_⟩) (by dsimp only[List.set_cons_succ,List.set_cons_zero]) (by dsimp only[List.set_cons_succ,List.set_cons_zero]) ?_
    rotate_left
    ·(intro w hSw;go_simp<;>with_reducible rfl)
    refine wpAnyX_done (by kernel_rfl) ?_ _
    have HDL2:=Lib.hid hdl
    have HUL2:=Lib.hid (((HU.out.trans (HU6.out.mono (by simp))).trans (hHeld.mono (T:=q.r.all) (by simp))).trans hul)
    clear hdl hul hHeld
    go_wp2_with fail
    exact⟨⟨k+1,by omega,by go_num,rfl,rfl,HDL2.out,HUL2.out⟩,by simp[intOf];omega⟩
  ·as_aux_lemma=>
    obtain rfl:k=l.length:=by omega
    have e1:decide ((l.length:Int)<(l.length:Int))=false:=by simp
    have e2:decide (l.length<l.length)=false:=by simp
    obtain⟨p1,p2,p3,p4,p5⟩:=HPD.out
    have HP1':=Lib.hid p1
    have HP5:=Lib.hid p5
    obtain⟨hlm1,hlm2,hlm3,hlm4,hlm5⟩:=HLIM.out
    have h40:=HLR.out.1
    have HFL:Hid (∀w',Upd [] wr w'→Calls Tryz.prog 70 #[.pointer (some ⟨q.r.rb,0,none⟩)] w' fun e w''=>e=.returned (.int .i64 0)∧RdkAt w'' q.r (comF J1 D1 l l.length).flush.1∧Upd q.r.all w' w''):=by
     show ∀w',_
     intro w' hu
     refine(rflush_spec (HD.out.below hu)).mono ?_
     rintro e w2 ⟨rfl,_,a,b⟩
     exact⟨rfl,a,b⟩
    have HWH:Hid (∀w',RdkAt w' q.r (comF J1 D1 l l.length).flush.1→Calls Tryz.prog 69 #[.pointer (some ⟨q.r.rb,0,none⟩),.int .i64 (A0:Int),.string (str (hdr J1.turn l))] w' fun e w''=>e=.returned (.int .i64 0)∧RdkAt w'' q.r ((comF J1 D1 l l.length).flush.1.write (A0:Int) (hdr J1.turn l)).1∧Upd q.r.all w' w''):=by
     show ∀w',_
     intro w' hd
     have h1:=rwrite_spec hd (A0:Int) (hdr J1.turn l)
     rw[← HA0.out] at p4
     rw[p4] at h1
     exact h1
    have HFL2:Hid (∀w',RdkAt w' q.r ((comF J1 D1 l l.length).flush.1.write (A0:Int) (hdr J1.turn l)).1→Calls Tryz.prog 70 #[.pointer (some ⟨q.r.rb,0,none⟩)] w' fun e w''=>e=.returned (.int .i64 0)∧RdkAt w'' q.r (comE J1 D1 l)∧Upd q.r.all w' w''):=by
     show ∀w',_
     intro w' hd
     refine(rflush_spec hd).mono ?_
     rintro e w2 ⟨rfl,_,a,b⟩
     unfold comE
     rw[← HA0.out]
     exact⟨rfl,a,b⟩
    obtain⟨hN,hhN⟩:∃h,h=hdB J1.turn l.length l l.length:=⟨_,rfl⟩
    have lhN:hN.length=16+12*l.length:=by rw[hhN];exact hdB_length HG.out _ _ _ (Nat.le_refl _)
    obtain⟨LH,hLH⟩:∃x,x=16+12*l.length:=⟨_,rfl⟩
    obtain⟨ZN,hZN⟩:∃x,x=488-12*l.length:=⟨_,rfl⟩
    have HSZ:Hid (((str hN).size:Int)=(LH:Int)∧(str hN).size=LH∧IntKind.i64.wrap (504-(LH:Int))=(ZN:Int)):=by
     show _∧_∧_
     rw[str_size,lhN,IntKind.wrap_i64]
     refine⟨by omega,by omega,by omega⟩
    obtain⟨zz,hzz⟩:∃z,z=List.replicate ZN (0:UInt8):=⟨_,rfl⟩
    have lzz:zz.length=ZN:=by rw[hzz,List.length_replicate]
    have HZZ:Hid (∀w,Calls Tryz.prog 68 #[.int .i64 (ZN:Int)] w fun e w'=>e=.returned (.string (str zz))∧Upd [] w w'):=by
     show ∀w,_
     intro w;rw[hzz];exact rzeros_spec w ZN (by omega) (by omega)
    have lxe2:xe.length=8:=by rw[HXE.out.1,be_length]
    have HS6:Hid (∀w,(Op.stringOp .add (str hN) (str zz)).run Tryz.prog w=.ok (.string (str (hN++zz))) w):=Lib.hid (fun w=>run_adds hN zz (by omega) (by omega) w)
    have HS7:Hid (∀w,(Op.stringOp .add (str (hN++zz)) (str xe)).run Tryz.prog w=.ok (.string (str (hdr J1.turn l))) w):=by
     show ∀w,_
     intro w
     rw[run_adds _ xe (by rw[List.length_append];omega) (by omega) w,hdr_bytes HG.out h40,← hhN,hzz,hZN,← HXE.out.1,List.append_assoc]
    have HHN:=Lib.hid hhN
    rw[← hhN]
    obtain⟨b0,_⟩:=HJR.out.cells
    clear p1 p2 p3 p4 p5 hlm1 hlm2 hlm3 hlm4 hlm5 h40 lhN hLH hZN hzz lzz lxe2 hhN
    go_wp2_with fail
    refine(HFL.out _ (Upd.refl _ _)).mono ?_
    rintro e w5 ⟨rfl,hd5,hu5⟩
    have HD5:=Lib.hid hd5
    have HU5:=Lib.hid (HU.out.trans hu5)
    have HJ5:=Lib.hid (HZ.out.step hd5 HU5.out (by rw[Dk.flush_n,comF_n]))
    have HC5:Hid (∀w',Upd [] w5 w'→w'.cell? ⟨q.jb,0,none⟩=some (.pointer (some ⟨q.r.rb,0,none⟩))∧w'.cell? ⟨q.jb,3,none⟩=some (.int .u64 J1.turn)∧w'.cell? ⟨q.jb,4,none⟩=some (.int .i64 (J1.place:Int))):=by
     show ∀w',_
     intro w' hu
     obtain⟨x0,_,_,x3,x4,_⟩:=(HJ5.out.below hu).cells
     exact⟨x0,x3,x4⟩
    clear hd5 hu5 b0
    go_wp2_with fail
    refine wp_region_xL (fun w'=>Upd [] w5 w') [23] (by kernel_rfl) (by simp only[List.size_toArray,List.length_cons,List.length_nil,Nat.reduceAdd];exact rfl) (by simp only[List.replicate_succ,List.replicate_zero];exact rfl) (Upd.refl _ _).drew (fun hHeld=>?_)
    generalize w5.drew=w0 at hHeld ⊢
    refine takeL (i:=0) (v:=?_) rfl rfl (by kernel_rfl) (fun _ _ _ h=>h) hHeld (Or.inl ⟨by kernel_rfl,?_⟩) (by dsimp only[List.set_cons_succ,List.set_cons_zero]) (by dsimp only[List.set_cons_succ,List.set_cons_zero]) ?_
    rotate_left
    ·(intro w hSw;go_simp<;>with_reducible rfl)
    refine takeL (i:=1) (v:=?_) rfl rfl (by kernel_rfl) (fun _ _ _ h=>h) hHeld (Or.inl ⟨by kernel_rfl,?_⟩) (by dsimp only[List.set_cons_succ,List.set_cons_zero]) (by dsimp only[List.set_cons_succ,List.set_cons_zero]) ?_
    rotate_left
    ·(intro w hSw;go_simp<;>with_reducible rfl)
    refine takeL (i:=2) (v:=?_) rfl rfl (by kernel_rfl) (fun _ _ _ h=>h) hHeld (Or.inl ⟨by kernel_rfl,?_⟩) (by dsimp only[List.set_cons_succ,List.set_cons_zero]) (by dsimp only[List.set_cons_succ,List.set_cons_zero]) ?_
    rotate_left
    ·(intro w hSw;go_simp<;>with_reducible rfl)
    refine takeL (i:=4) (v:=?_) rfl rfl (by kernel_rfl) (fun _ _ _ h=>h) hHeld (Or.inl ⟨by kernel_rfl,?_⟩) (by dsimp only[List.set_cons_succ,List.set_cons_zero]) (by dsimp only[List.set_cons_succ,List.set_cons_zero]) ?_
    rotate_left
    ·(intro w hSw;go_simp<;>with_reducible rfl)
    refine takeL (i:=5) (v:=?_) rfl rfl (by kernel_rfl) (fun _ _ _ h=>h) hHeld (Or.inl ⟨by kernel_rfl,?_⟩) (by dsimp only[List.set_cons_succ,List.set_cons_zero]) (by dsimp only[List.set_cons_succ,List.set_cons_zero]) ?_
    rotate_left
    ·(intro w hSw;go_simp<;>with_reducible rfl)
    refine takeL (i:=6) (v:=?_) rfl rfl (by kernel_rfl) (fun _ _ _ h=>h) hHeld (Or.inl ⟨by kernel_rfl,?_⟩) (by dsimp only[List.set_cons_succ,List.set_cons_zero]) (by dsimp only[List.set_cons_succ,List.set_cons_zero]) ?_
    rotate_left
    ·(intro w hSw;go_simp<;>with_reducible rfl)
    refine takeL (i:=9) (v:=?_) rfl rfl (by kernel_rfl) (fun _ _ _ h=>h) hHeld (Or.inl ⟨by kernel_rfl,?_⟩) (by dsimp only[List.set_cons_succ,List.set_cons_zero]) (by dsimp only[List.set_cons_succ,List.set_cons_zero]) ?_
    rotate_left
    ·(intro w hSw;go_simp<;>with_reducible rfl)
    refine takeL (i:=10) (v:=?_) rfl rfl (by kernel_rfl) (fun _ _ _ h=>h) hHeld (Or.inl ⟨by kernel_rfl,?_⟩) (by dsimp only[List.set_cons_succ,List.set_cons_zero]) (by dsimp only[List.set_cons_succ,List.set_cons_zero]) ?_
    rotate_left
    ·(intro w hSw;go_simp<;>with_reducible rfl)
    refine takeL (i:=15) (v:=?_) rfl rfl (by kernel_rfl) (fun _ _ _ h=>h) hHeld (Or.inl ⟨by kernel_rfl,?_⟩) (by dsimp only[List.set_cons_succ,List.set_cons_zero]) (by dsimp only[List.set_cons_succ,List.set_cons_zero]) ?_
    rotate_left
    ·(intro w hSw;go_simp<;>with_reducible rfl)
    refine takeL (i:=16) (v:=?_) rfl rfl (by kernel_rfl) (fun _ _ _ h=>h) hHeld (Or.inl ⟨by kernel_rfl,?_⟩) (by dsimp only[List.set_cons_succ,List.set_cons_zero]) (by dsimp only[List.set_cons_succ,List.set_cons_zero]) ?_
    rotate_left
    ·(intro w hSw;go_simp<;>with_reducible rfl)
    refine takeL (i:=17) (v:=?_) rfl rfl (by kernel_rfl) (fun _ _ _ h=>h) hHeld (Or.inl ⟨by kernel_rfl,?_⟩) (by dsimp only[List.set_cons_succ,List.set_cons_zero]) (by dsimp only[List.set_cons_succ,List.set_cons_zero]) ?_
    rotate_left
    ·(intro w hSw;go_simp<;>with_reducible rfl)
    refine takeL (i:=3) (v:=?_) rfl rfl (by kernel_rfl) (fun _ _ _ h=>h) hHeld (Or.inl ⟨by kernel_rfl,?_⟩) (by dsimp only[List.set_cons_succ,List.set_cons_zero]) (by dsimp only[List.set_cons_succ,List.set_cons_zero]) ?_
    rotate_left
    ·(intro w hSw;obtain⟨x0,x3,x4⟩:=HC5.out _ hSw;go_simp<;>with_reducible rfl)
    refine takeL (i:=7) (v:=?_) rfl rfl (by kernel_rfl) (fun _ _ _ h=>h) hHeld (Or.inl ⟨by kernel_rfl,?_⟩) (by dsimp only[List.set_cons_succ,List.set_cons_zero]) (by dsimp only[List.set_cons_succ,List.set_cons_zero]) ?_
    rotate_left
    ·(intro w hSw;obtain⟨x0,x3,x4⟩:=HC5.out _ hSw;go_simp<;>with_reducible rfl)
    refine takeL (i:=18) (v:=?_) rfl rfl (by kernel_rfl) (fun _ _ _ h=>h) hHeld (Or.inl ⟨by kernel_rfl,?_⟩) (by dsimp only[List.set_cons_succ,List.set_cons_zero]) (by dsimp only[List.set_cons_succ,List.set_cons_zero]) ?_
    rotate_left
    ·(intro w hSw;obtain⟨x0,x3,x4⟩:=HC5.out _ hSw;go_simp<;>with_reducible rfl)
    refine takeL (i:=8) (v:=?_) rfl rfl (by kernel_rfl) (fun _ _ _ h=>h) hHeld (Or.inl ⟨by kernel_rfl,?_⟩) (by dsimp only[List.set_cons_succ,List.set_cons_zero]) (by dsimp only[List.set_cons_succ,List.set_cons_zero]) ?_
    rotate_left
    ·(intro w hSw;have wq:=HW0.out;go_simp<;>with_reducible rfl)
    refine takeL (i:=11) (v:=?_) rfl rfl (by kernel_rfl) (fun _ _ _ h=>h) hHeld (Or.inl ⟨by kernel_rfl,?_⟩) (by dsimp only[List.set_cons_succ,List.set_cons_zero]) (by dsimp only[List.set_cons_succ,List.set_cons_zero]) ?_
    rotate_left
    ·(intro w hSw;obtain⟨z1,z2,z3⟩:=HSZ.out;go_simp<;>with_reducible rfl)
    refine takeL (i:=12) (v:=?_) rfl rfl (by kernel_rfl) (fun _ _ _ h=>h) hHeld (Or.inl ⟨by kernel_rfl,?_⟩) (by dsimp only[List.set_cons_succ,List.set_cons_zero]) (by dsimp only[List.set_cons_succ,List.set_cons_zero]) ?_
    rotate_left
    ·(intro w hSw;obtain⟨z1,z2,z3⟩:=HSZ.out;go_simp<;>with_reducible rfl)
    refine takeL (i:=19) (v:=?_) rfl rfl (by kernel_rfl) (fun _ _ _ h=>h) hHeld (Or.inl ⟨by kernel_rfl,?_⟩) (by dsimp only[List.set_cons_succ,List.set_cons_zero]) (by dsimp only[List.set_cons_succ,List.set_cons_zero]) ?_
    rotate_left
    ·(intro w hSw;have wq:=HTT.out.1;go_simp<;>with_reducible rfl)
    refine takeL (i:=20) (v:=?_) rfl rfl (by kernel_rfl) (fun _ _ _ h=>h) hHeld (Or.inl ⟨by kernel_rfl,?_⟩) (by dsimp only[List.set_cons_succ,List.set_cons_zero]) (by dsimp only[List.set_cons_succ,List.set_cons_zero]) ?_
    rotate_left
    ·(intro w hSw;have wq:=HTT.out.2;go_simp<;>with_reducible rfl)
    refine wpAnyX_ready (rs:=[13]) (by kernel_rfl) (by simp) (AllReadyX.one rfl (fun K hK=>?_))
    go_simp
    go_at_call 68
    (with_reducible refine(HZZ.out _).mono ?_)
    rintro e wl ⟨rfl,hul⟩
    refine hK.out _ _ (fun _=>hHeld.trans hul) ?_
    replace hHeld:=hHeld.trans hul
    clear hul hK K
    try simp only[Act.put,List.getElem_toArray,List.getElem_cons_zero,List.getElem_cons_succ,List.setIfInBounds_toArray,List.set_cons_zero,List.set_cons_succ]
    refine takeL (i:=14) (v:=?_) rfl rfl (by kernel_rfl) (fun _ _ _ h=>h) hHeld (Or.inl ⟨by kernel_rfl,?_⟩) (by dsimp only[List.set_cons_succ,List.set_cons_zero]) (by dsimp only[List.set_cons_succ,List.set_cons_zero]) ?_
    rotate_left
    ·(intro w hSw;have ha:=HS6.out;go_simp<;>with_reducible rfl)
    refine wpAnyX_ready (rs:=[21]) (by kernel_rfl) (by simp) (AllReadyX.one rfl (fun K hK=>?_))
    go_simp
    go_at_call 125
    (with_reducible refine(HE3.out _).mono ?_)
    rintro e wl ⟨rfl,hul⟩
    refine hK.out _ _ (fun _=>hHeld.trans hul) ?_
    replace hHeld:=hHeld.trans hul
    clear hul hK K
    try simp only[Act.put,List.getElem_toArray,List.getElem_cons_zero,List.getElem_cons_succ,List.setIfInBounds_toArray,List.set_cons_zero,List.set_cons_succ]
    refine takeL (i:=22) (v:=?_) rfl rfl (by kernel_rfl) (fun _ _ _ h=>h) hHeld (Or.inl ⟨by kernel_rfl,?_⟩) (by dsimp only[List.set_cons_succ,List.set_cons_zero]) (by dsimp only[List.set_cons_succ,List.set_cons_zero]) ?_
    rotate_left
    ·(intro w hSw;have ha:=HS7.out;go_simp<;>with_reducible rfl)
    refine wpAnyX_ready (rs:=[23]) (by kernel_rfl) (by simp) (AllReadyX.one rfl (fun K hK=>?_))
    go_simp
    go_at_call 69
    (with_reducible refine(HWH.out _ (HD5.out.below hHeld)).mono ?_)
    rintro e wl ⟨rfl,hdl,hul⟩
    refine hK.out _ _ (noneUp_not (by kernel_rfl)) ?_
    clear hK K
    try simp only[Act.put,List.getElem_toArray,List.getElem_cons_zero,List.getElem_cons_succ,List.setIfInBounds_toArray,List.set_cons_zero,List.set_cons_succ]
    refine wpAnyX_free (by kernel_rfl) ?_
    refine takeL (i:=24) (v:=?_) rfl rfl (by kernel_rfl) (fun _ _ _ h=>h) trivial (Or.inl ⟨by kernel_rfl,?_⟩) (by dsimp only[List.set_cons_succ,List.set_cons_zero]) (by dsimp only[List.set_cons_succ,List.set_cons_zero]) ?_
    rotate_left
    ·(intro w hSw;go_simp<;>with_reducible rfl)
    refine wpAnyX_done (by kernel_rfl) ?_ _
    have HD6:=Lib.hid hdl
    have HU6:=Lib.hid ((HU5.out.trans (hHeld.mono (T:=q.r.all) (by simp))).trans hul)
    have hj6:=HZ.out.step hdl HU6.out (by rw[Dk.write_n,Dk.flush_n,comF_n])
    obtain⟨b0,_⟩:=hj6.cells
    clear hdl hul hHeld hj6
    go_wp2_with fail
    refine(HFL2.out _ HD6.out).mono ?_
    rintro e w7 ⟨rfl,hd7,hu7⟩
    have HU7:=Lib.hid (HU6.out.trans hu7)
    have HJ7:=Lib.hid (HZ.out.step hd7 HU7.out HP5.out)
    have HP7:=Lib.hid (HPZ.out.upd HU7.out HBR.out)
    clear hd7 hu7 b0
    have hE1:(comE J1 D1 l).n=D1.n:=HP5.out
    have hhE:J1.homes (comE J1 D1 l).n=J.homes D.n:=by
     obtain⟨_,_,s3,s4⟩:=HSM.out
     unfold Jn.homes
     rw[hE1,s3,s4]
    have HGE:Hid (PutsGood (J1.homes (comE J1 D1 l).n) l):=by show PutsGood _ _;rw[hhE];exact HG.out
    have HOKE:Hid (J1.Ok (comE J1 D1 l).n):=by show J1.Ok _;rw[hE1];exact HOK1.out
    obtain⟨EE,hEE⟩:∃E,E=comE J1 D1 l:=⟨_,rfl⟩
    rw[← hEE] at HGE HOKE HJ7
    have HEE:=Lib.hid hEE
    have HBO:Hid (∀x,x∈q.own→x<B):=Lib.hid (fun x hx=>HBB.out x (by simp[QG.all,hx]))
    obtain⟨hom,hhom⟩:∃h,h=J1.homes EE.n:=⟨_,rfl⟩
    have HHO:=Lib.hid hhom
    clear hE1 hhE hEE hhom
    go_wp2_with fail
    go_loopw [12] (fun i wr=>∃m:Nat,m≤l.length∧i=.int .i64 (m:Int)∧RjmAt wr q (notedM J1 l m) EE∧Upd q.own w7 wr) (fun i _=>l.length-(intOf i).toNat)
    case atStart=>
     have e0:notedM J1 l 0=J1:=by unfold notedM;rw[List.take_zero];rfl
     exact⟨0,Nat.zero_le _,rfl,by rw[e0];exact HJ7.out,Upd.refl _ _⟩
    case round=>
     obtain⟨m,hm,rfl,hj,hu8⟩:=hrel
     have HJM:=Lib.hid hj
     have HU8:=Lib.hid hu8
     have HPM:=Lib.hid (HP7.out.upd hu8 HBO.out)
     clear hj hu8
     rcases Nat.lt_or_ge m l.length with hlt | hge3
     ·as_aux_lemma=>
       have f1:decide ((m:Int)<(l.length:Int))=true:=decide_eq_true (by omega)
       have f2:decide (m<l.length)=true:=decide_eq_true hlt
       have j0:(0:Int)≤(m:Int):=by omega
       have j1:(m:Int)<(l.length:Int):=by omega
       obtain⟨g,cap,da,dc,e,hc1,hc2,hrd⟩:=HPM.out.at_.get m hlt
       cases e
       obtain⟨b1,b2,b3⟩:=HGE.out.each _ (List.getElem_mem hlt)
       obtain⟨p,hp⟩:∃p,p=l[m]:=⟨_,rfl⟩
       rw[← hp] at hc1 hc2 hrd b1 b2 b3
       have HPG:Hid (l[m]?=some p):=Lib.hid (by rw[List.getElem?_eq_getElem hlt,hp])
       obtain⟨pN,hpN⟩:∃n,n=p.1.toNat:=⟨_,rfl⟩
       have hpi:p.1=(pN:Int):=by omega
       rw[hpi] at hc1
       rw[← HHO.out] at b2
       have j2:(0:Int)≤(pN:Int):=by omega
       have j3:(pN:Int)<(hom:Int):=by omega
       have hcv0:=fun w' (hw:Upd [] wr w')=>run_str (hrd.below hw) (by rw[b3];omega)
       have HCV:=Lib.hid hcv0
       have HC:Hid (∀w',Upd [] wr w'→w'.cell? ⟨g,m*2,none⟩=some (.int .i64 (pN:Int))∧w'.cell? ⟨g,m*2+1,none⟩=some (.slice da p.2.length dc)∧w'.cell? ⟨q.jb,7,none⟩=some (.slice (some ⟨q.nb,0,none⟩) hom q.cn)∧w'.cell? ⟨q.jb,6,none⟩=some (.slice (some ⟨q.ab,0,none⟩) hom q.ca)):=by
        show ∀w',_
        intro w' hu
        obtain⟨_,_,_,_,_,_,c6,c7,_⟩:=(HJM.out.below hu).cells
        have e9:(notedM J1 l m).homes EE.n=hom:=HHO.out.symm
        rw[e9] at c6 c7
        exact⟨cell_updW hc1 hu (by simp),cell_updW hc2 hu (by simp),c7,c6⟩
       have HPN2:=Lib.hid (And.intro hpN b3)
       have HJ3:=Lib.hid (And.intro j2 j3)
       obtain⟨pl,hpl⟩:∃n,n=p.2.length:=⟨_,rfl⟩
       rw[← hpl] at HC HCV
       clear hcv0 hc1 hc2 hrd b1 b2 b3 hp hpN hpi hpl
       go_wp2_with fail
       refine wp_region_xL (fun w'=>Upd [] wr w') [25] (by kernel_rfl) (by simp only[List.size_toArray,List.length_cons,List.length_nil,Nat.reduceAdd];exact rfl) (by simp only[List.replicate_succ,List.replicate_zero];exact rfl) (Upd.refl _ _).drew (fun hHeld=>?_)
       generalize wr.drew=w0 at hHeld ⊢
       refine takeL (i:=0) (v:=?_) rfl rfl (by kernel_rfl) (fun _ _ _ h=>h) hHeld (Or.inl ⟨by kernel_rfl,?_⟩) (by dsimp only[List.set_cons_succ,List.set_cons_zero]) (by dsimp only[List.set_cons_succ,List.set_cons_zero]) ?_
       rotate_left
       ·(intro w hSw;go_simp<;>with_reducible rfl)
       refine takeL (i:=1) (v:=?_) rfl rfl (by kernel_rfl) (fun _ _ _ h=>h) hHeld (Or.inl ⟨by kernel_rfl,?_⟩) (by dsimp only[List.set_cons_succ,List.set_cons_zero]) (by dsimp only[List.set_cons_succ,List.set_cons_zero]) ?_
       rotate_left
       ·(intro w hSw;go_simp<;>with_reducible rfl)
       refine takeL (i:=2) (v:=?_) rfl rfl (by kernel_rfl) (fun _ _ _ h=>h) hHeld (Or.inl ⟨by kernel_rfl,?_⟩) (by dsimp only[List.set_cons_succ,List.set_cons_zero]) (by dsimp only[List.set_cons_succ,List.set_cons_zero]) ?_
       rotate_left
       ·(intro w hSw;go_simp<;>with_reducible rfl)
       refine takeL (i:=4) (v:=?_) rfl rfl (by kernel_rfl) (fun _ _ _ h=>h) hHeld (Or.inl ⟨by kernel_rfl,?_⟩) (by dsimp only[List.set_cons_succ,List.set_cons_zero]) (by dsimp only[List.set_cons_succ,List.set_cons_zero]) ?_
       rotate_left
       ·(intro w hSw;go_simp<;>with_reducible rfl)
       refine takeL (i:=5) (v:=?_) rfl rfl (by kernel_rfl) (fun _ _ _ h=>h) hHeld (Or.inl ⟨by kernel_rfl,?_⟩) (by dsimp only[List.set_cons_succ,List.set_cons_zero]) (by dsimp only[List.set_cons_succ,List.set_cons_zero]) ?_
       rotate_left
       ·(intro w hSw;go_simp<;>with_reducible rfl)
       refine takeL (i:=6) (v:=?_) rfl rfl (by kernel_rfl) (fun _ _ _ h=>h) hHeld (Or.inl ⟨by kernel_rfl,?_⟩) (by dsimp only[List.set_cons_succ,List.set_cons_zero]) (by dsimp only[List.set_cons_succ,List.set_cons_zero]) ?_
       rotate_left
       ·(intro w hSw;go_simp<;>with_reducible rfl)
       refine takeL (i:=7) (v:=?_) rfl rfl (by kernel_rfl) (fun _ _ _ h=>h) hHeld (Or.inl ⟨by kernel_rfl,?_⟩) (by dsimp only[List.set_cons_succ,List.set_cons_zero]) (by dsimp only[List.set_cons_succ,List.set_cons_zero]) ?_
       rotate_left
       ·(intro w hSw;go_simp<;>with_reducible rfl)
       refine takeL (i:=9) (v:=?_) rfl rfl (by kernel_rfl) (fun _ _ _ h=>h) hHeld (Or.inl ⟨by kernel_rfl,?_⟩) (by dsimp only[List.set_cons_succ,List.set_cons_zero]) (by dsimp only[List.set_cons_succ,List.set_cons_zero]) ?_
       rotate_left
       ·(intro w hSw;go_simp<;>with_reducible rfl)
       refine takeL (i:=10) (v:=?_) rfl rfl (by kernel_rfl) (fun _ _ _ h=>h) hHeld (Or.inl ⟨by kernel_rfl,?_⟩) (by dsimp only[List.set_cons_succ,List.set_cons_zero]) (by dsimp only[List.set_cons_succ,List.set_cons_zero]) ?_
       rotate_left
       ·(intro w hSw;go_simp<;>with_reducible rfl)
       refine takeL (i:=11) (v:=?_) rfl rfl (by kernel_rfl) (fun _ _ _ h=>h) hHeld (Or.inl ⟨by kernel_rfl,?_⟩) (by dsimp only[List.set_cons_succ,List.set_cons_zero]) (by dsimp only[List.set_cons_succ,List.set_cons_zero]) ?_
       rotate_left
       ·(intro w hSw;go_simp<;>with_reducible rfl)
       refine takeL (i:=13) (v:=?_) rfl rfl (by kernel_rfl) (fun _ _ _ h=>h) hHeld (Or.inl ⟨by kernel_rfl,?_⟩) (by dsimp only[List.set_cons_succ,List.set_cons_zero]) (by dsimp only[List.set_cons_succ,List.set_cons_zero]) ?_
       rotate_left
       ·(intro w hSw;go_simp<;>with_reducible rfl)
       refine takeL (i:=14) (v:=?_) rfl rfl (by kernel_rfl) (fun _ _ _ h=>h) hHeld (Or.inl ⟨by kernel_rfl,?_⟩) (by dsimp only[List.set_cons_succ,List.set_cons_zero]) (by dsimp only[List.set_cons_succ,List.set_cons_zero]) ?_
       rotate_left
       ·(intro w hSw;go_simp<;>with_reducible rfl)
       refine takeL (i:=15) (v:=?_) rfl rfl (by kernel_rfl) (fun _ _ _ h=>h) hHeld (Or.inl ⟨by kernel_rfl,?_⟩) (by dsimp only[List.set_cons_succ,List.set_cons_zero]) (by dsimp only[List.set_cons_succ,List.set_cons_zero]) ?_
       rotate_left
       ·(intro w hSw;go_simp<;>with_reducible rfl)
       refine takeL (i:=16) (v:=?_) rfl rfl (by kernel_rfl) (fun _ _ _ h=>h) hHeld (Or.inl ⟨by kernel_rfl,?_⟩) (by dsimp only[List.set_cons_succ,List.set_cons_zero]) (by dsimp only[List.set_cons_succ,List.set_cons_zero]) ?_
       rotate_left
       ·(intro w hSw;go_simp<;>with_reducible rfl)
       refine takeL (i:=18) (v:=?_) rfl rfl (by kernel_rfl) (fun _ _ _ h=>h) hHeld (Or.inl ⟨by kernel_rfl,?_⟩) (by dsimp only[List.set_cons_succ,List.set_cons_zero]) (by dsimp only[List.set_cons_succ,List.set_cons_zero]) ?_
       rotate_left
       ·(intro w hSw;go_simp<;>with_reducible rfl)
       refine takeL (i:=19) (v:=?_) rfl rfl (by kernel_rfl) (fun _ _ _ h=>h) hHeld (Or.inl ⟨by kernel_rfl,?_⟩) (by dsimp only[List.set_cons_succ,List.set_cons_zero]) (by dsimp only[List.set_cons_succ,List.set_cons_zero]) ?_
       rotate_left
       ·(intro w hSw;go_simp<;>with_reducible rfl)
       refine takeL (i:=20) (v:=?_) rfl rfl (by kernel_rfl) (fun _ _ _ h=>h) hHeld (Or.inl ⟨by kernel_rfl,?_⟩) (by dsimp only[List.set_cons_succ,List.set_cons_zero]) (by dsimp only[List.set_cons_succ,List.set_cons_zero]) ?_
       rotate_left
       ·(intro w hSw;go_simp<;>with_reducible rfl)
       refine takeL (i:=21) (v:=?_) rfl rfl (by kernel_rfl) (fun _ _ _ h=>h) hHeld (Or.inl ⟨by kernel_rfl,?_⟩) (by dsimp only[List.set_cons_succ,List.set_cons_zero]) (by dsimp only[List.set_cons_succ,List.set_cons_zero]) ?_
       rotate_left
       ·(intro w hSw;go_simp<;>with_reducible rfl)
       refine takeL (i:=3) (v:=?_) rfl rfl (by kernel_rfl) (fun _ _ _ h=>h) hHeld (Or.inl ⟨by kernel_rfl,?_⟩) (by dsimp only[List.set_cons_succ,List.set_cons_zero]) (by dsimp only[List.set_cons_succ,List.set_cons_zero]) ?_
       rotate_left
       ·(intro w hSw;obtain⟨x0,x1,x7,x6⟩:=HC.out _ hSw;go_simp<;>with_reducible rfl)
       refine takeL (i:=8) (v:=?_) rfl rfl (by kernel_rfl) (fun _ _ _ h=>h) hHeld (Or.inl ⟨by kernel_rfl,?_⟩) (by dsimp only[List.set_cons_succ,List.set_cons_zero]) (by dsimp only[List.set_cons_succ,List.set_cons_zero]) ?_
       rotate_left
       ·(intro w hSw;obtain⟨x0,x1,x7,x6⟩:=HC.out _ hSw;go_simp<;>with_reducible rfl)
       refine takeL (i:=12) (v:=?_) rfl rfl (by kernel_rfl) (fun _ _ _ h=>h) hHeld (Or.inl ⟨by kernel_rfl,?_⟩) (by dsimp only[List.set_cons_succ,List.set_cons_zero]) (by dsimp only[List.set_cons_succ,List.set_cons_zero]) ?_
       rotate_left
       ·(intro w hSw;obtain⟨x0,x1,x7,x6⟩:=HC.out _ hSw;go_simp<;>with_reducible rfl)
       refine takeL (i:=17) (v:=?_) rfl rfl (by kernel_rfl) (fun _ _ _ h=>h) hHeld (Or.inl ⟨by kernel_rfl,?_⟩) (by dsimp only[List.set_cons_succ,List.set_cons_zero]) (by dsimp only[List.set_cons_succ,List.set_cons_zero]) ?_
       rotate_left
       ·(intro w hSw;obtain⟨x0,x1,x7,x6⟩:=HC.out _ hSw;go_simp<;>with_reducible rfl)
       refine takeL (i:=22) (v:=?_) rfl rfl (by kernel_rfl) (fun _ _ _ h=>h) hHeld (Or.inl ⟨by kernel_rfl,?_⟩) (by dsimp only[List.set_cons_succ,List.set_cons_zero]) (by dsimp only[List.set_cons_succ,List.set_cons_zero]) ?_
       rotate_left
       ·(intro w hSw;obtain⟨x0,x1,x7,x6⟩:=HC.out _ hSw;go_simp<;>with_reducible rfl)
       refine takeL (i:=23) (v:=?_) rfl rfl (by kernel_rfl) (fun _ _ _ h=>h) hHeld (Or.inl ⟨by kernel_rfl,?_⟩) (by dsimp only[List.set_cons_succ,List.set_cons_zero]) (by dsimp only[List.set_cons_succ,List.set_cons_zero]) ?_
       rotate_left
       ·(intro w hSw;have hcv:=HCV.out _ hSw;go_simp<;>with_reducible rfl)
       refine takeL (i:=24) (v:=?_) rfl rfl (by kernel_rfl) (fun _ _ _ h=>h) hHeld (Or.inl ⟨by kernel_rfl,?_⟩) (by dsimp only[List.set_cons_succ,List.set_cons_zero]) (by dsimp only[List.set_cons_succ,List.set_cons_zero]) ?_
       rotate_left
       ·(intro w hSw;obtain⟨j2,j3⟩:=HJ3.out;go_simp<;>with_reducible rfl)
       have HJ0:=Lib.hid (HJM.out.below hHeld)
       obtain⟨nl,⟨rest,hrest⟩,hn2⟩:=HJ0.out.now
       have hhl:nl.length=hom:=by rw[hn2.len];exact HHO.out.symm
       have st1:=storeW1 hrest pN (v:=.string (str p.2)) (by have:=HJ3.out.2;simp;omega) rfl
       obtain⟨r2,hr2⟩:=HJ0.out.away
       have hnab:q.ab≠q.nb:=by
        intro e
        rw[e,hrest] at hr2;simp at hr2
       have hr3:(w0.setCell ⟨q.nb,pN,none⟩ (.string (str p.2))).heap[q.ab]?=some (.cells (awayB (notedM J1 l m).away ((notedM J1 l m).homes EE.n)++r2).toArray 4 (0,0)):=
        (((Upd.refl [q.nb] w0).set (.string (str p.2)) (b:=q.nb) (o:=pN) (.inl (by simp))).block _ (blk_lt hr2) (by simp;exact hnab)).trans hr2
       have st2:=storeW1 hr3 pN (v:=.bool true) (by have:=HJ3.out.2;have e9:(notedM J1 l m).homes EE.n=hom:=HHO.out.symm;simp[awayB_length];omega) rfl
       have hput:=HJ0.out.put1 HOKE.out HGE.out HPG.out hlt
       rw[← HPN2.out.1] at hput
       have HPUT:=Lib.hid hput
       clear hrest hn2 hhl hr2 hnab hr3 hput
       refine wpAnyX_ready (rs:=[25]) (by kernel_rfl) (by simp) (AllReadyX.one rfl (fun K hK=>?_))
       go_simp
       refine hK.out _ _ (noneUp_not (by kernel_rfl)) ?_
       clear hK K
       try simp only[Act.put,List.getElem_toArray,List.getElem_cons_zero,List.getElem_cons_succ,List.setIfInBounds_toArray,List.set_cons_zero,List.set_cons_succ]
       refine wpAnyX_free (by kernel_rfl) ?_
       refine takeL (i:=26) (v:=?_) rfl rfl (by kernel_rfl) (fun _ _ _ h=>h) trivial (Or.inl ⟨by kernel_rfl,?_⟩) (by dsimp only[List.set_cons_succ,List.set_cons_zero]) (by dsimp only[List.set_cons_succ,List.set_cons_zero]) ?_
       rotate_left
       ·(intro w hSw;obtain⟨j2,j3⟩:=HJ3.out;go_simp<;>with_reducible rfl)
       refine wpAnyX_ready (rs:=[27]) (by kernel_rfl) (by simp) (AllReadyX.one rfl (fun K hK=>?_))
       go_simp
       refine hK.out _ _ (fun _=>trivial) ?_
       clear hK K
       try simp only[Act.put,List.getElem_toArray,List.getElem_cons_zero,List.getElem_cons_succ,List.setIfInBounds_toArray,List.set_cons_zero,List.set_cons_succ]
       refine wpAnyX_done (by kernel_rfl) ?_ _
       have HJN:=Lib.hid HPUT.out.1
       have HUN:=Lib.hid ((HU8.out.trans (hHeld.mono (T:=q.own) (by simp))).trans HPUT.out.2)
       clear hHeld st1 st2
       go_wp2_with fail
       exact⟨⟨m+1,by omega,by go_num,HJN.out,HUN.out⟩,by simp[intOf];omega⟩
     ·as_aux_lemma=>
       obtain rfl:m=l.length:=by omega
       have f1:decide ((l.length:Int)<(l.length:Int))=false:=by simp
       have f2:decide (l.length<l.length)=false:=by simp
       have huf:=used_fit H3.out.disk.on H3.out.disk.ok H3.out.ok HMY.out (by have:=HN.out;omega) HU0.out HL40.out.2 HJD.out.1 HJD.out.2
       obtain⟨hlm1,hlm2,hlm3,hlm4,hlm5⟩:=HLIM.out
       have hc1':=com_one (E:=EE) HMY.out HF1.out HLN.out (by have:=HT.out;omega) (ckD_zero H3.out.disk.on H3.out.disk.ok H3.out.ok HMY.out (by have:=HN.out;omega)) HJD.out.1 HJD.out.2 (by rw[HP1'.out,HEE.out])
       have HRES:=Lib.hid hc1'
       obtain⟨P1,hP1⟩:∃x,x=J1.place+1:=⟨_,rfl⟩
       obtain⟨P2,hP2⟩:∃x,x=P1+l.length:=⟨_,rfl⟩
       obtain⟨P3,hP3⟩:∃x,x=P2 % J1.last.ring:=⟨_,rfl⟩
       obtain⟨T1,hT1⟩:∃x,x=J1.turn+1:=⟨_,rfl⟩
       obtain⟨U1,hU1⟩:∃x,x=J1.used+1:=⟨_,rfl⟩
       obtain⟨U2,hU2⟩:∃x,x=U1+l.length:=⟨_,rfl⟩
       have hP3lt:P3<J1.last.ring:=by rw[hP3];exact Nat.mod_lt _ (by omega)
       have HWW:Hid (IntKind.i64.wrap ((J1.place:Int)+1)=(P1:Int)∧IntKind.i64.wrap ((P1:Int)+(l.length:Int))=(P2:Int)∧(P2:Int).tmod (J1.last.ring:Int)=(P3:Int)∧((P2:Int) % (J1.last.ring:Int))=(P3:Int)∧IntKind.i64.wrap (P3:Int)=(P3:Int)∧IntKind.u64.wrap (J1.turn+1)=T1∧IntKind.i64.wrap ((J1.used:Int)+1)=(U1:Int)∧IntKind.i64.wrap ((U1:Int)+(l.length:Int))=(U2:Int)∧¬(J1.last.ring=0)):=by
        show _∧_∧_∧_∧_∧_∧_∧_∧_
        rw[IntKind.wrap_i64,IntKind.wrap_i64,IntKind.wrap_i64,IntKind.wrap_u64,IntKind.wrap_i64,IntKind.wrap_i64]
        refine⟨by omega,by omega,?_,?_,by omega,by omega,by omega,by omega,by omega⟩
        ·rw[Int.tmod_eq_emod_of_nonneg (by omega),hP3];rfl
        ·rw[hP3];rfl
       have HNT:Hid (∀w',Upd [] wr w'→RjmAt (((w'.setCell ⟨q.jb,4,none⟩ (.int .i64 (P3:Int))).setCell ⟨q.jb,3,none⟩ (.int .u64 T1)).setCell ⟨q.jb,8,none⟩ (.int .i64 (U2:Int))) q (J1.note l) EE∧Upd q.own w' (((w'.setCell ⟨q.jb,4,none⟩ (.int .i64 (P3:Int))).setCell ⟨q.jb,3,none⟩ (.int .u64 T1)).setCell ⟨q.jb,8,none⟩ (.int .i64 (U2:Int)))):=by
        show ∀w',_
        intro w' hu
        have:=(HJM.out.below hu).noted HOKE.out HGE.out huf hlm1
        rw[hP3,hP2,hP1,hT1,hU2,hU1,show J1.used+1+l.length=J1.used+(1+l.length) by omega]
        exact this
       have HC:Hid (∀w',Upd [] wr w'→w'.cell? ⟨q.jb,1,none⟩=some (.int .i64 (J1.last.ring:Int))∧w'.cell? ⟨q.jb,3,none⟩=some (.int .u64 J1.turn)∧w'.cell? ⟨q.jb,4,none⟩=some (.int .i64 (J1.place:Int))∧w'.cell? ⟨q.jb,8,none⟩=some (.int .i64 (J1.used:Int))):=by
        show ∀w',_
        intro w' hu
        obtain⟨_,c1,_,c3,c4,_,_,_,c8,_⟩:=(HJM.out.below hu).cells
        exact⟨c1,c3,c4,c8⟩
       clear huf hlm1 hlm2 hlm3 hlm4 hlm5 hc1' hP1 hP2 hP3 hT1 hU1 hU2 hP3lt
       go_wp2_with fail
       refine wp_region_xL (fun w'=>Upd [] wr w') [31] (by kernel_rfl) (by simp only[List.size_toArray,List.length_cons,List.length_nil,Nat.reduceAdd];exact rfl) (by simp only[List.replicate_succ,List.replicate_zero];exact rfl) (Upd.refl _ _).drew (fun hHeld=>?_)
       generalize wr.drew=w0 at hHeld ⊢
       refine takeL (i:=0) (v:=?_) rfl rfl (by kernel_rfl) (fun _ _ _ h=>h) hHeld (Or.inl ⟨by kernel_rfl,?_⟩) (by dsimp only[List.set_cons_succ,List.set_cons_zero]) (by dsimp only[List.set_cons_succ,List.set_cons_zero]) ?_
       rotate_left
       ·(intro w hSw;go_simp<;>with_reducible rfl)
       refine takeNL (i:=1) (v:=?_) rfl rfl (by kernel_rfl) (fun _ _ _ h=>h) (fun _=>hHeld) (Or.inl ⟨by kernel_rfl,?_⟩) (by dsimp only[List.set_cons_succ,List.set_cons_zero]) (by dsimp only[List.set_cons_succ,List.set_cons_zero]) ?_
       rotate_left
       ·(intro w hSw;go_simp<;>with_reducible rfl)
       refine takeNL (i:=2) (v:=?_) rfl rfl (by kernel_rfl) (fun _ _ _ h=>h) (fun _=>hHeld) (Or.inl ⟨by kernel_rfl,?_⟩) (by dsimp only[List.set_cons_succ,List.set_cons_zero]) (by dsimp only[List.set_cons_succ,List.set_cons_zero]) ?_
       rotate_left
       ·(intro w hSw;go_simp<;>with_reducible rfl)
       refine takeL (i:=3) (v:=?_) rfl rfl (by kernel_rfl) (fun _ _ _ h=>h) hHeld (Or.inl ⟨by kernel_rfl,?_⟩) (by dsimp only[List.set_cons_succ,List.set_cons_zero]) (by dsimp only[List.set_cons_succ,List.set_cons_zero]) ?_
       rotate_left
       ·(intro w hSw;go_simp<;>with_reducible rfl)
       refine takeL (i:=4) (v:=?_) rfl rfl (by kernel_rfl) (fun _ _ _ h=>h) hHeld (Or.inl ⟨by kernel_rfl,?_⟩) (by dsimp only[List.set_cons_succ,List.set_cons_zero]) (by dsimp only[List.set_cons_succ,List.set_cons_zero]) ?_
       rotate_left
       ·(intro w hSw;go_simp<;>with_reducible rfl)
       refine takeL (i:=5) (v:=?_) rfl rfl (by kernel_rfl) (fun _ _ _ h=>h) hHeld (Or.inl ⟨by kernel_rfl,?_⟩) (by dsimp only[List.set_cons_succ,List.set_cons_zero]) (by dsimp only[List.set_cons_succ,List.set_cons_zero]) ?_
       rotate_left
       ·(intro w hSw;go_simp<;>with_reducible rfl)
       refine takeL (i:=8) (v:=?_) rfl rfl (by kernel_rfl) (fun _ _ _ h=>h) hHeld (Or.inl ⟨by kernel_rfl,?_⟩) (by dsimp only[List.set_cons_succ,List.set_cons_zero]) (by dsimp only[List.set_cons_succ,List.set_cons_zero]) ?_
       rotate_left
       ·(intro w hSw;go_simp<;>with_reducible rfl)
       refine takeL (i:=9) (v:=?_) rfl rfl (by kernel_rfl) (fun _ _ _ h=>h) hHeld (Or.inl ⟨by kernel_rfl,?_⟩) (by dsimp only[List.set_cons_succ,List.set_cons_zero]) (by dsimp only[List.set_cons_succ,List.set_cons_zero]) ?_
       rotate_left
       ·(intro w hSw;go_simp<;>with_reducible rfl)
       refine takeL (i:=11) (v:=?_) rfl rfl (by kernel_rfl) (fun _ _ _ h=>h) hHeld (Or.inl ⟨by kernel_rfl,?_⟩) (by dsimp only[List.set_cons_succ,List.set_cons_zero]) (by dsimp only[List.set_cons_succ,List.set_cons_zero]) ?_
       rotate_left
       ·(intro w hSw;go_simp<;>with_reducible rfl)
       refine takeL (i:=12) (v:=?_) rfl rfl (by kernel_rfl) (fun _ _ _ h=>h) hHeld (Or.inl ⟨by kernel_rfl,?_⟩) (by dsimp only[List.set_cons_succ,List.set_cons_zero]) (by dsimp only[List.set_cons_succ,List.set_cons_zero]) ?_
       rotate_left
       ·(intro w hSw;go_simp<;>with_reducible rfl)
       refine takeL (i:=13) (v:=?_) rfl rfl (by kernel_rfl) (fun _ _ _ h=>h) hHeld (Or.inl ⟨by kernel_rfl,?_⟩) (by dsimp only[List.set_cons_succ,List.set_cons_zero]) (by dsimp only[List.set_cons_succ,List.set_cons_zero]) ?_
       rotate_left
       ·(intro w hSw;go_simp<;>with_reducible rfl)
       refine takeL (i:=16) (v:=?_) rfl rfl (by kernel_rfl) (fun _ _ _ h=>h) hHeld (Or.inl ⟨by kernel_rfl,?_⟩) (by dsimp only[List.set_cons_succ,List.set_cons_zero]) (by dsimp only[List.set_cons_succ,List.set_cons_zero]) ?_
       rotate_left
       ·(intro w hSw;go_simp<;>with_reducible rfl)
       refine takeL (i:=17) (v:=?_) rfl rfl (by kernel_rfl) (fun _ _ _ h=>h) hHeld (Or.inl ⟨by kernel_rfl,?_⟩) (by dsimp only[List.set_cons_succ,List.set_cons_zero]) (by dsimp only[List.set_cons_succ,List.set_cons_zero]) ?_
       rotate_left
       ·(intro w hSw;go_simp<;>with_reducible rfl)
       refine takeL (i:=18) (v:=?_) rfl rfl (by kernel_rfl) (fun _ _ _ h=>h) hHeld (Or.inl ⟨by kernel_rfl,?_⟩) (by dsimp only[List.set_cons_succ,List.set_cons_zero]) (by dsimp only[List.set_cons_succ,List.set_cons_zero]) ?_
       rotate_left
       ·(intro w hSw;go_simp<;>with_reducible rfl)
       refine takeL (i:=21) (v:=?_) rfl rfl (by kernel_rfl) (fun _ _ _ h=>h) hHeld (Or.inl ⟨by kernel_rfl,?_⟩) (by dsimp only[List.set_cons_succ,List.set_cons_zero]) (by dsimp only[List.set_cons_succ,List.set_cons_zero]) ?_
       rotate_left
       ·(intro w hSw;go_simp<;>with_reducible rfl)
       refine takeL (i:=22) (v:=?_) rfl rfl (by kernel_rfl) (fun _ _ _ h=>h) hHeld (Or.inl ⟨by kernel_rfl,?_⟩) (by dsimp only[List.set_cons_succ,List.set_cons_zero]) (by dsimp only[List.set_cons_succ,List.set_cons_zero]) ?_
       rotate_left
       ·(intro w hSw;go_simp<;>with_reducible rfl)
       refine takeL (i:=23) (v:=?_) rfl rfl (by kernel_rfl) (fun _ _ _ h=>h) hHeld (Or.inl ⟨by kernel_rfl,?_⟩) (by dsimp only[List.set_cons_succ,List.set_cons_zero]) (by dsimp only[List.set_cons_succ,List.set_cons_zero]) ?_
       rotate_left
       ·(intro w hSw;go_simp<;>with_reducible rfl)
       refine takeNL (i:=26) (v:=?_) rfl rfl (by kernel_rfl) (fun _ _ _ h=>h) (fun _=>hHeld) (Or.inl ⟨by kernel_rfl,?_⟩) (by dsimp only[List.set_cons_succ,List.set_cons_zero]) (by dsimp only[List.set_cons_succ,List.set_cons_zero]) ?_
       rotate_left
       ·(intro w hSw;go_simp<;>with_reducible rfl)
       refine takeNL (i:=27) (v:=?_) rfl rfl (by kernel_rfl) (fun _ _ _ h=>h) (fun _=>hHeld) (Or.inl ⟨by kernel_rfl,?_⟩) (by dsimp only[List.set_cons_succ,List.set_cons_zero]) (by dsimp only[List.set_cons_succ,List.set_cons_zero]) ?_
       rotate_left
       ·(intro w hSw;go_simp<;>with_reducible rfl)
       refine takeL (i:=6) (v:=?_) rfl rfl (by kernel_rfl) (fun _ _ _ h=>h) hHeld (Or.inl ⟨by kernel_rfl,?_⟩) (by dsimp only[List.set_cons_succ,List.set_cons_zero]) (by dsimp only[List.set_cons_succ,List.set_cons_zero]) ?_
       rotate_left
       ·(intro w hSw;obtain⟨x1,x3,x4,x8⟩:=HC.out _ hSw;go_simp<;>with_reducible rfl)
       refine takeL (i:=14) (v:=?_) rfl rfl (by kernel_rfl) (fun _ _ _ h=>h) hHeld (Or.inl ⟨by kernel_rfl,?_⟩) (by dsimp only[List.set_cons_succ,List.set_cons_zero]) (by dsimp only[List.set_cons_succ,List.set_cons_zero]) ?_
       rotate_left
       ·(intro w hSw;obtain⟨x1,x3,x4,x8⟩:=HC.out _ hSw;go_simp<;>with_reducible rfl)
       refine takeL (i:=19) (v:=?_) rfl rfl (by kernel_rfl) (fun _ _ _ h=>h) hHeld (Or.inl ⟨by kernel_rfl,?_⟩) (by dsimp only[List.set_cons_succ,List.set_cons_zero]) (by dsimp only[List.set_cons_succ,List.set_cons_zero]) ?_
       rotate_left
       ·(intro w hSw;obtain⟨x1,x3,x4,x8⟩:=HC.out _ hSw;go_simp<;>with_reducible rfl)
       refine takeL (i:=24) (v:=?_) rfl rfl (by kernel_rfl) (fun _ _ _ h=>h) hHeld (Or.inl ⟨by kernel_rfl,?_⟩) (by dsimp only[List.set_cons_succ,List.set_cons_zero]) (by dsimp only[List.set_cons_succ,List.set_cons_zero]) ?_
       rotate_left
       ·(intro w hSw;obtain⟨x1,x3,x4,x8⟩:=HC.out _ hSw;go_simp<;>with_reducible rfl)
       refine takeL (i:=7) (v:=?_) rfl rfl (by kernel_rfl) (fun _ _ _ h=>h) hHeld (Or.inl ⟨by kernel_rfl,?_⟩) (by dsimp only[List.set_cons_succ,List.set_cons_zero]) (by dsimp only[List.set_cons_succ,List.set_cons_zero]) ?_
       rotate_left
       ·(intro w hSw;obtain⟨v1,v2,v3,v4,v5,v6,v7,v8,v9⟩:=HWW.out;go_simp<;>with_reducible rfl)
       refine takeL (i:=10) (v:=?_) rfl rfl (by kernel_rfl) (fun _ _ _ h=>h) hHeld (Or.inl ⟨by kernel_rfl,?_⟩) (by dsimp only[List.set_cons_succ,List.set_cons_zero]) (by dsimp only[List.set_cons_succ,List.set_cons_zero]) ?_
       rotate_left
       ·(intro w hSw;obtain⟨v1,v2,v3,v4,v5,v6,v7,v8,v9⟩:=HWW.out;go_simp<;>with_reducible rfl)
       refine takeL (i:=15) (v:=?_) rfl rfl (by kernel_rfl) (fun _ _ _ h=>h) hHeld (Or.inl ⟨by kernel_rfl,?_⟩) (by dsimp only[List.set_cons_succ,List.set_cons_zero]) (by dsimp only[List.set_cons_succ,List.set_cons_zero]) ?_
       rotate_left
       ·(intro w hSw;obtain⟨v1,v2,v3,v4,v5,v6,v7,v8,v9⟩:=HWW.out;go_simp<;>with_reducible rfl)
       refine takeNL (i:=20) (v:=?_) rfl rfl (by kernel_rfl) (fun _ _ _ h=>h) (fun _=>hHeld) (Or.inl ⟨by kernel_rfl,?_⟩) (by dsimp only[List.set_cons_succ,List.set_cons_zero]) (by dsimp only[List.set_cons_succ,List.set_cons_zero]) ?_
       rotate_left
       ·(intro w hSw;obtain⟨v1,v2,v3,v4,v5,v6,v7,v8,v9⟩:=HWW.out;go_simp<;>with_reducible rfl)
       refine takeNL (i:=25) (v:=?_) rfl rfl (by kernel_rfl) (fun _ _ _ h=>h) (fun _=>hHeld) (Or.inl ⟨by kernel_rfl,?_⟩) (by dsimp only[List.set_cons_succ,List.set_cons_zero]) (by dsimp only[List.set_cons_succ,List.set_cons_zero]) ?_
       rotate_left
       ·(intro w hSw;obtain⟨v1,v2,v3,v4,v5,v6,v7,v8,v9⟩:=HWW.out;go_simp<;>with_reducible rfl)
       refine takeNL (i:=28) (v:=?_) rfl rfl (by kernel_rfl) (fun _ _ _ h=>h) (fun _=>hHeld) (Or.inl ⟨by kernel_rfl,?_⟩) (by dsimp only[List.set_cons_succ,List.set_cons_zero]) (by dsimp only[List.set_cons_succ,List.set_cons_zero]) ?_
       rotate_left
       ·(intro w hSw;obtain⟨v1,v2,v3,v4,v5,v6,v7,v8,v9⟩:=HWW.out;go_simp<;>with_reducible rfl)
       refine takeL (i:=29) (v:=?_) rfl rfl (by kernel_rfl) (fun _ _ _ h=>h) hHeld (Or.inl ⟨by kernel_rfl,?_⟩) (by dsimp only[List.set_cons_succ,List.set_cons_zero]) (by dsimp only[List.set_cons_succ,List.set_cons_zero]) ?_
       rotate_left
       ·(intro w hSw;go_simp<;>with_reducible rfl)
       refine takeL (i:=30) (v:=?_) rfl rfl (by kernel_rfl) (fun _ _ _ h=>h) hHeld (Or.inl ⟨by kernel_rfl,?_⟩) (by dsimp only[List.set_cons_succ,List.set_cons_zero]) (by dsimp only[List.set_cons_succ,List.set_cons_zero]) ?_
       rotate_left
       ·(intro w hSw;go_simp<;>with_reducible rfl)
       have HJ0:=Lib.hid (HJM.out.below hHeld)
       have st1:=storeW1 HJ0.out.st 4 (v:=.int .i64 (P3:Int)) (by simp) rfl
       have st2:=storeW1 (blk_set HJ0.out.st 4 (.int .i64 (P3:Int))) 3 (v:=.int .u64 T1) (by simp) rfl
       have st3:=storeW1 (blk_set (blk_set HJ0.out.st 4 (.int .i64 (P3:Int))) 3 (.int .u64 T1)) 8 (v:=.int .i64 (U2:Int)) (by simp) rfl
       have HNT0:=Lib.hid (HNT.out _ hHeld)
       refine wpAnyX_ready (rs:=[31]) (by kernel_rfl) (by simp) (AllReadyX.one rfl (fun K hK=>?_))
       go_simp
       refine hK.out _ _ (noneUp_not (by kernel_rfl)) ?_
       clear hK K
       try simp only[Act.put,List.getElem_toArray,List.getElem_cons_zero,List.getElem_cons_succ,List.setIfInBounds_toArray,List.set_cons_zero,List.set_cons_succ]
       refine wpAnyX_free (by kernel_rfl) ?_
       refine takeL (i:=32) (v:=?_) rfl rfl (by kernel_rfl) (fun _ _ _ h=>h) trivial (Or.inl ⟨by kernel_rfl,?_⟩) (by dsimp only[List.set_cons_succ,List.set_cons_zero]) (by dsimp only[List.set_cons_succ,List.set_cons_zero]) ?_
       rotate_left
       ·(intro w hSw;go_simp<;>with_reducible rfl)
       refine takeL (i:=33) (v:=?_) rfl rfl (by kernel_rfl) (fun _ _ _ h=>h) trivial (Or.inl ⟨by kernel_rfl,?_⟩) (by dsimp only[List.set_cons_succ,List.set_cons_zero]) (by dsimp only[List.set_cons_succ,List.set_cons_zero]) ?_
       rotate_left
       ·(intro w hSw;go_simp<;>with_reducible rfl)
       refine wpAnyX_ready (rs:=[34]) (by kernel_rfl) (by simp) (AllReadyX.one rfl (fun K hK=>?_))
       go_simp
       refine hK.out _ _ (fun _=>trivial) ?_
       clear hK K
       try simp only[Act.put,List.getElem_toArray,List.getElem_cons_zero,List.getElem_cons_succ,List.setIfInBounds_toArray,List.set_cons_zero,List.set_cons_succ]
       refine takeL (i:=35) (v:=?_) rfl rfl (by kernel_rfl) (fun _ _ _ h=>h) trivial (Or.inl ⟨by kernel_rfl,?_⟩) (by dsimp only[List.set_cons_succ,List.set_cons_zero]) (by dsimp only[List.set_cons_succ,List.set_cons_zero]) ?_
       rotate_left
       ·(intro w hSw;go_simp<;>with_reducible rfl)
       refine takeL (i:=36) (v:=?_) rfl rfl (by kernel_rfl) (fun _ _ _ h=>h) trivial (Or.inl ⟨by kernel_rfl,?_⟩) (by dsimp only[List.set_cons_succ,List.set_cons_zero]) (by dsimp only[List.set_cons_succ,List.set_cons_zero]) ?_
       rotate_left
       ·(intro w hSw;go_simp<;>with_reducible rfl)
       refine wpAnyX_ready (rs:=[37]) (by kernel_rfl) (by simp) (AllReadyX.one rfl (fun K hK=>?_))
       go_simp
       refine hK.out _ _ (fun _=>trivial) ?_
       clear hK K
       try simp only[Act.put,List.getElem_toArray,List.getElem_cons_zero,List.getElem_cons_succ,List.setIfInBounds_toArray,List.set_cons_zero,List.set_cons_succ]
       refine wpAnyX_done (by kernel_rfl) ?_ _
       have HJN:=Lib.hid HNT0.out.1
       have HUN:=Lib.hid ((HU8.out.trans (hHeld.mono (T:=q.own) (by simp))).trans HNT0.out.2)
       clear hHeld st1 st2 st3
       go_wp2_with fail
       go_ret
       rw[HRES.out.1,HRES.out.2]
       exact⟨rfl,HJN.out,((HUZ.out).trans (HU7.out.mono (fun x hx=>by simp[QG.all,hx]))).trans (HUN.out.mono (fun x hx=>by simp[QG.all,hx]))⟩
end
end Go.Proofs.YtplppdbdfhkljaaGreat
end
