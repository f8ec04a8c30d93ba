/-
  The document's Open. (Written by tools/put/rdX.py.)
-/
import Derived.Test.YtplppdbdfhkljaaGreatA17
set_option maxRecDepth 100000
set_option maxHeartbeats 16000000
section
set_option linter.unusedSimpArgs false
set_option linter.unusedVariables false
namespace Go.Proofs.YtplppdbdfhkljaaGreat
open Go.RowKit Go.MapKept Go.ChangeMaps
section
attribute [-go_sem] loadCells storeCells Instr.build Instr.buildSlice run_string_add_if run_slice_l run_slice_h run_slice_string run_slice_string_h run_slice_string_l
def openJ(D:Dk)(J:Jn):Jn:=if D.boot.stands D=[] then D.boot else J.settled
def openD(D:Dk)(J:Jn):Dk:=if D.boot.stands D=[] then D else homeD J D
structure RoRel(w:World)(q:QG)(D:Dk)(J Jc:Jn)(b:Bool)(wr:World):Prop where
 jm:RjmAt wr q Jc.u0 D
 scan:Scan D Jc J
 no:b=false→Jc=D.boot
 yes:b=true→D.boot.stands D≠[]
 up:Upd [] w wr
set_option maxRecDepth 100000 in
set_option maxHeartbeats 32000000 in
theorem ropen_spec{w:World}{g:RG}{D:Dk}(h:RdkAt w g D)(hanc:D.anc.number≠0){J:Jn}(hsc:Scan D D.boot J)(hJn:J.last.number<4611686018427380000)(hJt:J.turn<4611686018427380000) :
  Calls Tryz.prog 31 #[.pointer (some ⟨g.rb,0,none⟩)] w fun e w'=>∃q:QG,q.r=g∧e=.returned (.tuple #[.pointer (some ⟨q.jb,0,none⟩),.int .i64 0])∧(∀k,k∈q.own→w.heap.size≤k)∧RjmAt w' q (openJ D J) (openD D J)∧Upd g.all w w':=by
 have HH:=Lib.hid h
 have hn0:=h.ok.n0
 have hn1:=h.ok.n1
 have hnow:∀i,(D.now i).length=512:=fun i=>Dk.now_len h.ok i
 have HNOW:=Lib.hid hnow
 have HRD:Hid (∀(i:Nat) (w':World),i<D.n→RdkAt w' g D→Calls Tryz.prog 72 #[.pointer (some ⟨g.rb,0,none⟩),.int .i64 (i:Int)] w' fun e w''=>e=.returned (.tuple #[strV (D.now i),.int .i64 0])∧w'=w''):=by
  show ∀(i:Nat) (w':World),_
  intro i w' hi hd
  have:=rread_spec hd (i:Int)
  rw[Dk.On.read hd.on hi] at this
  exact this
 have HR0:Hid (Calls Tryz.prog 72 #[.pointer (some ⟨g.rb,0,none⟩),.int .i64 0] w fun e w''=>e=.returned (.tuple #[strV (D.now 0),.int .i64 0])∧w=w''):=HRD.out 0 w (by omega) h
 have HR1:Hid (Calls Tryz.prog 72 #[.pointer (some ⟨g.rb,0,none⟩),.int .i64 1] w fun e w''=>e=.returned (.tuple #[strV (D.now 1),.int .i64 0])∧w=w''):=HRD.out 1 w (by omega) h
 obtain⟨c2,c8⟩:=h.cells
 have c0:=h.len
 have HC:=Lib.hid (And.intro c8 hanc)
 have HSC:=Lib.hid hsc
 have HLIM:=Lib.hid (And.intro hJn hJt)
 have HNB:=Lib.hid (And.intro hn0 hn1)
 clear h hnow c8 hanc hsc hJn hJt
 go_enter Tryz.func31,Tryz.ntmps31
 go_wp2_with fail
 refine HR0.out.mono ?_
 rintro e wz ⟨rfl,rfl⟩
 go_wp2_with fail
 refine HR1.out.mono ?_
 rintro e wz ⟨rfl,rfl⟩
 go_upto_block 0 with(fail)
 obtain⟨n,hn⟩:∃n,n=D.n:=⟨_,rfl⟩
 rw[← hn] at c0 hn0 hn1 ⊢
 have HN:=Lib.hid hn
 clear hn c2 c0
 obtain⟨a,ha⟩:∃a,a=D.now 0:=⟨_,rfl⟩
 obtain⟨b,hb⟩:∃b,b=D.now 1:=⟨_,rfl⟩
 rw[← ha,← hb]
 obtain⟨s0,hs0⟩:∃s,s=(ancOf a).okB n:=⟨_,rfl⟩
 obtain⟨s1,hs1⟩:∃s,s=(ancOf b).okB n:=⟨_,rfl⟩
 have HPK:=Lib.hid (anc_pick (D:=D) (s0:=s0) (s1:=s1) (by rw[hs0,ha,HN.out]) (by rw[hs1,hb,HN.out]))
 rw[← ha,← hb] at HPK
 have HSA:Hid (∀w,Calls Tryz.prog 73 #[strV a,.int .i64 (n:Int)] w fun e w'=>e=.returned (.bool s0)∧Upd [] w w'):=by
  show ∀w,_
  intro w
  rw[hs0];exact rstand_spec w a (by rw[ha];exact HNOW.out 0) n (by omega)
 have HSB:Hid (∀w,Calls Tryz.prog 73 #[strV b,.int .i64 (n:Int)] w fun e w'=>e=.returned (.bool s1)∧Upd [] w w'):=by
  show ∀w,_
  intro w
  rw[hs1];exact rstand_spec w b (by rw[hb];exact HNOW.out 1) n (by omega)
 obtain⟨na,hna⟩:∃x,x=numI a 0 8:=⟨_,rfl⟩
 obtain⟨nb,hnb⟩:∃x,x=numI b 0 8:=⟨_,rfl⟩
 have HNA:Hid (∀w,Calls Tryz.prog 74 #[strV a,.int .i64 0,.int .i64 8] w fun e w'=>e=.returned (.int .u64 na)∧Upd [] w w'):=by
  show ∀w,_
  intro w
  rw[hna];exact rnumber_spec w a 0 8 (by omega) (by omega) (by rw[ha,HNOW.out 0];omega) (by rw[ha,HNOW.out 0];omega)
 have HNB2:Hid (∀w,Calls Tryz.prog 74 #[strV b,.int .i64 0,.int .i64 8] w fun e w'=>e=.returned (.int .u64 nb)∧Upd [] w w'):=by
  show ∀w,_
  intro w
  rw[hnb];exact rnumber_spec w b 0 8 (by omega) (by omega) (by rw[hb,HNOW.out 1];omega) (by rw[hb,HNOW.out 1];omega)
 rw[← hna,← hnb] at HPK
 have HAB:Hid (a.length=512∧b.length=512):=Lib.hid ⟨by rw[ha];exact HNOW.out 0,by rw[hb];exact HNOW.out 1⟩
 have HOK:Hid (s0=(ancOf a).okB n∧s1=(ancOf b).okB n):=Lib.hid ⟨hs0,hs1⟩
 clear ha hb hs0 hs1 hna hnb
 go_cut [9] (fun s wx=>∃x:Sec,s=strV x∧x.length=512∧D.anc=ancOf x∧(ancOf x).okB n=true∧Upd [] w wx)
 case first=>
  as_aux_lemma=>
   cases s0 with
   | true=>
    go_wp2_with fail
    refine(HSA.out _).mono ?_
    rintro e w1 ⟨rfl,hu1⟩
    have HU1:=Lib.hid hu1
    clear hu1
    cases s1 with
    | true=>
     go_wp2_with fail
     refine(HSB.out _).mono ?_
     rintro e w2 ⟨rfl,hu2⟩
     have HU2:=Lib.hid (HU1.out.trans hu2)
     clear hu2
     go_wp2_with fail
     refine(HNB2.out _).mono ?_
     rintro e w3 ⟨rfl,hu3⟩
     have HU3:=Lib.hid (HU2.out.trans hu3)
     clear hu3
     go_wp2_with fail
     refine(HNA.out _).mono ?_
     rintro e w4 ⟨rfl,hu4⟩
     have HU4:=Lib.hid (HU3.out.trans hu4)
     clear hu4
     by_cases hlt:na<nb
     ·have d1:decide (na<nb)=true:=decide_eq_true hlt
      have HX:=Lib.hid (HPK.out.1 (by trivial) (by trivial) hlt)
      clear hlt
      go_wp2_with fail
      go_meet
      exact⟨b,rfl,HAB.out.2,HX.out,HOK.out.2.symm,HU4.out⟩
     ·have d1:decide (na<nb)=false:=decide_eq_false hlt
      have HX:=Lib.hid (HPK.out.2.1 (by trivial) (by trivial) (by omega))
      clear hlt
      go_wp2_with fail
      go_meet
      exact⟨a,rfl,HAB.out.1,HX.out,HOK.out.1.symm,HU4.out⟩
    | false=>
     have HX:=Lib.hid (HPK.out.2.2.2.1 (by trivial) (by trivial))
     go_wp2_with fail
     refine(HSB.out _).mono ?_
     rintro e w2 ⟨rfl,hu2⟩
     have HU2:=Lib.hid (HU1.out.trans hu2)
     clear hu2
     go_wp2_with fail
     refine(HSB.out _).mono ?_
     rintro e w3 ⟨rfl,hu3⟩
     have HU3:=Lib.hid (HU2.out.trans hu3)
     clear hu3
     go_wp2_with fail
     refine(HSA.out _).mono ?_
     rintro e w4 ⟨rfl,hu4⟩
     have HU4:=Lib.hid (HU3.out.trans hu4)
     clear hu4
     go_wp2_with fail
     go_meet
     exact⟨a,rfl,HAB.out.1,HX.out,HOK.out.1.symm,HU4.out⟩
   | false=>
    go_wp2_with fail
    refine(HSA.out _).mono ?_
    rintro e w1 ⟨rfl,hu1⟩
    have HU1:=Lib.hid hu1
    clear hu1
    cases s1 with
    | true=>
     have HX:=Lib.hid (HPK.out.2.2.1 (by trivial) (by trivial))
     go_wp2_with fail
     refine(HSB.out _).mono ?_
     rintro e w2 ⟨rfl,hu2⟩
     have HU2:=Lib.hid (HU1.out.trans hu2)
     clear hu2
     go_wp2_with fail
     go_meet
     exact⟨b,rfl,HAB.out.2,HX.out,HOK.out.2.symm,HU2.out⟩
    | false=>exact absurd (HPK.out.2.2.2.2 (by trivial) (by trivial)) HC.out.2
 case rest=>
 obtain⟨x,rfl,hx,hax,hox,hu⟩:=hcut
 obtain⟨wx,rfl⟩:∃x:World,x=wc:=⟨_,rfl⟩
 obtain⟨q1,q2⟩:=okB_num hox
 obtain⟨p1,p2,p3,p4,p5,p6,p7⟩:=Anc.okB_parts hox
 rw[← hax] at p1 p2 p3 p4 p5 p6 p7 q1
 have e8:numI x 8 8=D.anc.turn:=by rw[hax];rfl
 have e16:numI x 16 4=((D.anc.place:Nat):Int):=by rw[hax];rfl
 have e20:numI x 20 4=((D.anc.ring:Nat):Int):=by rw[hax];rfl
 obtain⟨aS,haS⟩:∃s,s=D.anc.number:=⟨_,rfl⟩
 obtain⟨aT,haT⟩:∃s,s=D.anc.turn:=⟨_,rfl⟩
 obtain⟨aP,haP⟩:∃s,s=D.anc.place:=⟨_,rfl⟩
 obtain⟨aR,haR⟩:∃s,s=D.anc.ring:=⟨_,rfl⟩
 rw[← haS] at p1 q1
 rw[← haT] at p2 p3 e8
 rw[← haP] at p6 e16
 rw[← haR] at p4 p5 p6 p7 e20
 have HNX:Hid (∀(a k:Nat) (w:World),1≤k→k≤8→a+k≤512→Calls Tryz.prog 74 #[.string (str x),.int .i64 (a:Int),.int .i64 (k:Int)] w fun e w'=>e=.returned (.int .u64 (numI x a k))∧Upd [] w w'):=by
  show ∀(a k:Nat) (w:World),_
  intro a k w h1 h2 h3
  exact rnumber_spec w x a k h1 h2 (by omega) (by omega)
 have HN0:Hid (∀w,Calls Tryz.prog 74 #[.string (str x),.int .i64 0,.int .i64 8] w fun e w'=>e=.returned (.int .u64 aS)∧Upd [] w w'):=by
  show ∀w,_
  intro w
  have:=HNX.out 0 8 w (by omega) (by omega) (by omega)
  rw[← q1] at this;exact this
 have HN8:Hid (∀w,Calls Tryz.prog 74 #[.string (str x),.int .i64 8,.int .i64 8] w fun e w'=>e=.returned (.int .u64 aT)∧Upd [] w w'):=by
  show ∀w,_
  intro w
  have:=HNX.out 8 8 w (by omega) (by omega) (by omega)
  rw[e8] at this;exact this
 have HN16:Hid (∀w,Calls Tryz.prog 74 #[.string (str x),.int .i64 16,.int .i64 4] w fun e w'=>e=.returned (.int .u64 (aP:Int))∧Upd [] w w'):=by
  show ∀w,_
  intro w
  have:=HNX.out 16 4 w (by omega) (by omega) (by omega)
  rw[e16] at this;exact this
 have HN20:Hid (∀w,Calls Tryz.prog 74 #[.string (str x),.int .i64 20,.int .i64 4] w fun e w'=>e=.returned (.int .u64 (aR:Int))∧Upd [] w w'):=by
  show ∀w,_
  intro w
  have:=HNX.out 20 4 w (by omega) (by omega) (by omega)
  rw[e20] at this;exact this
 have HANC:=Lib.hid (And.intro haS (And.intro haT (And.intro haP haR)))
 have HB:=Lib.hid (And.intro p2 (And.intro p3 (And.intro p4 (And.intro p5 (And.intro p6 p7)))))
 have HWC:Hid (IntKind.i64.wrap (aP:Int)=(aP:Int)∧IntKind.i64.wrap (aR:Int)=(aR:Int)):=by
  show _∧_
  rw[IntKind.wrap_i64,IntKind.wrap_i64]
  refine⟨by omega,by omega⟩
 have HUX:=Lib.hid hu
 have HL8:Hid (∀w',Upd [] wx w'→w'.cell? ⟨g.rb,8,none⟩=some (.int .i64 D.lives)):=Lib.hid (fun w' hw=>(HH.out.below (HUX.out.trans hw)).cells.2)
 have HBJ:=Lib.hid (build_rj g.rb aS aT aP aR D.lives)
 unfold strV
 clear hx hax hox hu q1 q2 p1 p2 p3 p6 e8 e16 e20 haS haT haP haR
 go_wp2_with fail
 refine wp_region_xL (fun w'=>Upd [] wx w') [] (by kernel_rfl) (by simp only[List.size_toArray,List.length_cons,List.length_nil,Nat.reduceAdd];exact rfl) (by simp only[List.replicate_succ,List.replicate_zero];exact rfl) (Upd.refl _ _).drew (fun hHeld=>?_)
 generalize wx.drew=w0 at hHeld ⊢
 refine takeL (i:=0) (v:=?_) rfl rfl (by kernel_rfl) (fun _ _ _ h=>h) hHeld (Or.inl ⟨by kernel_rfl,?_⟩) (by dsimp only[List.set_cons_succ,List.set_cons_zero]) (by dsimp only[List.set_cons_succ,List.set_cons_zero]) ?_
 rotate_left
 ·(intro w hSw;go_simp<;>with_reducible rfl)
 refine takeL (i:=1) (v:=?_) rfl rfl (by kernel_rfl) (fun _ _ _ h=>h) hHeld (Or.inl ⟨by kernel_rfl,?_⟩) (by dsimp only[List.set_cons_succ,List.set_cons_zero]) (by dsimp only[List.set_cons_succ,List.set_cons_zero]) ?_
 rotate_left
 ·(intro w hSw;go_simp<;>with_reducible rfl)
 refine takeL (i:=3) (v:=?_) rfl rfl (by kernel_rfl) (fun _ _ _ h=>h) hHeld (Or.inl ⟨by kernel_rfl,?_⟩) (by dsimp only[List.set_cons_succ,List.set_cons_zero]) (by dsimp only[List.set_cons_succ,List.set_cons_zero]) ?_
 rotate_left
 ·(intro w hSw;go_simp<;>with_reducible rfl)
 refine takeL (i:=5) (v:=?_) rfl rfl (by kernel_rfl) (fun _ _ _ h=>h) hHeld (Or.inl ⟨by kernel_rfl,?_⟩) (by dsimp only[List.set_cons_succ,List.set_cons_zero]) (by dsimp only[List.set_cons_succ,List.set_cons_zero]) ?_
 rotate_left
 ·(intro w hSw;go_simp<;>with_reducible rfl)
 refine takeL (i:=8) (v:=?_) rfl rfl (by kernel_rfl) (fun _ _ _ h=>h) hHeld (Or.inl ⟨by kernel_rfl,?_⟩) (by dsimp only[List.set_cons_succ,List.set_cons_zero]) (by dsimp only[List.set_cons_succ,List.set_cons_zero]) ?_
 rotate_left
 ·(intro w hSw;go_simp<;>with_reducible rfl)
 refine takeL (i:=11) (v:=?_) rfl rfl (by kernel_rfl) (fun _ _ _ h=>h) hHeld (Or.inl ⟨by kernel_rfl,?_⟩) (by dsimp only[List.set_cons_succ,List.set_cons_zero]) (by dsimp only[List.set_cons_succ,List.set_cons_zero]) ?_
 rotate_left
 ·(intro w hSw;go_simp<;>with_reducible rfl)
 refine takeL (i:=12) (v:=?_) rfl rfl (by kernel_rfl) (fun _ _ _ h=>h) hHeld (Or.inl ⟨by kernel_rfl,?_⟩) (by dsimp only[List.set_cons_succ,List.set_cons_zero]) (by dsimp only[List.set_cons_succ,List.set_cons_zero]) ?_
 rotate_left
 ·(intro w hSw;go_simp<;>with_reducible rfl)
 refine takeL (i:=13) (v:=?_) rfl rfl (by kernel_rfl) (fun _ _ _ h=>h) hHeld (Or.inl ⟨by kernel_rfl,?_⟩) (by dsimp only[List.set_cons_succ,List.set_cons_zero]) (by dsimp only[List.set_cons_succ,List.set_cons_zero]) ?_
 rotate_left
 ·(intro w hSw;go_simp<;>with_reducible rfl)
 refine takeL (i:=14) (v:=?_) rfl rfl (by kernel_rfl) (fun _ _ _ h=>h) hHeld (Or.inl ⟨by kernel_rfl,?_⟩) (by dsimp only[List.set_cons_succ,List.set_cons_zero]) (by dsimp only[List.set_cons_succ,List.set_cons_zero]) ?_
 rotate_left
 ·(intro w hSw;have c8:=HL8.out _ hSw;go_simp<;>with_reducible rfl)
 refine wpAnyX_ready (rs:=[2]) (by kernel_rfl) (by simp) (AllReadyX.one rfl (fun K hK=>?_))
 go_simp
 go_at_call 74
 (with_reducible refine(HN0.out _).mono ?_)
 rintro e wl ⟨rfl,hul⟩
 refine hK.out _ _ (fun _=>hHeld.trans hul) ?_
 replace hHeld:=hHeld.trans hul
 clear hul hK K
 try simp only[Act.put,List.getElem_toArray,List.getElem_cons_zero,List.getElem_cons_succ,List.setIfInBounds_toArray,List.set_cons_zero,List.set_cons_succ]
 refine wpAnyX_ready (rs:=[4]) (by kernel_rfl) (by simp) (AllReadyX.one rfl (fun K hK=>?_))
 go_simp
 go_at_call 74
 (with_reducible refine(HN8.out _).mono ?_)
 rintro e wl ⟨rfl,hul⟩
 refine hK.out _ _ (fun _=>hHeld.trans hul) ?_
 replace hHeld:=hHeld.trans hul
 clear hul hK K
 try simp only[Act.put,List.getElem_toArray,List.getElem_cons_zero,List.getElem_cons_succ,List.setIfInBounds_toArray,List.set_cons_zero,List.set_cons_succ]
 refine wpAnyX_ready (rs:=[6]) (by kernel_rfl) (by simp) (AllReadyX.one rfl (fun K hK=>?_))
 go_simp
 go_at_call 74
 (with_reducible refine(HN16.out _).mono ?_)
 rintro e wl ⟨rfl,hul⟩
 refine hK.out _ _ (fun _=>hHeld.trans hul) ?_
 replace hHeld:=hHeld.trans hul
 clear hul hK K
 try simp only[Act.put,List.getElem_toArray,List.getElem_cons_zero,List.getElem_cons_succ,List.setIfInBounds_toArray,List.set_cons_zero,List.set_cons_succ]
 refine takeL (i:=7) (v:=?_) rfl rfl (by kernel_rfl) (fun _ _ _ h=>h) hHeld (Or.inl ⟨by kernel_rfl,?_⟩) (by dsimp only[List.set_cons_succ,List.set_cons_zero]) (by dsimp only[List.set_cons_succ,List.set_cons_zero]) ?_
 rotate_left
 ·(intro w hSw;obtain⟨v1,v2⟩:=HWC.out;go_simp<;>with_reducible rfl)
 refine wpAnyX_ready (rs:=[9]) (by kernel_rfl) (by simp) (AllReadyX.one rfl (fun K hK=>?_))
 go_simp
 go_at_call 74
 (with_reducible refine(HN20.out _).mono ?_)
 rintro e wl ⟨rfl,hul⟩
 refine hK.out _ _ (fun _=>hHeld.trans hul) ?_
 replace hHeld:=hHeld.trans hul
 clear hul hK K
 try simp only[Act.put,List.getElem_toArray,List.getElem_cons_zero,List.getElem_cons_succ,List.setIfInBounds_toArray,List.set_cons_zero,List.set_cons_succ]
 refine takeL (i:=10) (v:=?_) rfl rfl (by kernel_rfl) (fun _ _ _ h=>h) hHeld (Or.inl ⟨by kernel_rfl,?_⟩) (by dsimp only[List.set_cons_succ,List.set_cons_zero]) (by dsimp only[List.set_cons_succ,List.set_cons_zero]) ?_
 rotate_left
 ·(intro w hSw;obtain⟨v1,v2⟩:=HWC.out;go_simp<;>with_reducible rfl)
 refine takeL (i:=15) (v:=?_) rfl rfl (by kernel_rfl) (fun _ _ _ h=>h) hHeld (Or.inl ⟨by kernel_rfl,?_⟩) (by dsimp only[List.set_cons_succ,List.set_cons_zero]) (by dsimp only[List.set_cons_succ,List.set_cons_zero]) ?_
 rotate_left
 ·(intro w hSw;have hb:=HBJ.out w;go_simp<;>with_reducible rfl)
 refine wpAnyX_ready (rs:=[16]) (by kernel_rfl) (by simp) (AllReadyX.one rfl (fun K hK=>?_))
 go_simp
 refine hK.out _ _ (fun _=>hHeld.alloc _) ?_
 clear hK K
 try simp only[Act.put,List.getElem_toArray,List.getElem_cons_zero,List.getElem_cons_succ,List.setIfInBounds_toArray,List.set_cons_zero,List.set_cons_succ]
 refine takeL (i:=17) (v:=?_) rfl rfl (by kernel_rfl) (fun _ _ _ h=>h) (hHeld.alloc _) (Or.inl ⟨by kernel_rfl,?_⟩) (by dsimp only[List.set_cons_succ,List.set_cons_zero]) (by dsimp only[List.set_cons_succ,List.set_cons_zero]) ?_
 rotate_left
 ·(intro w hSw;go_simp<;>with_reducible rfl)
 refine wpAnyX_done (by kernel_rfl) ?_ _
 have HU5:=Lib.hid ((HUX.out.trans hHeld).alloc (.cells #[.pointer (some ⟨g.rb,0,none⟩),.int .i64 (aR:Int),.int .u64 aS,.int .u64 aT,.int .i64 (aP:Int),.int .i64 0,.slice none 0 0,.slice none 0 0,.int .i64 0,.int .i64 D.lives,.bool false] 150))
 have HJ5:Hid ((wl.alloc (.cells #[.pointer (some ⟨g.rb,0,none⟩),.int .i64 (aR:Int),.int .u64 aS,.int .u64 aT,.int .i64 (aP:Int),.int .i64 0,.slice none 0 0,.slice none 0 0,.int .i64 0,.int .i64 D.lives,.bool false] 150)).heap[wl.heap.size]?=some (.cells #[.pointer (some ⟨g.rb,0,none⟩),.int .i64 (aR:Int),.int .u64 aS,.int .u64 aT,.int .i64 (aP:Int),.int .i64 0,.slice none 0 0,.slice none 0 0,.int .i64 0,.int .i64 D.lives,.bool false] 150 (0,0))):=Lib.hid (blk_alloc _)
 have HJB:Hid (w.heap.size≤wl.heap.size):=Lib.hid (HUX.out.trans hHeld).size
 clear hHeld
 generalize wl.alloc (.cells #[.pointer (some ⟨g.rb,0,none⟩),.int .i64 (aR:Int),.int .u64 aS,.int .u64 aT,.int .i64 (aP:Int),.int .i64 0,.slice none 0 0,.slice none 0 0,.int .i64 0,.int .i64 D.lives,.bool false] 150)=w5 at HU5 HJ5 ⊢
 obtain⟨jb,hjb⟩:∃b,b=wl.heap.size:=⟨_,rfl⟩
 rw[← hjb] at HJ5 HJB ⊢
 clear hjb
 obtain⟨p2,p3,p4,p5,p6,p7⟩:=HB.out
 obtain⟨hm,hhm⟩:∃h,h=n-2-aR:=⟨_,rfl⟩
 have HHM:=Lib.hid hhm
 have HME:Hid ((n:Int)-2-(aR:Int)=(hm:Int)):=by show _=_;omega
 have hm0:0<hm:=by omega
 have hm1:hm≤4096:=by omega
 have hcA:=blk_cell HJ5.out
 have st5:=storeW1 HJ5.out 5 (v:=.int .i64 ((n:Int)-2-(aR:Int))) (by simp) rfl
 have HG5:Hid (G2 w jb (rjC g.rb D hm (.slice none 0 0) (.slice none 0 0)) 150 9 4 (.slice none 0 0) (.slice none 0 0) [] [] (w5.setCell ⟨jb,5,none⟩ (.int .i64 ((n:Int)-2-(aR:Int))))):=by
  show G2 _ _ _ _ _ _ _ _ _ _ _
  rw[HME.out]
  obtain⟨e1,e2,e3,e4⟩:=HANC.out
  refine⟨?_,World.ownsRow_nil _ _ _ _,World.ownsRow_nil _ _ _ _,by simp[Value.ownBlock],by decide,by decide,HU5.out.set _ (.inr HJB.out)⟩
  have:=blk_set HJ5.out 5 (.int .i64 (hm:Int))
  rw[e1,e2,e3,e4] at this
  exact this
 clear p2 p3 p6 hhm
 go_wp2_with fail
 generalize w5.setCell ⟨jb,5,none⟩ (.int .i64 ((n:Int)-2-(aR:Int)))=w6 at HG5 ⊢
 clear hcA st5
 clear hm0
 go_loopw [11] (fun i wr=>∃(k:Nat) (vn va:Value),k≤hm∧i=.int .i64 (k:Int)∧G2 w jb (rjC g.rb D hm va vn) 150 9 4 vn va (nowK D k) (List.replicate k (.bool false)) wr) (fun i _=>hm-(intOf i).toNat)
 case atStart=>exact⟨0,_,_,by omega,rfl,HG5.out⟩
 case round=>
  obtain⟨k,vn,va,hk,rfl,hg⟩:=hrel
  obtain⟨an,cn,rfl⟩:=row_shape hg.ra
  obtain⟨aa,ca,rfl⟩:=row_shape hg.rb
  simp only[List.length_replicate,nowK_length] at hg
  have HG:=Lib.hid hg
  clear hg
  have HCC:Hid (∀w':World,w'.heap[jb]?=some (.cells (rjC g.rb D hm (.slice aa k ca) (.slice an k cn)) 150 (0,0))→w'.cell? ⟨jb,1,none⟩=some (.int .i64 (D.anc.ring:Int))∧w'.cell? ⟨jb,5,none⟩=some (.int .i64 (hm:Int))∧w'.cell? ⟨jb,6,none⟩=some (.slice aa k ca)∧w'.cell? ⟨jb,7,none⟩=some (.slice an k cn)):=Lib.hid (fun w' h=>⟨by rw[blk_cell h];rfl,by rw[blk_cell h];rfl,by rw[blk_cell h];rfl,by rw[blk_cell h];rfl⟩)
  obtain⟨x1,x5,_,_⟩:=HCC.out wr HG.out.st
  rcases Nat.lt_or_ge k hm with hlt | hge
  ·as_aux_lemma=>
    have e1:decide ((k:Int)<(hm:Int))=true:=decide_eq_true (by omega)
    have e2:decide (k<hm)=true:=decide_eq_true hlt
    have HLEN:Hid ((nowK D k).length=k∧(List.replicate k (Value.bool false)).length=k∧k≤100000):=Lib.hid ⟨nowK_length D k,List.length_replicate ..,by omega⟩
    have hwk:=wrap_i64_k hlt (by omega)
    have hr1:D.anc.ring≤1024:=by rw[← HANC.out.2.2.2];exact p5
    have hAn:2+D.anc.ring+k<D.n:=by rw[← HANC.out.2.2.2,← HN.out];have:=HHM.out;omega
    have HRK:Hid (Calls Tryz.prog 72 #[.pointer (some ⟨g.rb,0,none⟩),.int .i64 (2+(D.anc.ring:Int)+(k:Int))] wr fun e w''=>e=.returned (.tuple #[strV (D.now (2+D.anc.ring+k)),.int .i64 0])∧wr=w''):=by
     have:=HRD.out (2+D.anc.ring+k) wr hAn (HH.out.below HG.out.up)
     rw[show(((2+D.anc.ring+k:Nat)):Int)=2+(D.anc.ring:Int)+(k:Int) by omega] at this
     exact Lib.hid this
    clear hAn
    go_wp2_with fail
    refine HRK.out.mono ?_
    rintro e wz ⟨rfl,rfl⟩
    clear x1 x5 hr1
    go_wp2_with fail
    refine wp_region_xL (fun w'=>w'.heap[jb]?=some (.cells (rjC g.rb D hm (.slice aa k ca) (.slice an k cn)) 150 (0,0))) [17] (by kernel_rfl) (by simp only[List.size_toArray,List.length_cons,List.length_nil,Nat.reduceAdd];exact rfl) (by simp only[List.replicate_succ,List.replicate_zero];exact rfl) HG.out.st (fun hHeld=>?_)
    have HG0:=Lib.hid (HG.out.world (Upd.refl _ wr).drew)
    generalize wr.drew=w0 at hHeld HG0 ⊢
    refine takeL (i:=0) (v:=?_) rfl rfl (by kernel_rfl) (fun _ _ _ h=>h) hHeld (Or.inl ⟨by kernel_rfl,?_⟩) (by dsimp only[List.set_cons_succ,List.set_cons_zero]) (by dsimp only[List.set_cons_succ,List.set_cons_zero]) ?_
    rotate_left
    ·(intro w hSw;go_simp<;>with_reducible rfl)
    refine takeL (i:=2) (v:=?_) rfl rfl (by kernel_rfl) (fun _ _ _ h=>h) hHeld (Or.inl ⟨by kernel_rfl,?_⟩) (by dsimp only[List.set_cons_succ,List.set_cons_zero]) (by dsimp only[List.set_cons_succ,List.set_cons_zero]) ?_
    rotate_left
    ·(intro w hSw;go_simp<;>with_reducible rfl)
    refine takeL (i:=3) (v:=?_) rfl rfl (by kernel_rfl) (fun _ _ _ h=>h) hHeld (Or.inl ⟨by kernel_rfl,?_⟩) (by dsimp only[List.set_cons_succ,List.set_cons_zero]) (by dsimp only[List.set_cons_succ,List.set_cons_zero]) ?_
    rotate_left
    ·(intro w hSw;go_simp<;>with_reducible rfl)
    refine takeL (i:=4) (v:=?_) rfl rfl (by kernel_rfl) (fun _ _ _ h=>h) hHeld (Or.inl ⟨by kernel_rfl,?_⟩) (by dsimp only[List.set_cons_succ,List.set_cons_zero]) (by dsimp only[List.set_cons_succ,List.set_cons_zero]) ?_
    rotate_left
    ·(intro w hSw;go_simp<;>with_reducible rfl)
    refine takeL (i:=5) (v:=?_) rfl rfl (by kernel_rfl) (fun _ _ _ h=>h) hHeld (Or.inl ⟨by kernel_rfl,?_⟩) (by dsimp only[List.set_cons_succ,List.set_cons_zero]) (by dsimp only[List.set_cons_succ,List.set_cons_zero]) ?_
    rotate_left
    ·(intro w hSw;obtain⟨x1,x5,x6,x7⟩:=HCC.out _ hSw;go_simp<;>with_reducible rfl)
    refine takeL (i:=6) (v:=?_) rfl rfl (by kernel_rfl) (fun _ _ _ h=>h) hHeld (Or.inl ⟨by kernel_rfl,?_⟩) (by dsimp only[List.set_cons_succ,List.set_cons_zero]) (by dsimp only[List.set_cons_succ,List.set_cons_zero]) ?_
    rotate_left
    ·(intro w hSw;go_simp<;>with_reducible rfl)
    refine takeL (i:=9) (v:=?_) rfl rfl (by kernel_rfl) (fun _ _ _ h=>h) hHeld (Or.inl ⟨by kernel_rfl,?_⟩) (by dsimp only[List.set_cons_succ,List.set_cons_zero]) (by dsimp only[List.set_cons_succ,List.set_cons_zero]) ?_
    rotate_left
    ·(intro w hSw;go_simp<;>with_reducible rfl)
    refine takeL (i:=10) (v:=?_) rfl rfl (by kernel_rfl) (fun _ _ _ h=>h) hHeld (Or.inl ⟨by kernel_rfl,?_⟩) (by dsimp only[List.set_cons_succ,List.set_cons_zero]) (by dsimp only[List.set_cons_succ,List.set_cons_zero]) ?_
    rotate_left
    ·(intro w hSw;go_simp<;>with_reducible rfl)
    refine takeL (i:=11) (v:=?_) rfl rfl (by kernel_rfl) (fun _ _ _ h=>h) hHeld (Or.inl ⟨by kernel_rfl,?_⟩) (by dsimp only[List.set_cons_succ,List.set_cons_zero]) (by dsimp only[List.set_cons_succ,List.set_cons_zero]) ?_
    rotate_left
    ·(intro w hSw;go_simp<;>with_reducible rfl)
    refine takeL (i:=12) (v:=?_) rfl rfl (by kernel_rfl) (fun _ _ _ h=>h) hHeld (Or.inl ⟨by kernel_rfl,?_⟩) (by dsimp only[List.set_cons_succ,List.set_cons_zero]) (by dsimp only[List.set_cons_succ,List.set_cons_zero]) ?_
    rotate_left
    ·(intro w hSw;obtain⟨x1,x5,x6,x7⟩:=HCC.out _ hSw;go_simp<;>with_reducible rfl)
    refine takeNL (i:=1) (v:=?_) rfl rfl (by kernel_rfl) (fun _ _ _ h=>h) (fun _=>hHeld) (Or.inl ⟨by kernel_rfl,?_⟩) (by dsimp only[List.set_cons_succ,List.set_cons_zero]) (by dsimp only[List.set_cons_succ,List.set_cons_zero]) ?_
    rotate_left
    ·(intro w hSw;go_simp<;>with_reducible rfl)
    have hrn7:=slice_V (D.now (2+D.anc.ring+k)) w0
    have hrn13:=slice_B false w0
    refine wpAnyX_ready (rs:=[7,13]) (by kernel_rfl) (by simp) (AllReadyX.cons (AllReadyX.one rfl (fun K hK=>?_)) (AllReadyX.one rfl (fun K hK=>?_)))
    ·go_simp
     refine hK.out _ _ (fun _=>(HG0.out.alloc _).st) ?_
     clear hK K hrn7 hrn13
     try simp only[Act.put,List.getElem_toArray,List.getElem_cons_zero,List.getElem_cons_succ,List.setIfInBounds_toArray,List.set_cons_zero,List.set_cons_succ]
     have HG1:=Lib.hid (HG0.out.alloc (.cells #[strV (D.now (2+D.anc.ring+k))] 9))
     have hl7:(w0.alloc (.cells #[strV (D.now (2+D.anc.ring+k))] 9)).heap[w0.heap.size]?=some (.cells #[strV (D.now (2+D.anc.ring+k))] 9 (0,0)):=blk_alloc _
     have HSZ1:Hid (w0.heap.size<(w0.alloc (.cells #[strV (D.now (2+D.anc.ring+k))] 9)).heap.size):=Lib.hid (blk_lt hl7)
     generalize w0.alloc (.cells #[strV (D.now (2+D.anc.ring+k))] 9)=w1 at HG1 hl7 HSZ1 ⊢
     have hrn8:=HG1
     have hr13:=slice_B false w1
     obtain⟨a8,c8,w2,hr8,hg8,hk8⟩:=HG1.out.pushA Tryz.underlying139 infoS9 rfl (by decide) (by have:=HLEN.out;omega) rfl hl7
     simp only[HLEN.out.1] at hr8 hg8
     refine wpAnyX_ready (rs:=[8,13]) (by kernel_rfl) (by simp) (AllReadyX.cons (AllReadyX.one rfl (fun K hK=>?_)) (AllReadyX.one rfl (fun K hK=>?_)))
     ·refine step_append_run (by rfl) _ _ _ (by rfl) (by rfl) (by rfl) hr8 ?_
      refine hK.out _ _ (fun _=>hg8.st) ?_
      clear hK K hr13 hrn8 hr8 hk8
      try simp only[Act.put,List.getElem_toArray,List.getElem_cons_zero,List.getElem_cons_succ,List.setIfInBounds_toArray,List.set_cons_zero,List.set_cons_succ]
      have HG2:=Lib.hid hg8
      clear hg8 hl7
      have hrn:=slice_B false w2
      refine wpAnyX_ready (rs:=[13]) (by kernel_rfl) (by simp) (AllReadyX.one rfl (fun K hK=>?_))
      go_simp
      refine hK.out _ _ (fun _=>(HG2.out.alloc _).st) ?_
      clear hK K hrn
      try simp only[Act.put,List.getElem_toArray,List.getElem_cons_zero,List.getElem_cons_succ,List.setIfInBounds_toArray,List.set_cons_zero,List.set_cons_succ]
      have HG3:=Lib.hid (HG2.out.alloc (.cells #[.bool false] 4))
      have hl13:(w2.alloc (.cells #[.bool false] 4)).heap[w2.heap.size]?=some (.cells #[.bool false] 4 (0,0)):=blk_alloc _
      generalize w2.alloc (.cells #[.bool false] 4)=w3 at HG3 hl13 ⊢
      obtain⟨a9,c9,w4,hr9,hg9⟩:=HG3.out.pushB Tryz.underlying29 infoB4 rfl (by decide) (by have:=HLEN.out;omega) rfl hl13
      simp only[HLEN.out.2.1] at hr9 hg9
      refine wpAnyX_ready (rs:=[14]) (by kernel_rfl) (by simp) (AllReadyX.one rfl (fun K hK=>?_))
      refine step_append_run (by rfl) _ _ _ (by rfl) (by rfl) (by rfl) hr9 ?_
      refine hK.out _ _ (fun _=>hg9.st) ?_
      clear hK K
      try simp only[Act.put,List.getElem_toArray,List.getElem_cons_zero,List.getElem_cons_succ,List.setIfInBounds_toArray,List.set_cons_zero,List.set_cons_succ]
      have HG4:=Lib.hid hg9
      clear hg9 hr9
      refine takeL (i:=15) (v:=?_) rfl rfl (by kernel_rfl) (fun _ _ _ h=>h) HG4.out.st (Or.inl ⟨by kernel_rfl,?_⟩) (by dsimp only[List.set_cons_succ,List.set_cons_zero]) (by dsimp only[List.set_cons_succ,List.set_cons_zero]) ?_
      rotate_left
      ·(intro w hSw;go_simp<;>with_reducible rfl)
      refine takeL (i:=16) (v:=?_) rfl rfl (by kernel_rfl) (fun _ _ _ h=>h) HG4.out.st (Or.inl ⟨by kernel_rfl,?_⟩) (by dsimp only[List.set_cons_succ,List.set_cons_zero]) (by dsimp only[List.set_cons_succ,List.set_cons_zero]) ?_
      rotate_left
      ·(intro w hSw;go_simp<;>with_reducible rfl)
      have hs1:=storeW1 HG4.out.st 7 (v:=.slice a8 (k+1) c8) (by first | (simp;done) | (show _<11;omega)) rfl
      have GA:=Lib.hid (HG4.out.set HJB.out 7 (.slice a8 (k+1) c8))
      have hs2:=storeW1 GA.out.st 6 (v:=.slice a9 (k+1) c9) (by first | (simp;done) | (show _<11;omega)) rfl
      have GB:=Lib.hid (GA.out.set HJB.out 6 (.slice a9 (k+1) c9))
      refine wpAnyX_ready (rs:=[17]) (by kernel_rfl) (by simp) (AllReadyX.one rfl (fun K hK=>?_))
      go_simp
      refine hK.out _ _ (noneUp_any (by kernel_rfl)) ?_
      clear hK K
      try simp only[Act.put,List.getElem_toArray,List.getElem_cons_zero,List.getElem_cons_succ,List.setIfInBounds_toArray,List.set_cons_zero,List.set_cons_succ]
      refine wpAnyX_free (by kernel_rfl) ?_
      refine takeL (i:=18) (v:=?_) rfl rfl (by kernel_rfl) (fun _ _ _ h=>h) trivial (Or.inl ⟨by kernel_rfl,?_⟩) (by dsimp only[List.set_cons_succ,List.set_cons_zero]) (by dsimp only[List.set_cons_succ,List.set_cons_zero]) ?_
      rotate_left
      ·(intro w hSw;go_simp<;>with_reducible rfl)
      refine takeL (i:=19) (v:=?_) rfl rfl (by kernel_rfl) (fun _ _ _ h=>h) trivial (Or.inl ⟨by kernel_rfl,?_⟩) (by dsimp only[List.set_cons_succ,List.set_cons_zero]) (by dsimp only[List.set_cons_succ,List.set_cons_zero]) ?_
      rotate_left
      ·(intro w hSw;go_simp<;>with_reducible rfl)
      refine wpAnyX_ready (rs:=[20]) (by kernel_rfl) (by simp) (AllReadyX.one rfl (fun K hK=>?_))
      go_simp
      refine hK.out _ _ (fun _=>trivial) ?_
      clear hK K
      try simp only[Act.put,List.getElem_toArray,List.getElem_cons_zero,List.getElem_cons_succ,List.setIfInBounds_toArray,List.set_cons_zero,List.set_cons_succ]
      clear hs1 hs2
      refine wpAnyX_done (by kernel_rfl) ?_ _
      have HGF:Hid (G2 w jb (rjC g.rb D hm (.slice a9 (k+1) c9) (.slice a8 (k+1) c8)) 150 9 4 (.slice a8 (k+1) c8) (.slice a9 (k+1) c9) (nowK D (k+1)) (List.replicate (k+1) (.bool false)) ((w4.setCell ⟨jb,7,none⟩ (.slice a8 (k+1) c8)).setCell ⟨jb,6,none⟩ (.slice a9 (k+1) c9))):=by
       show G2 _ _ _ _ _ _ _ _ _ _ _
       rw[nowK_succ,List.replicate_succ']
       exact GB.out
      go_wp2_with fail
      exact⟨⟨k+1,_,_,by omega,by go_num,HGF.out⟩,by simp[intOf];omega⟩
     ·go_simp
      refine hK.out _ _ (fun _=>(HG1.out.alloc _).st) ?_
      clear hK K hr13 hr8 hg8 hk8 hrn8
      clear w2 a8 c8
      try simp only[Act.put,List.getElem_toArray,List.getElem_cons_zero,List.getElem_cons_succ,List.setIfInBounds_toArray,List.set_cons_zero,List.set_cons_succ]
      have HG2:=Lib.hid (HG1.out.alloc (.cells #[.bool false] 4))
      have hl13:(w1.alloc (.cells #[.bool false] 4)).heap[w1.heap.size]?=some (.cells #[.bool false] 4 (0,0)):=blk_alloc _
      replace hl7:(w1.alloc (.cells #[.bool false] 4)).heap[w0.heap.size]?=some (.cells #[strV (D.now (2+D.anc.ring+k))] 9 (0,0)):=(blk_alloc_ne (blk_lt hl7)).trans hl7
      have HSZ:Hid (w0.heap.size≤w1.heap.size):=Lib.hid (Nat.le_of_lt HSZ1.out)
      generalize w1.alloc (.cells #[.bool false] 4)=w2 at HG2 hl13 hl7 ⊢
      obtain⟨a8,c8,w3,hr8,hg8,hk8⟩:=HG2.out.pushA Tryz.underlying139 infoS9 rfl (by decide) (by have:=HLEN.out;omega) rfl hl7
      simp only[HLEN.out.1] at hr8 hg8
      replace hl13:=(hk8 _ (blk_lt hl13) (by intro q;have:=(row_lt HG0.out.ra _ q).1;have:=HSZ.out;omega)).trans hl13
      refine wpAnyX_ready (rs:=[8]) (by kernel_rfl) (by simp) (AllReadyX.one rfl (fun K hK=>?_))
      refine step_append_run (by rfl) _ _ _ (by rfl) (by rfl) (by rfl) hr8 ?_
      refine hK.out _ _ (fun _=>hg8.st) ?_
      clear hK K
      try simp only[Act.put,List.getElem_toArray,List.getElem_cons_zero,List.getElem_cons_succ,List.setIfInBounds_toArray,List.set_cons_zero,List.set_cons_succ]
      have HG3:=Lib.hid hg8
      clear hg8 hk8 hr8
      obtain⟨a9,c9,w4,hr9,hg9⟩:=HG3.out.pushB Tryz.underlying29 infoB4 rfl (by decide) (by have:=HLEN.out;omega) rfl hl13
      simp only[HLEN.out.2.1] at hr9 hg9
      refine wpAnyX_ready (rs:=[14]) (by kernel_rfl) (by simp) (AllReadyX.one rfl (fun K hK=>?_))
      refine step_append_run (by rfl) _ _ _ (by rfl) (by rfl) (by rfl) hr9 ?_
      refine hK.out _ _ (fun _=>hg9.st) ?_
      clear hK K
      try simp only[Act.put,List.getElem_toArray,List.getElem_cons_zero,List.getElem_cons_succ,List.setIfInBounds_toArray,List.set_cons_zero,List.set_cons_succ]
      have HG4:=Lib.hid hg9
      clear hg9 hr9
      refine takeL (i:=15) (v:=?_) rfl rfl (by kernel_rfl) (fun _ _ _ h=>h) HG4.out.st (Or.inl ⟨by kernel_rfl,?_⟩) (by dsimp only[List.set_cons_succ,List.set_cons_zero]) (by dsimp only[List.set_cons_succ,List.set_cons_zero]) ?_
      rotate_left
      ·(intro w hSw;go_simp<;>with_reducible rfl)
      refine takeL (i:=16) (v:=?_) rfl rfl (by kernel_rfl) (fun _ _ _ h=>h) HG4.out.st (Or.inl ⟨by kernel_rfl,?_⟩) (by dsimp only[List.set_cons_succ,List.set_cons_zero]) (by dsimp only[List.set_cons_succ,List.set_cons_zero]) ?_
      rotate_left
      ·(intro w hSw;go_simp<;>with_reducible rfl)
      have hs1:=storeW1 HG4.out.st 7 (v:=.slice a8 (k+1) c8) (by first | (simp;done) | (show _<11;omega)) rfl
      have GA:=Lib.hid (HG4.out.set HJB.out 7 (.slice a8 (k+1) c8))
      have hs2:=storeW1 GA.out.st 6 (v:=.slice a9 (k+1) c9) (by first | (simp;done) | (show _<11;omega)) rfl
      have GB:=Lib.hid (GA.out.set HJB.out 6 (.slice a9 (k+1) c9))
      refine wpAnyX_ready (rs:=[17]) (by kernel_rfl) (by simp) (AllReadyX.one rfl (fun K hK=>?_))
      go_simp
      refine hK.out _ _ (noneUp_any (by kernel_rfl)) ?_
      clear hK K
      try simp only[Act.put,List.getElem_toArray,List.getElem_cons_zero,List.getElem_cons_succ,List.setIfInBounds_toArray,List.set_cons_zero,List.set_cons_succ]
      refine wpAnyX_free (by kernel_rfl) ?_
      refine takeL (i:=18) (v:=?_) rfl rfl (by kernel_rfl) (fun _ _ _ h=>h) trivial (Or.inl ⟨by kernel_rfl,?_⟩) (by dsimp only[List.set_cons_succ,List.set_cons_zero]) (by dsimp only[List.set_cons_succ,List.set_cons_zero]) ?_
      rotate_left
      ·(intro w hSw;go_simp<;>with_reducible rfl)
      refine takeL (i:=19) (v:=?_) rfl rfl (by kernel_rfl) (fun _ _ _ h=>h) trivial (Or.inl ⟨by kernel_rfl,?_⟩) (by dsimp only[List.set_cons_succ,List.set_cons_zero]) (by dsimp only[List.set_cons_succ,List.set_cons_zero]) ?_
      rotate_left
      ·(intro w hSw;go_simp<;>with_reducible rfl)
      refine wpAnyX_ready (rs:=[20]) (by kernel_rfl) (by simp) (AllReadyX.one rfl (fun K hK=>?_))
      go_simp
      refine hK.out _ _ (fun _=>trivial) ?_
      clear hK K
      try simp only[Act.put,List.getElem_toArray,List.getElem_cons_zero,List.getElem_cons_succ,List.setIfInBounds_toArray,List.set_cons_zero,List.set_cons_succ]
      clear hs1 hs2
      refine wpAnyX_done (by kernel_rfl) ?_ _
      have HGF:Hid (G2 w jb (rjC g.rb D hm (.slice a9 (k+1) c9) (.slice a8 (k+1) c8)) 150 9 4 (.slice a8 (k+1) c8) (.slice a9 (k+1) c9) (nowK D (k+1)) (List.replicate (k+1) (.bool false)) ((w4.setCell ⟨jb,7,none⟩ (.slice a8 (k+1) c8)).setCell ⟨jb,6,none⟩ (.slice a9 (k+1) c9))):=by
       show G2 _ _ _ _ _ _ _ _ _ _ _
       rw[nowK_succ,List.replicate_succ']
       exact GB.out
      go_wp2_with fail
      exact⟨⟨k+1,_,_,by omega,by go_num,HGF.out⟩,by simp[intOf];omega⟩
    ·go_simp
     refine hK.out _ _ (fun _=>(HG0.out.alloc _).st) ?_
     clear hK K hrn7 hrn13
     try simp only[Act.put,List.getElem_toArray,List.getElem_cons_zero,List.getElem_cons_succ,List.setIfInBounds_toArray,List.set_cons_zero,List.set_cons_succ]
     have HG1:=Lib.hid (HG0.out.alloc (.cells #[.bool false] 4))
     have hl13:(w0.alloc (.cells #[.bool false] 4)).heap[w0.heap.size]?=some (.cells #[.bool false] 4 (0,0)):=blk_alloc _
     have HSZ:Hid (w0.heap.size≤w0.heap.size):=Lib.hid (Nat.le_refl _)
     generalize w0.alloc (.cells #[.bool false] 4)=w1 at HG1 hl13 ⊢
     have hrn:=slice_V (D.now (2+D.anc.ring+k)) w1
     refine wpAnyX_ready (rs:=[7]) (by kernel_rfl) (by simp) (AllReadyX.one rfl (fun K hK=>?_))
     go_simp
     refine hK.out _ _ (fun _=>(HG1.out.alloc _).st) ?_
     clear hK K hrn
     try simp only[Act.put,List.getElem_toArray,List.getElem_cons_zero,List.getElem_cons_succ,List.setIfInBounds_toArray,List.set_cons_zero,List.set_cons_succ]
     have HG2:=Lib.hid (HG1.out.alloc (.cells #[strV (D.now (2+D.anc.ring+k))] 9))
     have hl7:(w1.alloc (.cells #[strV (D.now (2+D.anc.ring+k))] 9)).heap[w1.heap.size]?=some (.cells #[strV (D.now (2+D.anc.ring+k))] 9 (0,0)):=blk_alloc _
     replace hl13:(w1.alloc (.cells #[strV (D.now (2+D.anc.ring+k))] 9)).heap[w0.heap.size]?=some (.cells #[.bool false] 4 (0,0)):=(blk_alloc_ne (blk_lt hl13)).trans hl13
     generalize w1.alloc (.cells #[strV (D.now (2+D.anc.ring+k))] 9)=w2 at HG2 hl13 hl7 ⊢
     obtain⟨a8,c8,w3,hr8,hg8,hk8⟩:=HG2.out.pushA Tryz.underlying139 infoS9 rfl (by decide) (by have:=HLEN.out;omega) rfl hl7
     simp only[HLEN.out.1] at hr8 hg8
     replace hl13:=(hk8 _ (blk_lt hl13) (by intro q;have:=(row_lt HG0.out.ra _ q).1;have:=HSZ.out;omega)).trans hl13
     refine wpAnyX_ready (rs:=[8]) (by kernel_rfl) (by simp) (AllReadyX.one rfl (fun K hK=>?_))
     refine step_append_run (by rfl) _ _ _ (by rfl) (by rfl) (by rfl) hr8 ?_
     refine hK.out _ _ (fun _=>hg8.st) ?_
     clear hK K
     try simp only[Act.put,List.getElem_toArray,List.getElem_cons_zero,List.getElem_cons_succ,List.setIfInBounds_toArray,List.set_cons_zero,List.set_cons_succ]
     have HG3:=Lib.hid hg8
     clear hg8 hk8 hr8
     obtain⟨a9,c9,w4,hr9,hg9⟩:=HG3.out.pushB Tryz.underlying29 infoB4 rfl (by decide) (by have:=HLEN.out;omega) rfl hl13
     simp only[HLEN.out.2.1] at hr9 hg9
     refine wpAnyX_ready (rs:=[14]) (by kernel_rfl) (by simp) (AllReadyX.one rfl (fun K hK=>?_))
     refine step_append_run (by rfl) _ _ _ (by rfl) (by rfl) (by rfl) hr9 ?_
     refine hK.out _ _ (fun _=>hg9.st) ?_
     clear hK K
     try simp only[Act.put,List.getElem_toArray,List.getElem_cons_zero,List.getElem_cons_succ,List.setIfInBounds_toArray,List.set_cons_zero,List.set_cons_succ]
     have HG4:=Lib.hid hg9
     clear hg9 hr9
     refine takeL (i:=15) (v:=?_) rfl rfl (by kernel_rfl) (fun _ _ _ h=>h) HG4.out.st (Or.inl ⟨by kernel_rfl,?_⟩) (by dsimp only[List.set_cons_succ,List.set_cons_zero]) (by dsimp only[List.set_cons_succ,List.set_cons_zero]) ?_
     rotate_left
     ·(intro w hSw;go_simp<;>with_reducible rfl)
     refine takeL (i:=16) (v:=?_) rfl rfl (by kernel_rfl) (fun _ _ _ h=>h) HG4.out.st (Or.inl ⟨by kernel_rfl,?_⟩) (by dsimp only[List.set_cons_succ,List.set_cons_zero]) (by dsimp only[List.set_cons_succ,List.set_cons_zero]) ?_
     rotate_left
     ·(intro w hSw;go_simp<;>with_reducible rfl)
     have hs1:=storeW1 HG4.out.st 7 (v:=.slice a8 (k+1) c8) (by first | (simp;done) | (show _<11;omega)) rfl
     have GA:=Lib.hid (HG4.out.set HJB.out 7 (.slice a8 (k+1) c8))
     have hs2:=storeW1 GA.out.st 6 (v:=.slice a9 (k+1) c9) (by first | (simp;done) | (show _<11;omega)) rfl
     have GB:=Lib.hid (GA.out.set HJB.out 6 (.slice a9 (k+1) c9))
     refine wpAnyX_ready (rs:=[17]) (by kernel_rfl) (by simp) (AllReadyX.one rfl (fun K hK=>?_))
     go_simp
     refine hK.out _ _ (noneUp_any (by kernel_rfl)) ?_
     clear hK K
     try simp only[Act.put,List.getElem_toArray,List.getElem_cons_zero,List.getElem_cons_succ,List.setIfInBounds_toArray,List.set_cons_zero,List.set_cons_succ]
     refine wpAnyX_free (by kernel_rfl) ?_
     refine takeL (i:=18) (v:=?_) rfl rfl (by kernel_rfl) (fun _ _ _ h=>h) trivial (Or.inl ⟨by kernel_rfl,?_⟩) (by dsimp only[List.set_cons_succ,List.set_cons_zero]) (by dsimp only[List.set_cons_succ,List.set_cons_zero]) ?_
     rotate_left
     ·(intro w hSw;go_simp<;>with_reducible rfl)
     refine takeL (i:=19) (v:=?_) rfl rfl (by kernel_rfl) (fun _ _ _ h=>h) trivial (Or.inl ⟨by kernel_rfl,?_⟩) (by dsimp only[List.set_cons_succ,List.set_cons_zero]) (by dsimp only[List.set_cons_succ,List.set_cons_zero]) ?_
     rotate_left
     ·(intro w hSw;go_simp<;>with_reducible rfl)
     refine wpAnyX_ready (rs:=[20]) (by kernel_rfl) (by simp) (AllReadyX.one rfl (fun K hK=>?_))
     go_simp
     refine hK.out _ _ (fun _=>trivial) ?_
     clear hK K
     try simp only[Act.put,List.getElem_toArray,List.getElem_cons_zero,List.getElem_cons_succ,List.setIfInBounds_toArray,List.set_cons_zero,List.set_cons_succ]
     clear hs1 hs2
     refine wpAnyX_done (by kernel_rfl) ?_ _
     have HGF:Hid (G2 w jb (rjC g.rb D hm (.slice a9 (k+1) c9) (.slice a8 (k+1) c8)) 150 9 4 (.slice a8 (k+1) c8) (.slice a9 (k+1) c9) (nowK D (k+1)) (List.replicate (k+1) (.bool false)) ((w4.setCell ⟨jb,7,none⟩ (.slice a8 (k+1) c8)).setCell ⟨jb,6,none⟩ (.slice a9 (k+1) c9))):=by
      show G2 _ _ _ _ _ _ _ _ _ _ _
      rw[nowK_succ,List.replicate_succ']
      exact GB.out
     go_wp2_with fail
     exact⟨⟨k+1,_,_,by omega,by go_num,HGF.out⟩,by simp[intOf];omega⟩
  ·obtain rfl:k=hm:=by omega
   have e1:decide ((k:Int)<(k:Int))=false:=by simp
   have e2:decide (k<k)=false:=by simp
   obtain⟨q,hq1,hq2,hq3,hqj⟩:=rj_boot (HH.out.below HG.out.up) (fun i hi=>HH.out.lt i hi) HC.out.2 (by rw[HHM.out,HN.out,HANC.out.2.2.2];rfl) HJB.out HG.out
   have HQ:=Lib.hid (And.intro hq1 (And.intro hq3 hqj))
   have HUP:=Lib.hid HG.out.up
   rw[← hq2]
   rw[← hq2] at x1 x5
   clear hq1 hq2 hq3 hqj HG HCC x1
   go_wp2_with fail
   obtain⟨w8,hw8⟩:∃x:World,x=wr:=⟨_,rfl⟩
   rw[← hw8] at HUP HQ ⊢
   clear hw8 x5
   go_loopw [14] (fun s wr=>∃(Jc:Jn) (b:Bool),s=.bool b∧RoRel w q D J Jc b wr) (fun _ wr=>lateV D D.anc.ring (wr.cell? ⟨q.jb,3,none⟩))
   case atStart=>exact⟨D.boot,false,rfl,⟨HQ.out.2.2,HSC.out,fun _=>rfl,by simp,HUP.out⟩⟩
   case round=>
    obtain⟨Jc,b,rfl,hrel⟩:=hrel
    have HREL:=Lib.hid hrel
    obtain⟨bs,hbs⟩:∃x,x=decide (Jc.stands D≠[]):=⟨_,rfl⟩
    have HST:Hid (Calls Tryz.prog 75 #[.pointer (some ⟨q.jb,0,none⟩)] wr fun e w'=>∃v,e=.returned (.tuple #[v,.bool bs])∧PutsT w' wr.heap.size v (Jc.stands D)∧Upd [] wr w'):=by
     show Calls _ _ _ _ _
     rw[hbs]
     have h9:Calls Tryz.prog 75 #[.pointer (some ⟨q.jb,0,none⟩)] wr (RstPost wr Jc.u0 D):=rstands_spec hrel.jm
     exact h9
    have HBS:=Lib.hid hbs
    clear hrel hbs
    go_wp2_with fail
    refine HST.out.mono ?_
    rintro e w6 ⟨v6,rfl,hp6,hu6⟩
    obtain⟨a6,c6,rfl⟩:=hp6.at_.shape
    have HP6:=Lib.hid hp6
    have HU6:=Lib.hid hu6
    have HJ6:=Lib.hid (HREL.out.jm.below hu6)
    have HUP6:=Lib.hid (HREL.out.up.trans hu6)
    clear hp6 hu6
    have HLS:Hid (Jc.last=D.anc∧Jc.turn≤J.turn):=by
     show _∧_
     obtain⟨t1,t2⟩:=HREL.out.scan.turn
     have t3:=HSC.out.turn.2
     exact⟨by rw[← t2,t3];rfl,t1⟩
    cases bs with
    | false=>
     have HS0:Hid (Jc.stands D=[]):=Lib.hid (by have:=HBS.out;simpa using this)
     cases b with
     | false=>
      have HRES:Hid (openJ D J=Jc.u0∧openD D J=D):=by
       show _∧_
       have e:=HREL.out.no rfl
       have h0:=HS0.out
       rw[e] at h0
       unfold openJ openD
       rw[if_pos h0,if_pos h0,e]
       exact⟨rfl,rfl⟩
      go_wp2_with fail
      go_ret2
      exact⟨q,HQ.out.1,rfl,HQ.out.2.1,by rw[HRES.out.1,HRES.out.2];exact HJ6.out,HUP6.out.mono (by simp)⟩
     | true=>
      have HEQ:Hid (J=Jc):=Lib.hid (HREL.out.scan.stop_eq HS0.out)
      have HRES:Hid (openJ D J=Jc.u0.settled∧openD D J=homeD Jc.u0 D):=by
       show _∧_
       have hy:=HREL.out.yes rfl
       unfold openJ openD
       rw[if_neg hy,if_neg hy,HEQ.out,u0_settled,u0_homeD]
       exact⟨rfl,rfl⟩
      obtain⟨_,_,c2,c3,_⟩:=HJ6.out.cells
      obtain⟨sN,hsN⟩:∃s,s=Jc.u0.last.number:=⟨_,rfl⟩
      obtain⟨sT,hsT⟩:∃s,s=Jc.u0.turn:=⟨_,rfl⟩
      rw[← hsN] at c2
      rw[← hsT] at c3
      obtain⟨l1,l2⟩:=HLIM.out
      rw[HEQ.out] at l1 l2
      have l1':Jc.u0.last.number<4611686018427380000:=l1
      have l2':Jc.u0.turn<4611686018427380000:=l2
      have d1:decide (4611686018427387904≤sN)=false:=decide_eq_false (by omega)
      have d2:decide (4611686018427387904≤sT)=false:=decide_eq_false (by omega)
      have HHO:=Lib.hid (rhome_spec HJ6.out (by omega))
      clear l1 l2 l1' l2' hsN hsT
      go_wp2_with fail
      refine HHO.out.mono ?_
      rintro e w7 ⟨rfl,hj7,hu7⟩
      have HJ7:=Lib.hid hj7
      have HU7:=Lib.hid hu7
      clear hj7 hu7 c2 c3
      go_wp2_with fail
      go_ret2
      refine⟨q,HQ.out.1,rfl,HQ.out.2.1,by rw[HRES.out.1,HRES.out.2];exact HJ7.out,(HUP6.out.mono (by simp)).late HU7.out (fun i hi=>?_)⟩
      unfold QG.all at hi
      rw[List.mem_append,HQ.out.1] at hi
      rcases hi with hi | hi
      ·exact .inr (HQ.out.2.1 i hi)
      ·exact .inl hi
    | true=>
     have HS0:Hid (Jc.stands D≠[]):=Lib.hid (by have:=HBS.out;simpa using this)
     obtain⟨_,_,_,c3,_⟩:=HJ6.out.cells
     obtain⟨sT,hsT⟩:∃s,s=Jc.u0.turn:=⟨_,rfl⟩
     rw[← hsT] at c3
     have l2:=HLIM.out.2
     have l3:=HLS.out.2
     have l4:Jc.u0.turn=Jc.turn:=rfl
     have d2:decide (4611686018427387904≤sT)=false:=decide_eq_false (by omega)
     obtain⟨l,hl⟩:∃l,l=Jc.stands D:=⟨_,rfl⟩
     have hgd:PutsGood (Jc.u0.homes D.n) l:=by rw[hl];exact stands_good HJ6.out.disk.ok
     have HGD:=Lib.hid hgd
     have HL:=Lib.hid hl
     rw[← hl] at HP6 HS0 ⊢
     have HOKE:=Lib.hid HJ6.out.ok
     have HBO:Hid (∀x,x∈q.own→x<wr.heap.size):=Lib.hid (fun x hx=>HREL.out.jm.lt x (by simp[QG.all,hx]))
     obtain⟨hom,hhom⟩:∃h,h=Jc.u0.homes D.n:=⟨_,rfl⟩
     have HHO:=Lib.hid hhom
     clear l2 l3 l4 hsT hl hgd hhom
     go_wp2_with fail
     clear c3 d2
     go_loopw [17] (fun i wr=>∃m:Nat,m≤l.length∧i=.int .i64 (m:Int)∧RjmAt wr q (notedM Jc.u0 l m) D∧Upd q.own w6 wr) (fun i _=>l.length-(intOf i).toNat)
     case atStart=>
      have e0:notedM Jc.u0 l 0=Jc.u0:=by unfold notedM;rw[List.take_zero];rfl
      exact⟨0,Nat.zero_le _,rfl,by rw[e0];exact HJ6.out,Upd.refl _ _⟩
     case round=>
      obtain⟨m,hm,rfl,hj,hu8⟩:=hrel
      obtain⟨wq,rfl⟩:∃x:World,x=wr:=⟨_,rfl⟩
      have HJM:=Lib.hid hj
      have HU8:=Lib.hid hu8
      have HPM:=Lib.hid (HP6.out.upd hu8 HBO.out)
      clear hj hu8
      rcases Nat.lt_or_ge m l.length with hlt | hge3
      ·as_aux_lemma=>
        have f1:decide ((m:Int)<(l.length:Int))=true:=decide_eq_true (by omega)
        have f2:decide (m<l.length)=true:=decide_eq_true hlt
        have j0:(0:Int)≤(m:Int):=by omega
        have j1:(m:Int)<(l.length:Int):=by omega
        obtain⟨g1,cap,da,dc,e,hc1,hc2,hrd⟩:=HPM.out.at_.get m hlt
        cases e
        obtain⟨b1,b2,b3⟩:=HGD.out.each _ (List.getElem_mem hlt)
        obtain⟨p,hp⟩:∃p,p=l[m]:=⟨_,rfl⟩
        rw[← hp] at hc1 hc2 hrd b1 b2 b3
        have HPG:Hid (l[m]?=some p):=Lib.hid (by rw[List.getElem?_eq_getElem hlt,hp])
        obtain⟨pN,hpN⟩:∃n,n=p.1.toNat:=⟨_,rfl⟩
        have hpi:p.1=(pN:Int):=by omega
        rw[hpi] at hc1
        rw[← HHO.out] at b2
        have j2:(0:Int)≤(pN:Int):=by omega
        have j3:(pN:Int)<(hom:Int):=by omega
        have hcv0:=fun w' (hw:Upd [] wq w')=>run_str (hrd.below hw) (by rw[b3];omega)
        have HCV:=Lib.hid hcv0
        have HCI:Hid (∀w',Upd [] wq w'→w'.cell? ⟨g1,m*2,none⟩=some (.int .i64 (pN:Int))∧w'.cell? ⟨g1,m*2+1,none⟩=some (.slice da p.2.length dc)∧w'.cell? ⟨q.jb,7,none⟩=some (.slice (some ⟨q.nb,0,none⟩) hom q.cn)∧w'.cell? ⟨q.jb,6,none⟩=some (.slice (some ⟨q.ab,0,none⟩) hom q.ca)):=by
         show ∀w',_
         intro w' hu
         obtain⟨_,_,_,_,_,_,c6,c7,_⟩:=(HJM.out.below hu).cells
         have e9:(notedM Jc.u0 l m).homes D.n=hom:=HHO.out.symm
         rw[e9] at c6 c7
         exact⟨cell_updW hc1 hu (by simp),cell_updW hc2 hu (by simp),c7,c6⟩
        have HPN2:=Lib.hid (And.intro hpN b3)
        have hln:=HGD.out.n
        have HJ3:=Lib.hid (And.intro j2 j3)
        obtain⟨pl,hpl⟩:∃n,n=p.2.length:=⟨_,rfl⟩
        rw[← hpl] at HCI HCV
        clear hcv0 hc1 hc2 hrd b1 b2 b3 hp hpN hpi hpl
        go_wp2_with fail
        refine wp_region_xL (fun w'=>Upd [] wq w') [25] (by kernel_rfl) (by simp only[List.size_toArray,List.length_cons,List.length_nil,Nat.reduceAdd];exact rfl) (by simp only[List.replicate_succ,List.replicate_zero];exact rfl) (Upd.refl _ _).drew (fun hHeld=>?_)
        generalize wq.drew=w0 at hHeld ⊢
        refine takeL (i:=0) (v:=?_) rfl rfl (by kernel_rfl) (fun _ _ _ h=>h) hHeld (Or.inl ⟨by kernel_rfl,?_⟩) (by dsimp only[List.set_cons_succ,List.set_cons_zero]) (by dsimp only[List.set_cons_succ,List.set_cons_zero]) ?_
        rotate_left
        ·(intro w hSw;go_simp<;>with_reducible rfl)
        refine takeL (i:=1) (v:=?_) rfl rfl (by kernel_rfl) (fun _ _ _ h=>h) hHeld (Or.inl ⟨by kernel_rfl,?_⟩) (by dsimp only[List.set_cons_succ,List.set_cons_zero]) (by dsimp only[List.set_cons_succ,List.set_cons_zero]) ?_
        rotate_left
        ·(intro w hSw;go_simp<;>with_reducible rfl)
        refine takeL (i:=2) (v:=?_) rfl rfl (by kernel_rfl) (fun _ _ _ h=>h) hHeld (Or.inl ⟨by kernel_rfl,?_⟩) (by dsimp only[List.set_cons_succ,List.set_cons_zero]) (by dsimp only[List.set_cons_succ,List.set_cons_zero]) ?_
        rotate_left
        ·(intro w hSw;go_simp<;>with_reducible rfl)
        refine takeL (i:=4) (v:=?_) rfl rfl (by kernel_rfl) (fun _ _ _ h=>h) hHeld (Or.inl ⟨by kernel_rfl,?_⟩) (by dsimp only[List.set_cons_succ,List.set_cons_zero]) (by dsimp only[List.set_cons_succ,List.set_cons_zero]) ?_
        rotate_left
        ·(intro w hSw;go_simp<;>with_reducible rfl)
        refine takeL (i:=5) (v:=?_) rfl rfl (by kernel_rfl) (fun _ _ _ h=>h) hHeld (Or.inl ⟨by kernel_rfl,?_⟩) (by dsimp only[List.set_cons_succ,List.set_cons_zero]) (by dsimp only[List.set_cons_succ,List.set_cons_zero]) ?_
        rotate_left
        ·(intro w hSw;go_simp<;>with_reducible rfl)
        refine takeL (i:=6) (v:=?_) rfl rfl (by kernel_rfl) (fun _ _ _ h=>h) hHeld (Or.inl ⟨by kernel_rfl,?_⟩) (by dsimp only[List.set_cons_succ,List.set_cons_zero]) (by dsimp only[List.set_cons_succ,List.set_cons_zero]) ?_
        rotate_left
        ·(intro w hSw;go_simp<;>with_reducible rfl)
        refine takeL (i:=7) (v:=?_) rfl rfl (by kernel_rfl) (fun _ _ _ h=>h) hHeld (Or.inl ⟨by kernel_rfl,?_⟩) (by dsimp only[List.set_cons_succ,List.set_cons_zero]) (by dsimp only[List.set_cons_succ,List.set_cons_zero]) ?_
        rotate_left
        ·(intro w hSw;go_simp<;>with_reducible rfl)
        refine takeL (i:=9) (v:=?_) rfl rfl (by kernel_rfl) (fun _ _ _ h=>h) hHeld (Or.inl ⟨by kernel_rfl,?_⟩) (by dsimp only[List.set_cons_succ,List.set_cons_zero]) (by dsimp only[List.set_cons_succ,List.set_cons_zero]) ?_
        rotate_left
        ·(intro w hSw;go_simp<;>with_reducible rfl)
        refine takeL (i:=10) (v:=?_) rfl rfl (by kernel_rfl) (fun _ _ _ h=>h) hHeld (Or.inl ⟨by kernel_rfl,?_⟩) (by dsimp only[List.set_cons_succ,List.set_cons_zero]) (by dsimp only[List.set_cons_succ,List.set_cons_zero]) ?_
        rotate_left
        ·(intro w hSw;go_simp<;>with_reducible rfl)
        refine takeL (i:=11) (v:=?_) rfl rfl (by kernel_rfl) (fun _ _ _ h=>h) hHeld (Or.inl ⟨by kernel_rfl,?_⟩) (by dsimp only[List.set_cons_succ,List.set_cons_zero]) (by dsimp only[List.set_cons_succ,List.set_cons_zero]) ?_
        rotate_left
        ·(intro w hSw;go_simp<;>with_reducible rfl)
        refine takeL (i:=13) (v:=?_) rfl rfl (by kernel_rfl) (fun _ _ _ h=>h) hHeld (Or.inl ⟨by kernel_rfl,?_⟩) (by dsimp only[List.set_cons_succ,List.set_cons_zero]) (by dsimp only[List.set_cons_succ,List.set_cons_zero]) ?_
        rotate_left
        ·(intro w hSw;go_simp<;>with_reducible rfl)
        refine takeL (i:=14) (v:=?_) rfl rfl (by kernel_rfl) (fun _ _ _ h=>h) hHeld (Or.inl ⟨by kernel_rfl,?_⟩) (by dsimp only[List.set_cons_succ,List.set_cons_zero]) (by dsimp only[List.set_cons_succ,List.set_cons_zero]) ?_
        rotate_left
        ·(intro w hSw;go_simp<;>with_reducible rfl)
        refine takeL (i:=15) (v:=?_) rfl rfl (by kernel_rfl) (fun _ _ _ h=>h) hHeld (Or.inl ⟨by kernel_rfl,?_⟩) (by dsimp only[List.set_cons_succ,List.set_cons_zero]) (by dsimp only[List.set_cons_succ,List.set_cons_zero]) ?_
        rotate_left
        ·(intro w hSw;go_simp<;>with_reducible rfl)
        refine takeL (i:=16) (v:=?_) rfl rfl (by kernel_rfl) (fun _ _ _ h=>h) hHeld (Or.inl ⟨by kernel_rfl,?_⟩) (by dsimp only[List.set_cons_succ,List.set_cons_zero]) (by dsimp only[List.set_cons_succ,List.set_cons_zero]) ?_
        rotate_left
        ·(intro w hSw;go_simp<;>with_reducible rfl)
        refine takeL (i:=18) (v:=?_) rfl rfl (by kernel_rfl) (fun _ _ _ h=>h) hHeld (Or.inl ⟨by kernel_rfl,?_⟩) (by dsimp only[List.set_cons_succ,List.set_cons_zero]) (by dsimp only[List.set_cons_succ,List.set_cons_zero]) ?_
        rotate_left
        ·(intro w hSw;go_simp<;>with_reducible rfl)
        refine takeL (i:=19) (v:=?_) rfl rfl (by kernel_rfl) (fun _ _ _ h=>h) hHeld (Or.inl ⟨by kernel_rfl,?_⟩) (by dsimp only[List.set_cons_succ,List.set_cons_zero]) (by dsimp only[List.set_cons_succ,List.set_cons_zero]) ?_
        rotate_left
        ·(intro w hSw;go_simp<;>with_reducible rfl)
        refine takeL (i:=20) (v:=?_) rfl rfl (by kernel_rfl) (fun _ _ _ h=>h) hHeld (Or.inl ⟨by kernel_rfl,?_⟩) (by dsimp only[List.set_cons_succ,List.set_cons_zero]) (by dsimp only[List.set_cons_succ,List.set_cons_zero]) ?_
        rotate_left
        ·(intro w hSw;go_simp<;>with_reducible rfl)
        refine takeL (i:=21) (v:=?_) rfl rfl (by kernel_rfl) (fun _ _ _ h=>h) hHeld (Or.inl ⟨by kernel_rfl,?_⟩) (by dsimp only[List.set_cons_succ,List.set_cons_zero]) (by dsimp only[List.set_cons_succ,List.set_cons_zero]) ?_
        rotate_left
        ·(intro w hSw;go_simp<;>with_reducible rfl)
        refine takeL (i:=3) (v:=?_) rfl rfl (by kernel_rfl) (fun _ _ _ h=>h) hHeld (Or.inl ⟨by kernel_rfl,?_⟩) (by dsimp only[List.set_cons_succ,List.set_cons_zero]) (by dsimp only[List.set_cons_succ,List.set_cons_zero]) ?_
        rotate_left
        ·(intro w hSw;obtain⟨x0,x1,x7,x6⟩:=HCI.out _ hSw;go_simp<;>with_reducible rfl)
        refine takeL (i:=8) (v:=?_) rfl rfl (by kernel_rfl) (fun _ _ _ h=>h) hHeld (Or.inl ⟨by kernel_rfl,?_⟩) (by dsimp only[List.set_cons_succ,List.set_cons_zero]) (by dsimp only[List.set_cons_succ,List.set_cons_zero]) ?_
        rotate_left
        ·(intro w hSw;obtain⟨x0,x1,x7,x6⟩:=HCI.out _ hSw;go_simp<;>with_reducible rfl)
        refine takeL (i:=12) (v:=?_) rfl rfl (by kernel_rfl) (fun _ _ _ h=>h) hHeld (Or.inl ⟨by kernel_rfl,?_⟩) (by dsimp only[List.set_cons_succ,List.set_cons_zero]) (by dsimp only[List.set_cons_succ,List.set_cons_zero]) ?_
        rotate_left
        ·(intro w hSw;obtain⟨x0,x1,x7,x6⟩:=HCI.out _ hSw;go_simp<;>with_reducible rfl)
        refine takeL (i:=17) (v:=?_) rfl rfl (by kernel_rfl) (fun _ _ _ h=>h) hHeld (Or.inl ⟨by kernel_rfl,?_⟩) (by dsimp only[List.set_cons_succ,List.set_cons_zero]) (by dsimp only[List.set_cons_succ,List.set_cons_zero]) ?_
        rotate_left
        ·(intro w hSw;obtain⟨x0,x1,x7,x6⟩:=HCI.out _ hSw;go_simp<;>with_reducible rfl)
        refine takeL (i:=22) (v:=?_) rfl rfl (by kernel_rfl) (fun _ _ _ h=>h) hHeld (Or.inl ⟨by kernel_rfl,?_⟩) (by dsimp only[List.set_cons_succ,List.set_cons_zero]) (by dsimp only[List.set_cons_succ,List.set_cons_zero]) ?_
        rotate_left
        ·(intro w hSw;obtain⟨x0,x1,x7,x6⟩:=HCI.out _ hSw;go_simp<;>with_reducible rfl)
        refine takeL (i:=23) (v:=?_) rfl rfl (by kernel_rfl) (fun _ _ _ h=>h) hHeld (Or.inl ⟨by kernel_rfl,?_⟩) (by dsimp only[List.set_cons_succ,List.set_cons_zero]) (by dsimp only[List.set_cons_succ,List.set_cons_zero]) ?_
        rotate_left
        ·(intro w hSw;have hcv:=HCV.out _ hSw;go_simp<;>with_reducible rfl)
        refine takeL (i:=24) (v:=?_) rfl rfl (by kernel_rfl) (fun _ _ _ h=>h) hHeld (Or.inl ⟨by kernel_rfl,?_⟩) (by dsimp only[List.set_cons_succ,List.set_cons_zero]) (by dsimp only[List.set_cons_succ,List.set_cons_zero]) ?_
        rotate_left
        ·(intro w hSw;obtain⟨j2,j3⟩:=HJ3.out;go_simp<;>with_reducible rfl)
        have HJ0:=Lib.hid (HJM.out.below hHeld)
        obtain⟨nl,⟨rest,hrest⟩,hn2⟩:=HJ0.out.now
        have hhl:nl.length=hom:=by rw[hn2.len];exact HHO.out.symm
        have st1:=storeW1 hrest pN (v:=.string (str p.2)) (by have:=HJ3.out.2;simp;omega) rfl
        obtain⟨r2,hr2⟩:=HJ0.out.away
        have hnab:q.ab≠q.nb:=by
         intro e
         rw[e,hrest] at hr2;simp at hr2
        have hr3:(w0.setCell ⟨q.nb,pN,none⟩ (.string (str p.2))).heap[q.ab]?=some (.cells (awayB (notedM Jc.u0 l m).away ((notedM Jc.u0 l m).homes D.n)++r2).toArray 4 (0,0)):=
         (((Upd.refl [q.nb] w0).set (.string (str p.2)) (b:=q.nb) (o:=pN) (.inl (by simp))).block _ (blk_lt hr2) (by simp;exact hnab)).trans hr2
        have st2:=storeW1 hr3 pN (v:=.bool true) (by have:=HJ3.out.2;have e9:(notedM Jc.u0 l m).homes D.n=hom:=HHO.out.symm;simp[awayB_length];omega) rfl
        have hput:=HJ0.out.put1 HOKE.out HGD.out HPG.out hlt
        rw[← HPN2.out.1] at hput
        have HPUT:=Lib.hid hput
        clear hrest hn2 hhl hr2 hnab hr3 hput
        refine wpAnyX_ready (rs:=[25]) (by kernel_rfl) (by simp) (AllReadyX.one rfl (fun K hK=>?_))
        go_simp
        refine hK.out _ _ (noneUp_not (by kernel_rfl)) ?_
        clear hK K
        try simp only[Act.put,List.getElem_toArray,List.getElem_cons_zero,List.getElem_cons_succ,List.setIfInBounds_toArray,List.set_cons_zero,List.set_cons_succ]
        refine wpAnyX_free (by kernel_rfl) ?_
        refine takeL (i:=26) (v:=?_) rfl rfl (by kernel_rfl) (fun _ _ _ h=>h) trivial (Or.inl ⟨by kernel_rfl,?_⟩) (by dsimp only[List.set_cons_succ,List.set_cons_zero]) (by dsimp only[List.set_cons_succ,List.set_cons_zero]) ?_
        rotate_left
        ·(intro w hSw;obtain⟨j2,j3⟩:=HJ3.out;go_simp<;>with_reducible rfl)
        refine wpAnyX_ready (rs:=[27]) (by kernel_rfl) (by simp) (AllReadyX.one rfl (fun K hK=>?_))
        go_simp
        refine hK.out _ _ (fun _=>trivial) ?_
        clear hK K
        try simp only[Act.put,List.getElem_toArray,List.getElem_cons_zero,List.getElem_cons_succ,List.setIfInBounds_toArray,List.set_cons_zero,List.set_cons_succ]
        refine wpAnyX_done (by kernel_rfl) ?_ _
        have HJN:=Lib.hid HPUT.out.1
        have HUN:=Lib.hid ((HU8.out.trans (hHeld.mono (T:=q.own) (by simp))).trans HPUT.out.2)
        clear hHeld st1 st2
        go_wp2_with fail
        exact⟨⟨m+1,by omega,by go_num,HJN.out,HUN.out⟩,by simp[intOf];omega⟩
      ·as_aux_lemma=>
        obtain rfl:m=l.length:=by omega
        have f1:decide ((l.length:Int)<(l.length:Int))=false:=by simp
        have f2:decide (l.length<l.length)=false:=by simp
        obtain⟨P1,hP1⟩:∃x,x=Jc.place+1:=⟨_,rfl⟩
        obtain⟨P2,hP2⟩:∃x,x=P1+l.length:=⟨_,rfl⟩
        obtain⟨P3,hP3⟩:∃x,x=P2 % Jc.last.ring:=⟨_,rfl⟩
        obtain⟨T1,hT1⟩:∃x,x=Jc.turn+1:=⟨_,rfl⟩
        have hr0:8≤Jc.last.ring:=HOKE.out.ring0
        have hr1:Jc.last.ring≤1024:=HOKE.out.ring1
        have hpl:Jc.place<Jc.last.ring:=HOKE.out.place
        have ht0:1≤Jc.turn:=HOKE.out.turn0
        have hln:=HGD.out.n
        have ht1:Jc.turn<4611686018427380000:=by have:=HLS.out.2;have:=HLIM.out.2;omega
        have hP3lt:P3<Jc.last.ring:=by rw[hP3];exact Nat.mod_lt _ (by omega)
        have HWW:Hid (IntKind.i64.wrap ((Jc.place:Int)+1)=(P1:Int)∧IntKind.i64.wrap ((P1:Int)+(l.length:Int))=(P2:Int)∧(P2:Int).tmod (Jc.last.ring:Int)=(P3:Int)∧((P2:Int) % (Jc.last.ring:Int))=(P3:Int)∧IntKind.i64.wrap (P3:Int)=(P3:Int)∧IntKind.u64.wrap (Jc.turn+1)=T1∧¬(Jc.last.ring=0)):=by
         show _∧_∧_∧_∧_∧_∧_
         rw[IntKind.wrap_i64,IntKind.wrap_i64,IntKind.wrap_i64,IntKind.wrap_u64]
         refine⟨by omega,by omega,?_,?_,by omega,by omega,by omega⟩
         ·rw[Int.tmod_eq_emod_of_nonneg (by omega),hP3];rfl
         ·rw[hP3];rfl
        have HNT:Hid (∀w',Upd [] wq w'→RjmAt ((w'.setCell ⟨q.jb,4,none⟩ (.int .i64 (P3:Int))).setCell ⟨q.jb,3,none⟩ (.int .u64 T1)) q (Jc.note l).u0 D∧Upd q.own w' ((w'.setCell ⟨q.jb,4,none⟩ (.int .i64 (P3:Int))).setCell ⟨q.jb,3,none⟩ (.int .u64 T1))):=by
         show ∀w',_
         intro w' hu
         have:=(HJM.out.below hu).noted0 HOKE.out HGD.out rfl (by show Jc.turn<_;omega)
         rw[hP3,hP2,hP1,hT1]
         exact this
        have HCI:Hid (∀w',Upd [] wq w'→w'.cell? ⟨q.jb,1,none⟩=some (.int .i64 (Jc.last.ring:Int))∧w'.cell? ⟨q.jb,3,none⟩=some (.int .u64 Jc.turn)∧w'.cell? ⟨q.jb,4,none⟩=some (.int .i64 (Jc.place:Int))):=by
         show ∀w',_
         intro w' hu
         obtain⟨_,c1,_,c3,c4,_⟩:=(HJM.out.below hu).cells
         exact⟨c1,c3,c4⟩
        clear hP1 hP2 hP3 hT1 hr0 hr1 hpl ht0 hln ht1 hP3lt
        go_wp2_with fail
        refine wp_region_xL (fun w'=>Upd [] wq w') [22] (by kernel_rfl) (by simp only[List.size_toArray,List.length_cons,List.length_nil,Nat.reduceAdd];exact rfl) (by simp only[List.replicate_succ,List.replicate_zero];exact rfl) (Upd.refl _ _).drew (fun hHeld=>?_)
        generalize wq.drew=w0 at hHeld ⊢
        refine takeL (i:=0) (v:=?_) rfl rfl (by kernel_rfl) (fun _ _ _ h=>h) hHeld (Or.inl ⟨by kernel_rfl,?_⟩) (by dsimp only[List.set_cons_succ,List.set_cons_zero]) (by dsimp only[List.set_cons_succ,List.set_cons_zero]) ?_
        rotate_left
        ·(intro w hSw;go_simp<;>with_reducible rfl)
        refine takeL (i:=2) (v:=?_) rfl rfl (by kernel_rfl) (fun _ _ _ h=>h) hHeld (Or.inl ⟨by kernel_rfl,?_⟩) (by dsimp only[List.set_cons_succ,List.set_cons_zero]) (by dsimp only[List.set_cons_succ,List.set_cons_zero]) ?_
        rotate_left
        ·(intro w hSw;go_simp<;>with_reducible rfl)
        refine takeL (i:=3) (v:=?_) rfl rfl (by kernel_rfl) (fun _ _ _ h=>h) hHeld (Or.inl ⟨by kernel_rfl,?_⟩) (by dsimp only[List.set_cons_succ,List.set_cons_zero]) (by dsimp only[List.set_cons_succ,List.set_cons_zero]) ?_
        rotate_left
        ·(intro w hSw;go_simp<;>with_reducible rfl)
        refine takeL (i:=4) (v:=?_) rfl rfl (by kernel_rfl) (fun _ _ _ h=>h) hHeld (Or.inl ⟨by kernel_rfl,?_⟩) (by dsimp only[List.set_cons_succ,List.set_cons_zero]) (by dsimp only[List.set_cons_succ,List.set_cons_zero]) ?_
        rotate_left
        ·(intro w hSw;go_simp<;>with_reducible rfl)
        refine takeNL (i:=1) (v:=?_) rfl rfl (by kernel_rfl) (fun _ _ _ h=>h) (fun _=>hHeld) (Or.inl ⟨by kernel_rfl,?_⟩) (by dsimp only[List.set_cons_succ,List.set_cons_zero]) (by dsimp only[List.set_cons_succ,List.set_cons_zero]) ?_
        rotate_left
        ·(intro w hSw;go_simp<;>with_reducible rfl)
        refine takeL (i:=5) (v:=?_) rfl rfl (by kernel_rfl) (fun _ _ _ h=>h) hHeld (Or.inl ⟨by kernel_rfl,?_⟩) (by dsimp only[List.set_cons_succ,List.set_cons_zero]) (by dsimp only[List.set_cons_succ,List.set_cons_zero]) ?_
        rotate_left
        ·(intro w hSw;obtain⟨x1,x3,x4⟩:=HCI.out _ hSw;go_simp<;>with_reducible rfl)
        refine takeL (i:=6) (v:=?_) rfl rfl (by kernel_rfl) (fun _ _ _ h=>h) hHeld (Or.inl ⟨by kernel_rfl,?_⟩) (by dsimp only[List.set_cons_succ,List.set_cons_zero]) (by dsimp only[List.set_cons_succ,List.set_cons_zero]) ?_
        rotate_left
        ·(intro w hSw;obtain⟨v1,v2,v3,v4,v5,v6,v7⟩:=HWW.out;go_simp<;>with_reducible rfl)
        refine takeL (i:=7) (v:=?_) rfl rfl (by kernel_rfl) (fun _ _ _ h=>h) hHeld (Or.inl ⟨by kernel_rfl,?_⟩) (by dsimp only[List.set_cons_succ,List.set_cons_zero]) (by dsimp only[List.set_cons_succ,List.set_cons_zero]) ?_
        rotate_left
        ·(intro w hSw;go_simp<;>with_reducible rfl)
        refine takeL (i:=8) (v:=?_) rfl rfl (by kernel_rfl) (fun _ _ _ h=>h) hHeld (Or.inl ⟨by kernel_rfl,?_⟩) (by dsimp only[List.set_cons_succ,List.set_cons_zero]) (by dsimp only[List.set_cons_succ,List.set_cons_zero]) ?_
        rotate_left
        ·(intro w hSw;go_simp<;>with_reducible rfl)
        refine takeL (i:=9) (v:=?_) rfl rfl (by kernel_rfl) (fun _ _ _ h=>h) hHeld (Or.inl ⟨by kernel_rfl,?_⟩) (by dsimp only[List.set_cons_succ,List.set_cons_zero]) (by dsimp only[List.set_cons_succ,List.set_cons_zero]) ?_
        rotate_left
        ·(intro w hSw;obtain⟨v1,v2,v3,v4,v5,v6,v7⟩:=HWW.out;go_simp<;>with_reducible rfl)
        refine takeL (i:=10) (v:=?_) rfl rfl (by kernel_rfl) (fun _ _ _ h=>h) hHeld (Or.inl ⟨by kernel_rfl,?_⟩) (by dsimp only[List.set_cons_succ,List.set_cons_zero]) (by dsimp only[List.set_cons_succ,List.set_cons_zero]) ?_
        rotate_left
        ·(intro w hSw;go_simp<;>with_reducible rfl)
        refine takeL (i:=11) (v:=?_) rfl rfl (by kernel_rfl) (fun _ _ _ h=>h) hHeld (Or.inl ⟨by kernel_rfl,?_⟩) (by dsimp only[List.set_cons_succ,List.set_cons_zero]) (by dsimp only[List.set_cons_succ,List.set_cons_zero]) ?_
        rotate_left
        ·(intro w hSw;go_simp<;>with_reducible rfl)
        refine takeL (i:=12) (v:=?_) rfl rfl (by kernel_rfl) (fun _ _ _ h=>h) hHeld (Or.inl ⟨by kernel_rfl,?_⟩) (by dsimp only[List.set_cons_succ,List.set_cons_zero]) (by dsimp only[List.set_cons_succ,List.set_cons_zero]) ?_
        rotate_left
        ·(intro w hSw;go_simp<;>with_reducible rfl)
        refine takeL (i:=13) (v:=?_) rfl rfl (by kernel_rfl) (fun _ _ _ h=>h) hHeld (Or.inl ⟨by kernel_rfl,?_⟩) (by dsimp only[List.set_cons_succ,List.set_cons_zero]) (by dsimp only[List.set_cons_succ,List.set_cons_zero]) ?_
        rotate_left
        ·(intro w hSw;obtain⟨x1,x3,x4⟩:=HCI.out _ hSw;go_simp<;>with_reducible rfl)
        refine takeL (i:=14) (v:=?_) rfl rfl (by kernel_rfl) (fun _ _ _ h=>h) hHeld (Or.inl ⟨by kernel_rfl,?_⟩) (by dsimp only[List.set_cons_succ,List.set_cons_zero]) (by dsimp only[List.set_cons_succ,List.set_cons_zero]) ?_
        rotate_left
        ·(intro w hSw;obtain⟨v1,v2,v3,v4,v5,v6,v7⟩:=HWW.out;go_simp<;>with_reducible rfl)
        refine takeL (i:=15) (v:=?_) rfl rfl (by kernel_rfl) (fun _ _ _ h=>h) hHeld (Or.inl ⟨by kernel_rfl,?_⟩) (by dsimp only[List.set_cons_succ,List.set_cons_zero]) (by dsimp only[List.set_cons_succ,List.set_cons_zero]) ?_
        rotate_left
        ·(intro w hSw;go_simp<;>with_reducible rfl)
        refine takeL (i:=16) (v:=?_) rfl rfl (by kernel_rfl) (fun _ _ _ h=>h) hHeld (Or.inl ⟨by kernel_rfl,?_⟩) (by dsimp only[List.set_cons_succ,List.set_cons_zero]) (by dsimp only[List.set_cons_succ,List.set_cons_zero]) ?_
        rotate_left
        ·(intro w hSw;go_simp<;>with_reducible rfl)
        refine takeL (i:=17) (v:=?_) rfl rfl (by kernel_rfl) (fun _ _ _ h=>h) hHeld (Or.inl ⟨by kernel_rfl,?_⟩) (by dsimp only[List.set_cons_succ,List.set_cons_zero]) (by dsimp only[List.set_cons_succ,List.set_cons_zero]) ?_
        rotate_left
        ·(intro w hSw;go_simp<;>with_reducible rfl)
        refine takeL (i:=18) (v:=?_) rfl rfl (by kernel_rfl) (fun _ _ _ h=>h) hHeld (Or.inl ⟨by kernel_rfl,?_⟩) (by dsimp only[List.set_cons_succ,List.set_cons_zero]) (by dsimp only[List.set_cons_succ,List.set_cons_zero]) ?_
        rotate_left
        ·(intro w hSw;obtain⟨x1,x3,x4⟩:=HCI.out _ hSw;go_simp<;>with_reducible rfl)
        refine takeNL (i:=19) (v:=?_) rfl rfl (by kernel_rfl) (fun _ _ _ h=>h) (fun _=>hHeld) (Or.inl ⟨by kernel_rfl,?_⟩) (by dsimp only[List.set_cons_succ,List.set_cons_zero]) (by dsimp only[List.set_cons_succ,List.set_cons_zero]) ?_
        rotate_left
        ·(intro w hSw;obtain⟨v1,v2,v3,v4,v5,v6,v7⟩:=HWW.out;go_simp<;>with_reducible rfl)
        refine takeL (i:=20) (v:=?_) rfl rfl (by kernel_rfl) (fun _ _ _ h=>h) hHeld (Or.inl ⟨by kernel_rfl,?_⟩) (by dsimp only[List.set_cons_succ,List.set_cons_zero]) (by dsimp only[List.set_cons_succ,List.set_cons_zero]) ?_
        rotate_left
        ·(intro w hSw;go_simp<;>with_reducible rfl)
        refine takeL (i:=21) (v:=?_) rfl rfl (by kernel_rfl) (fun _ _ _ h=>h) hHeld (Or.inl ⟨by kernel_rfl,?_⟩) (by dsimp only[List.set_cons_succ,List.set_cons_zero]) (by dsimp only[List.set_cons_succ,List.set_cons_zero]) ?_
        rotate_left
        ·(intro w hSw;go_simp<;>with_reducible rfl)
        have HJ0:=Lib.hid (HJM.out.below hHeld)
        have st1:=storeW1 HJ0.out.st 4 (v:=.int .i64 (P3:Int)) (by simp) rfl
        have st2:=storeW1 (blk_set HJ0.out.st 4 (.int .i64 (P3:Int))) 3 (v:=.int .u64 T1) (by simp) rfl
        have HNT0:=Lib.hid (HNT.out _ hHeld)
        refine wpAnyX_ready (rs:=[22]) (by kernel_rfl) (by simp) (AllReadyX.one rfl (fun K hK=>?_))
        go_simp
        refine hK.out _ _ (noneUp_not (by kernel_rfl)) ?_
        clear hK K
        try simp only[Act.put,List.getElem_toArray,List.getElem_cons_zero,List.getElem_cons_succ,List.setIfInBounds_toArray,List.set_cons_zero,List.set_cons_succ]
        refine wpAnyX_free (by kernel_rfl) ?_
        refine takeL (i:=23) (v:=?_) rfl rfl (by kernel_rfl) (fun _ _ _ h=>h) trivial (Or.inl ⟨by kernel_rfl,?_⟩) (by dsimp only[List.set_cons_succ,List.set_cons_zero]) (by dsimp only[List.set_cons_succ,List.set_cons_zero]) ?_
        rotate_left
        ·(intro w hSw;go_simp<;>with_reducible rfl)
        refine takeL (i:=24) (v:=?_) rfl rfl (by kernel_rfl) (fun _ _ _ h=>h) trivial (Or.inl ⟨by kernel_rfl,?_⟩) (by dsimp only[List.set_cons_succ,List.set_cons_zero]) (by dsimp only[List.set_cons_succ,List.set_cons_zero]) ?_
        rotate_left
        ·(intro w hSw;go_simp<;>with_reducible rfl)
        refine wpAnyX_ready (rs:=[25]) (by kernel_rfl) (by simp) (AllReadyX.one rfl (fun K hK=>?_))
        go_simp
        refine hK.out _ _ (fun _=>trivial) ?_
        clear hK K
        try simp only[Act.put,List.getElem_toArray,List.getElem_cons_zero,List.getElem_cons_succ,List.setIfInBounds_toArray,List.set_cons_zero,List.set_cons_succ]
        refine wpAnyX_done (by kernel_rfl) ?_ _
        have HJN:=Lib.hid HNT0.out.1
        have HUN:=Lib.hid ((HU8.out.trans (hHeld.mono (T:=q.own) (by simp))).trans HNT0.out.2)
        have hupN:=HUP6.out.late HUN.out (fun i hi=> .inr (HQ.out.2.1 i hi))
        have HUPN:=Lib.hid hupN
        obtain⟨_,_,_,c3n,_⟩:=HJN.out.cells
        have HC3:=Lib.hid c3n
        obtain⟨_,_,_,c3o,_⟩:=HREL.out.jm.cells
        have HC3O:=Lib.hid c3o
        have HLT:Hid (D.late D.anc.ring (Jc.turn+1)<D.late D.anc.ring Jc.turn):=by
         show _<_
         have:=Jn.late_lt (J:=Jc) (D:=D) HOKE.out.place (by rw[← HL.out];exact HS0.out)
         rw[HLS.out.1] at this
         exact this
        have HYS:Hid (D.boot.stands D≠[]):=by
         show _≠_
         cases b with
         | true=>exact HREL.out.yes rfl
         | false=>rw[← HREL.out.no rfl,← HL.out];exact HS0.out
        have HSN:Hid (Scan D (Jc.note l) J):=by
         show Scan _ _ _
         rw[HL.out];exact HREL.out.scan.step_of (by rw[← HL.out];exact HS0.out)
        clear hHeld st1 st2 hupN c3n c3o
        go_wp2_with fail
        exact⟨⟨Jc.note l,true,rfl,⟨HJN.out,HSN.out,by simp,fun _=>HYS.out,HUPN.out⟩⟩,by rw[HC3.out,HC3O.out];exact HLT.out⟩
end
end Go.Proofs.YtplppdbdfhkljaaGreat
end
