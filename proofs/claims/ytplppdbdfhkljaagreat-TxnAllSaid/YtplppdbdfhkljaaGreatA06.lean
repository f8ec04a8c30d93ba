/-
  Journal.stands: which commit stands at the next place.
-/
import Derived.Test.YtplppdbdfhkljaaGreatA05
set_option maxRecDepth 100000
set_option maxHeartbeats 16000000
section
namespace Go.Proofs.YtplppdbdfhkljaaGreat
open Go.RowKit
theorem JnAt.heap{w w':World}{F:Nat→Prop}{j:JG}{J:Jn}{D:Dk}(h:JnAt w F j J D)(e:w'.heap=w.heap):JnAt w' F j J D:=
 h.world (by rw[e]) (by rw[e]) (by rw[e]) (by rw[e]) (by rw[e]) (fun _ _ _ _=>by rw[e])
theorem DiskAt.heap{w w':World}{F:Nat→Prop}{g:DG}{D:Dk}(h:DiskAt w F g D)(e:w'.heap=w.heap):DiskAt w' F g D:=
 h.world (by rw[e]) (by rw[e]) (by rw[e]) (fun _ _ _ _=>by rw[e])
theorem Dk.now_len{D:Dk}(h:D.Ok)(i:Nat):(D.now i).length=512:=by
 unfold Dk.now
 cases hq:D.wait i with
 | none=>exact h.last _
 | some s=>exact(h.wait _ s hq).2
theorem of_specI(ia:Int)(v:Value)(b:List UInt8)(a n:Nat)(hia:ia=(a:Int))(w:World)(hr:Rd w v b)(h1:1≤n)(h8:n≤8)(hl:a+n≤b.length)(hb:b.length≤1000000) :
  Calls Tryz.prog 129 #[v,.int .i64 ia,.int .i64 (n:Int)] w fun e w'=>e=.returned (.int .u64 (numI b a n))∧w=w':=by
 subst hia;exact of_spec v b a n w hr h1 h8 hl hb
def Jn.hd(J:Jn)(D:Dk):Sec:=D.now (J.at J.place)
def Jn.bd(J:Jn)(D:Dk)(k:Nat):Sec:=D.now (J.at (J.place+1+k))
def Jn.stPut(J:Jn)(D:Dk)(k:Nat):Put:=(numI (J.hd D) (16+12*k) 4,over (J.bd D k) 0 (((J.hd D).drop (20+12*k)).take 8))
def Jn.stN(J:Jn)(D:Dk):Nat:=num (J.hd D) 8 2
def Jn.stL(J:Jn)(D:Dk)(k:Nat):List Put:=(List.range k).map (J.stPut D)
def Jn.stGood(J:Jn)(D:Dk)(k:Nat):Prop:=numI (J.bd D k) 0 8=2*J.turn∧numI (J.hd D) (16+12*k) 4<(J.homes D.n:Int)∧numI (J.hd D) (16+12*k) 4∉seenK (J.stL D (J.stN D)) k
instance (J:Jn) (D:Dk) (k:Nat):Decidable (J.stGood D k):=inferInstanceAs (Decidable (_∧_∧_))
def Jn.stHead(J:Jn)(D:Dk):Prop:=tagOf (J.hd D)=2*J.turn+1∧1≤J.stN D∧J.stN D≤40∧J.stN D<J.last.ring
instance (J:Jn) (D:Dk):Decidable (J.stHead D):=inferInstanceAs (Decidable (_∧_∧_∧_))
def Jn.stands(J:Jn)(D:Dk):List Put:=if J.stHead D∧∀k,k<J.stN D→J.stGood D k then J.stL D (J.stN D) else []
theorem Jn.stL_length(J:Jn)(D:Dk)(k:Nat):(J.stL D k).length=k:=by simp[Jn.stL]
theorem Jn.stL_get(J:Jn)(D:Dk){n k:Nat}(h:k<(J.stL D n).length):(J.stL D n)[k]=J.stPut D k:=by simp[Jn.stL]
theorem Jn.stL_take(J:Jn)(D:Dk){n k:Nat}(h:k≤n):(J.stL D n).take k=J.stL D k:=by
 unfold Jn.stL;rw[← List.map_take,List.take_range,Nat.min_eq_left h]
theorem Jn.stL_succ(J:Jn)(D:Dk)(k:Nat):J.stL D (k+1)=J.stL D k ++ [J.stPut D k]:=by
 unfold Jn.stL;rw[List.range_succ,List.map_append];rfl
theorem Jn.stands_no{J:Jn}{D:Dk}(h:¬J.stHead D):J.stands D=[]:=by unfold Jn.stands;rw[if_neg (fun q=>h q.1)]
theorem Jn.stands_bad{J:Jn}{D:Dk}{k:Nat}(hk:k<J.stN D)(h:¬J.stGood D k):J.stands D=[]:=by unfold Jn.stands;rw[if_neg (fun q=>h (q.2 k hk))]
theorem Jn.stands_yes{J:Jn}{D:Dk}(h:J.stHead D)(hg:∀k,k<J.stN D→J.stGood D k):J.stands D=J.stL D (J.stN D):=by unfold Jn.stands;rw[if_pos ⟨h,hg⟩]
def StandsPost(w:World)(J:Jn)(D:Dk)(e:Ending)(w':World):Prop:=
 ∃a n c,e=.returned (.tuple #[.slice a n c,.int .i64 0])∧PutsOwn w' (fun x=>w.heap.size≤x) (.slice a n c) (J.stands D)∧Upd [] w w'
theorem PutsOwn.nil(w:World)(F:Nat→Prop):PutsOwn w F (.slice none 0 0) []:=⟨[],⟨by simp,.inl ⟨rfl,rfl⟩⟩,rfl,by simp⟩
def StRel(w:World)(hb:Nat)(sb:Nat)(J:Jn)(D:Dk)(n k:Nat)(m:Value)(wr:World):Prop:=
 FitsRel w sb (J.stL D n) k wr∧PutsOwnB wr w.heap.size (fun x=>w.heap.size≤x) m (J.stL D k)∧wr.heap[hb]?=some (.cells (bts (J.hd D)).toArray 5 (0,0))∧∀i,i<k→J.stGood D i
theorem JnAt.cell0{w:World}{F:Nat→Prop}{j:JG}{J:Jn}{D:Dk}(h:JnAt w F j J D):w.cell? ⟨j.jb,0,none⟩=some (.pointer (some ⟨j.d.db,0,none⟩)):=by rw[blk_cell h.st];simp
theorem FitsRel.keep{w W W':World}{sb:Nat}{l:List Put}{k:Nat}(h:FitsRel w sb l k W)(hm:W'.heap[sb]?=W.heap[sb]?)(hu:Upd [] w W'):FitsRel w sb l k W':=by
 obtain⟨f,hf,hf1,_,hs⟩:=h
 exact⟨f,hf.world hm,hf1,hu,hs⟩
theorem FitsRel.upd{w W:World}{sb:Nat}{l:List Put}{k:Nat}(h:FitsRel w sb l k W):Upd [] w W:=by
 obtain⟨_,_,_,hu,_⟩:=h
 exact hu
theorem FitsRel.map{w W:World}{sb:Nat}{l:List Put}{k:Nat}(h:FitsRel w sb l k W):sb<W.heap.size∧∀(c:Array Value) (t:TypeId) (f:Nat × Nat),W.heap[sb]?≠some (.cells c t f):=by
 obtain⟨_,hf,_,_,_⟩:=h
 exact⟨hf.lt,fun c t f e=>hf.not_cells e rfl⟩
theorem Rd.drop{w:World}{b off n cap:Nat}{l:List UInt8}(h:Rd w (.slice (some ⟨b,off,none⟩) n cap) l)(a:Nat):Rd w (.slice (some ⟨b,off+a,none⟩) (n-a) (cap-a)) (l.drop a):=by
 obtain⟨ao,cp,e,hc,hh⟩:=h
 simp only[Value.slice.injEq] at e
 obtain⟨rfl,rfl,rfl⟩:=e
 refine⟨_,_,by rw[List.length_drop],by rw[List.length_drop];omega,fun hp=>⟨b,off+a,rfl,fun i hi=>?_⟩⟩
 rw[List.length_drop] at hi hp
 obtain⟨b',off',e,hcell⟩:=hh (by omega)
 simp only[Option.some.injEq,Addr.mk.injEq,and_true] at e
 obtain⟨rfl,rfl⟩:=e
 rw[List.getElem_drop,Nat.add_assoc]
 exact hcell (a+i) (by omega)
theorem st_copy{W:World}{hb g k:Nat}{h b:Sec}(hh:Rd W (.slice (some ⟨hb,0,none⟩) 512 512) h)(hg:W.heap[g]?=some (.cells (bts b).toArray 5 (0,0)))(hbl:b.length=512)(hk:k<40) :
  ∃W9,(∀ty,(Builtin.copy_ #[34,34] ty #[.slice (some ⟨g,0,none⟩) 8 512,.slice (some ⟨hb,16+12*k+4,none⟩) (508-(16+12*k)) (508-(16+12*k))]).run Tryz.prog W=.ok (goInt ((min (h.drop (20+12*k)).length 8:Nat):Int)) W9)∧
   W9.heap[g]?=some (.cells (bts (over b 0 ((h.drop (20+12*k)).take 8))).toArray 5 (0,0))∧Upd [g] W W9:=by
 have hr:=hh.drop (20+12*k)
 have e1:0+(20+12*k)=16+12*k+4:=by omega
 have e2:512-(20+12*k)=508-(16+12*k):=by omega
 rw[e1,e2] at hr
 have hrun:=fun ty=>run_copy_rd (P:=Tryz.prog) (dT:=34) (sT:=34) (ty:=ty) (u8:=5) Tryz.underlying34 sizeU8 g 0 8 512 (bts b) hg (by rw[bts_length,hbl];omega) hr
 refine⟨_,hrun,?_,?_⟩
 ·rw[setRow_heap _ _ _ _ _ _ hg]
  congr 2
  unfold over splice
  simp[bts,List.map_drop,List.map_take]
 ·exact⟨rfl,rfl,rfl,by simp,fun q _ hq=>by rw[setRow_other _ _ _ _ (by simpa using hq)]⟩
set_option maxRecDepth 100000 in
set_option maxHeartbeats 4000000 in
theorem stands_spec{w:World}{F:Nat→Prop}{j:JG}{J:Jn}{D:Dk}(h:JnAt w F j J D)(hoff:D.off=false) :
  Calls Tryz.prog 85 #[.pointer (some ⟨j.jb,0,none⟩)] w (StandsPost w J D):=by
 have H:=Lib.hid h
 have k0:=h.cell0
 have k8:=h.cell8
 have hr0:=h.ok.ring0
 have hr1:=h.ok.ring1
 have hpl:=h.ok.place
 have hfit:=h.ok.fits
 have ht0:=h.ok.turn0
 have ht1:=h.ok.turn1
 have hatn:∀p,J.at p<D.n:=fun p=>by
  unfold Jn.at
  have:p % J.last.ring<J.last.ring:=Nat.mod_lt _ (by omega)
  omega
 have HATN:=Lib.hid hatn
 have HD:=fun W (hW:W.heap=w.heap)=>Lib.hid (read_ok (w:=W) (h.disk.heap hW) (J.at J.place) hoff (hatn _))
 have HA:=fun W (hW:W.heap=w.heap)=>Lib.hid (atP_spec (w:=W) (h.heap hW) J.place (by omega))
 have hlen:(J.hd D).length=512:=Dk.now_len h.disk.ok _
 have HLEN:=Lib.hid hlen
 have hltj:=h.lt.1
 have HOFF:=Lib.hid hoff
 have HT1:=Lib.hid ht1
 clear h hoff hatn hlen ht1
 go_enter Tryz.func85,Tryz.ntmps85
 go_wp2_with fail
 go_region_held3 (fun w'=>w'.cell? ⟨j.jb,0,none⟩=some (.pointer (some ⟨j.d.db,0,none⟩))∧w'.cell? ⟨j.jb,8,none⟩=some (.int .i64 (J.place:Int))) (go_keep)
  (first
   | (go_at_call 103;(with_reducible refine(HA _ ?_).out.mono ?_);rfl;rintro e w' ⟨rfl,rfl⟩)
   | (go_at_call 83;(with_reducible refine(HD _ ?_).out.mono ?_);rfl;rintro e w' ⟨rfl,rfl⟩))
 have hJ1:JnAt (w.alloc (.cells (bts (D.now (J.at J.place))).toArray 5)).drew F j J D:=H.out.below ((Upd.refl _ _).alloc _).drew
 have hb1:(w.alloc (.cells (bts (D.now (J.at J.place))).toArray 5)).drew.heap[w.heap.size]?=some (.cells (bts (J.hd D)).toArray 5 (0,0)):=blk_alloc _
 have hu1:Upd [] w (w.alloc (.cells (bts (D.now (J.at J.place))).toArray 5)).drew:=((Upd.refl _ _).alloc _).drew
 generalize (w.alloc (.cells (bts (D.now (J.at J.place))).toArray 5)).drew=W1 at hJ1 hb1 hu1 ⊢
 have hrd1:Rd W1 (.slice (some ⟨w.heap.size,0,none⟩) 512 512) (J.hd D):=rd_of_block hb1 HLEN.out
 have k7:=hJ1.cell7
 have k6:=hJ1.cell6
 have hw1:IntKind.u64.wrap (2*J.turn)=2*J.turn:=u64_wrap_in _ (by omega) (by have:=HT1.out;omega)
 have hw2:IntKind.u64.wrap (2*J.turn+1)=2*J.turn+1:=u64_wrap_in _ (by omega) (by have:=HT1.out;omega)
 have HO8:=Lib.hid (of_spec (.slice (some ⟨w.heap.size,0,none⟩) 512 512) (J.hd D) 8 2 W1 hrd1 (by omega) (by omega) (by rw[HLEN.out];omega) (by rw[HLEN.out];omega))
 have HTG:=fun W (hW:W.heap=W1.heap)=>Lib.hid (tag_spec (.slice (some ⟨w.heap.size,0,none⟩) 512 512) (J.hd D) W (hrd1.of_block fun _ _ _ _=>by rw[hW]) HLEN.out)
 have HN:Hid (((J.stN D:Nat):Int)=numI (J.hd D) 8 2):=rfl
 have hN0:=numI_nonneg (J.hd D) 8 2
 have hN1:=numI_2 (J.hd D) 8
 have HHD:Hid (J.stHead D↔(tagOf (J.hd D)=2*J.turn+1∧1≤numI (J.hd D) 8 2∧numI (J.hd D) 8 2≤40∧numI (J.hd D) 8 2<(J.last.ring:Int))):=by
  show _↔_
  rw[← HN.out]
  unfold Jn.stHead
  constructor<;>(rintro⟨a,b,c,d⟩;exact⟨a,by omega,by omega,by omega⟩)
 generalize numI (J.hd D) 8 2=N at HO8 HN hN0 hN1 HHD
 generalize tagOf (J.hd D)=T at HTG HHD
 have HJ1:=Lib.hid hJ1
 have HB1:=Lib.hid hb1
 have HU1:=Lib.hid hu1
 have HRD1:=Lib.hid hrd1
 clear hJ1 hb1 hu1 hrd1 HD HA k0 k8
 go_wp2_with fail
 refine HO8.out.mono ?_
 rintro e w' ⟨rfl,rfl⟩
 go_wp2_with fail
 have hno:∀nq,¬J.stHead D→StandsPost w J D (.returned (.tuple #[.slice none 0 0,.int .i64 0])) (W1.drewN nq):=fun nq hn=>⟨none,0,0,rfl,by rw[Jn.stands_no hn];exact PutsOwn.nil _ _,HU1.out.drewN _⟩
 have HNO:=Lib.hid hno
 clear hno
 by_cases hT:T=2*J.turn+1
 case neg=>
  have d1:(T != 2*J.turn+1)=true:=by simpa using hT
  have HX:Hid (¬J.stHead D):=Lib.hid (fun q=>hT (HHD.out.1 q).1)
  clear hT
  go_quiet ((go_at_call 128;exact Calls.quiet_of_same ((HTG _ (by rfl)).out.mono fun _ _ ⟨a,b⟩=>⟨a,b.symm⟩)))
  go_wp2
  go_ret2
  exact HNO.out _ HX.out
 case pos=>
 have d1:(T != 2*J.turn+1)=false:=by simpa using hT
 have HTT:=Lib.hid hT
 clear hT
 by_cases hN:N<1
 case pos=>
  have d2:decide (N<1)=true:=by simpa using hN
  have HX:Hid (¬J.stHead D):=Lib.hid (fun q=>by have:=(HHD.out.1 q).2.1;omega)
  go_quiet ((go_at_call 128;exact Calls.quiet_of_same ((HTG _ (by rfl)).out.mono fun _ _ ⟨a,b⟩=>⟨a,b.symm⟩)))
  go_wp2
  go_ret2
  exact HNO.out _ HX.out
 case neg=>
 have d2:decide (N<1)=false:=by simpa using hN
 by_cases hM:40<N
 case pos=>
  have d3:decide (40<N)=true:=by simpa using hM
  have HX:Hid (¬J.stHead D):=Lib.hid (fun q=>by have:=(HHD.out.1 q).2.2.1;omega)
  go_quiet ((go_at_call 128;exact Calls.quiet_of_same ((HTG _ (by rfl)).out.mono fun _ _ ⟨a,b⟩=>⟨a,b.symm⟩)))
  go_wp2
  go_ret2
  exact HNO.out _ HX.out
 case neg=>
 have d3:decide (40<N)=false:=by simpa using hM
 by_cases hR:(J.last.ring:Int)≤N
 case pos=>
  have d4:decide ((J.last.ring:Int)≤N)=true:=by simpa using hR
  have HX:Hid (¬J.stHead D):=Lib.hid (fun q=>by have:=(HHD.out.1 q).2.2.2;omega)
  go_quiet ((go_at_call 128;exact Calls.quiet_of_same ((HTG _ (by rfl)).out.mono fun _ _ ⟨a,b⟩=>⟨a,b.symm⟩)))
  go_wp2
  go_ret2
  exact HNO.out _ HX.out
 case neg=>
 have d4:decide ((J.last.ring:Int)≤N)=false:=by simpa using hR
 have HHE:Hid (J.stHead D):=Lib.hid (HHD.out.2 ⟨HTT.out,by omega,by omega,by omega⟩)
 go_quiet ((go_at_call 128;exact Calls.quiet_of_same ((HTG _ (by rfl)).out.mono fun _ _ ⟨a,b⟩=>⟨a,b.symm⟩)))
 have hmm:=@run_makeMap Tryz.prog
 go_wp2_with fail
 clear d1 d2 d3 d4 HHD HTG HNO k6 k7
 obtain⟨n,rfl⟩:=Int.eq_ofNat_of_zero_le hN0
 go_loopw [61,7] (fun i m wr=>∃k:Nat,k≤n∧i=.int .i64 (k:Int)∧StRel w w.heap.size W1.heap.size J D n k m wr) (fun i _ _=>n-(intOf i).toNat)
 case atStart=>
  refine⟨0,Nat.zero_le _,rfl,⟨_,MapI.made (c:=0) (blk_alloc (w:=W1.drewN nq) _),by simp[seenK_zero],(HU1.out.drewN _).alloc _,HU1.out.size⟩,⟨[],⟨by simp,.inl ⟨rfl,rfl⟩⟩,by simp[Jn.stL],by simp⟩,?_,by simp⟩
  rw[blk_alloc_ne (blk_lt (show(W1.drewN nq).heap[w.heap.size]?=_ from HB1.out))]
  exact HB1.out
 case round=>
  obtain⟨k,hk,rfl,hfr,hmr,hhr,hgr⟩:=hrel
  by_cases hlt:k<n
  ·have hur:=hfr.upd
   have hJr:=H.out.below hur
   have k0:=hJr.cell0
   have k8:=hJr.cell8
   have hltr:=hJr.lt.1
   have HD2:=fun W (hW:W.heap=wr.heap)=>Lib.hid (read_ok (w:=W) (hJr.disk.heap hW) (J.at (J.place+1+k)) HOFF.out (HATN.out _))
   have HA2:=fun W (hW:W.heap=wr.heap)=>Lib.hid (atP_specI (w:=W) (hJr.heap hW) ((J.place:Int)+1+(k:Int)) (J.place+1+k) (by omega) (by omega))
   have hbl:(J.bd D k).length=512:=Dk.now_len H.out.disk.ok _
   have HBL:=Lib.hid hbl
   have hln:k<(J.stL D n).length:=by rw[Jn.stL_length];exact hlt
   have HLN:=Lib.hid hln
   have HLK:Hid (∀hh:k<(J.stL D n).length,(J.stL D n)[k].1=numI (J.hd D) (16+12*k) 4):=by show ∀hh:k<(J.stL D n).length,_=_;intro hh;rw[Jn.stL_get];rfl
   have HFR:=Lib.hid hfr
   have HMR:=Lib.hid hmr
   have HHR:=Lib.hid hhr
   have HGR:=Lib.hid hgr
   have HJR:=Lib.hid hJr
   have HUR:=Lib.hid hur
   have hw3:IntKind.i64.wrap ((J.place:Int)+1)=(J.place:Int)+1:=IntWalk.i64_in _ (by omega)
   have hw4:IntKind.i64.wrap ((J.place:Int)+1+(k:Int))=(J.place:Int)+1+(k:Int):=IntWalk.i64_in _ (by omega)
   have hzr:w.heap.size<wr.heap.size:=blk_lt hhr
   clear hfr hmr hhr hgr hJr hur hbl hln
   go_wp2_with fail
   go_region_held3 (fun w'=>w'.cell? ⟨j.jb,0,none⟩=some (.pointer (some ⟨j.d.db,0,none⟩))∧w'.cell? ⟨j.jb,8,none⟩=some (.int .i64 (J.place:Int))) (go_keep)
    (first
     | (go_at_call 103;(with_reducible refine(HA2 _ ?_).out.mono ?_);rfl;rintro e w' ⟨rfl,rfl⟩)
     | (go_at_call 83;(with_reducible refine(HD2 _ ?_).out.mono ?_);rfl;rintro e w' ⟨rfl,rfl⟩))
   clear hw3 hw4 HD2 HA2 k0 k8
   have hu2:Upd [] wr (wr.alloc (.cells (bts (D.now (J.at (J.place+1+k)))).toArray 5)).drew:=((Upd.refl _ _).alloc _).drew
   have hb2:(wr.alloc (.cells (bts (D.now (J.at (J.place+1+k)))).toArray 5)).drew.heap[wr.heap.size]?=some (.cells (bts (J.bd D k)).toArray 5 (0,0)):=blk_alloc _
   generalize (wr.alloc (.cells (bts (D.now (J.at (J.place+1+k)))).toArray 5)).drew=W2 at hu2 hb2 ⊢
   have hh2:W2.heap[w.heap.size]?=_:=(hu2.block _ hzr (by simp)).trans HHR.out
   have hrh:Rd W2 (.slice (some ⟨w.heap.size,0,none⟩) 512 512) (J.hd D):=rd_of_block hh2 HLEN.out
   have hrb:Rd W2 (.slice (some ⟨wr.heap.size,0,none⟩) 512 512) (J.bd D k):=rd_of_block hb2 HBL.out
   have hJ2:=HJR.out.below hu2
   have k7:=hJ2.cell7
   have HOH:=Lib.hid (of_specI (16+12*(k:Int)) (.slice (some ⟨w.heap.size,0,none⟩) 512 512) (J.hd D) (16+12*k) 4 (by omega) W2 hrh (by omega) (by omega) (by rw[HLEN.out];omega) (by rw[HLEN.out];omega))
   have HOB:=fun W (hW:W.heap=W2.heap)=>Lib.hid (of_spec (.slice (some ⟨wr.heap.size,0,none⟩) 512 512) (J.bd D k) 0 8 W (hrb.of_block fun _ _ _ _=>by rw[hW]) (by omega) (by omega) (by rw[HBL.out];omega) (by rw[HBL.out];omega))
   have HHM:=fun W (hW:W.heap=W2.heap)=>Lib.hid (homes_spec (hJ2.heap (w':=W) hW))
   have hI0:=numI_nonneg (J.hd D) (16+12*k) 4
   have hI1:=numI_4 (J.hd D) (16+12*k)
   have hlk:=HFR.out.look hu2 (numI (J.hd D) (16+12*k) 4)
   have HPUT:Hid (J.stPut D k=(numI (J.hd D) (16+12*k) 4,over (J.bd D k) 0 (((J.hd D).drop (20+12*k)).take 8))):=rfl
   have HGD:Hid (J.stGood D k↔(numI (J.bd D k) 0 8=2*J.turn∧numI (J.hd D) (16+12*k) 4<(J.homes D.n:Int)∧numI (J.hd D) (16+12*k) 4∉seenK (J.stL D n) k)):=by
    show _↔_
    have e:J.stN D=n:=by have:=HN.out;omega
    unfold Jn.stGood
    rw[e]
   generalize numI (J.hd D) (16+12*k) 4=I at HOH hI0 hI1 hlk HPUT HGD HLK
   generalize numI (J.bd D k) 0 8=V at HOB HGD
   have HB2:=Lib.hid hb2
   have HU2:=Lib.hid hu2
   have HH2:=Lib.hid hh2
   have hz2:wr.heap.size≤W2.heap.size:=hu2.size
   clear hu2 hb2 hh2 hrh hrb hJ2
   go_wp2_with fail
   refine HOH.out.mono ?_
   rintro e w' ⟨rfl,rfl⟩
   go_wp2_with fail
   have hno:∀nq,¬J.stGood D k→StandsPost w J D (.returned (.tuple #[.slice none 0 0,.int .i64 0])) (W2.drewN nq):=fun nq hn=>⟨none,0,0,rfl,by rw[Jn.stands_bad (by have:=HN.out;omega) hn];exact PutsOwn.nil _ _,(HUR.out.trans HU2.out).drewN _⟩
   have HNO:=Lib.hid hno
   clear hno
   by_cases hV:V=2*J.turn
   case neg=>
    have d1:(V != 2*J.turn)=true:=by simpa using hV
    have HX:Hid (¬J.stGood D k):=Lib.hid (fun q=>hV (HGD.out.1 q).1)
    clear hV hlk
    go_quiet ((go_at_call 129;exact Calls.quiet_of_same ((HOB _ (by rfl)).out.mono fun _ _ ⟨a,b⟩=>⟨a,b.symm⟩)))
    go_wp2
    go_ret2
    exact HNO.out _ HX.out
   case pos=>
   have d1:(V != 2*J.turn)=false:=by simpa using hV
   have HVV:=Lib.hid hV
   clear hV
   by_cases hI:(J.homes D.n:Int)≤I
   case pos=>
    have d2:decide ((J.homes D.n:Int)≤I)=true:=by simpa using hI
    have HX:Hid (¬J.stGood D k):=Lib.hid (fun q=>by have:=(HGD.out.1 q).2.1;omega)
    clear hlk
    go_quiet ((first | (go_at_call 129;exact Calls.quiet_of_same ((HOB _ (by rfl)).out.mono fun _ _ ⟨a,b⟩=>⟨a,b.symm⟩)) | (go_at_call 108;exact Calls.quiet_of (HHM _ (by rfl)).out)))
    go_wp2
    go_ret2
    exact HNO.out _ HX.out
   case neg=>
   have d2:decide ((J.homes D.n:Int)≤I)=false:=by simpa using hI
   by_cases hS:I∈seenK (J.stL D n) k
   case pos=>
    rw[if_pos hS] at hlk
    have HX:Hid (¬J.stGood D k):=Lib.hid (fun q=>(HGD.out.1 q).2.2 hS)
    clear hS
    go_quiet ((first | (go_at_call 129;exact Calls.quiet_of_same ((HOB _ (by rfl)).out.mono fun _ _ ⟨a,b⟩=>⟨a,b.symm⟩)) | (go_at_call 108;exact Calls.quiet_of (HHM _ (by rfl)).out)))
    go_wp2
    go_ret2
    exact HNO.out _ HX.out
   case neg=>
   rw[if_neg hS] at hlk
   have HGK:Hid (J.stGood D k):=Lib.hid (HGD.out.2 ⟨HVV.out,by omega,hS⟩)
   clear hS
   go_quiet ((first | (go_at_call 129;exact Calls.quiet_of_same ((HOB _ (by rfl)).out.mono fun _ _ ⟨a,b⟩=>⟨a,b.symm⟩)) | (go_at_call 108;exact Calls.quiet_of (HHM _ (by rfl)).out)))
   obtain⟨o,hup,hrel2⟩:=HFR.out.step HLN.out (HU2.out.drewN nq)
   rw[HLK.out HLN.out] at hup
   have HR2:=Lib.hid hrel2
   clear hrel2
   have hsb:W1.heap.size<wr.heap.size:=HFR.out.map.1
   have hnb:w.heap.size≠W1.heap.size:=fun e=>HFR.out.map.2 _ _ _ (by rw[← e];exact HHR.out)
   go_wp2_with fail
   have hu3:Upd [W1.heap.size] W2 (ChangeMaps.setBlock (W2.drewN nq) W1.heap.size o):=((Upd.refl _ _).drewN nq).setBlock _ (.inl (by simp))
   generalize ChangeMaps.setBlock (W2.drewN nq) W1.heap.size o=W3 at HR2 hu3 ⊢
   have hb3:W3.drew.heap[wr.heap.size]?=_:=(hu3.block _ (blk_lt HB2.out) (by simp;omega)).trans HB2.out
   have hh3:W3.drew.heap[w.heap.size]?=_:=(hu3.block _ (blk_lt HH2.out) (by simpa using hnb)).trans HH2.out
   obtain⟨W9,hcp,h9,hu9⟩:=st_copy (W:=W3.drew) (hb:=w.heap.size) (g:=wr.heap.size) (k:=k) (rd_of_block hh3 HLEN.out) hb3 HBL.out (by omega)
   have hU9:Upd [W1.heap.size] wr W9:=((HU2.out.mono (by simp)).trans hu3).drew.late hu9 (fun i hi=> .inr (by simp at hi;omega))
   have hM9:=HMR.out.upd hU9 (fun q c hq e=>by simp at hq;subst hq;exact HFR.out.map.2 _ _ _ e) (fun q c hq _ e=>by simp at hq;subst hq;exact HFR.out.map.2 _ _ _ e)
   have hF9:FitsRel w W1.heap.size (J.stL D n) (k+1) W9:=HR2.out.keep (hu9.block _ HR2.out.map.1 (by simp;omega)) (HR2.out.upd.drew.late hu9 (fun i hi=> .inr (by simp at hi;omega)))
   have hh9:W9.heap[w.heap.size]?=_:=(hu9.block _ (blk_lt hh3) (by simp;omega)).trans hh3
   have hol:(over (J.bd D k) 0 (((J.hd D).drop (20+12*k)).take 8)).length=512:=by
    rw[over_length]
    ·exact HBL.out
    ·rw[HBL.out,List.length_take];omega
   have hap:∃v' w',(∀ty,(Builtin.append_ #[103,103] ty #[u7,.slice (some ⟨W9.heap.size,0,none⟩) 1 1]).run Tryz.prog (W9.alloc (.cells #[.int .i64 I,.slice (some ⟨wr.heap.size,0,none⟩) 512 512] 110))=.ok v' w')∧StRel w w.heap.size W1.heap.size J D n (k+1) v' w'∧∃a b c,v'=.slice a b c:=by
    have hz9:wr.heap.size≤W9.heap.size:=hU9.size
    obtain⟨v',w',hrun,hm',hk',hl',hg'⟩:=(PutsOwnB.keep (w':=W9.alloc (.cells #[.int .i64 I,.slice (some ⟨wr.heap.size,0,none⟩) 512 512] 110)) hM9 (fun q c hq=>blk_alloc_ne (blk_lt hq)) (fun q c _ hq=>blk_alloc_ne (blk_lt hq))).append (by rw[Jn.stL_length];omega) (by simp;omega) W9.heap.size I (.slice (some ⟨wr.heap.size,0,none⟩) 512 512) (over (J.bd D k) 0 (((J.hd D).drop (20+12*k)).take 8)) (blk_alloc _)
     ⟨wr.heap.size,[],by omega,by rw[hol];rfl,by rw[blk_alloc_ne (blk_lt h9),h9];simp⟩ rfl
    have hsz:W1.heap.size<W9.heap.size:=by omega
    have em:w'.heap[W1.heap.size]?=W9.heap[W1.heap.size]?:=by
     rw[hk' _ (by simp;omega) (fun c e=>by rw[blk_alloc_ne hsz] at e;exact hF9.map.2 _ _ _ e),blk_alloc_ne hsz]
    have hU:Upd [] w w':=(hF9.upd.alloc _).low (fun q hq=>hl' q hq (by simp;omega)) ⟨hg'.size,hg'.os,hg'.tape,hg'.output⟩
    refine⟨v',w',hrun,⟨hF9.keep em hU,?_,?_,?_⟩,hm'.shape3⟩
    ·rw[Jn.stL_succ,HPUT.out];exact hm'
    ·rw[hk' _ (by simp;omega) (fun c e=>by rw[blk_alloc_ne (blk_lt hh9),hh9] at e;simp at e),blk_alloc_ne (blk_lt hh9),hh9]
    ·intro i hi
     by_cases e:i=k
     ·subst e;exact HGK.out
     ·exact HGR.out i (by omega)
   have HAP:=Lib.hid hap
   clear hap h9 hu9 hU9 hM9 hF9 hh9 hol hb3 hh3 hu3
   go_region
   clear hcp
   obtain⟨v',w',hrun,hrel',a',b',c',hv'⟩:=HAP.out
   subst hv'
   have HREL:=Lib.hid hrel'
   clear hrel'
   go_wp2_with (at_builtin;refine wpList_append_run rfl _ _ _ rfl rfl rfl hrun ?_)
   go_roundw
   case rel=>exact⟨k+1,by omega,by go_num,HREL.out⟩
   case measure=>simp[intOf];omega
  ·obtain rfl:k=n:=by omega
   obtain⟨ao,cp,hv⟩:=hmr.own.at.shape
   subst hv
   have HUR:=Lib.hid hfr.upd
   have HNN:Hid (J.stN D=k):=by show _=_;have:=HN.out;omega
   have HST:Hid (J.stands D=J.stL D k):=by
    show _=_
    rw[Jn.stands_yes HHE.out (fun i hi=>hgr i (by rw[← HNN.out];exact hi)),HNN.out]
   have HMR:=Lib.hid hmr
   clear hfr hmr hhr hgr
   go_wp2
   go_ret2
   exact⟨_,_,_,rfl,by rw[HST.out];exact HMR.out.own,HUR.out⟩
end Go.Proofs.YtplppdbdfhkljaaGreat
namespace Go.Proofs.YtplppdbdfhkljaaGreat
open Go.RowKit
def Dk.ancStep(D:Dk)(b:Anc)(i:Nat):Anc:=if(ancOf (D.now i)).okB D.n=true∧b.number<(ancOf (D.now i)).number then ancOf (D.now i) else b
def Dk.ancK(D:Dk):Nat→Anc
 | 0=>⟨0,0,0,0⟩
 | k+1=>D.ancStep (D.ancK k) k
def Dk.anc(D:Dk):Anc:=D.ancK 2
def Dk.boot(D:Dk):Jn:={ lives:=D.lives,done:=false,last:=D.anc,turn:=D.anc.turn,place:=D.anc.place,used:=0,away:=fun _=>none }
inductive Scan (D:Dk):Jn→Jn→Prop
 | stop {J:Jn}:J.stands D=[]→Scan D J J
 | step {J J':Jn}:J.stands D≠[]→Scan D (J.note (J.stands D)) J'→Scan D J J'
inductive OpenR (D:Dk):Dk→Option Jn→Int→Prop
 | off:D.off=true→OpenR D D none 8
 | none:D.off=false→D.anc.number=0→OpenR D D none 5
 | keep:D.off=false→D.anc.number≠0→D.boot.stands D=[]→OpenR D D (some D.boot) 0
 | full {J:Jn}:D.off=false→D.anc.number≠0→D.boot.stands D≠[]→Scan D D.boot J→(4611686018427387904≤J.last.number∨4611686018427387904≤J.turn)→OpenR D D none 7
 | fail {J:Jn}:D.off=false→D.anc.number≠0→D.boot.stands D≠[]→Scan D D.boot J→J.last.number<4611686018427387904→J.turn<4611686018427387904→(J.settleD D).2≠0→OpenR D (J.settleD D).1 none (J.settleD D).2
 | ok {J:Jn}:D.off=false→D.anc.number≠0→D.boot.stands D≠[]→Scan D D.boot J→J.last.number<4611686018427387904→J.turn<4611686018427387904→(J.settleD D).2=0→OpenR D (J.settleD D).1 (some J.settled) 0
def OpenedAt(n0:Nat)(F:Nat→Prop)(g:DG)(D':Dk)(err:Int)(e:Ending)(w':World):Option Jn→Prop
 | none=>e=.returned (.tuple #[.pointer none,.int .i64 err])∧DiskAt w' F g D'
 | some J=>∃jb ab,e=.returned (.tuple #[.pointer (some ⟨jb,0,none⟩),.int .i64 err])∧n0≤jb∧n0≤ab∧JnAt w' F ⟨jb,ab,g,AnyF⟩ J D'
def OpenPost(w:World)(F:Nat→Prop)(g:DG)(D:Dk)(e:Ending)(w':World):Prop:=
 ∃D' r err,OpenR D D' r err∧OpenedAt w.heap.size (Gr F w.heap.size) g D' err e w' r∧Upd [g.db,g.lb,g.mb] w w'
theorem tagOf_lt(b:Sec):tagOf b<18446744073709551616:=by
 have h:numI b 0 8<18446744073709551616:=by
  have:=num_lt b 0 8
  unfold numI
  have e:(256:Nat) ^ 8=18446744073709551616:=by decide
  omega
 unfold tagOf
 split
 ·exact h
 ·decide
theorem Anc.okB_parts{a:Anc}{n:Nat}(h:a.okB n=true):a.number≠0∧1≤a.turn∧a.turn<4611686018427387904∧8≤a.ring∧a.ring≤1024∧a.place<a.ring∧a.ring+10≤n:=by
 unfold Anc.okB at h
 simp only[Bool.and_eq_true,decide_eq_true_eq,bne_iff_ne] at h
 obtain⟨⟨⟨a1,a2⟩,a3⟩,⟨⟨a4,a5⟩,a6⟩,a7⟩:=h
 exact⟨a1,a2,a3,a4,a5,a6,a7⟩
theorem Dk.ancK_cases(D:Dk):∀k,D.ancK k=⟨0,0,0,0⟩∨((D.ancK k).okB D.n=true∧0≤(D.ancK k).number∧(D.ancK k).number<18446744073709551616)
 | 0=> .inl rfl
 | k+1=>by
  show D.ancStep (D.ancK k) k=_∨((D.ancStep (D.ancK k) k).okB D.n=true∧0≤(D.ancStep (D.ancK k) k).number∧(D.ancStep (D.ancK k) k).number<_)
  unfold Dk.ancStep
  split
  ·rename_i h;exact .inr ⟨h.1,tagOf_nonneg _,tagOf_lt _⟩
  ·exact D.ancK_cases k
theorem Dk.boot_ok{D:Dk}(h:D.anc.number≠0):D.boot.Ok D.n:=by
 rcases D.ancK_cases 2 with q | q
 ·exact absurd (by show(D.ancK 2).number=0;rw[q]) h
 ·obtain⟨a1,a2,a3,a4,a5,a6,a7⟩:=Anc.okB_parts q.1
  exact⟨a4,a5,a7,a6,a6,by show 1≤(D.ancK 2).number;have:=q.2.1;omega,q.2.2,a2,a2,by show(D.ancK 2).turn<_;omega,by show 0≤100000000;omega,by intro i s hs;simp[Dk.boot] at hs⟩
def Dk.late(D:Dk)(ring:Nat)(t:Int):Nat:=(List.range ring).countP fun q=>decide (2*t+1≤tagOf (D.now (2+q)))
theorem Dk.late_le(D:Dk)(ring:Nat)(t:Int):D.late ring t≤ring:=by
 have:=List.countP_le_length (p:=fun q=>decide (2*t+1≤tagOf (D.now (2+q)))) (l:=List.range ring)
 simpa [Dk.late] using this
theorem countP_lt{α:Type}{p q:α→Bool}:∀{l:List α} {x:α},x∈l→p x=false→q x=true→(∀y∈l,p y=true→q y=true)→l.countP p<l.countP q
 | [],x,hx,_,_,_=>by simp at hx
 | a :: l,x,hx,hp,hq,hall=>by
  have hle:l.countP p≤l.countP q:=List.countP_mono_left (fun y hy=>hall y (List.mem_cons_of_mem _ hy))
  rcases List.mem_cons.1 hx with rfl | hx
  ·rw[List.countP_cons_of_neg (by simp[hp]),List.countP_cons_of_pos hq];omega
  ·have ih:=countP_lt hx hp hq (fun y hy=>hall y (List.mem_cons_of_mem _ hy))
   by_cases ha:p a=true
   ·rw[List.countP_cons_of_pos ha,List.countP_cons_of_pos (hall a (by simp) ha)];omega
   ·rw[List.countP_cons_of_neg ha]
    have:l.countP q≤(a :: l).countP q:=by rw[List.countP_cons];omega
    omega
theorem Jn.stands_head{J:Jn}{D:Dk}(h:J.stands D≠[]):J.stHead D:=by
 by_cases q:J.stHead D
 ·exact q
 ·exact absurd (Jn.stands_no q) h
theorem Jn.stands_eq{J:Jn}{D:Dk}(h:J.stands D≠[]):J.stands D=J.stL D (J.stN D)∧∀k,k<J.stN D→J.stGood D k:=by
 unfold Jn.stands at h ⊢
 split
 ·rename_i q;exact⟨rfl,q.2⟩
 ·rename_i q;rw[if_neg q] at h;exact absurd rfl h
theorem Jn.late_lt{J:Jn}{D:Dk}(hr:J.place<J.last.ring)(h:J.stands D≠[]):D.late J.last.ring (J.turn+1)<D.late J.last.ring J.turn:=by
 have hh:=Jn.stands_head h
 unfold Dk.late
 refine countP_lt (x:=J.place) (by simpa using hr) ?_ ?_ ?_
 ·have e:D.now (2+J.place)=J.hd D:=by unfold Jn.hd Jn.at;rw[Nat.mod_eq_of_lt hr]
  simp only[e,hh.1];simp;omega
 ·have e:D.now (2+J.place)=J.hd D:=by unfold Jn.hd Jn.at;rw[Nat.mod_eq_of_lt hr]
  simp only[e,hh.1];simp
 ·intro y _ hy
  simp only[decide_eq_true_eq] at hy ⊢
  omega
theorem Jn.stands_in{J:Jn}{D:Dk}(hok:D.Ok):(J.stands D).length≤40∧∀p∈J.stands D,0≤p.1∧p.1<(J.homes D.n:Int)∧p.2.length=512:=by
 by_cases h:J.stands D=[]
 ·rw[h];simp
 ·obtain⟨e,hg⟩:=Jn.stands_eq h
  have hh:=Jn.stands_head h
  rw[e]
  refine⟨by rw[Jn.stL_length];exact hh.2.2.1,fun p hp=>?_⟩
  unfold Jn.stL at hp
  obtain⟨k,hk,rfl⟩:=List.mem_map.1 hp
  have hk':k<J.stN D:=by simpa using hk
  refine⟨numI_nonneg _ _ _,(hg k hk').2.1,?_⟩
  show(over _ _ _).length=512
  have hb:(J.bd D k).length=512:=Dk.now_len hok _
  rw[over_length]
  ·exact hb
  ·rw[hb,List.length_take];omega
def lateV(D:Dk)(ring:Nat):Option Value→Nat
 | some (.int _ t)=>D.late ring t
 | _=>0
end Go.Proofs.YtplppdbdfhkljaaGreat
end
section
namespace Go.Proofs.YtplppdbdfhkljaaGreat
open Go.RowKit
set_option maxRecDepth 100000 in
set_option maxHeartbeats 400000 in
theorem open_nil(w:World):Calls Tryz.prog 35 #[.pointer none] w fun e w'=>e=.returned (.tuple #[.pointer none,.int .i64 1])∧w=w':=by
 go_enter Tryz.func35,Tryz.ntmps35
 go_wp2_with (go_at_call 78;refine(len_nil _).mono ?_;rintro e w' ⟨rfl,rfl⟩)
 go_ret2
 exact⟨rfl,rfl⟩
def BootAt(w0:World)(g:DG)(D:Dk)(k:Nat)(wr:World):Prop:=
 wr.heap[w0.heap.size+1]?=some (.cells #[.pointer (some ⟨g.db,0,none⟩),.int .i64 D.lives,.bool false,.int .u64 (D.ancK k).number,.int .u64 (D.ancK k).turn,.int .i64 ((D.ancK k).place:Int),.int .i64 ((D.ancK k).ring:Int),.int .u64 0,.int .i64 0,.int .i64 0,.map (some w0.heap.size)] 162 (0,0))∧
 wr.heap[w0.heap.size]?=some (.map #[] 0)∧Upd [] w0 wr
structure OpRel(w:World)(F:Nat→Prop)(g:DG)(D:Dk)(J:Jn)(b:Bool)(wr:World):Prop where
 jn:JnAt wr (Gr F w.heap.size) ⟨w.heap.size+1,w.heap.size,g,AnyF⟩ J D
 upd:Upd [] w wr
 scan:∀J',Scan D J J'→Scan D D.boot J'
 no:b=false→J=D.boot
 yes:b=true→D.boot.stands D≠[]
 last:J.last=D.anc
 turn:J.turn+(D.late D.anc.ring J.turn:Int)≤D.anc.turn+1024
 used:J.used+41*D.late D.anc.ring J.turn≤41984
theorem OpRel.start{w W:World}{F:Nat→Prop}{g:DG}{D:Dk}(h:JnAt W (Gr F w.heap.size) ⟨w.heap.size+1,w.heap.size,g,AnyF⟩ D.boot D)(hu:Upd [] w W):OpRel w F g D D.boot false W:=by
 have hr:D.anc.ring≤1024:=h.ok.ring1
 have hl:=Dk.late_le D D.anc.ring D.anc.turn
 refine⟨h,hu,fun _ q=>q,fun _=>rfl,fun q=>by simp at q,rfl,?_,?_⟩
 ·show D.anc.turn+(D.late D.anc.ring D.anc.turn:Int)≤_;omega
 ·show 0+41*D.late D.anc.ring D.anc.turn≤_;omega
theorem OpRel.next{w wr W:World}{F:Nat→Prop}{g:DG}{D:Dk}{J:Jn}{b:Bool}(h:OpRel w F g D J b wr)(hs:J.stands D≠[])(hj:JnAt W (Gr F w.heap.size) ⟨w.heap.size+1,w.heap.size,g,AnyF⟩ (J.note (J.stands D)) D)(hu:Upd [] w W) :
  OpRel w F g D (J.note (J.stands D)) true W:=by
 have hlt:=Jn.late_lt h.jn.ok.place hs
 have hl:=(Jn.stands_in (J:=J) h.jn.disk.ok).1
 rw[h.last] at hlt
 have ht:=h.turn
 have hus:=h.used
 refine⟨hj,hu,fun _ q=>h.scan _ (.step hs q),fun q=>by simp at q,fun _=>?_,h.last,?_,?_⟩
 ·cases b with
  | false=>rw[h.no rfl] at hs;exact hs
  | true=>exact h.yes rfl
 ·show J.turn+1+(D.late D.anc.ring (J.turn+1):Int)≤_;omega
 ·show J.used+(1+(J.stands D).length)+41*D.late D.anc.ring (J.turn+1)≤_;omega
set_option maxRecDepth 100000 in
set_option maxHeartbeats 4000000 in
theorem open_main{w:World}{F:Nat→Prop}{g:DG}{D:Dk}(h:DiskAt w F g D)(hoff:D.off=false) :
  Calls Tryz.prog 35 #[.pointer (some ⟨g.db,0,none⟩)] w (OpenPost w F g D):=by
 have H:=Lib.hid h
 have hn:=h.ok.n0
 have hn1:=h.ok.n1
 have hn':((D.n:Int) == 0)=false:=beq_eq_false_iff_ne.2 (by omega)
 have HDD:=Lib.hid (dead_spec h)
 rw[hoff] at HDD
 have HOFF:=Lib.hid hoff
 have hmm:=@run_makeMap Tryz.prog
 clear h hoff
 go_enter Tryz.func35,Tryz.ntmps35
 go_wp2_with (first | (go_at_call 78;refine(len_spec H.out).mono ?_;rintro e w' ⟨rfl,rfl⟩) | (go_at_call 81;refine HDD.out.mono ?_;rintro e w' ⟨rfl,rfl⟩) | (go_at_call 82;refine(lives_spec H.out).mono ?_;rintro e w' ⟨rfl,rfl⟩))
 go_loopw [27] (fun i wr=>∃k:Nat,k≤2∧i=.int .i64 (k:Int)∧BootAt w g D k wr) (fun i _=>2-(intOf i).toNat)
 case atStart=>
  refine⟨0,by omega,rfl,?_,?_,((Upd.refl _ _).alloc _).alloc _⟩
  ·have e1:w.heap.size+1=(w.alloc (.map #[] 0)).heap.size:=by simp
   rw[e1,blk_alloc]
   rfl
  ·rw[blk_alloc_ne (by simp)];exact blk_alloc _
 case round=>
  obtain⟨k,hk,rfl,hbt,hab,hur⟩:=hrel
  by_cases hlt:k<2
  ·have hDr:DiskAt wr F g D:=H.out.world (hur.block _ H.out.lt.1 (by simp)) (hur.block _ H.out.lt.2.1 (by simp)) (hur.block _ H.out.lt.2.2 (by simp)) (fun _ _ _ hk=>hur.block _ (blk_lt hk) (by simp))
   have HRD:=Lib.hid (read_ok hDr k HOFF.out (by omega))
   have hnl:(D.now k).length=512:=Dk.now_len H.out.ok _
   have HNL:=Lib.hid hnl
   have HDR:=Lib.hid hDr
   have HBT:=Lib.hid hbt
   have HAB:=Lib.hid hab
   have HUR:=Lib.hid hur
   clear hDr hbt hab hur hnl
   go_wp2_with fail
   refine HRD.out.mono ?_
   rintro e w1 ⟨rfl,hw1⟩
   have hu1:Upd [] wr w1:=by rw[← hw1];exact(Upd.refl _ _).alloc _
   have hb1:w1.heap[wr.heap.size]?=some (.cells (bts (D.now k)).toArray 5 (0,0)):=by rw[← hw1];exact blk_alloc _
   have hD1:DiskAt w1 F g D:=HDR.out.world (hu1.block _ HDR.out.lt.1 (by simp)) (hu1.block _ HDR.out.lt.2.1 (by simp)) (hu1.block _ HDR.out.lt.2.2 (by simp)) (fun _ _ _ hk=>hu1.block _ (blk_lt hk) (by simp))
   have HRA:Hid (Calls Tryz.prog 84 #[.slice (some ⟨wr.heap.size,0,none⟩) 512 512,.int .i64 (D.n:Int)] w1 fun e w'=>e=.returned (.tuple #[.agg #[.int .u64 (ancOf (D.now k)).number,.int .u64 (ancOf (D.now k)).turn,.int .i64 ((ancOf (D.now k)).place:Int),.int .i64 ((ancOf (D.now k)).ring:Int)],.bool ((ancOf (D.now k)).okB D.n)])∧Upd [] w1 w'):=Lib.hid (readA_spec _ (D.now k) D.n w1 (rd_of_block hb1 HNL.out) HNL.out (by omega))
   have HK:Hid (D.ancK (k+1)=if(ancOf (D.now k)).okB D.n=true∧(D.ancK k).number<(ancOf (D.now k)).number then ancOf (D.now k) else D.ancK k):=rfl
   generalize ancOf (D.now k)=a at HRA HK
   have HD1:=Lib.hid hD1
   have HU1:=Lib.hid hu1
   clear hw1 hu1 hb1 hD1
   go_wp2_with (first | (go_at_call 78;refine(len_spec HD1.out).mono ?_;rintro e w' ⟨rfl,rfl⟩))
   refine HRA.out.mono ?_
   rintro e w2 ⟨rfl,hu2⟩
   have HU2:=Lib.hid (HU1.out.trans hu2)
   clear hu2
   generalize D.ancK k=b at HBT HK
   go_wp2_with fail
   have hu3:Upd [] wr (w2.alloc (.cells #[.int .u64 a.number,.int .u64 a.turn,.int .i64 (a.place:Int),.int .i64 (a.ring:Int)] 160)):=HU2.out.alloc _
   have hb3:(w2.alloc (.cells #[.int .u64 a.number,.int .u64 a.turn,.int .i64 (a.place:Int),.int .i64 (a.ring:Int)] 160)).heap[w2.heap.size]?=some (.cells #[.int .u64 a.number,.int .u64 a.turn,.int .i64 (a.place:Int),.int .i64 (a.ring:Int)] 160 (0,0)):=blk_alloc _
   generalize w2.alloc (.cells #[.int .u64 a.number,.int .u64 a.turn,.int .i64 (a.place:Int),.int .i64 (a.ring:Int)] 160)=W3 at hu3 hb3 ⊢
   have ht3:W3.heap[w.heap.size+1]?=_:=(hu3.block _ (blk_lt HBT.out) (by simp)).trans HBT.out
   have ha3:W3.heap[w.heap.size]?=_:=(hu3.block _ (blk_lt HAB.out) (by simp)).trans HAB.out
   have hcA:=blk_cell hb3
   have hcT:=blk_cell ht3
   have hfT:=blk_free ht3
   have hne:w.heap.size+1≠w2.heap.size:=by have:=blk_lt HBT.out;have:=HU2.out.size;omega
   have hkeep:D.ancK (k+1)=b→∀nq,BootAt w g D (k+1) (W3.drewN nq):=fun e nq=>⟨by rw[e];exact ht3,ha3,(HUR.out.trans hu3).drewN nq⟩
   have hstore:D.ancK (k+1)=a→∀nq W,W=((((W3.drewN nq).setCell ⟨w.heap.size+1,3,none⟩ (.int .u64 a.number)).setCell ⟨w.heap.size+1,4,none⟩ (.int .u64 a.turn)).setCell ⟨w.heap.size+1,5,none⟩ (.int .i64 (a.place:Int))).setCell ⟨w.heap.size+1,6,none⟩ (.int .i64 (a.ring:Int))→BootAt w g D (k+1) W:=by
    rintro e nq W rfl
    refine⟨?_,?_,?_⟩
    ·rw[e,blk_set (blk_set (blk_set (blk_set (show(W3.drewN nq).heap[w.heap.size+1]?=_ from ht3) 3 _) 4 _) 5 _) 6 _];simp
    ·rw[blk_set_ne _ _ (by omega),blk_set_ne _ _ (by omega),blk_set_ne _ _ (by omega),blk_set_ne _ _ (by omega)];exact ha3
    ·exact(((((HUR.out.trans hu3).drewN nq).set _ (.inr (by omega))).set _ (.inr (by omega))).set _ (.inr (by omega))).set _ (.inr (by omega))
   have HKEEP:=Lib.hid hkeep
   have HSTORE:=Lib.hid hstore
   clear hkeep hstore hu3 hb3 ht3 ha3
   cases hq:a.okB D.n with
   | false=>
    have HE:Hid (D.ancK (k+1)=b):=by show _=_;rw[HK.out,if_neg (by simp[hq])]
    clear hq
    go_quiet (fail)
    go_wp2
    go_roundw
    case rel=>exact⟨k+1,by omega,by go_num,HKEEP.out HE.out _⟩
    case measure=>simp[intOf];omega
   | true=>
    by_cases hl:b.number<a.number
    ·have d1:decide (b.number<a.number)=true:=by simpa using hl
     have HE:Hid (D.ancK (k+1)=a):=by show _=_;rw[HK.out,if_pos ⟨hq,hl⟩]
     clear hq
     go_quiet (fail)
     go_wp2
     go_roundw
     case rel=>exact⟨k+1,by omega,by go_num,HSTORE.out HE.out _ _ rfl⟩
     case measure=>simp[intOf];omega
    ·have d1:decide (b.number<a.number)=false:=by simpa using hl
     have HE:Hid (D.ancK (k+1)=b):=by show _=_;rw[HK.out,if_neg (fun q=>hl q.2)]
     clear hq
     go_quiet (fail)
     go_wp2
     go_roundw
     case rel=>exact⟨k+1,by omega,by go_num,HKEEP.out HE.out _⟩
     case measure=>simp[intOf];omega
  ·obtain rfl:k=2:=by omega
   have hbt':wr.heap[w.heap.size+1]?=some (.cells #[.pointer (some ⟨g.db,0,none⟩),.int .i64 D.lives,.bool false,.int .u64 D.anc.number,.int .u64 D.anc.turn,.int .i64 (D.anc.place:Int),.int .i64 (D.anc.ring:Int),.int .u64 0,.int .i64 0,.int .i64 0,.map (some w.heap.size)] 162 (0,0)):=hbt
   have hDr:DiskAt wr F g D:=H.out.world (hur.block _ H.out.lt.1 (by simp)) (hur.block _ H.out.lt.2.1 (by simp)) (hur.block _ H.out.lt.2.2 (by simp)) (fun _ _ _ hk=>hur.block _ (blk_lt hk) (by simp))
   have hcT:=blk_cell hbt'
   have hfT:=blk_free hbt'
   have HDR:=Lib.hid hDr
   have HBT:=Lib.hid hbt'
   have HAB:=Lib.hid hab
   have HUR:=Lib.hid hur
   clear hbt hbt' hDr hab hur
   by_cases hz:D.anc.number=0
   ·have d1:(D.anc.number == 0)=true:=by simpa using hz
    have HZ:=Lib.hid hz
    clear hz
    go_wp2
    go_ret2
    exact⟨D,none,5,.none HOFF.out HZ.out,⟨rfl,HDR.out.mono Gr.old⟩,HUR.out.mono (by simp)⟩
   ·have d1:(D.anc.number == 0)=false:=by simpa using hz
    have HZ:=Lib.hid hz
    clear hz
    go_wp2_with fail
    go_region
    have hJ5:JnAt ((wr.setCell ⟨w.heap.size+1,7,none⟩ (.int .u64 D.anc.turn)).setCell ⟨w.heap.size+1,8,none⟩ (.int .i64 (D.anc.place:Int))).drew (Gr F w.heap.size) ⟨w.heap.size+1,w.heap.size,g,AnyF⟩ D.boot D:=by
     have hlt:=H.out.lt
     have hset:∀q,q≠w.heap.size+1→((wr.setCell ⟨w.heap.size+1,7,none⟩ (.int .u64 D.anc.turn)).setCell ⟨w.heap.size+1,8,none⟩ (.int .i64 (D.anc.place:Int))).drew.heap[q]?=wr.heap[q]?:=fun q hq=>by
      show((wr.setCell ⟨w.heap.size+1,7,none⟩ (.int .u64 D.anc.turn)).setCell ⟨w.heap.size+1,8,none⟩ (.int .i64 (D.anc.place:Int))).heap[q]?=wr.heap[q]?
      rw[blk_set_ne _ _ hq,blk_set_ne _ _ hq]
     refine⟨(HDR.out.world (hset _ (by omega)) (hset _ (by omega)) (hset _ (by omega)) (fun q c _ hq=>hset q (by rintro rfl;rw[HBT.out] at hq;simp at hq))).mono Gr.old,?_,⟨_,MapI.made (c:=0) ((hset w.heap.size (by omega)).trans HAB.out),by simp,by simp[Dk.boot]⟩,by show w.heap.size≠g.mb;omega,Dk.boot_ok HZ.out⟩
     show((wr.setCell ⟨w.heap.size+1,7,none⟩ (.int .u64 D.anc.turn)).setCell ⟨w.heap.size+1,8,none⟩ (.int .i64 (D.anc.place:Int))).heap[w.heap.size+1]?=_
     rw[blk_set (blk_set HBT.out 7 _) 8 _]
     simp[Dk.boot]
    have hU5:Upd [] w ((wr.setCell ⟨w.heap.size+1,7,none⟩ (.int .u64 D.anc.turn)).setCell ⟨w.heap.size+1,8,none⟩ (.int .i64 (D.anc.place:Int))).drew:=((HUR.out.set _ (.inr (by omega))).set _ (.inr (by omega))).drew
    generalize ((wr.setCell ⟨w.heap.size+1,7,none⟩ (.int .u64 D.anc.turn)).setCell ⟨w.heap.size+1,8,none⟩ (.int .i64 (D.anc.place:Int))).drew=W5 at hJ5 hU5 ⊢
    have HJ5:=Lib.hid hJ5
    have HU5:=Lib.hid hU5
    clear hJ5 hU5 hcT hfT HAB HBT HDR HUR d1
    go_wp2_with fail
    go_loopw [10] (fun s wr=>∃(J:Jn) (b:Bool),s=.bool b∧OpRel w F g D J b wr) (fun _ wr=>lateV D D.anc.ring (wr.cell? ⟨w.heap.size+1,7,none⟩))
    case atStart=>exact⟨D.boot,false,rfl,OpRel.start HJ5.out HU5.out⟩
    case round=>
     obtain⟨J,b,rfl,hrel⟩:=hrel
     have HST:=Lib.hid (stands_spec hrel.jn HOFF.out)
     have k7:Hid (wr.cell? ⟨w.heap.size+1,7,none⟩=some (.int .u64 J.turn)):=Lib.hid hrel.jn.cell7
     have HREL:=Lib.hid hrel
     clear hrel
     go_wp2_with fail
     refine HST.out.mono ?_
     rintro e w6 ⟨a6,n6,c6,rfl,hp6,hu6⟩
     have hn6:n6=(J.stands D).length:=by
      obtain⟨ao,cap,e⟩:=hp6.at.shape
      simp only[Value.slice.injEq] at e
      exact e.2.1
     subst hn6
     have HP6:=Lib.hid hp6
     have HU6:=Lib.hid hu6
     clear hp6 hu6
     have hjn6:=HREL.out.jn.below HU6.out
     have hup6:Upd [] w w6:=HREL.out.upd.trans HU6.out
     have hc6:=blk_cell hjn6.st
     have hf6:=blk_free hjn6.st
     have HJ6:=Lib.hid hjn6
     have HUP6:=Lib.hid hup6
     clear hjn6 hup6
     by_cases hs:J.stands D=[]
     ·have hl0:(J.stands D).length=0:=by rw[hs];rfl
      have HS:=Lib.hid hs
      rw[hl0]
      clear hs hl0
      cases b with
      | false=>
       go_wp2_with fail
       go_ret2
       obtain rfl:=HREL.out.no rfl
       exact⟨D,some D.boot,0,.keep HOFF.out HZ.out HS.out,⟨_,_,rfl,by omega,by omega,HJ6.out⟩,HUP6.out.mono (by simp)⟩
      | true=>
       have HSC:=Lib.hid (HREL.out.scan _ (.stop HS.out))
       have HNE:=Lib.hid (HREL.out.yes rfl)
       have hnn:=HJ6.out.ok.num0
       have htt:=HJ6.out.ok.turn0
       by_cases q1:4611686018427387904≤J.last.number
       ·have d1:decide (4611686018427387904≤J.last.number)=true:=by simpa using q1
        go_wp2_with fail
        go_ret2
        exact⟨D,none,7,.full HOFF.out HZ.out HNE.out HSC.out (.inl q1),⟨rfl,HJ6.out.disk⟩,HUP6.out.mono (by simp)⟩
       ·have d1:decide (4611686018427387904≤J.last.number)=false:=by simpa using q1
        by_cases q2:4611686018427387904≤J.turn
        ·have d2:decide (4611686018427387904≤J.turn)=true:=by simpa using q2
         go_wp2_with fail
         go_ret2
         exact⟨D,none,7,.full HOFF.out HZ.out HNE.out HSC.out (.inr q2),⟨rfl,HJ6.out.disk⟩,HUP6.out.mono (by simp)⟩
        ·have d2:decide (4611686018427387904≤J.turn)=false:=by simpa using q2
         have HSE:=Lib.hid (settle_spec HJ6.out (by omega))
         go_wp2_with fail
         refine HSE.out.mono ?_
         rintro e w7 ⟨rfl,hj7,hu7⟩
         have HJ7:=Lib.hid hj7
         have HU7:=Lib.hid hu7
         have HFAIL:Hid ((J.settleD D).2≠0→OpenR D (J.settleD D).1 none (J.settleD D).2):=fun q=> .fail HOFF.out HZ.out HNE.out HSC.out (by omega) (by omega) q
         have HGO:Hid ((J.settleD D).2=0→OpenR D (J.settleD D).1 (some J.settled) 0):=fun q=> .ok HOFF.out HZ.out HNE.out HSC.out (by omega) (by omega) q
         have hupd:Upd [g.db,g.lb,g.mb] w w7:=by
          refine(HUP6.out.mono (by simp)).late HU7.out (fun i hi=>?_)
          simp only[JG.all,List.mem_cons,List.not_mem_nil,or_false] at hi ⊢
          omega
         have HUPD:=Lib.hid hupd
         clear hj7 hu7 hupd
         by_cases q3:(J.settleD D).2=0
         ·have d3:((J.settleD D).2 != 0)=false:=by simpa using q3
          have HJ8:Hid (JnAt w7 (Gr F w.heap.size) ⟨w.heap.size+1,w.heap.size,g,AnyF⟩ J.settled (J.settleD D).1):=by
           have:=HJ7.out
           unfold Jn.settle at this
           rw[if_neg (fun q=>q q3)] at this
           exact this.mono (fun k hk=>Gr.gr2 HUP6.out.size k hk)
          have HOK:=Lib.hid (HGO.out q3)
          go_wp2_with fail
          go_ret2
          exact⟨_,_,_,HOK.out,⟨_,_,rfl,by omega,by omega,HJ8.out⟩,HUPD.out⟩
         ·have d3:((J.settleD D).2 != 0)=true:=by simpa using q3
          have HBAD:=Lib.hid (HFAIL.out q3)
          go_wp2_with fail
          go_ret2
          exact⟨_,_,_,HBAD.out,⟨rfl,HJ7.out.disk.mono (fun k hk=>Gr.gr2 HUP6.out.size k hk)⟩,HUPD.out⟩
     ·have hl0:(((J.stands D).length:Int) == 0)=false:=by rw[beq_eq_false_iff_ne];intro q;exact hs (List.eq_nil_of_length_eq_zero (by omega))
      have hin:=Jn.stands_in (J:=J) HREL.out.jn.disk.ok
      have hlt6:=Jn.late_lt HREL.out.jn.ok.place hs
      rw[HREL.out.last] at hlt6
      have ht6:=HREL.out.turn
      have hs6:=HREL.out.used
      have htb:D.anc.turn<4611686018427387904:=by
       rcases D.ancK_cases 2 with q | q
       ·exact absurd (by show(D.ancK 2).number=0;rw[q]) HZ.out
       ·exact(Anc.okB_parts q.1).2.2.1
      have HNT:=Lib.hid (note_spec HJ6.out _ _ (HP6.out.mono (fun k hk=>Gr.new HREL.out.upd.size k hk)) (by omega) hin.2 (by omega) (by omega))
      have HLT:=Lib.hid hlt6
      have HS:=Lib.hid hs
      clear hs hin hlt6 ht6 hs6 htb
      go_wp2_with fail
      refine HNT.out.mono ?_
      rintro e w7 ⟨rfl,hj7,hu7⟩
      have hup7:Upd [] w w7:=HUP6.out.late hu7 (fun i hi=>by simp only[List.mem_cons,List.not_mem_nil,or_false] at hi;omega)
      have HR7:=Lib.hid (HREL.out.next HS.out hj7 hup7)
      have HC7:Hid (w7.cell? ⟨w.heap.size+1,7,none⟩=some (.int .u64 (J.turn+1))):=Lib.hid hj7.cell7
      clear hj7 hu7 hup7
      go_wp2_with fail
      go_roundw
      case rel=>exact⟨_,_,_,_,_,_,_,_,_,_,_,_,_,_,_,_,_,_,_,⟨J.note (J.stands D),true,rfl,HR7.out⟩,rfl⟩
      case measure=>
       rw[HC7.out,k7.out]
       exact HLT.out
end Go.Proofs.YtplppdbdfhkljaaGreat
namespace Go.Proofs.YtplppdbdfhkljaaGreat
open Go.RowKit
def Dk.zeroK(D:Dk):Nat→Dk
 | 0=>D
 | k+1=>((if k=2 then(D.zeroK k).flush.1 else D.zeroK k).write (k:Int) zsec).1
def Dk.fmt(D:Dk)(ring:Nat):Dk:=((D.zeroK D.n).flush.1.write 1 (Anc.sector ⟨1,1,0,ring⟩)).1.flush.1
def Dk.On(D:Dk):Prop:=D.off=false∧D.armed = -1
theorem Dk.On.flush{D:Dk}(h:D.On):D.flush=({ D with last:=D.now,wait:=fun _=>none },0):=by
 unfold Dk.flush Dk.step
 rw[if_neg (by rw[h.1];decide),if_neg (by rw[h.2];decide),if_neg (by rw[h.2];decide)]
theorem Dk.On.write{D:Dk}(h:D.On){i:Nat}(hi:i<D.n){b:Sec}(hb:b.length=512):D.write (i:Int) b=({ D with wait:=fun j=>if j=i then some b else D.wait j,writes:=wrap64 (D.writes+1) },0):=by
 have hm:D.may (i:Int)=0:=Dk.may_of h.1 (by omega) (by omega)
 unfold Dk.write Dk.step
 rw[if_neg (by simpa using hm),if_neg (by simpa using hb),if_neg (by rw[h.2];decide),if_neg (by rw[h.2];decide)]
 simp
theorem Dk.On.flushed{D:Dk}(h:D.On):D.flush.1.On∧D.flush.2=0:=by rw[h.flush];exact⟨h,rfl⟩
theorem Dk.On.written{D:Dk}(h:D.On){i:Nat}(hi:i<D.n){b:Sec}(hb:b.length=512):(D.write (i:Int) b).1.On∧(D.write (i:Int) b).2=0:=by rw[h.write hi hb];exact⟨h,rfl⟩
theorem Dk.zeroK_n(D:Dk):∀k,(D.zeroK k).n=D.n
 | 0=>rfl
 | k+1=>by
  show((if k=2 then(D.zeroK k).flush.1 else D.zeroK k).write (k:Int) zsec).1.n=D.n
  rw[Dk.write_n]
  split
  ·rw[Dk.flush_n];exact D.zeroK_n k
  ·exact D.zeroK_n k
theorem Dk.On.zeroK{D:Dk}(h:D.On):∀k,k≤D.n→(D.zeroK k).On
 | 0,_=>h
 | k+1,hk=>by
  have ih:=h.zeroK k (by omega)
  show((if k=2 then(D.zeroK k).flush.1 else D.zeroK k).write (k:Int) zsec).1.On
  split
  ·exact(ih.flushed.1.written (by rw[Dk.flush_n,Dk.zeroK_n];omega) zsec_length).1
  ·exact(ih.written (by rw[Dk.zeroK_n];omega) zsec_length).1
structure FmRel(w:World)(F:Nat→Prop)(g:DG)(D:Dk)(k:Nat)(wr:World):Prop where
 disk:DiskAt wr (Gr F w.heap.size) g (D.zeroK k)
 zero:wr.heap[w.heap.size]?=some (.cells (bts zsec).toArray 5 (0,0))
 upd:Upd [g.db,g.lb,g.mb] w wr
set_option maxRecDepth 100000 in
set_option maxHeartbeats 1000000 in
theorem fmt_ok{w:World}{F:Nat→Prop}{g:DG}{D:Dk}(h:DiskAt w F g D)(hon:D.On)(ring:Nat)(h0:8≤ring)(h1:ring≤1024)(h2:ring+10≤D.n) :
  Calls Tryz.prog 67 #[.pointer (some ⟨g.db,0,none⟩),.int .i64 (ring:Int)] w fun e w'=>e=.returned (.int .i64 0)∧DiskAt w' (Gr F w.heap.size) g (D.fmt ring)∧Upd [g.db,g.lb,g.mb] w w':=by
 have H:=Lib.hid h
 have HON:=Lib.hid hon
 have hn:=h.ok.n0
 have hn1:=h.ok.n1
 have hn':((D.n:Int) == 0)=false:=beq_eq_false_iff_ne.2 (by omega)
 have hmk:=run_make_512
 clear h hon
 go_enter Tryz.func67,Tryz.ntmps67
 have hA:Upd [] w (w.alloc (.cells (bts zsec).toArray 5)):=(Upd.refl _ _).alloc _
 have HA:=Lib.hid hA
 have HZ:Hid ((w.alloc (.cells (bts zsec).toArray 5)).heap[w.heap.size]?=some (.cells (bts zsec).toArray 5 (0,0))):=blk_alloc _
 have HDA:Hid (DiskAt (w.alloc (.cells (bts zsec).toArray 5)) F g D):=H.out.world (hA.block _ H.out.lt.1 (by simp)) (hA.block _ H.out.lt.2.1 (by simp)) (hA.block _ H.out.lt.2.2 (by simp)) (fun _ _ _ hk=>hA.block _ (blk_lt hk) (by simp))
 clear hA
 go_wp2_with (first | (go_at_call 78;(first | refine(len_spec H.out).mono ?_ | refine(len_spec HDA.out).mono ?_);rintro e w' ⟨rfl,rfl⟩))
 go_loopw [33] (fun i wr=>∃k:Nat,k≤D.n∧i=.int .i64 (k:Int)∧FmRel w F g D k wr) (fun i _=>D.n-(intOf i).toNat)
 case atStart=>exact⟨0,by omega,rfl,HDA.out.mono Gr.old,HZ.out,HA.out.mono (by simp)⟩
 case round=>
  obtain⟨k,hk,rfl,hrel⟩:=hrel
  have HREL:=Lib.hid hrel
  clear hrel
  by_cases hlt:k<D.n
  ·have hlt':decide ((k:Int)<(D.n:Int))=true:=by simpa using hlt
   have HOK:=Lib.hid (HON.out.zeroK k hk)
   have hsz:w.heap.size≤wr.heap.size:=HREL.out.upd.size
   have hz0:∀{wq:World},Upd [g.db,g.lb,g.mb] wr wq→wq.heap[w.heap.size]?=some (.cells (bts zsec).toArray 5 (0,0)):=fun hq=>(hq.block _ (blk_lt HREL.out.zero) (HREL.out.disk.byte HREL.out.zero)).trans HREL.out.zero
   by_cases h2:k=2
   ·have d2:((k:Int) == 2)=true:=by rw[h2];rfl
    have H2:=Lib.hid h2
    clear h2
    have HFL:=Lib.hid (flush_spec HREL.out.disk)
    rw[HOK.out.flushed.2] at HFL
    go_wp2_with fail
    refine HFL.out.mono ?_
    rintro e w1 ⟨rfl,hd1,hu1⟩
    have HWR:=Lib.hid (write_spec hd1 (k:Int) _ zsec (rd_of_block (hz0 hu1) zsec_length))
    rw[(HOK.out.flushed.1.written (by rw[Dk.flush_n,Dk.zeroK_n];exact hlt) zsec_length).2] at HWR
    have HU1:=Lib.hid hu1
    clear hd1 hu1
    go_wp2_with fail
    refine HWR.out.mono ?_
    rintro e w2 ⟨rfl,hd2,hu2⟩
    have hu12:Upd [g.db,g.lb,g.mb] wr w2:=HU1.out.trans (hu2.mono (by simp))
    have HR:Hid (FmRel w F g D (k+1) w2):=⟨by
     have e:D.zeroK (k+1)=((D.zeroK k).flush.1.write (k:Int) zsec).1:=by show((if k=2 then _ else _:Dk).write _ _).1=_;rw[if_pos H2.out]
     rw[e];exact hd2.mono (Gr.gr2 (Nat.le_trans hsz HU1.out.size)),hz0 hu12,HREL.out.upd.trans hu12⟩
    clear hd2 hu2 hu12
    go_wp2_with fail
    exact⟨⟨k+1,by omega,by go_num,HR.out⟩,by simp[intOf];omega⟩
   ·have d2:((k:Int) == 2)=false:=by rw[beq_eq_false_iff_ne];omega
    have HWR:=Lib.hid (write_spec HREL.out.disk (k:Int) _ zsec (rd_of_block HREL.out.zero zsec_length))
    rw[(HOK.out.written (by rw[Dk.zeroK_n];exact hlt) zsec_length).2] at HWR
    go_wp2_with fail
    refine HWR.out.mono ?_
    rintro e w1 ⟨rfl,hd1,hu1⟩
    have hu1':Upd [g.db,g.lb,g.mb] wr w1:=hu1.mono (by simp)
    have HR:Hid (FmRel w F g D (k+1) w1):=⟨by
     have e:D.zeroK (k+1)=((D.zeroK k).write (k:Int) zsec).1:=by show((if k=2 then _ else _:Dk).write _ _).1=_;rw[if_neg h2]
     rw[e];exact hd1.mono (Gr.gr2 hsz),hz0 hu1',HREL.out.upd.trans hu1'⟩
    clear hd1 hu1 hu1'
    go_wp2_with fail
    exact⟨⟨k+1,by omega,by go_num,HR.out⟩,by simp[intOf];omega⟩
  ·obtain rfl:k=D.n:=by omega
   have hlt':decide ((D.n:Int)<(D.n:Int))=false:=by simp
   have HOK:=Lib.hid (HON.out.zeroK D.n (Nat.le_refl _))
   have HFL:=Lib.hid (flush_spec HREL.out.disk)
   rw[HOK.out.flushed.2] at HFL
   go_wp2_with fail
   refine HFL.out.mono ?_
   rintro e w1 ⟨rfl,hd1,hu1⟩
   have HU1:=Lib.hid hu1
   have HD1:=Lib.hid hd1
   have HSE:=Lib.hid (sector_spec ⟨1,1,0,ring⟩ w1 (by show 0<_;omega) (by show ring<_;omega) (by show(0:Int)≤1;omega) (by show(0:Int)≤1;omega))
   clear hd1 hu1
   go_wp2_with fail
   refine HSE.out.mono ?_
   rintro e w2 ⟨rfl,hs2,hu2⟩
   have hd2:DiskAt w2 (Gr F w.heap.size) g (D.zeroK D.n).flush.1:=HD1.out.world (hu2.block _ HD1.out.lt.1 (by simp)) (hu2.block _ HD1.out.lt.2.1 (by simp)) (hu2.block _ HD1.out.lt.2.2 (by simp)) (fun _ _ _ hk=>hu2.block _ (blk_lt hk) (by simp))
   have HWR:=Lib.hid (write_spec hd2 1 _ _ (rd_of_block hs2 (Anc.sector_length _)))
   have hwe:((D.zeroK D.n).flush.1.write 1 (Anc.sector ⟨1,1,0,ring⟩)).1.On∧((D.zeroK D.n).flush.1.write 1 (Anc.sector ⟨1,1,0,ring⟩)).2=0:=HOK.out.flushed.1.written (i:=1) (by rw[Dk.flush_n,Dk.zeroK_n];omega) (Anc.sector_length _)
   rw[hwe.2] at HWR
   have HO3:=Lib.hid hwe.1
   have HU2:=Lib.hid (HREL.out.upd.trans (HU1.out.trans (hu2.mono (by simp))))
   clear hd2 hs2 hu2 hwe
   go_wp2_with fail
   refine HWR.out.mono ?_
   rintro e w3 ⟨rfl,hd3,hu3⟩
   have HFL3:=Lib.hid (flush_spec hd3)
   rw[HO3.out.flushed.2] at HFL3
   have HU3:=Lib.hid (HU2.out.trans (hu3.mono (by simp)))
   have hsz2:w.heap.size≤w2.heap.size:=HU2.out.size
   have HSZ2:=Lib.hid hsz2
   clear hd3 hu3 hsz2
   go_wp2_with fail
   refine HFL3.out.mono ?_
   rintro e w4 ⟨rfl,hd4,hu4⟩
   have HD4:=Lib.hid (hd4.mono (Gr.gr2 HSZ2.out))
   have HU4:=Lib.hid (HU3.out.trans hu4)
   clear hd4 hu4
   go_wp2_with fail
   go_ret
   exact⟨rfl,HD4.out,HU4.out⟩
end Go.Proofs.YtplppdbdfhkljaaGreat
end
