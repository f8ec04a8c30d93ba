/-
  Journal.settle.
-/
import Derived.Test.YtplppdbdfhkljaaGreatA04
import Derived.Deep.DeepCutAuto
import Derived.Deep.CutBlock
import Derived.Deep.RegionLaw
set_option maxRecDepth 100000
set_option maxHeartbeats 16000000
section
namespace Go.Proofs.YtplppdbdfhkljaaGreat
open Go.RowKit
def Jn.keys(J:Jn)(n:Nat):List Nat:=(List.range (J.homes n)).filter fun i=>(J.away i).isSome
def homeL(J:Jn):Dk→List Nat→Dk × Int
 | D,[]=>(D,0)
 | D,i :: l=>if(D.write ((2+J.last.ring+i:Nat):Int) ((J.away i).getD [])).2≠0 then D.write ((2+J.last.ring+i:Nat):Int) ((J.away i).getD []) else homeL J (D.write ((2+J.last.ring+i:Nat):Int) ((J.away i).getD [])).1 l
def Jn.next(J:Jn):Anc:=⟨J.last.number+1,J.turn,J.place,J.last.ring⟩
def Jn.settled(J:Jn):Jn:={ J with last:=J.next,used:=0,away:=fun _=>none }
def Jn.settleD(J:Jn)(D:Dk):Dk × Int:=
 if(homeL J D (J.keys D.n)).2≠0 then homeL J D (J.keys D.n)
 else if(homeL J D (J.keys D.n)).1.flush.2≠0 then(homeL J D (J.keys D.n)).1.flush
 else if((homeL J D (J.keys D.n)).1.flush.1.write ((J.last.number+1) % 2) J.next.sector).2≠0 then(homeL J D (J.keys D.n)).1.flush.1.write ((J.last.number+1) % 2) J.next.sector
 else((homeL J D (J.keys D.n)).1.flush.1.write ((J.last.number+1) % 2) J.next.sector).1.flush
def Jn.settle(J:Jn)(D:Dk):Jn:=if(J.settleD D).2≠0 then J.hear (J.settleD D).2 else J.settled
theorem homeL_cons(J:Jn)(D:Dk)(i:Nat)(l:List Nat):homeL J D (i :: l)=if(D.write ((2+J.last.ring+i:Nat):Int) ((J.away i).getD [])).2≠0 then D.write ((2+J.last.ring+i:Nat):Int) ((J.away i).getD []) else homeL J (D.write ((2+J.last.ring+i:Nat):Int) ((J.away i).getD [])).1 l:=rfl
theorem Jn.hear_zero(J:Jn):J.hear 0=J:=by unfold Jn.hear;simp
theorem homeL_n(J:Jn):∀(l:List Nat) (D:Dk),(homeL J D l).1.n=D.n
 | [],D=>rfl
 | i :: l,D=>by
  unfold homeL;split
  ·exact Dk.write_n _ _ _
  ·rw[homeL_n J l];exact Dk.write_n _ _ _
theorem JnAt.keysF_eq{w:World}{F:Nat→Prop}{J:Jn}{n:Nat}{f:Int→Option Value}(hok:J.Ok n)
  (hf1:∀k v,f k=some v→0≤k∧∃s,J.away k.toNat=some s∧Own w 5 F v s) (hf2:∀(i:Nat) s,J.away i=some s→∃v,f (i:Int)=some v) :
  keysF f (J.homes n)=J.keys n∧∀k v,f k=some v→0≤k∧k<J.homes n:=by
 constructor
 ·unfold keysF Jn.keys
  refine List.filter_congr fun i _=>?_
  cases hq:J.away i with
  | none=>
   cases hr:f (i:Int) with
   | none=>rfl
   | some v=>obtain⟨_,s,e,_⟩:=hf1 _ _ hr;rw[Int.toNat_natCast,hq] at e;simp at e
  | some s=>obtain⟨v,hv⟩:=hf2 i s hq;rw[hv];rfl
 ·intro k v hk
  obtain⟨h0,s,e,_⟩:=hf1 k v hk
  have:=(hok.away _ _ e).1
  unfold Jn.homes
  omega
def JG.all(j:JG):List Nat:=[j.jb,j.ab,j.d.db,j.d.lb,j.d.mb]
theorem JnAt.kind{w:World}{F:Nat→Prop}{j:JG}{J:Jn}{D:Dk}(h:JnAt w F j J D){k:Nat}{c:Array Value}{t:TypeId}{fr:Nat × Nat}(hk:w.heap[k]?=some (.cells c t fr))(h1:t≠162)(h2:t≠158)(h3:t≠34):k∉j.all:=by
 obtain⟨⟨fv,a1,_⟩,⟨lv,b1,_⟩,⟨f,hf,_⟩,_⟩:=h.disk
 obtain⟨f2,hf2,_⟩:=h.away
 simp only[JG.all,List.mem_cons,List.not_mem_nil,or_false,not_or]
 refine⟨?_,hf2.not_cells hk,?_,?_,hf.not_cells hk⟩
 ·rintro rfl;rw[h.st] at hk;simp at hk;exact h1 hk.2.1.symm
 ·rintro rfl;rw[a1] at hk;simp at hk;exact h2 hk.2.1.symm
 ·rintro rfl;rw[b1] at hk;simp at hk;exact h3 hk.2.1.symm
theorem rd_of_block{w:World}{k n:Nat}{l:List UInt8}{u8:TypeId}(h:w.heap[k]?=some (.cells (bts l).toArray u8 (0,0)))(hn:l.length=n):Rd w (.slice (some ⟨k,0,none⟩) n n) l:=by
 subst hn
 exact Own.rd (F:=fun _=>True) (u8:=u8) ⟨k,[],trivial,by simp,by simpa using h⟩
theorem JnAt.kind3{w:World}{F:Nat→Prop}{j:JG}{J:Jn}{D:Dk}(h:JnAt w F j J D){k:Nat}{c:Array Value}{t:TypeId}{fr:Nat × Nat}(hk:w.heap[k]?=some (.cells c t fr))(h1:t≠162)(h2:t≠158)(h3:t≠34):k∉[j.jb,j.d.db,j.d.mb]:=by
 have:=h.kind hk h1 h2 h3
 simp only[JG.all,List.mem_cons,List.not_mem_nil,or_false,not_or] at this ⊢
 exact⟨this.1,this.2.2.1,this.2.2.2.2⟩
theorem JnAt.kind4{w:World}{F:Nat→Prop}{j:JG}{J:Jn}{D:Dk}(h:JnAt w F j J D){k:Nat}{c:Array Value}{t:TypeId}{fr:Nat × Nat}(hk:w.heap[k]?=some (.cells c t fr))(h1:t≠162)(h2:t≠158)(h3:t≠34):k∉[j.jb,j.d.db,j.d.lb,j.d.mb]:=by
 have:=h.kind hk h1 h2 h3
 simp only[JG.all,List.mem_cons,List.not_mem_nil,or_false,not_or] at this ⊢
 exact⟨this.1,this.2.2.1,this.2.2.2.1,this.2.2.2.2⟩
theorem JnAt.cleared{w:World}{F:Nat→Prop}{j:JG}{J:Jn}{D:Dk}(h:JnAt w F j J D) :
  ∃W,(∀ty,(Builtin.clear_ #[99] ty #[.map (some j.ab)]).run Tryz.prog w=.ok (.tuple #[]) W)∧JnAt W F j { J with away:=fun _=>none } D∧Upd [j.ab] w W:=by
 obtain⟨f,hm,_⟩:=h.away
 obtain⟨o,hclr,hmap⟩:=hm.clear (P:=Tryz.prog) (T:=99) Tryz.underlying99 0
 obtain⟨⟨fv,a1,_⟩,⟨lv,b1,_⟩,_,_⟩:=h.disk
 have ok:=h.ok
 exact⟨_,fun _=>hclr,⟨h.disk.world (setBlock_ne _ (hm.not_cells a1)) (setBlock_ne _ (hm.not_cells b1)) (setBlock_ne _ (Ne.symm h.ne)) (fun k c _ hk=>setBlock_ne _ (hm.not_cells hk)),(setBlock_ne _ (hm.not_cells h.st)).trans h.st,⟨_,hmap,by simp,by simp⟩,h.ne,⟨ok.ring0,ok.ring1,ok.fits,ok.lplace,ok.place,ok.num0,ok.num1,ok.lturn0,ok.turn0,ok.turn1,ok.used,by simp⟩⟩,(Upd.refl _ _).setBlock _ (.inl (by simp))⟩
theorem cellOf{w:World}{b:Nat}{c:Array Value}{e:TypeId}{f:Nat × Nat}(h:w.heap[b]?=some (.cells c e f))(o:Nat):w.cell? ⟨b,o,none⟩=c[o]?:=blk_cell h o
theorem JnAt.cell6{w:World}{F:Nat→Prop}{j:JG}{J:Jn}{D:Dk}(h:JnAt w F j J D):w.cell? ⟨j.jb,6,none⟩=some (.int .i64 (J.last.ring:Int)):=by rw[blk_cell h.st];simp
theorem JnAt.cell10{w:World}{F:Nat→Prop}{j:JG}{J:Jn}{D:Dk}(h:JnAt w F j J D):w.cell? ⟨j.jb,10,none⟩=some (.map (some j.ab)):=by rw[blk_cell h.st];simp
set_option maxHeartbeats 1600000 in
theorem settle_spec{w:World}{F:Nat→Prop}{j:JG}{J:Jn}{D:Dk}(h:JnAt w F j J D)(hnum:J.last.number<4611686018427387904) :
  Calls Tryz.prog 87 #[.pointer (some ⟨j.jb,0,none⟩)] w fun e w'=>e=.returned (.int .i64 (J.settleD D).2)∧JnAt w' (Gr F w.heap.size) j (J.settle D) (J.settleD D).1∧Upd j.all w w':=by
 have H:=Lib.hid h
 have hr0:=h.ok.ring0
 have hr1:=h.ok.ring1
 have hn1:=h.disk.ok.n1
 have hfit:=h.ok.fits
 have hc:=blk_cell h.st
 obtain⟨f,hf,hf1,hf2⟩:=h.away
 obtain⟨hk1,hk2⟩:=JnAt.keysF_eq h.ok hf1 hf2
 have cS:=sorted_call hf (J.homes D.n) (by unfold Jn.homes;omega) hk2
 rw[hk1] at cS
 have CS:=Lib.hid cS
 have HNUM:=Lib.hid hnum
 have hkl:(J.keys D.n).length≤4096:=by
  unfold Jn.keys
  refine Nat.le_trans (List.length_filter_le _ _) ?_
  rw[List.length_range];unfold Jn.homes;omega
 clear h hf hf1 hf2 hk1 hk2 cS hnum
 go_enter Tryz.func87,Tryz.ntmps87
 go_wp2_with (first | (go_at_call 46;refine(keys_call _ _).mono ?_;rintro e w' ⟨rfl,rfl⟩) | fail)
 refine CS.out.mono ?_
 rintro e w1 ⟨vw,rfl,hrow,hu1⟩
 have hJ1:=H.out.below hu1
 have hrl:RdL w1 j.all vw ((J.keys D.n).map fun i:Nat=> .int .i64 (i:Int)):=by
  refine RdL.of_row (by simpa using hrow) (fun k c hk=>hJ1.kind hk (by decide) (by decide) (by decide))
 obtain⟨aw,capw,rfl,hcapw,_⟩:=id hrl
 simp only[List.length_map] at hrl hrow ⊢
 have HRL:=Lib.hid hrl
 have HJ1:=Lib.hid hJ1
 have HU1:=Lib.hid hu1
 clear hrl hJ1 hu1 hrow hcapw hc
 go_wp2_with fail
 go_loopw [17] (fun i wr=>∃k D',k≤(J.keys D.n).length∧i=.int .i64 (k:Int)∧JnAt wr (Gr F w.heap.size) j J D'∧homeL J D (J.keys D.n)=homeL J D' ((J.keys D.n).drop k)∧Upd j.all w1 wr) (fun i _=>(J.keys D.n).length-(intOf i).toNat)
 case atStart=>exact⟨0,D,Nat.zero_le _,rfl,HJ1.out.mono Gr.old,rfl,Upd.refl _ _⟩
 case round=>
  obtain⟨k,D',hk,rfl,hJr,hom,hu⟩:=hrel
  by_cases hlt:k<(J.keys D.n).length
  ·obtain⟨aw',capw',e,_,hh⟩:=HRL.out.upd hu (fun _ h=>h)
   simp only[List.length_map,Value.slice.injEq] at e hh
   obtain⟨rfl,_,rfl⟩:=e
   obtain⟨wb,woff,hwb,rfl,hcw⟩:=hh (by omega)
   have hcell:=hcw k hlt
   rw[List.getElem_map] at hcell
   obtain⟨i,hi⟩:∃i,i=(J.keys D.n)[k]:=⟨_,rfl⟩
   rw[← hi] at hcell
   have him:=List.getElem_mem hlt
   rw[← hi] at him
   unfold Jn.keys at him
   rw[List.mem_filter,List.mem_range] at him
   obtain⟨s,hs⟩:=Option.isSome_iff_exists.1 him.2
   have hih:=him.1
   obtain⟨f,hf,hf1,hf2⟩:=hJr.away
   obtain⟨v,hv⟩:=hf2 i s hs
   obtain⟨_,s',e',o⟩:=hf1 _ _ hv
   rw[Int.toNat_natCast,hs] at e'
   obtain rfl:s=s':=by simpa using e'
   have hfr:MapI wr.drew j.ab f:=hf.world rfl
   have hlk:=hfr.lookup (P:=Tryz.prog) (T:=99) Tryz.underlying99 Tryz.underlying3 (zeroBytes _) (i:Int) false
   rw[hv] at hlk
   simp only[Bool.false_eq_true,if_false,Option.getD_some] at hlk
   have hord:=o.rd
   obtain⟨kx,rest,_,rfl,_⟩:=o
   rw[List.drop_eq_getElem_cons hlt,← hi] at hom
   rw[homeL_cons] at hom
   have hgs:(J.away i).getD []=s:=by rw[hs];rfl
   rw[hgs] at hom
   have hx:((2+J.last.ring+i:Nat):Int)=2+(J.last.ring:Int)+(i:Int):=by omega
   rw[hx] at hom
   have hcW:=blk_cell hJr.st
   have hjlt:=hJr.lt.1
   have cw6:wr.cell? ⟨j.jb,6,none⟩=some (.int .i64 (J.last.ring:Int)):=by rw[hcW];rfl
   have cw10:wr.cell? ⟨j.jb,10,none⟩=some (.map (some j.ab)):=by rw[hcW];rfl
   have HW:=fun(W:World) (hW:W.heap=wr.heap) (hWu:Upd [] wr W)=>Lib.hid (writeJ_spec (w:=W) (hJr.below hWu) (2+(J.last.ring:Int)+(i:Int)) (.slice (some ⟨kx,0,none⟩) s.length (s.length+rest.length)) s (hord.below hWu))
   have HN':=Lib.hid (Dk.write_n D' (2+(J.last.ring:Int)+(i:Int)) s)
   have HOM:=Lib.hid hom
   have HU:=Lib.hid hu
   unfold Jn.homes at hih
   clear hcw hi him hs hf hf1 hf2 hv e' hfr hord hgs hx hom hu hJr hcW hh
   go_wp2_with fail
   have hw1:IntKind.i64.wrap (2+(J.last.ring:Int))=2+(J.last.ring:Int):=IntWalk.i64_in _ (by omega)
   have hw2:IntKind.i64.wrap (2+(J.last.ring:Int)+(i:Int))=2+(J.last.ring:Int)+(i:Int):=IntWalk.i64_in _ (by omega)
   go_region_held3 (fun w'=>w'.cell? ⟨j.jb,6,none⟩=some (.int .i64 (J.last.ring:Int))∧w'.cell? ⟨j.jb,10,none⟩=some (.map (some j.ab))) (go_keep)
    (first | (go_at_call 102;(with_reducible refine(HW _ ?_ ?_).out.mono ?_);rfl;exact(Upd.refl _ _).drew;rintro e w2 ⟨rfl,hJ2,hu2⟩;have HJ2:=Lib.hid hJ2;have HU2:=Lib.hid hu2;have c6:w2.cell? ⟨j.jb,6,none⟩=some (.int .i64 (J.last.ring:Int)):=hJ2.cell6;have c10:w2.cell? ⟨j.jb,10,none⟩=some (.map (some j.ab)):=hJ2.cell10;clear hJ2 hu2))
   clear hw1 hw2 hlk c6 c10 cw6 cw10
   have hU2:Upd j.all w1 w2:=(HU.out.drew).trans (HU2.out.mono (by simp[JG.all]))
   have HU3:=Lib.hid hU2
   clear hU2
   generalize hW:D'.write (2+(J.last.ring:Int)+(i:Int)) s=R at *
   obtain⟨D2,e2⟩:=R
   simp only at HJ2 HOM HN' ⊢
   have HWQ:=Lib.hid hW
   clear hW
   by_cases he:e2=0
   ·subst he
    go_wp2
    go_roundw
    case rel=>
     refine⟨k+1,D2,by omega,by go_num,?_,?_,HU3.out⟩
     ·have:=HJ2.out
      rw[Jn.hear_zero] at this
      exact this.mono (Gr.gr2 (Nat.le_trans HU1.out.size HU.out.size))
     ·have:=HOM.out
      rw[if_neg (by simp)] at this
      exact this
    case measure=>simp[intOf];omega
   ·have hb:(e2 != 0)=true:=by simpa using he
    have hset:J.settleD D=(D2,e2)∧J.settle D=J.hear e2:=by
     have h1:homeL J D (J.keys D.n)=(D2,e2):=by
      have:=HOM.out
      rw[if_pos he] at this
      exact this
     have h2:J.settleD D=(D2,e2):=by unfold Jn.settleD;rw[h1];simp[he]
     refine⟨h2,?_⟩
     unfold Jn.settle;rw[h2];simp[he]
    have HSET:=Lib.hid hset
    clear hset he
    go_wp2
    go_ret
    rw[HSET.out.1,HSET.out.2]
    exact⟨rfl,HJ2.out.mono (Gr.gr2 (Nat.le_trans HU1.out.size HU.out.size)),(HU1.out.mono (by simp)).trans HU3.out⟩
  ·obtain rfl:k=(J.keys D.n).length:=by omega
   rw[List.drop_length] at hom
   have hom':homeL J D (J.keys D.n)=(D',0):=hom
   have HOM:=Lib.hid hom'
   have HF:=Lib.hid (flushJ_spec hJr)
   have HJR:=Lib.hid hJr
   have HU:=Lib.hid ((HU1.out.mono (by simp)).trans hu)
   have HN1:=Lib.hid (Dk.flush_n D')
   clear hom hom' hJr hu
   go_wp2_with fail
   refine HF.out.mono ?_
   rintro e w2 ⟨rfl,hJ2,hu2⟩
   have HU2:=Lib.hid (HU.out.trans (hu2.mono (by simp[JG.all])))
   have HJ2:=Lib.hid hJ2
   clear hJ2 hu2
   have hsd1:J.settleD D=if D'.flush.2≠0 then D'.flush else if(D'.flush.1.write ((J.last.number+1) % 2) J.next.sector).2≠0 then D'.flush.1.write ((J.last.number+1) % 2) J.next.sector else(D'.flush.1.write ((J.last.number+1) % 2) J.next.sector).1.flush:=by
    unfold Jn.settleD;rw[HOM.out];simp
   have HSD1:=Lib.hid hsd1
   clear hsd1
   generalize hW:D'.flush=R at *
   obtain⟨D2,e2⟩:=R
   simp only at HJ2 HSD1 HN1 ⊢
   clear hW HF
   by_cases he:e2=0
   ·subst he
    have hJ2:=HJ2.out
    rw[Jn.hear_zero] at hJ2
    have HJ2':=Lib.hid hJ2
    have hc2:=blk_cell hJ2.st
    have hn0:=hJ2.ok.num0
    have hwn:IntKind.u64.wrap (J.last.number+1)=J.last.number+1:=u64_wrap_in _ (by omega) (by have:=HNUM.out;omega)
    have hlt2:=hJ2.lt.1
    have k3:w2.cell? ⟨j.jb,3,none⟩=some (.int .u64 J.last.number):=by rw[hc2];simp
    have k6:=hJ2.cell6
    have k7:w2.cell? ⟨j.jb,7,none⟩=some (.int .u64 J.turn):=by rw[hc2];simp
    have k8:w2.cell? ⟨j.jb,8,none⟩=some (.int .i64 (J.place:Int)):=by rw[hc2];simp
    clear hJ2 HJ2 hc2
    go_wp2_with fail
    go_region_held3 (fun w'=>w'.cell? ⟨j.jb,3,none⟩=some (.int .u64 J.last.number)∧w'.cell? ⟨j.jb,6,none⟩=some (.int .i64 (J.last.ring:Int))∧w'.cell? ⟨j.jb,7,none⟩=some (.int .u64 J.turn)∧w'.cell? ⟨j.jb,8,none⟩=some (.int .i64 (J.place:Int))) (go_keep) (first | fail)
    go_wp2_with fail
    have hWu:Upd [] w2 (w2.alloc (.cells #[.int .u64 (J.last.number+1),.int .u64 J.turn,.int .i64 (J.place:Int),.int .i64 (J.last.ring:Int)] 160)).drew:=((Upd.refl _ _).alloc _).drew
    have hWb:(w2.alloc (.cells #[.int .u64 (J.last.number+1),.int .u64 J.turn,.int .i64 (J.place:Int),.int .i64 (J.last.ring:Int)] 160)).drew.heap[w2.heap.size]?=some (.cells #[.int .u64 (J.last.number+1),.int .u64 J.turn,.int .i64 (J.place:Int),.int .i64 (J.last.ring:Int)] 160 (0,0)):=blk_alloc _
    generalize (w2.alloc (.cells #[.int .u64 (J.last.number+1),.int .u64 J.turn,.int .i64 (J.place:Int),.int .i64 (J.last.ring:Int)] 160)).drew=W at hWu hWb ⊢
    have hsec:=sector_spec J.next W.drew (by have:=HJ2'.out.ok.place;show J.place<_;omega) (by show J.last.ring<_;omega) (by show 0≤J.last.number+1;omega) (by have:=HJ2'.out.ok.turn0;show 0≤J.turn;omega)
    simp only[Anc.val,Jn.next] at hsec
    have HSEC:=Lib.hid hsec
    have HJW:=Lib.hid (HJ2'.out.below hWu)
    have q0:W.cell? ⟨w2.heap.size,0,none⟩=some (.int .u64 (J.last.number+1)):=by rw[blk_cell hWb];simp
    have q1:W.cell? ⟨w2.heap.size,1,none⟩=some (.int .u64 J.turn):=by rw[blk_cell hWb];simp
    have q2:W.cell? ⟨w2.heap.size,2,none⟩=some (.int .i64 (J.place:Int)):=by rw[blk_cell hWb];simp
    have q3:W.cell? ⟨w2.heap.size,3,none⟩=some (.int .i64 (J.last.ring:Int)):=by rw[blk_cell hWb];simp
    have hand:=and_one_u64 (J.last.number+1) (by omega) (by have:=HNUM.out;omega)
    have hcv:IntKind.i64.wrap ((J.last.number+1) % 2)=(J.last.number+1) % 2:=IntWalk.i64_in _ (by omega)
    have HWU:=Lib.hid hWu
    have HWB:=Lib.hid hWb
    clear hsec hWu hWb k3 k6 k7 k8 hwn
    go_region_held3 (fun w'=>w'.cell? ⟨w2.heap.size,0,none⟩=some (.int .u64 (J.last.number+1))∧w'.cell? ⟨w2.heap.size,1,none⟩=some (.int .u64 J.turn)∧w'.cell? ⟨w2.heap.size,2,none⟩=some (.int .i64 (J.place:Int))∧w'.cell? ⟨w2.heap.size,3,none⟩=some (.int .i64 (J.last.ring:Int))) (go_keep)
     (first
      | (go_at_call 123;(with_reducible refine HSEC.out.mono ?_);rintro e w3 ⟨rfl,hs3,hu3⟩;have HS3:=Lib.hid hs3;have HU3:=Lib.hid hu3;have HJ3:=Lib.hid ((HJW.out.below (Upd.refl _ _).drew).below hu3);have HB3:Hid (w3.heap[w2.heap.size]?=_):=(hu3.block _ (blk_lt HWB.out) (by simp)).trans HWB.out;have p0:=cellOf HB3.out 0;have p1:=cellOf HB3.out 1;have p2:=cellOf HB3.out 2;have p3:=cellOf HB3.out 3;simp only[List.getElem?_toArray,List.getElem?_cons_zero,List.getElem?_cons_succ] at p0 p1 p2 p3;clear hs3 hu3)
      | (go_at_call 102;(with_reducible refine(writeJ_spec HJ3.out _ _ J.next.sector ?_).mono ?_);exact rd_of_block HS3.out (Anc.sector_length _);rintro e w4 ⟨rfl,hJ4,hu4⟩;have HJ4:=Lib.hid hJ4;have HU4:=Lib.hid hu4;have HB4:Hid (w4.heap[w2.heap.size]?=_):=(hu4.block _ (blk_lt HB3.out) (HJ3.out.kind3 HB3.out (by decide) (by decide) (by decide))).trans HB3.out;have p0':=cellOf HB4.out 0;have p1':=cellOf HB4.out 1;have p2':=cellOf HB4.out 2;have p3':=cellOf HB4.out 3;simp only[List.getElem?_toArray,List.getElem?_cons_zero,List.getElem?_cons_succ] at p0' p1' p2' p3';clear hJ4 hu4))
    clear hand hcv q0 q1 q2 q3 p0 p1 p2 p3 p0' p1' p2' p3' HSEC
    have hUa:Upd j.all w w4:=((HU2.out.trans (HWU.out.mono (by simp))).drew.trans (HU3.out.mono (by simp))).trans (HU4.out.mono (by simp[JG.all]))
    have HUA:=Lib.hid hUa
    have hsz:w.heap.size≤w3.heap.size:=Nat.le_trans (Nat.le_trans HU2.out.size HWU.out.size) HU3.out.size
    have hJ4:=HJ4.out.mono (Gr.gr2 hsz)
    have HJ4':=Lib.hid hJ4
    clear hUa hJ4 HJ4 hsz
    generalize hWr:D2.write ((J.last.number+1) % 2) J.next.sector=R at *
    obtain⟨D3,e3⟩:=R
    simp only at HJ4' HSD1 ⊢
    clear hWr
    by_cases he3:e3=0
    ·subst he3
     have hJ4:=HJ4'.out
     rw[Jn.hear_zero] at hJ4
     have HF:=Lib.hid (flushJ_spec hJ4)
     have HJ4:=Lib.hid hJ4
     clear hJ4 HJ4'
     go_wp2_with fail
     refine HF.out.mono ?_
     rintro e w5 ⟨rfl,hJ5,hu5⟩
     have HU5:=Lib.hid hu5
     have HJ5:=Lib.hid hJ5
     have hB5:w5.heap[w2.heap.size]?=_:=(hu5.block _ (blk_lt HB4.out) (HJ4.out.kind4 HB4.out (by decide) (by decide) (by decide))).trans HB4.out
     have HB5:=Lib.hid hB5
     clear hJ5 hu5 HF
     generalize hWf:D3.flush=R at *
     obtain⟨D4,e4⟩:=R
     simp only at HJ5 HSD1 ⊢
     clear hWf
     by_cases he4:e4=0
     ·subst he4
      have hJ5:=HJ5.out
      rw[Jn.hear_zero] at hJ5
      have HJ5':=Lib.hid hJ5
      have hcA:=blk_cell hB5
      have hcJ:=blk_cell hJ5.st
      have hfJ:=blk_free hJ5.st
      have hlt5:=hJ5.lt.1
      have hne5:j.jb≠w2.heap.size:=by omega
      clear hJ5 HJ5 hB5
      have hW6:∀W,W=((((((w5.setCell ⟨j.jb,3,none⟩ (.int .u64 (J.last.number+1))).setCell ⟨j.jb,4,none⟩ (.int .u64 J.turn)).setCell ⟨j.jb,5,none⟩ (.int .i64 (J.place:Int))).setCell ⟨j.jb,6,none⟩ (.int .i64 (J.last.ring:Int))).setCell ⟨j.jb,9,none⟩ (.int .i64 0)))→JnAt W (Gr F w.heap.size) j { J with last:=J.next,used:=0 } D4∧Upd [j.jb] w5 W:=by
       rintro W rfl
       refine⟨HJ5'.out.re ?_ (fun k _ hk=>by rw[blk_set_ne _ _ hk,blk_set_ne _ _ hk,blk_set_ne _ _ hk,blk_set_ne _ _ hk,blk_set_ne _ _ hk]) rfl ?_,?_⟩
       ·rw[blk_set (blk_set (blk_set (blk_set (blk_set HJ5'.out.st 3 _) 4 _) 5 _) 6 _) 9 _];simp[Jn.next]
       ·have ok:=HJ5'.out.ok
        exact⟨ok.ring0,ok.ring1,ok.fits,ok.place,ok.place,by have:=ok.num0;show 1≤J.last.number+1;omega,by have:=HNUM.out;show J.last.number+1<_;omega,ok.turn0,ok.turn0,ok.turn1,by simp,ok.away⟩
       ·exact(((((Upd.refl _ _).set _ (.inl (by simp))).set _ (.inl (by simp))).set _ (.inl (by simp))).set _ (.inl (by simp))).set _ (.inl (by simp))
      have HW6:=Lib.hid hW6
      clear hW6
      go_upto_region 19 with(fail)
      have h6:=HW6.out _ rfl
      generalize ((((((w5.setCell ⟨j.jb,3,none⟩ (.int .u64 (J.last.number+1))).setCell ⟨j.jb,4,none⟩ (.int .u64 J.turn)).setCell ⟨j.jb,5,none⟩ (.int .i64 (J.place:Int))).setCell ⟨j.jb,6,none⟩ (.int .i64 (J.last.ring:Int))).setCell ⟨j.jb,9,none⟩ (.int .i64 0)))=W6 at h6 ⊢
      obtain⟨W7,hclr,hJ7,hu7⟩:=h6.1.cleared
      have hc6:=blk_cell h6.1.st
      have HJ7:=Lib.hid hJ7
      have HU7:=Lib.hid hu7
      have HU6:=Lib.hid h6.2
      have hset:J.settleD D=(D4,0)∧J.settle D=J.settled:=by
       have h2:J.settleD D=(D4,0):=by have:=HSD1.out;rw[if_neg (by simp),if_neg (by simp)] at this;exact this
       refine⟨h2,?_⟩
       unfold Jn.settle;rw[h2];simp
      have HSET:=Lib.hid hset
      clear hset hJ7 hu7 h6 hcA hcJ hfJ
      go_wp2
      go_ret
      rw[HSET.out.1,HSET.out.2]
      exact⟨rfl,HJ7.out,((HUA.out.trans (HU5.out.mono (by simp[JG.all]))).trans (HU6.out.mono (by simp[JG.all]))).trans (HU7.out.mono (by simp[JG.all]))⟩
     ·have hb:(e4 != 0)=true:=by simpa using he4
      have hset:J.settleD D=(D4,e4)∧J.settle D=J.hear e4:=by
       have h2:J.settleD D=(D4,e4):=by have:=HSD1.out;rw[if_neg (by simp),if_neg (by simp)] at this;exact this
       refine⟨h2,?_⟩
       unfold Jn.settle;rw[h2];simp[he4]
      have HSET:=Lib.hid hset
      clear hset he4 hB5
      go_wp2
      go_ret
      rw[HSET.out.1,HSET.out.2]
      exact⟨rfl,HJ5.out,HUA.out.trans (HU5.out.mono (by simp[JG.all]))⟩
    ·have hb:(e3 != 0)=true:=by simpa using he3
     have hset:J.settleD D=(D3,e3)∧J.settle D=J.hear e3:=by
      have h2:J.settleD D=(D3,e3):=by have:=HSD1.out;rw[if_neg (by simp),if_pos he3] at this;exact this
      refine⟨h2,?_⟩
      unfold Jn.settle;rw[h2];simp[he3]
     have HSET:=Lib.hid hset
     clear hset he3
     go_wp2
     go_ret
     rw[HSET.out.1,HSET.out.2]
     exact⟨rfl,HJ4'.out,HUA.out⟩
   ·have hb:(e2 != 0)=true:=by simpa using he
    have hset:J.settleD D=(D2,e2)∧J.settle D=J.hear e2:=by
     have h2:J.settleD D=(D2,e2):=by have:=HSD1.out;rw[if_pos he] at this;exact this
     refine⟨h2,?_⟩
     unfold Jn.settle;rw[h2];simp[he]
    have HSET:=Lib.hid hset
    clear hset he
    go_wp2
    go_ret
    rw[HSET.out.1,HSET.out.2]
    exact⟨rfl,HJ2.out,HU2.out⟩
end Go.Proofs.YtplppdbdfhkljaaGreat
namespace Go.Proofs.YtplppdbdfhkljaaGreat
open Go.RowKit
def Jn.ckD(J:Jn)(D:Dk):Dk × Int:=
 if J.may D≠0 then(D,8) else if J.keys D.n=[] then(D,0) else if 4611686018427387904≤J.last.number then(D,7) else J.settleD D
def Jn.ck(J:Jn)(D:Dk):Jn:=
 if J.may D≠0 then J else if J.keys D.n=[] then J else if 4611686018427387904≤J.last.number then J else J.settle D
theorem JnAt.len{w:World}{F:Nat→Prop}{j:JG}{J:Jn}{D:Dk}(h:JnAt w F j J D) :
  ∃L:Nat,(∀ty n,(Builtin.len_ #[99] ty #[.map (some j.ab)]).run Tryz.prog (w.drewN n)=.ok (goInt (L:Int)) (w.drewN n))∧(L=0↔J.keys D.n=[])∧L≤4096:=by
 obtain⟨f,hf,hf1,hf2⟩:=h.away
 obtain⟨hk1,hk2⟩:=JnAt.keysF_eq h.ok hf1 hf2
 obtain⟨ks,hnd,hmem,hrun⟩:=hf.keys (P:=Tryz.prog) (T:=99) Tryz.underlying99 0
 have hle:ks.length≤J.homes D.n:=nodup_lt _ ks hnd (fun k hk=>by obtain⟨v,hv⟩:=Option.isSome_iff_exists.1 ((hmem k).1 hk);exact hk2 k v hv)
 refine⟨ks.length,fun ty n=>?_,?_,by have:=h.disk.ok.n1;unfold Jn.homes at hle;omega⟩
 ·obtain⟨es,clock,hb,_⟩:=hf
  have h1:(Builtin.len_ #[99] 0 #[.map (some j.ab)]).run Tryz.prog w=.ok (goInt es.size) w:=by
   simp[Builtin.len_,run_underlying Tryz.underlying99,MapKept.run_getObj_map hb,Result.andThen]
  have hb':(w.drewN n).heap[j.ab]?=some (.map es clock):=hb
  have h2:(Builtin.len_ #[99] ty #[.map (some j.ab)]).run Tryz.prog (w.drewN n)=.ok (goInt es.size) (w.drewN n):=by
   simp[Builtin.len_,run_underlying Tryz.underlying99,MapKept.run_getObj_map hb',Result.andThen]
  rw[h1] at hrun
  have e:goInt es.size=goInt ks.length:=by simpa using hrun
  rw[h2,e]
 ·rw[← hk1]
  constructor
  ·intro h0
   have hk0:ks=[]:=List.eq_nil_of_length_eq_zero h0
   unfold keysF
   rw[List.filter_eq_nil_iff]
   intro i _ hi
   have:=(hmem (i:Int)).2 hi
   rw[hk0] at this;simp at this
  ·intro h0
   cases hks:ks with
   | nil=>rfl
   | cons k rest=>
    exfalso
    have hk:=(hmem k).1 (by rw[hks];simp)
    obtain⟨v,hv⟩:=Option.isSome_iff_exists.1 hk
    have hr:=hk2 k v hv
    have:k.toNat∈keysF f (J.homes D.n):=by
     unfold keysF
     rw[List.mem_filter,List.mem_range]
     refine⟨by omega,?_⟩
     rw[Int.toNat_of_nonneg hr.1];exact hk
    rw[h0] at this;simp at this
set_option maxHeartbeats 800000 in
theorem ck_spec{w:World}{F:Nat→Prop}{j:JG}{J:Jn}{D:Dk}(h:JnAt w F j J D) :
  Calls Tryz.prog 101 #[.pointer (some ⟨j.jb,0,none⟩)] w fun e w'=>e=.returned (.int .i64 (J.ckD D).2)∧JnAt w' (Gr F w.heap.size) j (J.ck D) (J.ckD D).1∧Upd j.all w w':=by
 have H:=Lib.hid h
 have hc:=blk_cell h.st
 obtain⟨L,hlen,hL,hL2⟩:=h.len
 by_cases hm:J.may D=0
 ·have hb:(J.may D != 0)=false:=by simp[hm]
  by_cases hk:J.keys D.n=[]
  ·have hl0:((L:Int) == 0)=true:=by rw[beq_iff_eq];have:=hL.2 hk;omega
   have HR:Hid (J.ckD D=(D,0)∧J.ck D=J):=by
    show _∧_
    unfold Jn.ckD Jn.ck
    simp[hm,hk]
   clear h hL hm hk
   go_enter Tryz.func101,Tryz.ntmps101
   go_wp2_with (go_at_call 98;refine(mayJ_spec H.out).mono ?_;rintro e w' ⟨rfl,n,rfl⟩)
   go_ret
   rw[HR.out.1,HR.out.2]
   exact⟨rfl,(H.out.drewN _).mono Gr.old,(Upd.refl _ _).drewN _⟩
  ·have hl0:((L:Int) == 0)=false:=by rw[beq_eq_false_iff_ne];intro e;exact hk (hL.1 (by omega))
   by_cases hn:4611686018427387904≤J.last.number
   ·have HR:Hid (J.ckD D=(D,7)∧J.ck D=J):=by
     show _∧_
     unfold Jn.ckD Jn.ck
     simp[hm,hk,hn]
    clear h hL hm hk
    go_enter Tryz.func101,Tryz.ntmps101
    go_wp2_with (go_at_call 98;refine(mayJ_spec H.out).mono ?_;rintro e w' ⟨rfl,n,rfl⟩)
    go_ret
    rw[HR.out.1,HR.out.2]
    exact⟨rfl,(H.out.drewN _).mono Gr.old,(Upd.refl _ _).drewN _⟩
   ·have hn':J.last.number<4611686018427387904:=by omega
    have HR:Hid (J.ckD D=J.settleD D∧J.ck D=J.settle D):=by
     show _∧_
     unfold Jn.ckD Jn.ck
     simp[hm,hk,hn]
    have HS:=fun m=>Lib.hid (settle_spec (H.out.drewN m) hn')
    clear h hL hm hk hn
    go_enter Tryz.func101,Tryz.ntmps101
    go_wp2_with (first | (go_at_call 98;refine(mayJ_spec H.out).mono ?_;rintro e w' ⟨rfl,n,rfl⟩) | (go_at_call 87;refine(HS _).out.mono ?_;rintro e w2 ⟨rfl,hJ2,hu2⟩))
    go_ret
    rw[HR.out.1,HR.out.2]
    exact⟨rfl,hJ2,((Upd.refl _ _).drewN _).trans hu2⟩
 ·have hb:(J.may D != 0)=true:=by simpa using hm
  have HE:=Lib.hid (Jn.may_eq hm)
  have HR:Hid (J.ckD D=(D,8)∧J.ck D=J):=by
   show _∧_
   unfold Jn.ckD Jn.ck
   simp[hm]
  clear h hL hm
  go_enter Tryz.func101,Tryz.ntmps101
  go_wp2_with (go_at_call 98;refine(mayJ_spec H.out).mono ?_;rintro e w' ⟨rfl,n,rfl⟩)
  go_ret
  rw[HR.out.1,HR.out.2]
  exact⟨ret_int HE.out,(H.out.drewN _).mono Gr.old,(Upd.refl _ _).drewN _⟩
end Go.Proofs.YtplppdbdfhkljaaGreat
namespace Go.Proofs.YtplppdbdfhkljaaGreat
open Go.RowKit
def over(l:List UInt8)(a:Nat)(x:List UInt8):List UInt8:=l.take a++(x++l.drop (a+x.length))
theorem over_length{l x:List UInt8}{a:Nat}(h:a+x.length≤l.length):(over l a x).length=l.length:=by simp[over];omega
def hdr0(t:Int)(n:Nat):Sec:=put (tagged (2*t+1)) 8 2 n
def hdrS(h:Sec)(k:Nat)(p:Put):Sec:=over (put h (16+12*k) 4 p.1.toNat) (20+12*k) (p.2.take 8)
def hdrK(t:Int)(l:List Put):Nat→Sec
 | 0=>hdr0 t l.length
 | k+1=>hdrS (hdrK t l k) k (l.getD k (0,[]))
def hdr(t:Int)(l:List Put):Sec:=hdrK t l l.length
def ringSec(t:Int)(b:Sec):Sec:=put b 0 8 (2*t).toNat
theorem hdrK_length{t:Int}{l:List Put}(hl:l.length≤40)(h8:∀p∈l,p.2.length=512):∀k,k≤l.length→(hdrK t l k).length=512
 | 0,_=>put_len (tagged_length _) (by omega)
 | k+1,hk=>by
  have ih:=hdrK_length (t:=t) hl h8 k (by omega)
  unfold hdrK hdrS
  have h1:(put (hdrK t l k) (16+12*k) 4 (l.getD k (0,[])).1.toNat).length=512:=put_len ih (by omega)
  rw[over_length]
  ·exact h1
  ·rw[h1,List.length_take];omega
def comL(J:Jn):Nat→Dk→List Put→Dk × Int
 | _,D,[]=>(D,0)
 | k,D,p :: l=>if(D.write ((J.at (J.place+1+k):Nat):Int) (ringSec J.turn p.2)).2≠0 then D.write ((J.at (J.place+1+k):Nat):Int) (ringSec J.turn p.2) else comL J (k+1) (D.write ((J.at (J.place+1+k):Nat):Int) (ringSec J.turn p.2)).1 l
theorem comL_cons(J:Jn)(k:Nat)(D:Dk)(p:Put)(l:List Put):comL J k D (p :: l)=if(D.write ((J.at (J.place+1+k):Nat):Int) (ringSec J.turn p.2)).2≠0 then D.write ((J.at (J.place+1+k):Nat):Int) (ringSec J.turn p.2) else comL J (k+1) (D.write ((J.at (J.place+1+k):Nat):Int) (ringSec J.turn p.2)).1 l:=rfl
theorem comL_n(J:Jn):∀(l:List Put) (k:Nat) (D:Dk),(comL J k D l).1.n=D.n
 | [],_,D=>rfl
 | p :: l,k,D=>by
  rw[comL_cons];split
  ·exact Dk.write_n _ _ _
  ·rw[comL_n J l];exact Dk.write_n _ _ _
def Jn.putD(J:Jn)(D:Dk)(l:List Put):Dk × Int:=
 let R0:=D.write ((J.at J.place:Nat):Int) zsec
 if R0.2≠0 then R0 else
 let R1:=comL J 0 R0.1 l
 if R1.2≠0 then R1 else
 let R2:=R1.1.flush
 if R2.2≠0 then R2 else
 let R3:=R2.1.write ((J.at J.place:Nat):Int) (hdr J.turn l)
 if R3.2≠0 then R3 else R3.1.flush
def Jn.put(J:Jn)(D:Dk)(l:List Put):Jn:=if(J.putD D l).2≠0 then J.hear (J.putD D l).2 else J.note l
def Jn.tight(J:Jn)(l:List Put):Prop:=(J.last.ring:Int)-(J.used:Int)<(l.length:Int)+1
instance (J:Jn) (l:List Put):Decidable (J.tight l):=inferInstanceAs (Decidable (_<_))
def Jn.comD(J:Jn)(D:Dk)(l:List Put):Dk × Int:=
 if J.may D≠0 then(D,8) else if J.fits D.n l≠0 then(D,J.fits D.n l) else if l=[] then(D,0) else if 4611686018427387903≤J.turn then(D,7)
 else if J.tight l then(if(J.ckD D).2≠0 then J.ckD D else(J.ck D).putD (J.ckD D).1 l) else J.putD D l
def Jn.com(J:Jn)(D:Dk)(l:List Put):Jn:=
 if J.may D≠0 then J else if J.fits D.n l≠0 then J else if l=[] then J else if 4611686018427387903≤J.turn then J
 else if J.tight l then(if(J.ckD D).2≠0 then J.ck D else(J.ck D).put (J.ckD D).1 l) else J.put D l
def ComPost(w:World)(F:Nat→Prop)(j:JG)(J:Jn)(D:Dk)(l:List Put)(e:Ending)(w':World):Prop:=
 e=.returned (.int .i64 (J.comD D l).2)∧JnAt w' (Gr F w.heap.size) j (J.com D l) (J.comD D l).1∧Upd j.all w w'
set_option maxHeartbeats 800000 in
theorem com_dead{w:World}{F:Nat→Prop}{j:JG}{J:Jn}{D:Dk}(h:JnAt w F j J D)(v:Value)(l:List Put)(hm:J.may D≠0) :
  Calls Tryz.prog 47 #[.pointer (some ⟨j.jb,0,none⟩),v] w (ComPost w F j J D l):=by
 have H:=Lib.hid h
 have hb:(J.may D != 0)=true:=by simpa using hm
 have HM:=Lib.hid (Jn.may_eq hm)
 have HR:Hid (J.comD D l=(D,8)∧J.com D l=J):=by show _∧_;unfold Jn.comD Jn.com;simp[hm]
 clear h hm
 go_enter Tryz.func47,Tryz.ntmps47
 go_wp2_with (go_at_call 98;refine(mayJ_spec H.out).mono ?_;rintro e w' ⟨rfl,n,rfl⟩)
 go_ret
 unfold ComPost
 rw[HR.out.1,HR.out.2]
 exact⟨ret_int HM.out,(H.out.drewN _).mono Gr.old,(Upd.refl _ _).drewN _⟩
set_option maxHeartbeats 800000 in
theorem com_bad{w:World}{F:Nat→Prop}{j:JG}{J:Jn}{D:Dk}(h:JnAt w F j J D)(v:Value)(l:List Put)(hp:PutsAt w v l)(hl:l.length≤1000000)(hm:J.may D=0)(hf:J.fits D.n l≠0∨l=[]) :
  Calls Tryz.prog 47 #[.pointer (some ⟨j.jb,0,none⟩),v] w (ComPost w F j J D l):=by
 have H:=Lib.hid h
 have hb:(J.may D != 0)=false:=by simp[hm]
 obtain⟨ao,cap,rfl⟩:=hp.shape
 have HF:=fun n=>Lib.hid (fits_spec (h.drewN n) _ l (hp.below ((Upd.refl _ _).drewN n)) hl)
 by_cases hf1:J.fits D.n l=0
 ·obtain rfl:l=[]:=hf.resolve_left (by simpa using hf1)
  have hb2:(J.fits D.n [] != 0)=false:=by simp[hf1]
  have HR:Hid (J.comD D []=(D,0)∧J.com D []=J):=by show _∧_;unfold Jn.comD Jn.com;simp[hm,hf1]
  have HE:=Lib.hid hf1
  clear h hm hf hf1 hp
  go_enter Tryz.func47,Tryz.ntmps47
  go_wp2_with (first | (go_at_call 98;refine(mayJ_spec H.out).mono ?_;rintro e w' ⟨rfl,n,rfl⟩) | (go_at_call 99;refine(HF _).out.mono ?_;rintro e w2 ⟨rfl,hu2⟩))
  go_ret
  unfold ComPost
  rw[HR.out.1,HR.out.2]
  exact⟨ret_int HE.out,((H.out.drewN _).below hu2).mono Gr.old,(((Upd.refl _ _).drewN _).trans hu2).mono (by simp)⟩
 ·have hb2:(J.fits D.n l != 0)=true:=by simpa using hf1
  have HR:Hid (J.comD D l=(D,J.fits D.n l)∧J.com D l=J):=by show _∧_;unfold Jn.comD Jn.com;simp[hm,hf1]
  clear h hm hf hf1 hp
  go_enter Tryz.func47,Tryz.ntmps47
  go_wp2_with (first | (go_at_call 98;refine(mayJ_spec H.out).mono ?_;rintro e w' ⟨rfl,n,rfl⟩) | (go_at_call 99;refine(HF _).out.mono ?_;rintro e w2 ⟨rfl,hu2⟩))
  go_ret
  unfold ComPost
  rw[HR.out.1,HR.out.2]
  exact⟨rfl,((H.out.drewN _).below hu2).mono Gr.old,(((Upd.refl _ _).drewN _).trans hu2).mono (by simp)⟩
set_option maxHeartbeats 800000 in
theorem com_full{w:World}{F:Nat→Prop}{j:JG}{J:Jn}{D:Dk}(h:JnAt w F j J D)(v:Value)(l:List Put)(hp:PutsAt w v l)(hl:l.length≤1000000)(hm:J.may D=0)(hf:J.fits D.n l=0)(h0:l≠[])(ht:4611686018427387903≤J.turn) :
  Calls Tryz.prog 47 #[.pointer (some ⟨j.jb,0,none⟩),v] w (ComPost w F j J D l):=by
 have H:=Lib.hid h
 have hb:(J.may D != 0)=false:=by simp[hm]
 obtain⟨ao,cap,rfl⟩:=hp.shape
 have HF:=fun n=>Lib.hid (fits_spec (h.drewN n) _ l (hp.below ((Upd.refl _ _).drewN n)) hl)
 have hb2:(J.fits D.n l != 0)=false:=by simp[hf]
 have hl0:0<l.length:=List.length_pos_iff.2 h0
 have hb3:((l.length:Int) == 0)=false:=by rw[beq_eq_false_iff_ne];omega
 have HR:Hid (J.comD D l=(D,7)∧J.com D l=J):=by show _∧_;unfold Jn.comD Jn.com;simp[hm,hf,h0,ht]
 clear h hm hf hp h0
 go_enter Tryz.func47,Tryz.ntmps47
 go_wp2_with (first | (go_at_call 98;refine(mayJ_spec H.out).mono ?_;rintro e w' ⟨rfl,n,rfl⟩) | (go_at_call 99;refine(HF _).out.mono ?_;rintro e w2 ⟨rfl,hu2⟩;have HU2:=Lib.hid hu2;have hc2:=blk_cell ((H.out.drewN n).below hu2).st;clear hu2))
 go_ret
 unfold ComPost
 rw[HR.out.1,HR.out.2]
 exact⟨rfl,((H.out.drewN _).below HU2.out).mono Gr.old,(((Upd.refl _ _).drewN _).trans HU2.out).mono (by simp)⟩
end Go.Proofs.YtplppdbdfhkljaaGreat
namespace Go.Proofs.YtplppdbdfhkljaaGreat
open Go.RowKit
theorem Own.tight{w:World}{u8:TypeId}{F:Nat→Prop}{v:Value}{l:List UInt8}(h:Own w u8 F v l):Own w u8 (fun k=>F k∧k<w.heap.size) v l:=by
 obtain⟨k,r,hF,e,hb⟩:=h
 exact⟨k,r,⟨hF,blk_lt hb⟩,e,hb⟩
theorem DiskAt.tight{w:World}{F:Nat→Prop}{g:DG}{D:Dk}(h:DiskAt w F g D):DiskAt w (fun k=>F k∧k<w.heap.size) g D:=by
 obtain⟨⟨fv,a1,a2⟩,⟨lv,b1,b2,b3⟩,⟨f,c1,c2,c3⟩,d⟩:=h
 refine⟨⟨fv,a1,a2.imp (fun h=>⟨h.1.tight,h.2⟩) id⟩,⟨lv,b1,b2,fun i v hv=>(b3 i v hv).imp id (·.tight)⟩,⟨f,c1,fun k v hk=>?_,c3⟩,d⟩
 obtain⟨k0,s,e,o⟩:=c2 k v hk
 exact⟨k0,s,e,o.tight⟩
theorem WaitM.tight{w:World}{F:Nat→Prop}{mb:Nat}{wt:Nat→Option Sec}(h:WaitM w F mb wt):WaitM w (fun k=>F k∧k<w.heap.size) mb wt:=by
 obtain⟨f,c1,c2,c3⟩:=h
 refine⟨f,c1,fun k v hk=>?_,c3⟩
 obtain⟨k0,s,e,o⟩:=c2 k v hk
 exact⟨k0,s,e,o.tight⟩
theorem JnAt.tight{w:World}{F:Nat→Prop}{j:JG}{J:Jn}{D:Dk}(h:JnAt w F j J D):JnAt w (fun k=>F k∧k<w.heap.size) j J D:=
 ⟨h.disk.tight,h.st,h.away.tight,h.ne,h.ok⟩
theorem JnAt.upd{w w':World}{F:Nat→Prop}{j:JG}{J:Jn}{D:Dk}(h:JnAt w F j J D){S:List Nat}(hu:Upd S w w')(h1:∀k,k∈S→k∉j.all)(h2:∀k,k∈S→¬F k):JnAt w' F j J D:=by
 have hb:∀k,k∈j.all→k∉S:=fun k hk hs=>h1 k hs hk
 exact h.world (hu.block _ h.lt.1 (hb _ (by simp[JG.all]))) (hu.block _ h.lt.2 (hb _ (by simp[JG.all]))) (hu.block _ h.disk.lt.1 (hb _ (by simp[JG.all]))) (hu.block _ h.disk.lt.2.1 (hb _ (by simp[JG.all]))) (hu.block _ h.disk.lt.2.2 (hb _ (by simp[JG.all])))
  (fun k c hF hk=>hu.block _ (blk_lt hk) (fun hs=>h2 k hs hF))
theorem JnAt.cellB{w:World}{F:Nat→Prop}{j:JG}{J:Jn}{D:Dk}(h:JnAt w F j J D){b o:Nat}{c:UInt8}(hc:w.cell? ⟨b,o,none⟩=some (bv c)):b∉j.all:=by
 have hd:=h.disk.cell hc
 simp only[JG.all,List.mem_cons,List.not_mem_nil,or_false,not_or] at hd ⊢
 refine⟨?_,?_,hd.1,hd.2.1,hd.2.2⟩
 ·rintro rfl
  rw[blk_cell h.st] at hc
  match o,hc with
  | 0,hc | 1,hc | 2,hc | 3,hc | 4,hc | 5,hc | 6,hc | 7,hc | 8,hc | 9,hc | 10,hc=>simp[bv] at hc
  | o+11,hc=>simp at hc
 ·rintro rfl
  obtain⟨f,hf,_⟩:=h.away
  obtain⟨es,clock,hm,_⟩:=hf
  simp[World.cell?,hm] at hc
theorem PutsAt.jn{w w':World}{F:Nat→Prop}{j:JG}{J:Jn}{D:Dk}(h:JnAt w F j J D){v:Value}{l:List Put}(hp:PutsAt w v l){S:List Nat}(hu:Upd S w w')(hS:∀k,k∈S→k∈j.all):PutsAt w' v l:=
 hp.world hu (fun _ _ hk e=>h.kind e (by decide) (by decide) (by decide) (hS _ hk)) (fun _ _ _ hk e=>h.cellB e (hS _ hk))
theorem step_append_run{P:Program}{ops:Array Oper}{o:Oper}{a:Act}{w:World}{K:Act→World→Prop}{Q:Exit→Act→World→Prop}{E:Prop}(hgd:o.guard=none)(s x:Operand)(T:TypeId)
  (ho:o.op=.call { callee:=.builtin .append,args:=#[s,x],argTypes:=#[T,T] }) {vs vx v':Value} {w':World} (hs:a.eval s=vs) (hx:a.eval x=vx)
  (hrun:∀ty,(Builtin.append_ #[T,T] ty #[vs,vx]).run P w=.ok v' w') (h:K (a.put o.dst v') w'):if Region.wanted o (yielded ops a.tmps)=true then Oper.wp P o a w K Q else E:=by
 have hw:Region.wanted o (yielded ops a.tmps)=true:=by simp[Region.wanted,hgd]
 rw[if_pos hw]
 unfold Oper.wp execOp
 simp only[ho,resolve,invoke,builtin,Sem.run_bind,Sem.run_pure,Result.andThen_ok,List.map_toArray,List.map_cons,List.map_nil,hs,hx,hrun]
 exact h
theorem infoPut:(Tryz.prog.info? 110).map (fun i=>(i.zero,i.size,i.bytes))=some (some (.agg #[.int .i64 0,.slice none 0 0]),2,32):=by kernel_rfl
end Go.Proofs.YtplppdbdfhkljaaGreat
end
section
namespace Go.Proofs.YtplppdbdfhkljaaGreat
open Go.RowKit
def ComMid(w:World)(F:Nat→Prop)(j:JG)(J:Jn)(D:Dk)(v:Value)(l:List Put)(wx:World):Prop:=
 ∃J' D',JnAt wx (Gr F w.heap.size) j J' D'∧PutsAt wx v l∧Upd j.all w wx∧J.comD D l=J'.putD D' l∧J.com D l=J'.put D' l∧J'.turn=J.turn∧J'.used≤5000∧J'.last.ring=J.last.ring∧D'.n=D.n
theorem JnAt.cell8{w:World}{F:Nat→Prop}{j:JG}{J:Jn}{D:Dk}(h:JnAt w F j J D):w.cell? ⟨j.jb,8,none⟩=some (.int .i64 (J.place:Int)):=by rw[blk_cell h.st];simp
theorem fitsL_in{homes:Nat}:∀{l:List Put} {seen:List Int},fitsL homes seen l=0→∀p∈l,0≤p.1∧p.1<(homes:Int)∧p.2.length=512
 | [],_,_,_,hp=>by simp at hp
 | (i,b) :: l,seen,h,p,hp=>by
  unfold fitsL at h
  split at h
  ·simp at h
  ·rename_i h1
   split at h
   ·simp at h
   ·rename_i h2
    rcases List.mem_cons.1 hp with rfl | hp
    ·exact⟨by show 0≤i;omega,by show i<_;omega,by simpa using h2⟩
    ·exact fitsL_in h p hp
theorem fits_in{J:Jn}{n:Nat}{l:List Put}(h:J.fits n l=0):∀p∈l,0≤p.1∧p.1<(J.homes n:Int)∧p.2.length=512:=by
 unfold Jn.fits at h
 split at h
 ·rename_i q;exact absurd h q
 ·rename_i q;exact fitsL_in (by simpa using q)
theorem lay_specI(ia:Int)(bk len cp a n:Nat)(hia:ia=(a:Int))(v:Int)(l:List UInt8)(w:World)(hb:w.heap[bk]?=some (.cells (bts l).toArray 5 (0,0)))(hv:0≤v)(hlen:l.length=len)(h8:n≤8)(hl:a+n≤len)(hll:len≤1000000) :
  Calls Tryz.prog 105 #[.slice (some ⟨bk,0,none⟩) len cp,.int .i64 ia,.int .u64 v,.int .i64 (n:Int)] w fun e w'=>e=.returned (.tuple #[])∧w'.heap[bk]?=some (.cells (bts (put l a n v.toNat)).toArray 5 (0,0))∧Upd [bk] w w':=by
 subst hia
 have:=lay_spec bk len cp a n v l [] w (by simpa using hb) hv hlen h8 hl hll
 simpa using this
def PutsOwnB(w:World)(B:Nat)(F:Nat→Prop)(v:Value)(l:List Put):Prop:=
 ∃ps:List (Int × Value),w.ownsRow B 110 2 v ps.length (putCells ps)∧ps.length=l.length∧∀(k:Nat) (p:Int × Value),ps[k]?=some p→∃q:Put,l[k]?=some q∧p.1=q.1∧Own w 5 F p.2 q.2
theorem PutsOwnB.own{w:World}{B:Nat}{F:Nat→Prop}{v:Value}{l:List Put}(h:PutsOwnB w B F v l):PutsOwn w F v l:=by
 obtain⟨ps,h1,h2,h3⟩:=h
 refine⟨ps,⟨h1.1,?_⟩,h2,h3⟩
 rcases h1.2 with h | ⟨g,cap,cur,e,hb,r⟩
 ·exact .inl h
 ·exact .inr ⟨g,cap,cur,e,Nat.zero_le _,r⟩
theorem PutsOwnB.keep{w w':World}{B:Nat}{G:Nat→Prop}{v:Value}{l:List Put}(hp:PutsOwnB w B G v l)(h1:∀(k:Nat) (c:Array Value),w.heap[k]?=some (.cells c 110 (0,0))→w'.heap[k]?=w.heap[k]?)(h2:∀(k:Nat) (c:Array Value),G k→w.heap[k]?=some (.cells c 5 (0,0))→w'.heap[k]?=w.heap[k]?):PutsOwnB w' B G v l:=by
 obtain⟨ps,g1,g2,g3⟩:=hp
 refine⟨ps,⟨g1.1,?_⟩,g2,fun k p hp=>?_⟩
 ·rcases g1.2 with h | ⟨g,cap,cur,e,hb,hg,r⟩
  ·exact .inl h
  ·exact .inr ⟨g,cap,cur,e,hb,(h1 g cur hg).trans hg,r⟩
 ·obtain⟨q,a,b,c⟩:=g3 k p hp
  exact⟨q,a,b,c.world h2⟩
theorem PutsOwnB.upd{w w':World}{B:Nat}{G:Nat→Prop}{v:Value}{l:List Put}(hp:PutsOwnB w B G v l){S:List Nat}(hu:Upd S w w')(h1:∀(k:Nat) (c:Array Value),k∈S→w.heap[k]?≠some (.cells c 110 (0,0)))(h2:∀(k:Nat) (c:Array Value),k∈S→G k→w.heap[k]?≠some (.cells c 5 (0,0))):PutsOwnB w' B G v l:=
 hp.keep (fun k c hk=>hu.block _ (blk_lt hk) (fun q=>h1 k c q hk)) (fun k c hG hk=>hu.block _ (blk_lt hk) (fun q=>h2 k c q hG hk))
theorem PutsOwnB.jn{w w':World}{B:Nat}{F G:Nat→Prop}{j:JG}{J:Jn}{D:Dk}(h:JnAt w F j J D){v:Value}{l:List Put}(hp:PutsOwnB w B G v l){S:List Nat}(hu:Upd S w w')(hS:∀k,k∈S→k∈j.all):PutsOwnB w' B G v l:=
 hp.upd hu (fun _ _ hk e=>h.kind e (by decide) (by decide) (by decide) (hS _ hk)) (fun _ _ hk _ e=>h.kind e (by decide) (by decide) (by decide) (hS _ hk))
theorem PutsOwnB.mono{w:World}{B:Nat}{F G:Nat→Prop}{v:Value}{l:List Put}(h:PutsOwnB w B F v l)(hFG:∀k,F k→G k):PutsOwnB w B G v l:=by
 obtain⟨ps,h1,h2,h3⟩:=h
 refine⟨ps,h1,h2,fun k p hp=>?_⟩
 obtain⟨q,a,b,c⟩:=h3 k p hp
 exact⟨q,a,b,c.mono hFG⟩
theorem PutsOwnB.tight{w:World}{B:Nat}{F:Nat→Prop}{v:Value}{l:List Put}(h:PutsOwnB w B F v l):PutsOwnB w B (fun k=>F k∧k<w.heap.size) v l:=by
 obtain⟨ps,h1,h2,h3⟩:=h
 refine⟨ps,h1,h2,fun k p hp=>?_⟩
 obtain⟨q,a,b,c⟩:=h3 k p hp
 exact⟨q,a,b,c.tight⟩
theorem PutsOwnB.append{w:World}{B:Nat}{G:Nat→Prop}{v:Value}{l:List Put}(hp:PutsOwnB w B G v l)(hl:l.length≤100000)(hB:B≤w.heap.size)(nb:Nat)(i:Int)(d:Value)(s:List UInt8)(hnb:w.heap[nb]?=some (.cells #[.int .i64 i,d] 110 (0,0)))(hd:Own w 5 G d s)(hone:d.oneCell'=true) :
  ∃v' w',(∀ty,(Builtin.append_ #[103,103] ty #[v,.slice (some ⟨nb,0,none⟩) 1 1]).run Tryz.prog w=.ok v' w')∧PutsOwnB w' B G v' (l ++ [(i,s)])∧(∀k,k<w.heap.size→(∀c,w.heap[k]?≠some (.cells c 110 (0,0)))→w'.heap[k]?=w.heap[k]?)∧(∀k,k<B→k<w.heap.size→w'.heap[k]?=w.heap[k]?)∧w.grownBy w' v.ownBlock:=by
 obtain⟨ps,g1,g2,g3⟩:=hp
 obtain⟨i0,hi,hz0,hz1,hz2⟩:=info_parts infoPut
 obtain⟨v',w',hrun,hown,hg,_⟩:=run_append_own (P:=Tryz.prog) w B 103 0 110 i0 _ 2 32 Tryz.underlying103 hi hz0 hz1 hz2 rfl (by decide) v ps.length (putCells ps) g1 ⟨nb,0,none⟩ 1 1 [.int .i64 i,d] rfl
  (fun j u hj=>by
   rw[addr_add,blk_cell hnb]
   match j,hj with
   | 0,hj=>simpa using hj
   | 1,hj=>simpa using hj
   | j+2,hj=>simp at hj)
  (fun u hu=>by simp at hu;rcases hu with rfl | rfl;rfl;exact hone) (by unfold maxLen;omega) (by omega) hB
 have hkeep:∀k,k<w.heap.size→(∀c,w.heap[k]?≠some (.cells c 110 (0,0)))→w'.heap[k]?=w.heap[k]?:=by
  intro k hk ht
  refine hg.block k hk fun e=>?_
  rcases g1.2 with⟨rfl,_⟩ | ⟨g,cap,cur,rfl,_,hgb,_⟩
  ·simp[Value.ownBlock] at e
  ·simp[Value.ownBlock] at e;subst e;exact ht _ hgb
 have hlow:∀k,k<B→k<w.heap.size→w'.heap[k]?=w.heap[k]?:=by
  intro k hkB hk
  refine hg.block k hk fun e=>?_
  rcases g1.2 with⟨rfl,_⟩ | ⟨g,cap,cur,rfl,hb,hgb,_⟩
  ·simp[Value.ownBlock] at e
  ·simp[Value.ownBlock] at e;subst e;omega
 have hk2:∀(k:Nat) (c:Array Value),w.heap[k]?=some (.cells c 5 (0,0))→w'.heap[k]?=w.heap[k]?:=fun k c hk=>hkeep k (blk_lt hk) (fun c' e=>by rw[hk] at e;simp at e)
 refine⟨v',w',fun _=>hrun,⟨ps ++ [(i,d)],?_,by simp[g2],?_⟩,hkeep,hlow,hg⟩
 ·rw[putCells_append,List.length_append];exact hown
 ·intro k p hk
  rw[List.getElem?_append] at hk
  split at hk
  ·rename_i hlt
   obtain⟨q,a,b,c⟩:=g3 k p hk
   exact⟨q,by rw[List.getElem?_append_left (by omega)];exact a,b,c.world fun bb cc _ hc=>hk2 bb cc hc⟩
  ·rename_i hge
   have hk0:k-ps.length=0:=by
    have:=(List.getElem?_eq_some_iff.1 hk).1
    simp at this;omega
   rw[hk0] at hk
   simp at hk
   subst hk
   exact⟨(i,s),by rw[List.getElem?_append_right (by omega),← g2,hk0];rfl,rfl,hd.world fun bb cc _ hc=>hk2 bb cc hc⟩
theorem JnAt.kept{w w':World}{F:Nat→Prop}{j:JG}{J:Jn}{D:Dk}(h:JnAt w F j J D)(hk:∀k,k<w.heap.size→(∀c,w.heap[k]?≠some (.cells c 110 (0,0)))→w'.heap[k]?=w.heap[k]?):JnAt w' F j J D:=by
 have hb:∀k,k∈j.all→∀c,w.heap[k]?≠some (.cells c 110 (0,0)):=fun k hk c e=>h.kind e (by decide) (by decide) (by decide) hk
 exact h.world (hk _ h.lt.1 (hb _ (by simp[JG.all]))) (hk _ h.lt.2 (hb _ (by simp[JG.all]))) (hk _ h.disk.lt.1 (hb _ (by simp[JG.all]))) (hk _ h.disk.lt.2.1 (hb _ (by simp[JG.all]))) (hk _ h.disk.lt.2.2 (hb _ (by simp[JG.all])))
  (fun k c _ hc=>hk k (blk_lt hc) (fun c' e=>by rw[hc] at e;simp at e))
theorem Rd.jn{w w':World}{F:Nat→Prop}{j:JG}{J:Jn}{D:Dk}(h:JnAt w F j J D){v:Value}{l:List UInt8}(hr:Rd w v l){S:List Nat}(hu:Upd S w w')(hS:∀k,k∈S→k∈j.all):Rd w' v l:=
 hr.of_block fun b _ _ hc=>hu.block b (block_lt_of_cell hc) (fun q=>h.cellB hc (hS _ q))
theorem PutsAt.getB{w:World}{v:Value}{l:List Put}(h:PutsAt w v l)(k:Nat)(hk:k<l.length) :
  ∃g cap cur da dc,v=.slice (some ⟨g,0,none⟩) l.length cap∧w.heap[g]?=some (.cells cur 110 (0,0))∧cur[k*2]?=some (.int .i64 l[k].1)∧cur[k*2+1]?=some (.slice da l[k].2.length dc)∧Rd w (.slice da l[k].2.length dc) l[k].2:=by
 obtain⟨g,cap,da,dc,e,c1,c2,c3⟩:=h.get k hk
 obtain⟨ps,h1,h2,h3⟩:=h
 rcases h1.2 with⟨rfl,_⟩ | ⟨g',cap',cur,e',_,hg,_⟩
 ·simp at e
 ·have hgg:g'=g:=by rw[e'] at e;simp at e;exact e.1
  subst hgg
  rw[blk_cell hg] at c1 c2
  exact⟨g',cap,cur,da,dc,e,hg,c1,c2,c3⟩
theorem hdr_copy{W:World}{hb k:Nat}{h s:Sec}{ad:Addr}{dc:Nat}(hh:W.heap[hb]?=some (.cells (bts h).toArray 5 (0,0)))(hl:h.length=512)(hk:k<40)(hr:Rd W (.slice (some ad) 512 dc) s)(hs:s.length=512)(n:Nat)(hn:n=492-12*k) :
  ∃W9,(∀ty,(Builtin.copy_ #[34,34] ty #[.slice (some ⟨hb,16+12*k+4,none⟩) n n,.slice (some ad) 8 dc]).run Tryz.prog W=.ok (goInt ((min (s.take 8).length n:Nat):Int)) W9)∧
   W9.heap[hb]?=some (.cells (bts (over h (20+12*k) (s.take 8))).toArray 5 (0,0))∧Upd [hb] W W9:=by
 have h8:(s.take 8).length=8:=by rw[List.length_take];omega
 have hrun:=fun ty=>run_copy_rd (P:=Tryz.prog) (dT:=34) (sT:=34) (ty:=ty) (u8:=5) Tryz.underlying34 sizeU8 hb (16+12*k+4) n n (bts h) hh (by rw[bts_length,hl];omega) (hr.take 8 (by omega))
 refine⟨_,hrun,?_,?_⟩
 ·rw[setRow_heap _ _ _ _ _ _ hh]
  have e1:(s.take 8).take n=s.take 8:=List.take_of_length_le (by omega)
  rw[e1]
  congr 2
  have e2:16+12*k+4=20+12*k:=by omega
  rw[e2]
  unfold over splice
  simp[bts,List.map_drop,List.map_take]
 ·exact⟨rfl,rfl,rfl,by simp,fun q _ hq=>by rw[setRow_other _ _ _ _ (by simpa using hq)]⟩
theorem PutsOwnB.shape3{w:World}{B:Nat}{F:Nat→Prop}{v:Value}{l:List Put}(h:PutsOwnB w B F v l):∃a b c,v=.slice a b c:=by
 obtain⟨ao,cap,e⟩:=h.own.at.shape
 exact⟨_,_,_,e⟩
theorem PutsOwnB.ownlt{w:World}{B:Nat}{F:Nat→Prop}{v:Value}{l:List Put}(h:PutsOwnB w B F v l){q:Nat}(e:v.ownBlock=some q):q<w.heap.size:=by
 obtain⟨ps,h1,_⟩:=h
 rcases h1.2 with⟨rfl,_⟩ | ⟨g,cap,cur,rfl,_,hgb,_⟩
 ·simp[Value.ownBlock] at e
 ·simp[Value.ownBlock] at e;subst e;exact blk_lt hgb
theorem Upd.low{S:List Nat}{a w w':World}(h:Upd S a w)(hl:∀k,k<a.heap.size→w'.heap[k]?=w.heap[k]?)(hr:w.heap.size≤w'.heap.size∧w'.os=w.os∧w'.tape=w.tape∧w'.output=w.output):Upd S a w':=
 ⟨hr.2.1.trans h.os,hr.2.2.1.trans h.tape,hr.2.2.2.trans h.output,Nat.le_trans h.size hr.1,fun k hk hS=>(hl k hk).trans (h.block k hk hS)⟩
theorem app_step{w10 w12:World}{B n0 hb bb:Nat}{F:Nat→Prop}{v:Value}{l:List Put}(hm:PutsOwnB w10 B (fun x=>(Gr F n0 x∧x≠hb)∧x≠bb) v l)(hl:l.length≤100000)(hB:B≤w10.heap.size)(hu:Upd [] w10.drew w12)(i:Int){cb:Nat}{rest2:List Value}{sd:Sec}(hcb:Own w12 5 (fun k=>w10.drew.heap.size≤k) (.slice (some ⟨cb,0,none⟩) sd.length (sd.length+rest2.length)) sd)(hn0:n0≤w10.heap.size)(hhb:hb<w10.heap.size)(hbb:bb<w10.heap.size) :
  ∃v' w14,(∀ty,(Builtin.append_ #[103,103] ty #[v,.slice (some ⟨w12.heap.size,0,none⟩) 1 1]).run Tryz.prog (w12.alloc (.cells #[.int .i64 i,.slice (some ⟨cb,0,none⟩) sd.length (sd.length+rest2.length)] 110))=.ok v' w14)∧PutsOwnB w14 B (fun x=>(Gr F n0 x∧x≠hb)∧x≠bb) v' (l ++ [(i,sd)])∧
   (∀k,k<w10.heap.size→(∀c,w10.heap[k]?≠some (.cells c 110 (0,0)))→w14.heap[k]?=w10.heap[k]?)∧(∀k,k<B→w14.heap[k]?=w10.heap[k]?)∧(∀k,k<w10.heap.size→v.ownBlock≠some k→w14.heap[k]?=w10.heap[k]?)∧w10.heap.size≤w14.heap.size∧w14.os=w10.os∧w14.tape=w10.tape∧w14.output=w10.output:=by
 have hsz:w10.heap.size≤w12.heap.size:=hu.size
 have hua:Upd [] w10.drew (w12.alloc (.cells #[.int .i64 i,.slice (some ⟨cb,0,none⟩) sd.length (sd.length+rest2.length)] 110)):=hu.alloc _
 have hm2:PutsOwnB (w12.alloc (.cells #[.int .i64 i,.slice (some ⟨cb,0,none⟩) sd.length (sd.length+rest2.length)] 110)) B (fun x=>(Gr F n0 x∧x≠hb)∧x≠bb) v l:=
  hm.keep (fun k c hk=>hua.block _ (blk_lt hk) (by simp)) (fun k c _ hk=>hua.block _ (blk_lt hk) (by simp))
 have hcb2:Own (w12.alloc (.cells #[.int .i64 i,.slice (some ⟨cb,0,none⟩) sd.length (sd.length+rest2.length)] 110)) 5 (fun x=>(Gr F n0 x∧x≠hb)∧x≠bb) (.slice (some ⟨cb,0,none⟩) sd.length (sd.length+rest2.length)) sd:=
  (hcb.world (fun k c _ hk=>blk_alloc_ne (blk_lt hk))).mono (fun x (hx:w10.heap.size≤x)=>⟨⟨.inr (by omega),by omega⟩,by omega⟩)
 obtain⟨v',w14,hrun,h1,h2,h3,h4⟩:=hm2.append hl (by simp;omega) w12.heap.size i _ sd (blk_alloc _) hcb2 rfl
 have e10:∀k,k<w10.heap.size→(w12.alloc (.cells #[.int .i64 i,.slice (some ⟨cb,0,none⟩) sd.length (sd.length+rest2.length)] 110)).heap[k]?=w10.heap[k]?:=fun k hk=>hua.block k hk (by simp)
 refine⟨v',w14,hrun,h1,fun k hk hc=>?_,fun k hk=>?_,fun k hk hv=>?_,?_,h4.os.trans hua.os,h4.tape.trans hua.tape,h4.output.trans hua.output⟩
 ·rw[h2 k (by simp;omega) (by rw[e10 k hk];exact hc),e10 k hk]
 ·rw[h3 k hk (by simp;omega),e10 k (by omega)]
 ·rw[h4.block k (by simp;omega) (fun e=>hv e.symm),e10 k hk]
 ·have:=h4.size;simp at this;omega
theorem atP_specI{w:World}{F:Nat→Prop}{j:JG}{J:Jn}{D:Dk}(h:JnAt w F j J D)(ip:Int)(p:Nat)(hip:ip=(p:Int))(hp:p≤100000) :
  Calls Tryz.prog 103 #[.pointer (some ⟨j.jb,0,none⟩),.int .i64 ip] w fun e w'=>e=.returned (.int .i64 (J.at p:Int))∧w=w':=by
 subst hip;exact atP_spec h p hp
def ComRel(F:Nat→Prop)(n0:Nat)(wy:World)(j:JG)(J:Jn)(D1:Dk)(l:List Put)(k:Nat)(m:Value)(wr:World):Prop:=
 ∃Dc,JnAt wr (fun x=>Gr F n0 x∧x≠wy.heap.size) j J Dc∧wr.heap[wy.heap.size]?=some (.cells (bts (hdrK J.turn l k)).toArray 5 (0,0))∧PutsOwnB wr wy.heap.size (fun x=>Gr F n0 x∧x≠wy.heap.size) m (l.take k)∧comL J 0 D1 l=comL J k Dc (l.drop k)∧Upd j.all wy wr
theorem JnAt.cell7{w:World}{F:Nat→Prop}{j:JG}{J:Jn}{D:Dk}(h:JnAt w F j J D):w.cell? ⟨j.jb,7,none⟩=some (.int .u64 J.turn):=by rw[blk_cell h.st];simp
theorem hear_zero(J:Jn):J.hear 0=J:=by
 have:(J.done || ((0:Int) != 0))=J.done:=by rw[show((0:Int) != 0)=false from rfl,Bool.or_false]
 unfold Jn.hear;rw[this]
theorem settleD_n(J:Jn)(D:Dk):(J.settleD D).1.n=D.n:=by
 unfold Jn.settleD
 repeat' split
 ·exact homeL_n J _ D
 ·rw[Dk.flush_n];exact homeL_n J _ D
 ·rw[Dk.write_n,Dk.flush_n];exact homeL_n J _ D
 ·rw[Dk.flush_n,Dk.write_n,Dk.flush_n];exact homeL_n J _ D
theorem ckD_n(J:Jn)(D:Dk):(J.ckD D).1.n=D.n:=by
 unfold Jn.ckD
 repeat' split
 ·rfl
 ·rfl
 ·rfl
 ·exact settleD_n J D
end Go.Proofs.YtplppdbdfhkljaaGreat
end
