/-
  Journal.Read.
-/
import Derived.Test.YtplppdbdfhkljaaGreatA03
set_option maxRecDepth 100000
set_option maxHeartbeats 16000000
section
namespace Go.Proofs.YtplppdbdfhkljaaGreat
open Go.RowKit
def Jn.home(J:Jn)(D:Dk)(i:Nat):Sec:=(J.away i).getD (D.now (2+J.last.ring+i))
def Jn.read(J:Jn)(D:Dk)(i:Int):List UInt8 × Int × Bool:=
 if J.may D≠0 then([],8,J.done)
 else if i<0∨(J.homes D.n:Int)≤i then([],1,J.done)
 else if(J.away i.toNat).isSome then(J.home D i.toNat,0,J.done)
 else if D.off then([],8,true) else(J.home D i.toNat,0,false)
def ReadPost(w:World)(F:Nat→Prop)(j:JG)(J:Jn)(D:Dk)(R:List UInt8 × Int × Bool)(e:Ending)(w':World):Prop:=
 ∃v,e=.returned (.tuple #[v,.int .i64 R.2.1])∧OwnN w' 5 (fun k=>w.heap.size≤k) v R.1∧JnAt w' F j { J with done:=R.2.2 } D∧Upd [j.jb] w w'
theorem Rd.drewN{w:World}{v:Value}{l:List UInt8}(h:Rd w v l)(n:Nat):Rd (w.drewN n) v l:=h.of_block fun _ _ _ _=>rfl
theorem Jn.may_eq{J:Jn}{D:Dk}(h:J.may D≠0):J.may D=8:=by
 unfold Jn.may at *;split
 ·rfl
 ·rename_i q;rw[if_neg q] at h;exact absurd rfl h
set_option maxHeartbeats 400000 in
theorem readJ_dead{w:World}{F:Nat→Prop}{j:JG}{J:Jn}{D:Dk}(h:JnAt w F j J D)(i:Int)(hm:J.may D≠0) :
  Calls Tryz.prog 130 #[.pointer (some ⟨j.jb,0,none⟩),.int .i64 i] w (ReadPost w F j J D ([],8,J.done)):=by
 have H:=Lib.hid h
 have hb:(J.may D != 0)=true:=by simpa using hm
 have HM:=Lib.hid (Jn.may_eq hm)
 clear h hm
 go_enter Tryz.func130,Tryz.ntmps130
 go_wp2_with (go_at_call 98;refine(mayJ_spec H.out).mono ?_;rintro e w' ⟨rfl,n,rfl⟩)
 go_ret2
 exact⟨_,by rw[← HM.out];rfl,.inr ⟨rfl,rfl⟩,H.out.drewN n,(Upd.refl _ _).drewN n⟩
set_option maxHeartbeats 400000 in
theorem readJ_arg{w:World}{F:Nat→Prop}{j:JG}{J:Jn}{D:Dk}(h:JnAt w F j J D)(i:Int)(hm:J.may D=0)(hi:i<0∨(J.homes D.n:Int)≤i) :
  Calls Tryz.prog 130 #[.pointer (some ⟨j.jb,0,none⟩),.int .i64 i] w (ReadPost w F j J D ([],1,J.done)):=by
 have H:=Lib.hid h
 have hb:(J.may D != 0)=false:=by simp[hm]
 clear h hm
 by_cases h0:i<0
 ·clear hi
  go_enter Tryz.func130,Tryz.ntmps130
  go_wp2_with (go_at_call 98;refine(mayJ_spec H.out).mono ?_;rintro e w' ⟨rfl,n,rfl⟩)
  go_ret2
  exact⟨_,rfl,.inr ⟨rfl,rfl⟩,H.out.drewN n,(Upd.refl _ _).drewN n⟩
 ·have h1:(J.homes D.n:Int)≤i:=by omega
  have h0':0≤i:=by omega
  clear hi h0
  go_enter Tryz.func130,Tryz.ntmps130
  go_wp2_with (first | (go_at_call 98;refine(mayJ_spec H.out).mono ?_;rintro e w' ⟨rfl,n,rfl⟩) | (go_at_call 108;refine(homes_spec (H.out.drewN n)).mono ?_;rintro e w' ⟨rfl,m,rfl⟩))
  go_ret2
  exact⟨_,rfl,.inr ⟨rfl,rfl⟩,H.out.drewN _,(Upd.refl _ _).drewN _⟩
set_option maxHeartbeats 400000 in
theorem readJ_away{w:World}{F:Nat→Prop}{j:JG}{J:Jn}{D:Dk}(h:JnAt w F j J D)(i:Nat)(s:Sec)(hm:J.may D=0)(hi:i<J.homes D.n)(hs:J.away i=some s) :
  Calls Tryz.prog 130 #[.pointer (some ⟨j.jb,0,none⟩),.int .i64 (i:Int)] w (ReadPost w F j J D (s,0,J.done)):=by
 have H:=Lib.hid h
 have hb:(J.may D != 0)=false:=by simp[hm]
 have h1:(i:Int)<(J.homes D.n:Int):=by omega
 have hc:=blk_cell h.st
 obtain⟨f,hf,hf1,hf2⟩:=h.away
 obtain⟨v,hv⟩:=hf2 i s hs
 obtain⟨_,s',e',o⟩:=hf1 _ _ hv
 rw[Int.toNat_natCast,hs] at e'
 obtain rfl:s=s':=by simpa using e'
 have hlk:∀n,(Instr.lookup 99 (.map (some j.ab)) (.int .i64 (i:Int)) true).run Tryz.prog (w.drewN n)=.ok (.tuple #[v,.bool true]) (w.drewN n):=by
  intro n
  have hf':MapI (w.drewN n) j.ab f:=hf.world rfl
  have:=hf'.lookup (P:=Tryz.prog) (T:=99) Tryz.underlying99 Tryz.underlying3 (zeroBytes _) (i:Int) true
  rw[hv] at this
  exact this
 have HL:=Lib.hid ((h.ok.away i s hs).2)
 have HR:=Lib.hid o.rd
 clear h hm hf hf1 hf2 hv hs e' o
 go_enter Tryz.func130,Tryz.ntmps130
 go_wp2_with (first | (go_at_call 98;refine(mayJ_spec H.out).mono ?_;rintro e w' ⟨rfl,n,rfl⟩) | (go_at_call 108;refine(homes_spec (H.out.drewN n)).mono ?_;rintro e w' ⟨rfl,m,rfl⟩))
 refine(clone_spec v s _ (HR.out.drewN _) (by rw[HL.out];omega)).mono ?_
 rintro e w2 ⟨v',rfl,hu2,ho2⟩
 have HU2:=Lib.hid hu2
 have HO2:=Lib.hid ho2
 clear hu2 ho2
 go_wp2
 go_ret2
 exact⟨_,rfl,HO2.out,(H.out.drewN _).below HU2.out,(((Upd.refl _ _).drewN _).trans HU2.out).mono (by simp)⟩
theorem readD_ok{w:World}{F:Nat→Prop}{g:DG}{D:Dk}(h:DiskAt w F g D)(i:Int)(hoff:D.off=false)(h0:0≤i)(hi:i<D.n) :
  Calls Tryz.prog 83 #[.pointer (some ⟨g.db,0,none⟩),.int .i64 i] w fun e w'=>e=.returned (.tuple #[.slice (some ⟨w.heap.size,0,none⟩) 512 512,.int .i64 0])∧w.alloc (.cells (bts (D.now i.toNat)).toArray 5)=w':=by
 obtain⟨k,rfl⟩:=Int.eq_ofNat_of_zero_le h0
 exact read_ok h k hoff (by omega)
set_option maxHeartbeats 1000000 in
theorem readJ_disk{w:World}{F:Nat→Prop}{j:JG}{J:Jn}{D:Dk}(h:JnAt w F j J D)(i:Nat)(hm:J.may D=0)(hi:i<J.homes D.n)(hs:J.away i=none)(hoff:D.off=false) :
  Calls Tryz.prog 130 #[.pointer (some ⟨j.jb,0,none⟩),.int .i64 (i:Int)] w (ReadPost w F j J D (D.now (2+J.last.ring+i),0,false)):=by
 have H:=Lib.hid h
 have hb:(J.may D != 0)=false:=by simp[hm]
 have h1:(i:Int)<(J.homes D.n:Int):=by omega
 have hc:=blk_cell h.st
 obtain⟨f,hf,hf1,hf2⟩:=h.away
 have hv:f (i:Int)=none:=by
  cases hq:f (i:Int) with
  | none=>rfl
  | some v=>obtain⟨_,s,e,_⟩:=hf1 _ _ hq;rw[Int.toNat_natCast,hs] at e;simp at e
 have hlk:∀n,(Instr.lookup 99 (.map (some j.ab)) (.int .i64 (i:Int)) true).run Tryz.prog (w.drewN n)=.ok (.tuple #[.slice none 0 0,.bool false]) (w.drewN n):=by
  intro n
  have hf':MapI (w.drewN n) j.ab f:=hf.world rfl
  have:=hf'.lookup (P:=Tryz.prog) (T:=99) Tryz.underlying99 Tryz.underlying3 (zeroBytes _) (i:Int) true
  rw[hv] at this
  exact this
 have hr0:=h.ok.ring0
 have hr1:=h.ok.ring1
 have hfit:=h.ok.fits
 have hn1:=h.disk.ok.n1
 have hin:2+(J.last.ring:Int)+(i:Int)<(D.n:Int):=by unfold Jn.homes at hi;omega
 have HD:=fun W (hW:W.heap=w.heap)=>Lib.hid (readD_ok (w:=W) (h.disk.world (by rw[hW]) (by rw[hW]) (by rw[hW]) (fun _ _ _ _=>by rw[hW])) (2+(J.last.ring:Int)+(i:Int)) hoff (by omega) hin)
 have e1:(2+(J.last.ring:Int)+(i:Int)).toNat=2+J.last.ring+i:=by omega
 rw[e1] at HD
 have hc0:∀n,(w.drewN n).cell? ⟨j.jb,0,none⟩=some (.pointer (some ⟨j.d.db,0,none⟩)):=fun n=>by rw[show(w.drewN n).cell? _=w.cell? _ from rfl,hc];rfl
 have hlt:=h.lt.1
 clear h hm hf hf1 hf2 hv hs e1
 go_enter Tryz.func130,Tryz.ntmps130
 go_wp2_with (first | (go_at_call 98;refine(mayJ_spec H.out).mono ?_;rintro e w' ⟨rfl,n,rfl⟩) | (go_at_call 108;refine(homes_spec (H.out.drewN n)).mono ?_;rintro e w' ⟨rfl,m,rfl⟩))
 have q:Qt w (w.drewN (n+m)):=Qt.of_drewN rfl
 generalize w.drewN (n+m)=W at q ⊢
 have hJW:=H.out.qt q
 have cW:=blk_cell hJW.st
 have cW0:W.cell? ⟨j.jb,0,none⟩=some (.pointer (some ⟨j.d.db,0,none⟩)):=by rw[cW];rfl
 have cW6:W.cell? ⟨j.jb,6,none⟩=some (.int .i64 (J.last.ring:Int)):=by rw[cW];rfl
 have hltW:j.jb<W.heap.size:=hJW.lt.1
 have HQ:=Lib.hid q
 have HJW:=Lib.hid hJW
 have hw1:IntKind.i64.wrap (2+(J.last.ring:Int))=2+(J.last.ring:Int):=IntWalk.i64_in _ (by omega)
 have hw2:IntKind.i64.wrap (2+(J.last.ring:Int)+(i:Int))=2+(J.last.ring:Int)+(i:Int):=IntWalk.i64_in _ (by omega)
 clear q hJW cW hc hc0 hlk hlt hin hfit
 go_region_held3 (fun w'=>w'.cell? ⟨j.jb,0,none⟩=some (.pointer (some ⟨j.d.db,0,none⟩))∧w'.cell? ⟨j.jb,6,none⟩=some (.int .i64 (J.last.ring:Int))) (go_keep)
  (first | (go_at_call 83;(with_reducible refine(HD _ ?_).out.mono ?_);exact HQ.out.heap;rintro e w' ⟨rfl,rfl⟩))
 clear hw1 hw2
 have hJ2:JnAt (W.alloc (.cells (bts (D.now (2+J.last.ring+i))).toArray 5)).drew F j J D:=HJW.out.below ((Upd.refl _ _).alloc _).drew
 have hb2:(W.alloc (.cells (bts (D.now (2+J.last.ring+i))).toArray 5)).drew.heap[W.heap.size]?=some (.cells (bts (D.now (2+J.last.ring+i))).toArray 5 (0,0)):=blk_alloc _
 have hu2:Upd [] W (W.alloc (.cells (bts (D.now (2+J.last.ring+i))).toArray 5)).drew:=((Upd.refl _ _).alloc _).drew
 generalize (W.alloc (.cells (bts (D.now (2+J.last.ring+i))).toArray 5)).drew=W2 at hJ2 hb2 hu2 ⊢
 have c2:=blk_cell hJ2.st
 have f2:=blk_free hJ2.st
 have HJ2:=Lib.hid hJ2
 have HB2:=Lib.hid hb2
 have HU2:=Lib.hid hu2
 clear hJ2 hb2 hu2
 go_wp2
 go_ret2
 have hzz:(D.now (2+J.last.ring+i)).length=512:=by
  unfold Dk.now
  cases hq:D.wait (2+J.last.ring+i) with
  | none=>exact H.out.disk.ok.last _
  | some s=>exact(H.out.disk.ok.wait _ s hq).2
 refine⟨_,rfl,.inl ⟨⟨W.heap.size,[],by rw[HQ.out.heap];exact Nat.le_refl _,by simp[hzz],?_⟩,fun o n c e=>by cases e;unfold maxLen;omega⟩,HJ2.out.done false,?_⟩
 ·rw[blk_set_ne _ _ (by omega),HB2.out];simp
 ·exact((HQ.out.upd.trans HU2.out).mono (by simp)).set _ (.inl (by simp))
set_option maxHeartbeats 1000000 in
theorem readJ_off{w:World}{F:Nat→Prop}{j:JG}{J:Jn}{D:Dk}(h:JnAt w F j J D)(i:Nat)(hm:J.may D=0)(hi:i<J.homes D.n)(hs:J.away i=none)(hoff:D.off=true) :
  Calls Tryz.prog 130 #[.pointer (some ⟨j.jb,0,none⟩),.int .i64 (i:Int)] w (ReadPost w F j J D ([],8,true)):=by
 have H:=Lib.hid h
 have hb:(J.may D != 0)=false:=by simp[hm]
 have h1:(i:Int)<(J.homes D.n:Int):=by omega
 have hc:=blk_cell h.st
 obtain⟨f,hf,hf1,hf2⟩:=h.away
 have hv:f (i:Int)=none:=by
  cases hq:f (i:Int) with
  | none=>rfl
  | some v=>obtain⟨_,s,e,_⟩:=hf1 _ _ hq;rw[Int.toNat_natCast,hs] at e;simp at e
 have hlk:∀n,(Instr.lookup 99 (.map (some j.ab)) (.int .i64 (i:Int)) true).run Tryz.prog (w.drewN n)=.ok (.tuple #[.slice none 0 0,.bool false]) (w.drewN n):=by
  intro n
  have hf':MapI (w.drewN n) j.ab f:=hf.world rfl
  have:=hf'.lookup (P:=Tryz.prog) (T:=99) Tryz.underlying99 Tryz.underlying3 (zeroBytes _) (i:Int) true
  rw[hv] at this
  exact this
 have hr0:=h.ok.ring0
 have hr1:=h.ok.ring1
 have hfit:=h.ok.fits
 have hn1:=h.disk.ok.n1
 have hin:2+(J.last.ring:Int)+(i:Int)<(D.n:Int):=by unfold Jn.homes at hi;omega
 have hme:D.may (2+(J.last.ring:Int)+(i:Int))=8:=by unfold Dk.may;rw[hoff];rfl
 have HD:=fun W (hW:W.heap=w.heap)=>Lib.hid (read_err (w:=W) (h.disk.world (by rw[hW]) (by rw[hW]) (by rw[hW]) (fun _ _ _ _=>by rw[hW])) (2+(J.last.ring:Int)+(i:Int)) (by rw[hme];omega))
 rw[hme] at HD
 clear h hm hf hf1 hf2 hv hs hme
 go_enter Tryz.func130,Tryz.ntmps130
 go_wp2_with (first | (go_at_call 98;refine(mayJ_spec H.out).mono ?_;rintro e w' ⟨rfl,n,rfl⟩) | (go_at_call 108;refine(homes_spec (H.out.drewN n)).mono ?_;rintro e w' ⟨rfl,m,rfl⟩))
 have q:Qt w (w.drewN (n+m)):=Qt.of_drewN rfl
 generalize w.drewN (n+m)=W at q ⊢
 have hJW:=H.out.qt q
 have cW:=blk_cell hJW.st
 have cW0:W.cell? ⟨j.jb,0,none⟩=some (.pointer (some ⟨j.d.db,0,none⟩)):=by rw[cW];rfl
 have cW6:W.cell? ⟨j.jb,6,none⟩=some (.int .i64 (J.last.ring:Int)):=by rw[cW];rfl
 have hltW:j.jb<W.heap.size:=hJW.lt.1
 have HQ:=Lib.hid q
 have HJW:=Lib.hid hJW
 have hw1:IntKind.i64.wrap (2+(J.last.ring:Int))=2+(J.last.ring:Int):=IntWalk.i64_in _ (by omega)
 have hw2:IntKind.i64.wrap (2+(J.last.ring:Int)+(i:Int))=2+(J.last.ring:Int)+(i:Int):=IntWalk.i64_in _ (by omega)
 clear q hJW cW hc hlk hin hfit
 go_region_held3 (fun w'=>w'.cell? ⟨j.jb,0,none⟩=some (.pointer (some ⟨j.d.db,0,none⟩))∧w'.cell? ⟨j.jb,6,none⟩=some (.int .i64 (J.last.ring:Int))) (go_keep)
  (first | (go_at_call 83;(with_reducible refine(HD _ ?_).out.mono ?_);exact HQ.out.heap;rintro e w' ⟨rfl,rfl⟩))
 clear hw1 hw2
 have hJ2:JnAt W.drew F j J D:=HJW.out.below (Upd.refl _ _).drew
 have hu2:Upd [] W W.drew:=(Upd.refl _ _).drew
 generalize W.drew=W2 at hJ2 hu2 ⊢
 have c2:=blk_cell hJ2.st
 have f2:=blk_free hJ2.st
 have HJ2:=Lib.hid hJ2
 have HU2:=Lib.hid hu2
 clear hJ2 hu2
 go_wp2
 go_ret2
 exact⟨_,rfl,.inr ⟨rfl,rfl⟩,HJ2.out.done true,((HQ.out.upd.trans HU2.out).mono (by simp)).set _ (.inl (by simp))⟩
theorem readJ_spec{w:World}{F:Nat→Prop}{j:JG}{J:Jn}{D:Dk}(h:JnAt w F j J D)(i:Int) :
  Calls Tryz.prog 130 #[.pointer (some ⟨j.jb,0,none⟩),.int .i64 i] w (ReadPost w F j J D (J.read D i)):=by
 by_cases hm:J.may D=0
 ·by_cases hi:i<0∨(J.homes D.n:Int)≤i
  ·have e:J.read D i=([],1,J.done):=by unfold Jn.read;rw[if_neg (by simpa using hm),if_pos hi]
   rw[e];exact readJ_arg h i hm hi
  ·obtain⟨k,rfl⟩:=Int.eq_ofNat_of_zero_le (show 0≤i by omega)
   cases hs:J.away k with
   | some s=>
    have e:J.read D (k:Int)=(s,0,J.done):=by
     unfold Jn.read;rw[if_neg (by simpa using hm),if_neg hi,if_pos (by simp[hs])]
     simp[Jn.home,hs]
    rw[e];exact readJ_away h k s hm (by omega) hs
   | none=>
    cases hoff:D.off with
    | true=>
     have e:J.read D (k:Int)=([],8,true):=by
      unfold Jn.read;rw[if_neg (by simpa using hm),if_neg hi,if_neg (by simp[hs]),if_pos hoff]
     rw[e];exact readJ_off h k hm (by omega) hs hoff
    | false=>
     have e:J.read D (k:Int)=(D.now (2+J.last.ring+k),0,false):=by
      unfold Jn.read;rw[if_neg (by simpa using hm),if_neg hi,if_neg (by simp[hs]),if_neg (by simp[hoff])]
      simp[Jn.home,hs]
     rw[e];exact readJ_disk h k hm (by omega) hs hoff
 ·have e:J.read D i=([],8,J.done):=by unfold Jn.read;rw[if_pos hm]
  rw[e];exact readJ_dead h i hm
end Go.Proofs.YtplppdbdfhkljaaGreat
namespace Go.Proofs.YtplppdbdfhkljaaGreat
open Go.RowKit
abbrev Put:=Int × List UInt8
def putCells(ps:List (Int × Value)):List Value:=ps.flatMap fun p=>[.int .i64 p.1,p.2]
@[simp] theorem putCells_nil : putCells [] = [] := rfl
theorem putCells_append(a b:List (Int × Value)):putCells (a++b)=putCells a++putCells b:=by simp[putCells]
theorem putCells_get:∀(ps:List (Int × Value)) (k:Nat) (p:Int × Value),ps[k]?=some p→(putCells ps)[2*k]?=some (.int .i64 p.1)∧(putCells ps)[2*k+1]?=some p.2
 | [],_,_,h=>by simp at h
 | q :: ps,0,p,h=>by
  simp at h;subst h;simp[putCells]
 | q :: ps,k+1,p,h=>by
  have ih:=putCells_get ps k p (by simpa using h)
  have e:putCells (q :: ps)=.int .i64 q.1 :: q.2 :: putCells ps:=rfl
  rw[e,show 2*(k+1)=2*k+1+1 by omega,List.getElem?_cons_succ,List.getElem?_cons_succ,List.getElem?_cons_succ,List.getElem?_cons_succ]
  exact ih
def PutsAt(w:World)(v:Value)(l:List Put):Prop:=
 ∃ps:List (Int × Value),w.ownsRow 0 110 2 v ps.length (putCells ps)∧ps.length=l.length∧∀(k:Nat) (p:Int × Value),ps[k]?=some p→∃q:Put,l[k]?=some q∧p.1=q.1∧Rd w p.2 q.2
theorem PutsAt.world{w w':World}{v:Value}{l:List Put}(h:PutsAt w v l){S:List Nat}(hu:Upd S w w')(hS:∀(k:Nat) (c:Array Value),k∈S→w.heap[k]?≠some (.cells c 110 (0,0)))(hR:∀(b o:Nat) (c:UInt8),b∈S→w.cell? ⟨b,o,none⟩≠some (bv c)):PutsAt w' v l:=by
 obtain⟨ps,h1,h2,h3⟩:=h
 refine⟨ps,⟨h1.1,?_⟩,h2,fun k p hp=>?_⟩
 ·rcases h1.2 with h | ⟨g,cap,cur,e,hb,hg,r⟩
  ·exact .inl h
  ·exact .inr ⟨g,cap,cur,e,hb,(hu.block _ (blk_lt hg) (fun q=>hS g cur q hg)).trans hg,r⟩
 ·obtain⟨q,a,b,c⟩:=h3 k p hp
  exact⟨q,a,b,c.of_block fun bb o c hc=>hu.block _ (block_lt_of_cell hc) (fun q=>hR bb o c q hc)⟩
theorem PutsAt.below{w w':World}{v:Value}{l:List Put}(h:PutsAt w v l)(hu:Upd [] w w'):PutsAt w' v l:=h.world hu (by simp) (by simp)
theorem PutsAt.shape{w:World}{v:Value}{l:List Put}(h:PutsAt w v l):∃ao cap,v=.slice ao l.length cap:=by
 obtain⟨ps,h1,h2,_⟩:=h
 rcases h1.2 with⟨rfl,h0⟩ | ⟨g,cap,cur,e,_⟩
 ·exact⟨none,0,by rw[← h2,h0]⟩
 ·exact⟨_,cap,by rw[← h2];exact e⟩
theorem PutsAt.get{w:World}{v:Value}{l:List Put}(h:PutsAt w v l)(k:Nat)(hk:k<l.length) :
  ∃g cap da dc,v=.slice (some ⟨g,0,none⟩) l.length cap∧w.cell? ⟨g,k*2,none⟩=some (.int .i64 l[k].1)∧w.cell? ⟨g,k*2+1,none⟩=some (.slice da l[k].2.length dc)∧Rd w (.slice da l[k].2.length dc) l[k].2:=by
 obtain⟨ps,h1,h2,h3⟩:=h
 obtain⟨p,hp⟩:∃p,ps[k]?=some p:=⟨_,List.getElem?_eq_getElem (by omega)⟩
 obtain⟨q,a,b,c⟩:=h3 k p hp
 have hq:q=l[k]:=by rw[List.getElem?_eq_getElem hk] at a;exact(Option.some.inj a).symm
 subst hq
 rcases h1.2 with⟨_,h0⟩ | ⟨g,cap,cur,e,_,hg,_,_,_,ht⟩
 ·omega
 ·obtain⟨da,dc,e2,_⟩:=id c
  rw[e2] at c
  have hc:=putCells_get ps k p hp
  have hcur:∀i,i<ps.length*2→(putCells ps)[i]?=cur[i]?:=by
   intro i hi
   rw[← ht,List.getElem?_take,if_pos hi];simp
  refine⟨g,cap,da,dc,by rw[← h2];exact e,?_,?_,c⟩
  ·rw[blk_cell hg,← hcur _ (by have:=(List.getElem?_eq_some_iff.1 hp).1;omega),Nat.mul_comm,hc.1,b]
  ·rw[blk_cell hg,← hcur _ (by have:=(List.getElem?_eq_some_iff.1 hp).1;omega),Nat.mul_comm,hc.2,e2]
def fitsL(homes:Nat):List Int→List Put→Int
 | _,[]=>0
 | seen,(i,b) :: l=>if i<0∨(homes:Int)≤i∨i∈seen then 1 else if b.length≠512 then 9 else fitsL homes (i :: seen) l
def Jn.fits(J:Jn)(n:Nat)(l:List Put):Int:=
 if fitsL (J.homes n) [] l≠0 then fitsL (J.homes n) [] l else if 40<l.length∨J.last.ring≤l.length then 2 else 0
def seenK(l:List Put)(k:Nat):List Int:=((l.take k).map (·.1)).reverse
theorem seenK_zero(l:List Put):seenK l 0=[]:=rfl
theorem seenK_succ{l:List Put}{k:Nat}(hk:k<l.length):seenK l (k+1)=l[k].1 :: seenK l k:=by
 unfold seenK;rw[List.take_succ_eq_append_getElem hk,List.map_append,List.reverse_append];rfl
theorem fits_step{homes:Nat}{l:List Put}{k:Nat}(hk:k<l.length) :
  fitsL homes (seenK l k) (l.drop k)=if l[k].1<0∨(homes:Int)≤l[k].1∨l[k].1∈seenK l k then 1 else if l[k].2.length≠512 then 9 else fitsL homes (seenK l (k+1)) (l.drop (k+1)):=by
 rw[List.drop_eq_getElem_cons hk,seenK_succ hk]
 generalize l[k]=q
 obtain⟨i,b⟩:=q
 rfl
def FitsRel(w:World)(sb:Nat)(l:List Put)(k:Nat)(wr:World):Prop:=
 ∃f:Int→Option Value,MapI wr sb f∧(∀i,f i=if i∈seenK l k then some (.int .i64 1) else none)∧Upd [] w wr∧w.heap.size≤sb
theorem zeroInt(w:World):(zeroValue 3).run Tryz.prog w=.ok (.int .i64 0) w:=by kernel_rfl
theorem FitsRel.step{w wr W:World}{sb:Nat}{l:List Put}{k:Nat}(h:FitsRel w sb l k wr)(hk:k<l.length)(hW:Upd [] wr W) :
  ∃o,(Instr.mapUpdate 198 (.map (some sb)) (.int .i64 l[k].1) (.int .i64 1)).run Tryz.prog W=.ok () (ChangeMaps.setBlock W sb o)∧FitsRel w sb l (k+1) (ChangeMaps.setBlock W sb o):=by
 obtain⟨f,hf,hf1,hu,hs⟩:=h
 have hf':MapI W sb f:=hf.world (hW.block _ hf.lt (by simp))
 obtain⟨o,hrun,hmap⟩:=hf'.update (P:=Tryz.prog) (T:=198) Tryz.underlying198 Tryz.underlying3 l[k].1 (.int .i64 1)
 refine⟨o,hrun,_,hmap,fun i=>?_,(hu.trans hW).setBlock _ (.inr hs),hs⟩
 rw[seenK_succ hk,hf1]
 by_cases e:i=l[k].1
 ·simp[e]
 ·simp[e]
theorem FitsRel.look{w wr W:World}{sb:Nat}{l:List Put}{k:Nat}(h:FitsRel w sb l k wr)(hW:Upd [] wr W)(i:Int) :
  ∀n,(Instr.lookup 198 (.map (some sb)) (.int .i64 i) false).run Tryz.prog (W.drewN n)=.ok (.int .i64 (if i∈seenK l k then 1 else 0)) (W.drewN n):=by
 intro n
 obtain⟨f,hf,hf1,hu,hs⟩:=h
 have hf':MapI (W.drewN n) sb f:=hf.world (hW.block _ hf.lt (by simp))
 have:=hf'.lookup (P:=Tryz.prog) (T:=198) Tryz.underlying198 Tryz.underlying3 (zeroInt _) i false
 rw[hf1] at this
 rw[this]
 by_cases e:i∈seenK l k<;>simp[e]
set_option maxHeartbeats 1600000 in
theorem fits_spec{w:World}{F:Nat→Prop}{j:JG}{J:Jn}{D:Dk}(h:JnAt w F j J D)(v:Value)(l:List Put)(hp:PutsAt w v l)(hl:l.length≤1000000) :
  Calls Tryz.prog 99 #[.pointer (some ⟨j.jb,0,none⟩),v] w fun e w'=>e=.returned (.int .i64 (J.fits D.n l))∧Upd [] w w':=by
 have H:=Lib.hid h
 have HP:=Lib.hid hp
 obtain⟨ao,cap,rfl⟩:=hp.shape
 have hr0:=h.ok.ring0
 have hr1:=h.ok.ring1
 have hmm:=@run_makeMap Tryz.prog
 clear h hp
 go_enter Tryz.func99,Tryz.ntmps99
 go_wp2_with fail
 go_loopw [11] (fun i wr=>∃k:Nat,k≤l.length∧i=.int .i64 (k:Int)∧FitsRel w w.heap.size l k wr∧fitsL (J.homes D.n) [] l=fitsL (J.homes D.n) (seenK l k) (l.drop k)) (fun i _=>l.length-(intOf i).toNat)
 case atStart=>exact⟨0,Nat.zero_le _,rfl,⟨_,MapI.made (c:=0) (blk_alloc _),by simp[seenK_zero],(Upd.refl _ _).alloc _,Nat.le_refl _⟩,rfl⟩
 case round=>
  obtain⟨k,hk,rfl,hrel,hfit⟩:=hrel
  have hu:Upd [] w wr:=by obtain⟨_,_,_,hu,_⟩:=hrel;exact hu
  by_cases hlt:k<l.length
  ·obtain⟨g,cap',da,dc,e,hc1,hc2,hrd⟩:=(HP.out.below hu).get k hlt
   obtain⟨rfl,_,rfl⟩:ao=some ⟨g,0,none⟩∧l.length=l.length∧cap=cap':=by simpa using e
   rw[fits_step hlt] at hfit
   obtain⟨i,hi⟩:∃i,i=l[k].1:=⟨_,rfl⟩
   obtain⟨dn,hdn⟩:∃dn,dn=l[k].2.length:=⟨_,rfl⟩
   rw[← hi] at hc1
   rw[← hdn] at hc2
   rw[← hi,← hdn] at hfit
   have HI:=Lib.hid hi
   have HFIT:=Lib.hid hfit
   have HREL:=Lib.hid hrel
   have HU:=Lib.hid hu
   clear e hi hdn hfit hrel hu hrd
   go_wp2_with fail
   have hWu:Upd [] wr (wr.alloc (.cells #[.int .i64 i,.slice da dn dc] 110)):=(Upd.refl _ _).alloc _
   have hWb:(wr.alloc (.cells #[.int .i64 i,.slice da dn dc] 110)).heap[wr.heap.size]?=some (.cells #[.int .i64 i,.slice da dn dc] 110 (0,0)):=blk_alloc _
   generalize wr.alloc (.cells #[.int .i64 i,.slice da dn dc] 110)=W at hWu hWb ⊢
   have hcW:=blk_cell hWb
   have hlk:=HREL.out.look hWu i
   have HJW:=Lib.hid (H.out.below (HU.out.trans hWu))
   have HWU:=Lib.hid hWu
   clear hWb hWu hc1 hc2
   by_cases c1:i<0
   ·have d1:decide (i<0)=true:=by simpa using c1
    have HR:Hid (J.fits D.n l=1):=by
     show _=_
     have:=HFIT.out
     rw[if_pos (.inl c1)] at this
     unfold Jn.fits;rw[this];simp
    clear c1 hlk
    go_quiet (fail)
    go_wp2
    go_ret
    exact⟨ret_int HR.out.symm,(HU.out.trans HWU.out).drewN _⟩
   ·have d1:decide (i<0)=false:=by simpa using c1
    by_cases c2:(J.homes D.n:Int)≤i
    ·have d2:decide ((J.homes D.n:Int)≤i)=true:=by simpa using c2
     have HR:Hid (J.fits D.n l=1):=by
      show _=_
      have:=HFIT.out
      rw[if_pos (.inr (.inl c2))] at this
      unfold Jn.fits;rw[this];simp
     clear hlk
     go_quiet ((go_at_call 108;exact Calls.quiet_of (homes_spec (HJW.out.drewN _))))
     go_wp2
     go_ret
     exact⟨ret_int HR.out.symm,(HU.out.trans HWU.out).drewN _⟩
    ·have d2:decide ((J.homes D.n:Int)≤i)=false:=by simpa using c2
     by_cases c3:i∈seenK l k
     ·rw[if_pos c3] at hlk
      have HR:Hid (J.fits D.n l=1):=by
       show _=_
       have:=HFIT.out
       rw[if_pos (.inr (.inr c3))] at this
       unfold Jn.fits;rw[this];simp
      clear c3
      go_quiet ((go_at_call 108;exact Calls.quiet_of (homes_spec (HJW.out.drewN _))))
      go_wp2
      go_ret
      exact⟨ret_int HR.out.symm,(HU.out.trans HWU.out).drewN _⟩
     ·rw[if_neg c3] at hlk
      have hfit:=HFIT.out
      rw[if_neg (by simp[c3];omega)] at hfit
      have HC3:=Lib.hid c3
      clear c3
      go_quiet ((go_at_call 108;exact Calls.quiet_of (homes_spec (HJW.out.drewN _))))
      by_cases c4:dn=512
      ·have d4:((dn:Int) != 512)=false:=by simp[c4]
       rw[if_neg (by simpa using c4)] at hfit
       have HF2:=Lib.hid hfit
       clear c4 hfit
       obtain⟨o,hup,hrel2⟩:=HREL.out.step hlt ((HWU.out).drewN nq)
       rw[← HI.out] at hup
       have HR2:=Lib.hid hrel2
       clear hrel2
       go_wp2
       go_roundw
       case rel=>exact⟨k+1,by omega,by go_num,HR2.out,HF2.out⟩
       case measure=>simp[intOf];omega
      ·have d4:((dn:Int) != 512)=true:=by rw[bne_iff_ne];omega
       rw[if_pos (by simpa using c4)] at hfit
       have HR:Hid (J.fits D.n l=9):=by
        show _=_
        unfold Jn.fits;rw[hfit];simp
       clear c4 hfit
       go_wp2
       go_ret
       exact⟨ret_int HR.out.symm,(HU.out.trans HWU.out).drewN _⟩
  ·obtain rfl:k=l.length:=by omega
   have hfit0:fitsL (J.homes D.n) [] l=0:=by rw[hfit,List.drop_of_length_le (Nat.le_refl _)];rfl
   have hcj:=blk_cell (H.out.below hu).st
   have HU:=Lib.hid hu
   clear hfit hrel hu
   by_cases c1:40<l.length∨J.last.ring≤l.length
   ·have HR:Hid (J.fits D.n l=2):=by
     show _=_
     unfold Jn.fits;rw[hfit0];simp[c1]
    clear hfit0
    by_cases c2:40<l.length
    ·clear c1
     go_wp2
     go_ret
     exact⟨ret_int HR.out.symm,HU.out⟩
    ·have c3:J.last.ring≤l.length:=by omega
     clear c1
     go_wp2
     go_ret
     exact⟨ret_int HR.out.symm,HU.out⟩
   ·have HR:Hid (J.fits D.n l=0):=by
     show _=_
     unfold Jn.fits;rw[hfit0];simp[c1]
    have c2:l.length≤40:=by omega
    have c3:l.length<J.last.ring:=by omega
    clear hfit0 c1
    go_wp2
    go_ret
    exact⟨ret_int HR.out.symm,HU.out⟩
end Go.Proofs.YtplppdbdfhkljaaGreat
namespace Go.Proofs.YtplppdbdfhkljaaGreat
open Go.RowKit
def PutsOwn(w:World)(F:Nat→Prop)(v:Value)(l:List Put):Prop:=
 ∃ps:List (Int × Value),w.ownsRow 0 110 2 v ps.length (putCells ps)∧ps.length=l.length∧∀(k:Nat) (p:Int × Value),ps[k]?=some p→∃q:Put,l[k]?=some q∧p.1=q.1∧Own w 5 F p.2 q.2
theorem PutsOwn.at{w:World}{F:Nat→Prop}{v:Value}{l:List Put}(h:PutsOwn w F v l):PutsAt w v l:=by
 obtain⟨ps,h1,h2,h3⟩:=h
 refine⟨ps,h1,h2,fun k p hp=>?_⟩
 obtain⟨q,a,b,c⟩:=h3 k p hp
 exact⟨q,a,b,c.rd⟩
theorem PutsOwn.world{w w':World}{F:Nat→Prop}{v:Value}{l:List Put}(h:PutsOwn w F v l){S:List Nat}(hu:Upd S w w')(hS:∀(k:Nat) (c:Array Value),k∈S→w.heap[k]?≠some (.cells c 110 (0,0)))(hR:∀(b:Nat) (c:Array Value),b∈S→w.heap[b]?≠some (.cells c 5 (0,0))):PutsOwn w' F v l:=by
 obtain⟨ps,h1,h2,h3⟩:=h
 refine⟨ps,⟨h1.1,?_⟩,h2,fun k p hp=>?_⟩
 ·rcases h1.2 with h | ⟨g,cap,cur,e,hb,hg,r⟩
  ·exact .inl h
  ·exact .inr ⟨g,cap,cur,e,hb,(hu.block _ (blk_lt hg) (fun q=>hS g cur q hg)).trans hg,r⟩
 ·obtain⟨q,a,b,c⟩:=h3 k p hp
  exact⟨q,a,b,c.world fun bb cc _ hc=>hu.block _ (blk_lt hc) (fun q=>hR bb cc q hc)⟩
theorem PutsOwn.mono{w:World}{F G:Nat→Prop}{v:Value}{l:List Put}(h:PutsOwn w F v l)(hFG:∀k,F k→G k):PutsOwn w G v l:=by
 obtain⟨ps,h1,h2,h3⟩:=h
 refine⟨ps,h1,h2,fun k p hp=>?_⟩
 obtain⟨q,a,b,c⟩:=h3 k p hp
 exact⟨q,a,b,c.mono hFG⟩
theorem PutsOwn.get{w:World}{F:Nat→Prop}{v:Value}{l:List Put}(h:PutsOwn w F v l)(k:Nat)(hk:k<l.length) :
  ∃g cap kb dc,v=.slice (some ⟨g,0,none⟩) l.length cap∧w.cell? ⟨g,k*2,none⟩=some (.int .i64 l[k].1)∧w.cell? ⟨g,k*2+1,none⟩=some (.slice (some ⟨kb,0,none⟩) l[k].2.length dc)∧Own w 5 F (.slice (some ⟨kb,0,none⟩) l[k].2.length dc) l[k].2:=by
 obtain⟨g,cap,da,dc,e,c1,c2,_⟩:=h.at.get k hk
 obtain⟨ps,h1,h2,h3⟩:=h
 obtain⟨p,hp⟩:∃p,ps[k]?=some p:=⟨_,List.getElem?_eq_getElem (by omega)⟩
 obtain⟨q,a,b,c⟩:=h3 k p hp
 have hq:q=l[k]:=by rw[List.getElem?_eq_getElem hk] at a;exact(Option.some.inj a).symm
 subst hq
 rcases h1.2 with⟨_,h0⟩ | ⟨g',cap',cur,e',_,hg,_,_,_,ht⟩
 ·omega
 ·have hgg:g'=g:=by rw[e'] at e;simp at e;exact e.1
  subst hgg
  have hcur:(putCells ps)[2*k+1]?=cur[2*k+1]?:=by
   rw[← ht,List.getElem?_take,if_pos (by have:=(List.getElem?_eq_some_iff.1 hp).1;omega)];simp
  have hc2:=(putCells_get ps k p hp).2
  rw[hcur,Nat.mul_comm 2 k,← blk_cell hg,c2] at hc2
  have hp2:p.2=.slice da l[k].2.length dc:=(Option.some.inj hc2).symm
  rw[hp2] at c
  obtain⟨kb,rest,hF,e2,hb2⟩:=id c
  simp only[Value.slice.injEq] at e2
  obtain⟨rfl,_,rfl⟩:=e2
  exact⟨g',cap,kb,_,e,c1,c2,c⟩
def awayL(aw:Nat→Option Sec)(l:List Put):Nat→Option Sec:=l.foldl (fun aw p i=>if i=p.1.toNat then some p.2 else aw i) aw
theorem awayL_snoc{aw:Nat→Option Sec}{l:List Put}{k:Nat}(hk:k<l.length):awayL aw (l.take (k+1))=fun i=>if i=l[k].1.toNat then some l[k].2 else awayL aw (l.take k) i:=by
 rw[List.take_succ_eq_append_getElem hk];unfold awayL;rw[List.foldl_append];rfl
theorem awayL_cases{aw:Nat→Option Sec}:∀{l:List Put} {i:Nat} {s:Sec},awayL aw l i=some s→aw i=some s∨∃p∈l,p.1.toNat=i∧p.2=s:=by
 intro l
 unfold awayL
 induction l generalizing aw with
 | nil=>intro i s h;exact .inl h
 | cons p l ih=>
  intro i s h
  rw[List.foldl_cons] at h
  rcases ih h with h1 | ⟨q,hq,e⟩
  ·split at h1
   ·rename_i e;cases h1;exact .inr ⟨p,by simp,e.symm,rfl⟩
   ·exact .inl h1
  ·exact .inr ⟨q,by simp[hq],e⟩
def Jn.note(J:Jn)(l:List Put):Jn:={ J with away:=awayL J.away l,turn:=J.turn+1,place:=(J.place+1+l.length) % J.last.ring,used:=J.used+(1+l.length) }
theorem WaitM.update{w:World}{F:Nat→Prop}{mb:Nat}{wt:Nat→Option Sec}(h:WaitM w F mb wt)(i:Int)(h0:0≤i)(v:Value)(s:Sec)(ho:Own w 5 F v s) :
  ∃o,(Instr.mapUpdate 99 (.map (some mb)) (.int .i64 i) v).run Tryz.prog w=.ok () (ChangeMaps.setBlock w mb o)∧WaitM (ChangeMaps.setBlock w mb o) F mb (fun j=>if j=i.toNat then some s else wt j):=by
 obtain⟨f,hf,hf1,hf2⟩:=h
 obtain⟨o,hrun,hmap⟩:=hf.update (P:=Tryz.prog) (T:=99) Tryz.underlying99 Tryz.underlying3 i v
 have ha:∀k c,F k→w.heap[k]?=some (.cells c 5 (0,0))→(ChangeMaps.setBlock w mb o).heap[k]?=w.heap[k]?:=fun k c _ hk=>setBlock_ne _ (hf.not_cells hk)
 refine⟨o,hrun,_,hmap,fun k u hk=>?_,fun k u hk=>?_⟩
 ·by_cases e:k=i
  ·rw[if_pos e] at hk;cases hk
   exact⟨by omega,s,by show(if k.toNat=i.toNat then some s else wt k.toNat)=_;rw[if_pos (by omega)],ho.world ha⟩
  ·rw[if_neg e] at hk
   obtain⟨k0,s',e1,o1⟩:=hf1 k u hk
   exact⟨k0,s',by show(if k.toNat=i.toNat then some s else wt k.toNat)=_;rw[if_neg (by omega)];exact e1,o1.world ha⟩
 ·by_cases e:(k:Int)=i
  ·exact⟨_,if_pos e⟩
  ·replace hk:(if k=i.toNat then some s else wt k)=some u:=hk
   rw[if_neg (by omega)] at hk
   obtain⟨u',hu'⟩:=hf2 k u hk
   exact⟨u',by rw[if_neg e];exact hu'⟩
set_option maxHeartbeats 1000000 in
theorem note_spec{w:World}{F:Nat→Prop}{j:JG}{J:Jn}{D:Dk}(h:JnAt w F j J D)(v:Value)(l:List Put)(hp:PutsOwn w F v l)(hl:l.length≤1000)
  (hin:∀p∈l,0≤p.1∧p.1<(J.homes D.n:Int)∧p.2.length=512) (ht:J.turn+1<4611686018427389000) (hus:J.used+1000<100000000) :
  Calls Tryz.prog 86 #[.pointer (some ⟨j.jb,0,none⟩),v] w fun e w'=>e=.returned (.tuple #[])∧JnAt w' F j (J.note l) D∧Upd [j.jb,j.ab] w w':=by
 have H:=Lib.hid h
 have HP:=Lib.hid hp
 have HIN:=Lib.hid hin
 obtain⟨ao,cap,rfl⟩:=hp.at.shape
 have hr0:=h.ok.ring0
 have hr1:=h.ok.ring1
 have hpl:=h.ok.place
 have ht0:=h.ok.turn0
 have hw:=u64_wrap_in (J.turn+1) (by omega) (by omega)
 have HT:=Lib.hid ht
 clear h hp hin ht
 have hne:j.ab≠j.jb:=by obtain⟨f,hf,_⟩:=H.out.away;exact Ne.symm (hf.not_cells H.out.st)
 have HNE:=Lib.hid hne
 clear hne
 go_enter Tryz.func86,Tryz.ntmps86
 go_wp2_with fail
 go_loopw [8] (fun i wr=>∃k:Nat,k≤l.length∧i=.int .i64 (k:Int)∧WaitM wr F j.ab (awayL J.away (l.take k))∧Upd [j.ab] w wr) (fun i _=>l.length-(intOf i).toNat)
 case atStart=>exact⟨0,Nat.zero_le _,rfl,H.out.away,Upd.refl _ _⟩
 case round=>
  obtain⟨k,hk,rfl,hwm,hu⟩:=hrel
  have hjb:wr.heap[j.jb]?=_:=(hu.block _ H.out.lt.1 (by simpa using Ne.symm HNE.out)).trans H.out.st
  have hmapab:∀(c:Array Value) (t:TypeId),w.heap[j.ab]?≠some (.cells c t (0,0)):=by
   intro c t e
   obtain⟨f,hf,_⟩:=H.out.away
   exact hf.not_cells e rfl
  by_cases hlt:k<l.length
  ·have hpw:=HP.out.world hu (fun k c hk=>by simp at hk;subst hk;exact hmapab c _) (fun k c hk=>by simp at hk;subst hk;exact hmapab c _)
   obtain⟨g,cap',kb,dc,e,hc1,hc2,hown⟩:=hpw.get k hlt
   obtain⟨rfl,_,rfl⟩:ao=some ⟨g,0,none⟩∧l.length=l.length∧cap=cap':=by simpa using e
   have hrng:=HIN.out l[k] (List.getElem_mem hlt)
   have hsn:=awayL_snoc (aw:=J.away) hlt
   obtain⟨i,hi⟩:∃i,i=l[k].1:=⟨_,rfl⟩
   obtain⟨sd,hsd⟩:∃sd,sd=l[k].2:=⟨_,rfl⟩
   rw[← hi,← hsd] at hrng hsn
   rw[← hi] at hc1
   rw[← hsd] at hc2 hown
   have hi0:=hrng.1
   clear hrng
   have HSN:=Lib.hid hsn
   have HU:=Lib.hid hu
   have HWM:=Lib.hid hwm
   have HOWN:=Lib.hid hown
   have HJB:=Lib.hid hjb
   clear e hi hsd hsn hpw hu hwm hown hjb hmapab
   go_wp2_with fail
   have hWu:Upd [] wr (wr.alloc (.cells #[.int .i64 i,.slice (some ⟨kb,0,none⟩) sd.length dc] 110)):=(Upd.refl _ _).alloc _
   have hWb:(wr.alloc (.cells #[.int .i64 i,.slice (some ⟨kb,0,none⟩) sd.length dc] 110)).heap[wr.heap.size]?=some (.cells #[.int .i64 i,.slice (some ⟨kb,0,none⟩) sd.length dc] 110 (0,0)):=blk_alloc _
   generalize wr.alloc (.cells #[.int .i64 i,.slice (some ⟨kb,0,none⟩) sd.length dc] 110)=W at hWu hWb ⊢
   have hwmW:WaitM W.drew F j.ab (awayL J.away (l.take k)):=by
    obtain⟨f,hf,_⟩:=id HWM.out
    exact HWM.out.world (hWu.block _ hf.lt (by simp)) (fun k c _ hk=>hWu.block _ (blk_lt hk) (by simp))
   obtain⟨o,hup,hwm2⟩:=hwmW.update i hi0 (.slice (some ⟨kb,0,none⟩) sd.length dc) sd (HOWN.out.world (fun k c _ hk=>hWu.block _ (blk_lt hk) (by simp)))
   have hcW:=blk_cell hWb
   have hcj:=blk_cell ((hWu.block _ (blk_lt HJB.out) (by simp)).trans HJB.out)
   have HWM2:=Lib.hid hwm2
   have HWU:=Lib.hid hWu
   clear hWb hWu hc1 hc2 hwmW hwm2
   go_region
   go_wp2
   go_roundw
   case rel=>exact⟨k+1,by omega,by go_num,by rw[HSN.out];exact HWM2.out,((HU.out.trans (HWU.out.mono (by simp))).drew).setBlock _ (.inl (by simp))⟩
   case measure=>simp[intOf];omega
  ·obtain rfl:k=l.length:=by omega
   rw[List.take_length] at hwm
   have hcj:=blk_cell hjb
   have hfj:=blk_free hjb
   have HWM:=Lib.hid hwm
   have HU:=Lib.hid hu
   have HJB:=Lib.hid hjb
   clear hwm hu hjb hmapab
   go_wp2_with fail
   have hW1:=blk_set HJB.out 7 (.int .u64 (J.turn+1))
   have hWo:∀k,k≠j.jb→(wr.setCell ⟨j.jb,7,none⟩ (.int .u64 (J.turn+1))).heap[k]?=wr.heap[k]?:=fun k hk=>blk_set_ne _ _ hk
   have hWs:Upd [j.jb] wr (wr.setCell ⟨j.jb,7,none⟩ (.int .u64 (J.turn+1))):=(Upd.refl _ _).set _ (.inl (by simp))
   generalize wr.setCell ⟨j.jb,7,none⟩ (.int .u64 (J.turn+1))=W at hW1 hWo hWs ⊢
   simp only[List.setIfInBounds_toArray,List.set_cons_succ,List.set_cons_zero] at hW1
   have hcW:=blk_cell hW1
   have hfW:=blk_free hW1
   have HW1:=Lib.hid hW1
   have HWO:=Lib.hid hWo
   have HWS:=Lib.hid hWs
   clear hW1 hWo hWs hcj hfj
   have hm1:(0:Int)≤(J.place:Int)+1+(l.length:Int):=by omega
   have hm2:(1:Int)≤(J.last.ring:Int):=by omega
   have hw1:IntKind.i64.wrap ((J.place:Int)+1)=(J.place:Int)+1:=IntWalk.i64_in _ (by omega)
   have hw2:IntKind.i64.wrap ((J.place:Int)+1+(l.length:Int))=(J.place:Int)+1+(l.length:Int):=IntWalk.i64_in _ (by omega)
   go_region
   clear hw1 hw2
   go_wp2
   go_end0
   have hmod:(J.place+1+l.length) % J.last.ring<J.last.ring:=Nat.mod_lt _ (by omega)
   have hU:Upd [j.jb,j.ab] w ((W.setCell ⟨j.jb,8,none⟩ (.int .i64 (((J.place:Int)+1+(l.length:Int)) % (J.last.ring:Int)))).setCell ⟨j.jb,9,none⟩ (.int .i64 ((J.used:Int)+(1+(l.length:Int))))).drew:=
    ((((HU.out.mono (by simp)).trans (HWS.out.mono (by simp))).set _ (.inl (by simp))).set _ (.inl (by simp))).drew
   refine⟨rfl,?_,hU⟩
   have hJr:JnAt wr F j { J with away:=awayL J.away l } D:=by
    have hd:=H.out.disk
    have hb:∀k,k∈[j.d.db,j.d.lb,j.d.mb]→k≠j.ab:=by
     obtain⟨f,hf,_⟩:=H.out.away
     obtain⟨⟨fv,a1,_⟩,⟨lv,b1,_⟩,_,_⟩:=hd
     intro k hk e
     simp only[List.mem_cons,List.not_mem_nil,or_false] at hk
     rcases hk with rfl | rfl | rfl
     ·exact hf.not_cells a1 e
     ·exact hf.not_cells b1 e
     ·exact H.out.ne e.symm
    refine⟨hd.world (HU.out.block _ hd.lt.1 (by simpa using hb _ (by simp))) (HU.out.block _ hd.lt.2.1 (by simpa using hb _ (by simp))) (HU.out.block _ hd.lt.2.2 (by simpa using hb _ (by simp))) (fun k c _ hk=>HU.out.block _ (blk_lt hk) (by
     obtain⟨f,hf,_⟩:=H.out.away
     simpa using hf.not_cells hk)),HJB.out,HWM.out,H.out.ne,?_⟩
    have ok:=H.out.ok
    refine⟨ok.ring0,ok.ring1,ok.fits,ok.lplace,ok.place,ok.num0,ok.num1,ok.lturn0,ok.turn0,ok.turn1,ok.used,fun i s hs=>?_⟩
    rcases awayL_cases hs with h1 | ⟨p,hp,e1,e2⟩
    ·exact ok.away i s h1
    ·have:=HIN.out p hp
     unfold Jn.homes at this
     subst e2
     exact⟨by show i+2+J.last.ring<D.n;omega,this.2.2⟩
   refine hJr.re ?_ (fun k _ hk=>by rw[blk_drew,blk_set_ne _ _ hk,blk_set_ne _ _ hk];exact HWO.out k hk) rfl ?_
   ·rw[blk_drew,blk_set (blk_set HW1.out 8 _) 9 _]
    simp[Jn.note]
   ·have ok:=hJr.ok
    exact⟨ok.ring0,ok.ring1,ok.fits,ok.lplace,hmod,ok.num0,ok.num1,ok.lturn0,by show 1≤J.turn+1;omega,HT.out,by show J.used+(1+l.length)≤100000000;omega,ok.away⟩
end Go.Proofs.YtplppdbdfhkljaaGreat
end
