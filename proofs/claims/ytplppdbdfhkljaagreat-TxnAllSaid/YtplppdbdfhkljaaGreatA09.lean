/-
  The journal's contracts as the laws use them (the power stays); Place and Full.
-/
import Derived.Test.YtplppdbdfhkljaaGreatA08
set_option maxRecDepth 100000
set_option maxHeartbeats 16000000
section
namespace Go.Proofs.YtplppdbdfhkljaaGreat
open Go.RowKit
theorem DiskAt.any{w:World}{F:Nat→Prop}{g:DG}{D:Dk}(h:DiskAt w F g D):DiskAt w AnyF g D:=h.mono fun _ _=>trivial
theorem JnAt.any{w:World}{F:Nat→Prop}{j:JG}{J:Jn}{D:Dk}(h:JnAt w F j J D):JnAt w AnyF j J D:=h.mono fun _ _=>trivial
structure DsAt(w:World)(g:DG)(J:Jn)(D:Dk)(n ring:Nat)(t m:Int)(H:Nat→Sec):Prop where
 disk:DiskAt w AnyF g D
 held:Held D J
 arm:D.armed = -1
 n:D.n=n
 ring:J.last.ring=ring
 turn:J.turn=t
 num:J.last.number≤m
 home:J.home D=H
structure JrAt(w:World)(j:JG)(J:Jn)(D:Dk)(n ring:Nat)(t m:Int)(H:Nat→Sec):Prop where
 at_:JnAt w j.F j J D
 live:Live D J
 arm:D.armed = -1
 n:D.n=n
 ring:J.last.ring=ring
 turn:J.turn=t
 num:J.last.number≤m
 home:J.home D=H
 nw:∀k,w.heap.size≤k→j.F k
theorem JrAt.of{w w':World}{j:JG}{J:Jn}{D:Dk}{n ring:Nat}{t m:Int}{H:Nat→Sec}(h:JrAt w j J D n ring t m H)(ha:JnAt w' j.F j J D)(hs:w.heap.size≤w'.heap.size):JrAt w' j J D n ring t m H:=
 ⟨ha,h.live,h.arm,h.n,h.ring,h.turn,h.num,h.home,fun k hk=>h.nw k (Nat.le_trans hs hk)⟩
theorem JnAt.gr{w:World}{F:Nat→Prop}{m:Nat}{j:JG}{J:Jn}{D:Dk}(h:JnAt w (Gr F m) j J D)(hn:∀k,m≤k→F k):JnAt w F j J D:=h.mono fun k hk=>hk.elim id (hn k)
theorem JrAt.below{w w':World}{j:JG}{J:Jn}{D:Dk}{n ring:Nat}{t m:Int}{H:Nat→Sec}(h:JrAt w j J D n ring t m H)(hu:Upd [] w w'):JrAt w' j J D n ring t m H:=h.of (h.at_.below hu) hu.size
theorem open_hi{w:World}{g:DG}{J:Jn}{D:Dk}{n ring:Nat}{t m:Int}{H:Nat→Sec}(h:DsAt w g J D n ring t m H)(ht:t<1000000)(hm:m<1000000) :
  Calls Tryz.prog 35 #[.pointer (some ⟨g.db,0,none⟩)] w fun e w'=>∃jb ab,e=.returned (.tuple #[.pointer (some ⟨jb,0,none⟩),.int .i64 0])∧w.heap.size≤jb∧w.heap.size≤ab∧(∃J' D',JrAt w' ⟨jb,ab,g,AnyF⟩ J' D' n ring t (m+1) H∧J'.used=0)∧Upd [g.db,g.lb,g.mb] w w':=by
 refine(open_main h.disk h.held.calm.off).mono ?_
 rintro e w' ⟨D',r,err,ho,hat,hu⟩
 have h1:=h.num
 have h2:=h.turn
 rcases h.held.open ⟨by omega,by omega⟩ ho with⟨rfl,J',rfl,q1,q2,q3,q4,q5,q6,q7,q8⟩ | ⟨_,_,q,_⟩
 ·obtain⟨jb,ab,e1,e2,e3,e4⟩:=hat
  exact⟨jb,ab,e1,e2,e3,⟨J',D',⟨e4.any,q1,q8 h.arm,q7.trans h.n,q5.trans h.ring,q4.trans h.turn,by omega,q2.trans h.home,fun _ _=>trivial⟩,q3⟩,hu⟩
 ·exact absurd h.arm q
theorem new_fmt_hi{w:World}{F:Nat→Prop}{g:DG}{n:Nat}(h:DiskAt w F g (Dk.new n))(h0:32≤n)(h1:n≤4096)(ring:Nat)(r0:8≤ring)(r1:ring≤1024)(r2:ring+10≤n) :
  Calls Tryz.prog 67 #[.pointer (some ⟨g.db,0,none⟩),.int .i64 (ring:Int)] w fun e w'=>e=.returned (.int .i64 0)∧DsAt w' g (Jn.fresh ring) ((Dk.new n).fmt ring) n ring 1 1 (fun _=>zsec)∧Upd [g.db,g.lb,g.mb] w w':=by
 obtain⟨a1,a2,a3,a4⟩:=fmt_live h0 h1 r0 r1 r2
 refine(fmt_ok h ⟨rfl,rfl⟩ ring r0 r1 r2).mono ?_
 rintro e w' ⟨e1,e2,e3⟩
 exact⟨e1,⟨e2.any,a1.held,a4,a3,rfl,rfl,by show(1:Int)≤1;omega,a2⟩,e3⟩
def fitsR(n ring:Nat)(l:List Put):Int:=
 if fitsL (n-2-ring) [] l≠0 then fitsL (n-2-ring) [] l else if 40<l.length∨ring≤l.length then 2 else 0
theorem JrAt.fits{w:World}{j:JG}{J:Jn}{D:Dk}{n ring:Nat}{t m:Int}{H:Nat→Sec}(h:JrAt w j J D n ring t m H)(l:List Put):J.fits D.n l=fitsR n ring l:=by
 unfold Jn.fits Jn.homes fitsR;rw[h.n,h.ring]
theorem JrAt.used{w:World}{j:JG}{J:Jn}{D:Dk}{n ring:Nat}{t m:Int}{H:Nat→Sec}(h:JrAt w j J D n ring t m H):J.used≤1024:=by
 have:=h.live.held.used
 have:=h.live.held.jok.ring1
 omega
theorem RdL.nil(w:World)(S:List Nat):RdL w S (.slice none 0 0) []:=⟨none,0,rfl,Nat.le_refl _,fun h=>absurd h (by simp)⟩
set_option maxHeartbeats 400000 in
theorem full_spec(v:Value)(l:List UInt8)(w:World)(hr:Rd w v l) :
  Calls Tryz.prog 65 #[v] w fun e w'=>e=.returned (.slice (some ⟨w.heap.size,0,none⟩) 512 512)∧w.alloc (.cells (bts (pad l)).toArray 5)=w':=by
 have hmk:=run_make_512
 have hcp:∀ty,(Builtin.copy_ #[34,34] ty #[.slice (some ⟨w.heap.size,0,none⟩) 512 512,v]).run Tryz.prog (w.alloc (.cells (bts zsec).toArray 5))=.ok (goInt ((min l.length 512:Nat):Int)) (w.alloc (.cells (bts (pad l)).toArray 5)):=by
  intro ty
  rw[run_copy_rd (u8:=5) Tryz.underlying34 sizeU8 w.heap.size 0 512 512 (bts zsec) (blk_alloc _) (by rw[bts_length,zsec_length];omega) (hr.alloc _),setRow_alloc,splice_pad]
 clear hr
 generalize (bts zsec).toArray=Z at *
 generalize (bts (pad l)).toArray=Y at *
 go_enter Tryz.func65,Tryz.ntmps65
 go_wp2
 go_ret
 exact⟨rfl,rfl⟩
def placeN(k:Int)(n:Nat):Nat:=(k % (n:Int)).toNat
theorem placeN_lt{k:Int}{n:Nat}(h:1≤n):placeN k n<n:=by
 unfold placeN
 have:=Int.emod_lt_of_pos k (show(0:Int)<n by omega)
 have:=Int.emod_nonneg k (show(n:Int)≠0 by omega)
 omega
theorem placeN_int{k:Int}{n:Nat}(h:1≤n):((placeN k n:Nat):Int)=k % (n:Int):=by
 unfold placeN
 have:=Int.emod_nonneg k (show(n:Int)≠0 by omega)
 omega
set_option maxHeartbeats 400000 in
theorem place_spec(k:Int)(n:Nat)(w:World)(hn:1≤n)(hn2:n≤1000000) :
  Calls Tryz.prog 6 #[.int .i64 k,.int .i64 (n:Int)] w fun e w'=>e=.returned (.int .i64 ((placeN k n:Nat):Int))∧w=w':=by
 have hdiv:k.tmod (n:Int)=k % (n:Int)-((if 0≤k∨(n:Int) ∣ k then 0 else(n:Int).natAbs:Nat):Int):=Int.tmod_eq_emod ..
 have hp:=placeN_int (k:=k) hn
 have hlt:=placeN_lt (k:=k) hn
 have habs:(n:Int).natAbs=n:=by omega
 rw[habs,← hp] at hdiv
 by_cases hc:k.tmod (n:Int)<0
 ·have HE:Hid (k.tmod (n:Int)+(n:Int)=((placeN k n:Nat):Int)):=by
   show _=_
   split at hdiv<;>omega
  have hb:decide (k.tmod (n:Int)<0)=true:=by simpa using hc
  have hlo : -1000000≤k.tmod (n:Int):=by split at hdiv<;>omega
  clear hdiv hp
  go_enter Tryz.func6,Tryz.ntmps6
  go_wp2
  go_ret
  exact⟨ret_int HE.out,rfl⟩
 ·have HE:Hid (k.tmod (n:Int)=((placeN k n:Nat):Int)):=by
   show _=_
   split at hdiv<;>omega
  have hb:decide (k.tmod (n:Int)<0)=false:=by simpa using hc
  clear hdiv hp
  go_enter Tryz.func6,Tryz.ntmps6
  go_wp2
  go_ret
  exact⟨ret_int HE.out,rfl⟩
end Go.Proofs.YtplppdbdfhkljaaGreat
namespace Go.Proofs.YtplppdbdfhkljaaGreat
open Go.RowKit
theorem alloc_size(w:World)(o:Obj):(w.alloc o).heap.size=w.heap.size+1:=by simp
theorem blk_alloc2{w:World}(o o2:Obj):((w.alloc o).alloc o2).heap[w.heap.size+1]?=some o2:=by rw[← alloc_size w o];exact blk_alloc _
theorem rd_row{w:World}{k:Nat}{l:List UInt8}(h:w.heap[k]?=some (.cells (bts l).toArray 5 (0,0))){n:Nat}(hn:l.length=n):Rd w (.slice (some ⟨k,0,none⟩) n n) l:=by
 subst hn
 have:Own w 5 (fun _=>True) (.slice (some ⟨k,0,none⟩) l.length l.length) l:=⟨k,[],trivial,rfl,by simpa using h⟩
 exact this.rd
theorem new_hi(n:Nat)(h0:32≤n)(h1:n≤4096)(w:World) :
  Calls Tryz.prog 66 #[.int .i64 (n:Int)] w fun e w'=>∃g:DG,e=.returned (.pointer (some ⟨g.db,0,none⟩))∧DiskAt w' (fun _=>False) g (Dk.new n)∧w.heap.size≤g.db∧w.heap.size≤g.lb∧w.heap.size≤g.mb∧Upd [] w w':=by
 refine(new_spec n h0 h1 w).mono ?_
 rintro e w' ⟨e1,e2,e3⟩
 exact⟨_,e1,e2,by show w.heap.size≤w.heap.size+2;omega,by show w.heap.size≤w.heap.size;omega,by show w.heap.size≤w.heap.size+1;omega,e3⟩
def DG.Late(g:DG)(w:World):Prop:=w.heap.size≤g.db∧w.heap.size≤g.lb∧w.heap.size≤g.mb
def JG.Late(j:JG)(w:World):Prop:=w.heap.size≤j.jb∧w.heap.size≤j.ab∧j.d.Late w
theorem Upd.lateD{a b c:World}{g:DG}(h:Upd [] a b)(k:Upd [g.db,g.lb,g.mb] b c)(hg:g.Late a):Upd [] a c:=
 h.late k fun i hi=>by
  obtain⟨h1,h2,h3⟩:=hg
  simp at hi;rcases hi with rfl | rfl | rfl
  ·exact .inr h1
  ·exact .inr h2
  ·exact .inr h3
theorem Upd.lateJ{a b c:World}{j:JG}(h:Upd [] a b)(k:Upd j.all b c)(hj:j.Late a):Upd [] a c:=
 h.late k fun i hi=>by
  obtain⟨h0,h00,h1,h2,h3⟩:=hj
  simp[JG.all] at hi;rcases hi with rfl | rfl | rfl | rfl | rfl
  ·exact .inr h0
  ·exact .inr h00
  ·exact .inr h1
  ·exact .inr h2
  ·exact .inr h3
end Go.Proofs.YtplppdbdfhkljaaGreat
namespace Go.Proofs.YtplppdbdfhkljaaGreat
open Go.RowKit
end Go.Proofs.YtplppdbdfhkljaaGreat
namespace Go.Proofs.YtplppdbdfhkljaaGreat
open Go.RowKit
theorem puts_push{w w0:World}{B:Nat}{v:Value}{l:List Put}(hp:PutsOwnB w B AnyF v l)(hl:l.length≤100000)(hB:B≤w.heap.size)(h0:Upd [] w0 w)(hB0:w0.heap.size≤B)(i:Int)(k n c:Nat)(s:List UInt8)(hd:Own w 5 AnyF (.slice (some ⟨k,0,none⟩) n c) s) :
  ∃a b c' w',(∀ty,(Builtin.append_ #[103,103] ty #[v,.slice (some ⟨w.heap.size,0,none⟩) 1 1]).run Tryz.prog (w.alloc (.cells #[.int .i64 i,.slice (some ⟨k,0,none⟩) n c] 110))=.ok (.slice a b c') w')∧PutsOwnB w' B AnyF (.slice a b c') (l ++ [(i,s)])∧
   (∀k,k<w.heap.size→(∀c,w.heap[k]?≠some (.cells c 110 (0,0)))→w'.heap[k]?=w.heap[k]?)∧Upd [] w0 w'∧B≤w'.heap.size:=by
 obtain⟨v',w',hrun,hm',hk',hl',hg'⟩:=(PutsOwnB.keep (w':=w.alloc (.cells #[.int .i64 i,.slice (some ⟨k,0,none⟩) n c] 110)) hp (fun q c hq=>blk_alloc_ne (blk_lt hq)) (fun q c _ hq=>blk_alloc_ne (blk_lt hq))).append hl (by simp;omega) w.heap.size i (.slice (some ⟨k,0,none⟩) n c) s (blk_alloc _)
  (hd.world fun q c _ hq=>blk_alloc_ne (blk_lt hq)) rfl
 obtain⟨a,b,c',rfl⟩:=hm'.shape3
 have hsz:=hg'.size
 refine⟨a,b,c',w',hrun,hm',fun q hq ht=>?_,(h0.alloc _).low (fun q hq=>hl' q (by omega) (by have:=h0.size;simp;omega)) ⟨hg'.size,hg'.os,hg'.tape,hg'.output⟩,by simp at hsz;omega⟩
 rw[hk' q (by simp;omega) (fun c e=>ht c (by rw[blk_alloc_ne hq] at e;exact e)),blk_alloc_ne hq]
theorem fitsL_cons(homes:Nat)(seen:List Int)(i:Int)(b:List UInt8)(l:List Put):fitsL homes seen ((i,b) :: l)=if i<0∨(homes:Int)≤i∨i∈seen then 1 else if b.length≠512 then 9 else fitsL homes (i :: seen) l:=rfl
end Go.Proofs.YtplppdbdfhkljaaGreat
end
section
namespace Go.Proofs.YtplppdbdfhkljaaGreat
open Go.RowKit Go.MapKept Go.ChangeMaps
structure TG where
 tb:Nat
 wb:Nat
 F:Nat→Prop
structure TxAt(w:World)(t:TG)(jb:Nat)(turn:Int)(M:Nat→Option Sec):Prop where
 st:w.heap[t.tb]?=some (.cells #[.pointer (some ⟨jb,0,none⟩),.int .u64 turn,.map (some t.wb)] 101 (0,0))
 wrote:WaitM w t.F t.wb M
def OverV(w:World)(v:Value):Prop:=v=.pointer none∨∃(tb:Nat) (turn:Int),v=.pointer (some ⟨tb,0,none⟩)∧w.heap[tb]?=some (.cells #[.pointer none,.int .u64 turn,.map none] 101 (0,0))
theorem TxAt.world{w w':World}{t:TG}{jb:Nat}{turn:Int}{M:Nat→Option Sec}(h:TxAt w t jb turn M)(h0:w'.heap[t.tb]?=w.heap[t.tb]?)(h1:w'.heap[t.wb]?=w.heap[t.wb]?)(ha:∀(k:Nat) (c:Array Value),w.heap[k]?=some (.cells c 5 (0,0))→w'.heap[k]?=w.heap[k]?):TxAt w' t jb turn M:=
 ⟨h0.trans h.st,h.wrote.world h1 fun k c _=>ha k c⟩
theorem TxAt.lt{w:World}{t:TG}{jb:Nat}{turn:Int}{M:Nat→Option Sec}(h:TxAt w t jb turn M):t.tb<w.heap.size∧t.wb<w.heap.size:=by
 obtain⟨f,hf,_⟩:=h.wrote
 exact⟨blk_lt h.st,hf.lt⟩
theorem TxAt.below{w w':World}{t:TG}{jb:Nat}{turn:Int}{M:Nat→Option Sec}(h:TxAt w t jb turn M)(hu:Upd [] w w'):TxAt w' t jb turn M:=
 h.world (hu.block _ h.lt.1 (by simp)) (hu.block _ h.lt.2 (by simp)) (fun k c e=>hu.block _ (blk_lt e) (by simp))
theorem TxAt.drewN{w:World}{t:TG}{jb:Nat}{turn:Int}{M:Nat→Option Sec}(h:TxAt w t jb turn M)(n:Nat):TxAt (w.drewN n) t jb turn M:=h.below ((Upd.refl _ _).drewN n)
theorem TxAt.map{w:World}{t:TG}{jb:Nat}{turn:Int}{M:Nat→Option Sec}(h:TxAt w t jb turn M){c:Array Value}{e:TypeId}{fr:Nat × Nat}:w.heap[t.wb]?≠some (.cells c e fr):=by
 obtain⟨f,hf,_⟩:=h.wrote
 exact fun q=>hf.not_cells q rfl
theorem TxAt.upd{w w':World}{t:TG}{jb:Nat}{turn:Int}{M:Nat→Option Sec}(h:TxAt w t jb turn M){S:List Nat}(hu:Upd S w w')(h0:t.tb∉S)(h1:t.wb∉S)(ha:∀(k:Nat) (c:Array Value),k∈S→w.heap[k]?≠some (.cells c 5 (0,0))):TxAt w' t jb turn M:=
 h.world (hu.block _ h.lt.1 h0) (hu.block _ h.lt.2 h1) (fun k c e=>hu.block _ (blk_lt e) (fun q=>ha k c q e))
theorem TxAt.jn{w w':World}{t:TG}{jb:Nat}{turn:Int}{M:Nat→Option Sec}(h:TxAt w t jb turn M){F:Nat→Prop}{j:JG}{J:Jn}{D:Dk}(hj:JnAt w F j J D)(h1:t.wb∉j.all){S:List Nat}(hu:Upd S w w')(hS:∀k,k∈S→k∈j.all):TxAt w' t jb turn M:=
 h.upd hu (fun q=>hj.kind h.st (by decide) (by decide) (by decide) (hS _ q)) (fun q=>h1 (hS _ q)) (fun k c q e=>hj.kind e (by decide) (by decide) (by decide) (hS _ q))
theorem JnAt.tx{w w':World}{j:JG}{J:Jn}{D:Dk}{F:Nat→Prop}(hj:JnAt w F j J D){t:TG}{jb:Nat}{turn:Int}{M:Nat→Option Sec}(h:TxAt w t jb turn M)(h1:t.wb∉j.all){S:List Nat}(hu:Upd S w w')(hS:∀k,k∈S→k=t.tb∨k=t.wb):JnAt w' F j J D:=by
 have hb:∀k,k∈j.all→k∉S:=fun k hk hs=>by
  rcases hS k hs with rfl | rfl
  ·exact hj.kind h.st (by decide) (by decide) (by decide) hk
  ·exact h1 hk
 exact hj.world (hu.block _ hj.lt.1 (hb _ (by simp[JG.all]))) (hu.block _ hj.lt.2 (hb _ (by simp[JG.all]))) (hu.block _ hj.disk.lt.1 (hb _ (by simp[JG.all]))) (hu.block _ hj.disk.lt.2.1 (hb _ (by simp[JG.all]))) (hu.block _ hj.disk.lt.2.2 (hb _ (by simp[JG.all])))
  (fun k c _ e=>hu.block _ (blk_lt e) (fun q=>by
   rcases hS k q with rfl | rfl
   ·rw[h.st] at e;simp at e
   ·exact h.map e))
def keysM(M:Nat→Option Sec)(h:Nat):List Nat:=(List.range h).filter fun i=>(M i).isSome
def cntM(M:Nat→Option Sec)(h:Nat):Nat:=(keysM M h).length
def MOk(M:Nat→Option Sec)(h:Nat):Prop:=∀i s,M i=some s→i<h∧s.length=512
theorem mem_keysM{M:Nat→Option Sec}{h:Nat}(ho:MOk M h){i:Nat}:i∈keysM M h↔(M i).isSome=true:=by
 unfold keysM
 rw[List.mem_filter,List.mem_range]
 refine⟨fun q=>q.2,fun q=>⟨?_,q⟩⟩
 obtain⟨s,hs⟩:=Option.isSome_iff_exists.1 q
 exact(ho i s hs).1
theorem keysM_nodup(M:Nat→Option Sec)(h:Nat):(keysM M h).Nodup:=List.Pairwise.filter _ List.nodup_range
theorem MOk.put{M:Nat→Option Sec}{h i:Nat}{s:Sec}(ho:MOk M h)(hi:i<h)(hs:s.length=512):MOk (fun k=>if k=i then some s else M k) h:=by
 intro k x hk
 simp only at hk
 split at hk
 ·rename_i e;subst e;cases hk;exact⟨hi,hs⟩
 ·exact ho k x hk
theorem MOk.none(h:Nat):MOk (fun _=>none) h:=by intro i s q;simp at q
theorem cntM_none(h:Nat):cntM (fun _=>none) h=0:=by unfold cntM keysM;simp
theorem cntM_put{M:Nat→Option Sec}{h i:Nat}{s:Sec}(ho:MOk M h)(hi:i<h):cntM (fun k=>if k=i then some s else M k) h=if(M i).isSome then cntM M h else cntM M h+1:=by
 have hmem:∀k,k∈keysM (fun k=>if k=i then some s else M k) h↔k=i∨k∈keysM M h:=by
  intro k
  unfold keysM
  simp only[List.mem_filter,List.mem_range]
  constructor
  ·rintro⟨a,b⟩
   by_cases q:k=i
   ·exact .inl q
   ·rw[if_neg q] at b;exact .inr ⟨a,b⟩
  ·rintro(rfl | ⟨a,b⟩)
   ·exact⟨hi,by simp⟩
   ·refine⟨a,?_⟩
    by_cases q:k=i
    ·simp[q]
    ·rw[if_neg q];exact b
 by_cases q:(M i).isSome=true
 ·rw[if_pos q]
  refine((List.perm_ext_iff_of_nodup (keysM_nodup _ _) (keysM_nodup _ _)).2 fun k=>?_).length_eq
  rw[hmem]
  refine⟨fun r=>?_,.inr⟩
  rcases r with rfl | r
  ·exact(mem_keysM ho).2 q
  ·exact r
 ·rw[if_neg q]
  have hn:i∉keysM M h:=fun r=>q ((mem_keysM ho).1 r)
  have:(keysM (fun k=>if k=i then some s else M k) h).Perm (i :: keysM M h):=(List.perm_ext_iff_of_nodup (keysM_nodup _ _) (List.nodup_cons.2 ⟨hn,keysM_nodup _ _⟩)).2 fun k=>by rw[hmem,List.mem_cons]
  unfold cntM
  rw[this.length_eq];rfl
theorem cntM_le(M:Nat→Option Sec)(h:Nat):cntM M h≤h:=by
 unfold cntM keysM
 refine Nat.le_trans (List.length_filter_le _ _) ?_
 rw[List.length_range];exact Nat.le_refl _
theorem WaitM.len{w:World}{F:Nat→Prop}{mb:Nat}{M:Nat→Option Sec}{h:Nat}(hw:WaitM w F mb M)(ho:MOk M h) :
  ∀ty n,(Builtin.len_ #[99] ty #[.map (some mb)]).run Tryz.prog (w.drewN n)=.ok (goInt (cntM M h:Int)) (w.drewN n):=by
 obtain⟨f,hf,hf1,hf2⟩:=hw
 intro ty n
 have hfn:MapI (w.drewN n) mb f:=hf.world rfl
 obtain⟨ks,hnd,hmem,hrun⟩:=hfn.keys (P:=Tryz.prog) (T:=99) Tryz.underlying99 ty
 have hp:ks.Perm ((keysM M h).map fun i:Nat=>(i:Int)):=by
  refine(List.perm_ext_iff_of_nodup hnd ?_).2 fun k=>?_
  ·rw[List.Nodup,List.pairwise_map]
   exact(keysM_nodup M h).imp fun hab e=>hab (by omega)
  ·rw[hmem,List.mem_map]
   constructor
   ·intro q
    obtain⟨v,hv⟩:=Option.isSome_iff_exists.1 q
    obtain⟨k0,s,hs,_⟩:=hf1 k v hv
    exact⟨k.toNat,(mem_keysM ho).2 (by rw[hs];rfl),by omega⟩
   ·rintro⟨i,hi,rfl⟩
    obtain⟨s,hs⟩:=Option.isSome_iff_exists.1 ((mem_keysM ho).1 hi)
    obtain⟨v,hv⟩:=hf2 i s hs
    rw[hv];rfl
 have hl:=hp.length_eq
 rw[List.length_map] at hl
 rw[hrun,hl];rfl
theorem WaitM.look{w:World}{F:Nat→Prop}{mb:Nat}{M:Nat→Option Sec}(hw:WaitM w F mb M)(i:Int) :
  (∃v s,0≤i∧M i.toNat=some s∧Own w 5 F v s∧(∀n,(Instr.lookup 99 (.map (some mb)) (.int .i64 i) true).run Tryz.prog (w.drewN n)=.ok (.tuple #[v,.bool true]) (w.drewN n))∧(∀n,(Instr.lookup 99 (.map (some mb)) (.int .i64 i) false).run Tryz.prog (w.drewN n)=.ok v (w.drewN n)))∨
  ((i<0∨M i.toNat=none)∧(∀n,(Instr.lookup 99 (.map (some mb)) (.int .i64 i) true).run Tryz.prog (w.drewN n)=.ok (.tuple #[.slice none 0 0,.bool false]) (w.drewN n))):=by
 obtain⟨f,hf,hf1,hf2⟩:=hw
 cases hv:f i with
 | some v=>
  obtain⟨k0,s,hs,ho⟩:=hf1 i v hv
  refine .inl ⟨v,s,k0,hs,ho,fun n=>?_,fun n=>?_⟩
  ·have hfn:MapI (w.drewN n) mb f:=hf.world rfl
   have:=hfn.lookup (P:=Tryz.prog) (T:=99) Tryz.underlying99 Tryz.underlying3 (zeroBytes _) i true
   rw[hv] at this;exact this
  ·have hfn:MapI (w.drewN n) mb f:=hf.world rfl
   have:=hfn.lookup (P:=Tryz.prog) (T:=99) Tryz.underlying99 Tryz.underlying3 (zeroBytes _) i false
   rw[hv] at this;exact this
 | none=>
  refine .inr ⟨?_,fun n=>?_⟩
  ·by_cases q:i<0
   ·exact .inl q
   ·refine .inr ?_
    cases hs:M i.toNat with
    | none=>rfl
    | some s=>
     obtain⟨v,hv'⟩:=hf2 _ _ hs
     rw[Int.toNat_of_nonneg (by omega),hv] at hv';simp at hv'
  ·have hfn:MapI (w.drewN n) mb f:=hf.world rfl
   have:=hfn.lookup (P:=Tryz.prog) (T:=99) Tryz.underlying99 Tryz.underlying3 (zeroBytes _) i true
   rw[hv] at this;exact this
set_option maxHeartbeats 400000 in
theorem over_no{w:World}{t:TG}{jb:Nat}{turn:Int}{M:Nat→Option Sec}(h:TxAt w t jb turn M) :
  Calls Tryz.prog 43 #[.pointer (some ⟨t.tb,0,none⟩)] w fun e w'=>e=.returned (.bool false)∧∃n,w'=w.drewN n:=by
 have hc:=blk_cell h.st
 clear h
 go_enter Tryz.func43,Tryz.ntmps43
 go_wp2
 go_ret
 exact⟨rfl,0,rfl⟩
set_option maxHeartbeats 400000 in
theorem over_yes{w:World}{v:Value}(h:OverV w v) :
  Calls Tryz.prog 43 #[v] w fun e w'=>e=.returned (.bool true)∧∃n,w'=w.drewN n:=by
 rcases h with rfl | ⟨tb,turn,rfl,hb⟩
 ·go_enter Tryz.func43,Tryz.ntmps43
  go_wp2
  go_ret
  exact⟨rfl,0,rfl⟩
 ·have hc:=blk_cell hb
  clear hb
  go_enter Tryz.func43,Tryz.ntmps43
  go_wp2
  go_ret
  exact⟨rfl,0,rfl⟩
set_option maxHeartbeats 400000 in
theorem touched_spec{w:World}{t:TG}{jb:Nat}{turn:Int}{M:Nat→Option Sec}(h:TxAt w t jb turn M){hm:Nat}(ho:MOk M hm) :
  Calls Tryz.prog 10 #[.pointer (some ⟨t.tb,0,none⟩)] w fun e w'=>e=.returned (.int .i64 (cntM M hm:Int))∧∃n,w'=w.drewN n:=by
 have H:=Lib.hid h
 have hc:=blk_cell h.st
 have hlen:=h.wrote.len ho
 clear h
 go_enter Tryz.func10,Tryz.ntmps10
 go_wp2_with fail
 refine(over_no H.out).mono ?_
 rintro e w' ⟨rfl,n,rfl⟩
 go_wp2_with fail
 go_ret
 exact⟨rfl,_,rfl⟩
set_option maxHeartbeats 400000 in
theorem touched_over{w:World}{v:Value}(h:OverV w v) :
  Calls Tryz.prog 10 #[v] w fun e w'=>e=.returned (.int .i64 0)∧∃n,w'=w.drewN n:=by
 have H:=Lib.hid h
 clear h
 go_enter Tryz.func10,Tryz.ntmps10
 go_wp2_with fail
 refine(over_yes H.out).mono ?_
 rintro e w' ⟨rfl,n,rfl⟩
 go_wp2_with fail
 go_ret
 exact⟨rfl,_,rfl⟩
set_option maxHeartbeats 400000 in
theorem abort_spec{w:World}{t:TG}{jb:Nat}{turn:Int}{M:Nat→Option Sec}(h:TxAt w t jb turn M) :
  Calls Tryz.prog 22 #[.pointer (some ⟨t.tb,0,none⟩)] w fun e w'=>e=.returned (.tuple #[])∧w'.heap[t.tb]?=some (.cells #[.pointer none,.int .u64 turn,.map none] 101 (0,0))∧WaitM w' t.F t.wb M∧Upd [t.tb] w w':=by
 have H:=Lib.hid h
 have hc:=blk_cell h.st
 have hf:=blk_free h.st
 have hR:∀W,W=(w.setCell ⟨t.tb,0,none⟩ (.pointer none)).setCell ⟨t.tb,2,none⟩ (.map none)→W.heap[t.tb]?=some (.cells #[.pointer none,.int .u64 turn,.map none] 101 (0,0))∧WaitM W t.F t.wb M∧Upd [t.tb] w W:=by
  rintro W rfl
  have hu:Upd [t.tb] w ((w.setCell ⟨t.tb,0,none⟩ (.pointer none)).setCell ⟨t.tb,2,none⟩ (.map none)):=((Upd.refl _ _).set _ (by simp)).set _ (by simp)
  refine⟨?_,H.out.wrote.world (hu.block _ H.out.lt.2 ?_) (fun k c _ e=>hu.block _ (blk_lt e) ?_),hu⟩
  ·rw[blk_set (blk_set H.out.st 0 _) 2 _];simp
  ·simp;intro e;exact H.out.map (by rw[e];exact H.out.st)
  ·simp;rintro rfl;rw[H.out.st] at e;simp at e
 have HR:=Lib.hid hR
 clear h hR
 go_enter Tryz.func22,Tryz.ntmps22
 go_wp2_with fail
 go_end0
 exact⟨rfl,HR.out _ rfl⟩
set_option maxHeartbeats 400000 in
theorem abort_over{w:World}{v:Value}(h:OverV w v) :
  Calls Tryz.prog 22 #[v] w fun e w'=>e=.returned (.tuple #[])∧OverV w' v∧∃S,(∀k,k∈S→v=.pointer (some ⟨k,0,none⟩))∧Upd S w w':=by
 rcases h with rfl | ⟨tb,turn,rfl,hb⟩
 ·go_enter Tryz.func22,Tryz.ntmps22
  go_wp2
  go_end0
  exact⟨rfl,.inl rfl,[],by simp,Upd.refl _ _⟩
 ·have hc:=blk_cell hb
  have hf:=blk_free hb
  have hR:∀W,W=(w.setCell ⟨tb,0,none⟩ (.pointer none)).setCell ⟨tb,2,none⟩ (.map none)→OverV W (.pointer (some ⟨tb,0,none⟩))∧Upd [tb] w W:=by
   rintro W rfl
   refine⟨.inr ⟨tb,turn,rfl,?_⟩,((Upd.refl _ _).set _ (by simp)).set _ (by simp)⟩
   rw[blk_set (blk_set hb 0 _) 2 _];simp
  have HR:=Lib.hid hR
  clear hb hR
  go_enter Tryz.func22,Tryz.ntmps22
  go_wp2_with fail
  go_end0
  exact⟨rfl,(HR.out _ rfl).1,[tb],by simp,(HR.out _ rfl).2⟩
end Go.Proofs.YtplppdbdfhkljaaGreat
namespace Go.Proofs.YtplppdbdfhkljaaGreat
open Go.RowKit Go.MapKept Go.ChangeMaps
theorem PutsAt.nil(w:World):PutsAt w (.slice none 0 0) []:=⟨[],⟨by simp[putCells],.inl ⟨rfl,rfl⟩⟩,rfl,by simp⟩
theorem com_nothing{J:Jn}{D:Dk}(hr:8≤J.last.ring)(hm:J.may D=0):J.comD D []=(D,0)∧J.com D []=J:=by
 have hf:J.fits D.n []=0:=by
  unfold Jn.fits
  have:fitsL (J.homes D.n) [] []=0:=rfl
  rw[this,if_neg (by simp),if_neg (by simp;omega)]
 constructor
 ·unfold Jn.comD;rw[if_neg (by simpa using hm),if_neg (by simpa using hf),if_pos rfl]
 ·unfold Jn.com;rw[if_neg (by simpa using hm),if_neg (by simpa using hf),if_pos rfl]
set_option maxRecDepth 100000 in
set_option maxHeartbeats 1000000 in
theorem begin_ok{w:World}{j:JG}{J:Jn}{D:Dk}{F:Nat→Prop}(h:JnAt w F j J D)(hn:∀k,w.heap.size≤k→F k)(hm:J.may D=0)(hus:J.used≤5000) :
  Calls Tryz.prog 12 #[.pointer (some ⟨j.jb,0,none⟩)] w fun e w'=>∃t:TG,e=.returned (.tuple #[.pointer (some ⟨t.tb,0,none⟩),.int .i64 0])∧w.heap.size≤t.tb∧w.heap.size≤t.wb∧TxAt w' t j.jb (J.turn-1) (fun _=>none)∧JnAt w' F j J D∧Upd j.all w w'∧t.F=F:=by
 obtain⟨q1,q2⟩:=com_nothing h.ok.ring0 hm
 have HC:=Lib.hid (com_spec h _ [] (PutsAt.nil w) (by simp) hus)
 unfold ComPost at HC
 rw[q1,q2] at HC
 have hmm:=@run_makeMap Tryz.prog
 have HN:=Lib.hid hn
 clear h q1 q2 hm hn
 go_enter Tryz.func12,Tryz.ntmps12
 go_wp2_with fail
 refine HC.out.mono ?_
 rintro e w1 ⟨rfl,hj1,hu1⟩
 have HJ1:=Lib.hid (hj1.gr HN.out)
 have HU1:=Lib.hid hu1
 have HTU:=Lib.hid (turn_spec HJ1.out)
 clear hj1 hu1
 go_wp2_with fail
 refine HTU.out.mono ?_
 rintro e w' ⟨rfl,rfl⟩
 go_wp2_with fail
 go_ret2
 have hb1:=blk_alloc (w:=w1.alloc (.map #[] 0)) (.cells #[.pointer (some ⟨j.jb,0,none⟩),.int .u64 (J.turn-1),.map (some w1.heap.size)] 101)
 rw[World.size_alloc] at hb1
 have hb0:((w1.alloc (.map #[] 0)).alloc (.cells #[.pointer (some ⟨j.jb,0,none⟩),.int .u64 (J.turn-1),.map (some w1.heap.size)] 101)).heap[w1.heap.size]?=some (.map #[] 0):=by
  rw[blk_alloc_ne (by simp)];exact blk_alloc _
 have hu2:Upd [] w1 ((w1.alloc (.map #[] 0)).alloc (.cells #[.pointer (some ⟨j.jb,0,none⟩),.int .u64 (J.turn-1),.map (some w1.heap.size)] 101)):=((Upd.refl _ _).alloc _).alloc _
 have hs:=HU1.out.size
 exact⟨⟨w1.heap.size+1,w1.heap.size,F⟩,rfl,by show w.heap.size≤w1.heap.size+1;omega,hs,⟨hb1,⟨fun _=>none,MapI.made hb0,by simp,by simp⟩⟩,HJ1.out.below hu2,HU1.out.trans (hu2.mono (by simp)),rfl⟩
set_option maxHeartbeats 400000 in
theorem readT_over{w:World}{v:Value}(h:OverV w v)(i:Int) :
  Calls Tryz.prog 89 #[v,.int .i64 i] w fun e w'=>e=.returned (.tuple #[.slice none 0 0,.int .i64 5])∧∃n,w'=w.drewN n:=by
 have H:=Lib.hid h
 clear h
 go_enter Tryz.func89,Tryz.ntmps89
 go_wp2_with fail
 refine(over_yes H.out).mono ?_
 rintro e w' ⟨rfl,n,rfl⟩
 go_wp2_with fail
 go_ret2
 exact⟨rfl,_,rfl⟩
def readTx(J:Jn)(D:Dk)(M:Nat→Option Sec)(i:Int):List UInt8 × Int × Bool:=
 if 0≤i∧(M i.toNat).isSome then((M i.toNat).getD [],0,J.done) else J.read D i
set_option maxRecDepth 100000 in
set_option maxHeartbeats 1000000 in
theorem readT_spec{w:World}{t:TG}{j:JG}{turn:Int}{M:Nat→Option Sec}(h:TxAt w t j.jb turn M){J:Jn}{D:Dk}{F:Nat→Prop}(hj:JnAt w F j J D)(hne:t.wb∉j.all){hm:Nat}(ho:MOk M hm)(i:Int) :
  Calls Tryz.prog 89 #[.pointer (some ⟨t.tb,0,none⟩),.int .i64 i] w fun e w'=>∃v,e=.returned (.tuple #[v,.int .i64 (readTx J D M i).2.1])∧OwnN w' 5 (fun k=>w.heap.size≤k) v (readTx J D M i).1∧JnAt w' F j { J with done:=(readTx J D M i).2.2 } D∧TxAt w' t j.jb turn M∧Upd [j.jb] w w':=by
 have H:=Lib.hid h
 have HJ:=Lib.hid hj
 have hc:=blk_cell h.st
 have hne2:=Lib.hid hne
 rcases h.wrote.look i with⟨v,s,h0,hs,hown,hl1,_⟩ | ⟨hno,hl1⟩
 ·have HL:=Lib.hid (ho _ _ hs).2
  have hR:readTx J D M i=(s,0,J.done):=by unfold readTx;rw[if_pos ⟨h0,by rw[hs];rfl⟩,hs];rfl
  have HRD:=Lib.hid hown.rd
  have HR:=Lib.hid hR
  clear h hj hne hs hown hR
  go_enter Tryz.func89,Tryz.ntmps89
  go_wp2_with fail
  refine(over_no H.out).mono ?_
  rintro e w' ⟨rfl,n,rfl⟩
  go_wp2_with fail
  refine(clone_spec v s _ (HRD.out.drewN n) (by rw[HL.out];omega)).mono ?_
  rintro e w2 ⟨v',rfl,hu2,ho2⟩
  have HU2:=Lib.hid hu2
  have HO2:=Lib.hid ho2
  clear hu2 ho2
  go_wp2_with fail
  go_ret2
  rw[HR.out]
  exact⟨_,rfl,HO2.out,(HJ.out.drewN _).below HU2.out,(H.out.drewN _).below HU2.out,(((Upd.refl _ _).drewN _).trans HU2.out).mono (by simp)⟩
 ·have hR:readTx J D M i=J.read D i:=by
   unfold readTx;rw[if_neg]
   rintro⟨a,b⟩
   rcases hno with q | q
   ·omega
   ·rw[q] at b;simp at b
  have HR:=Lib.hid hR
  have HRJ:=fun n=>Lib.hid (readJ_spec (hj.drewN n) i)
  clear h hj hne hno hR
  go_enter Tryz.func89,Tryz.ntmps89
  go_wp2_with fail
  refine(over_no H.out).mono ?_
  rintro e w' ⟨rfl,n,rfl⟩
  go_wp2_with fail
  refine(HRJ n).out.mono ?_
  rintro e w2 ⟨v,rfl,ho2,hj2,hu2⟩
  have HU2:=Lib.hid hu2
  have HO2:=Lib.hid ho2
  have HJ2:=Lib.hid hj2
  clear hu2 ho2 hj2
  go_wp2_with fail
  go_ret2
  rw[HR.out]
  exact⟨_,rfl,HO2.out,HJ2.out,(H.out.drewN n).jn (HJ.out.drewN n) hne2.out HU2.out (by intro k hk;simp at hk;simp[JG.all,hk]),((Upd.refl _ _).drewN n).trans HU2.out⟩
def wrE(M:Nat→Option Sec)(hm:Nat)(i:Int)(len:Nat):Int:=
 if i<0∨(hm:Int)≤i then 1 else if len≠512 then 9 else if M i.toNat=none∧40≤cntM M hm then 2 else 0
def wrM(M:Nat→Option Sec)(hm:Nat)(i:Int)(b:List UInt8):Nat→Option Sec:=
 if wrE M hm i b.length=0 then(fun k=>if k=i.toNat then some b else M k) else M
theorem wrE_ok{M:Nat→Option Sec}{hm:Nat}{i:Int}{n:Nat}(h:wrE M hm i n=0):0≤i∧i<hm∧n=512∧(M i.toNat=none→cntM M hm<40):=by
 unfold wrE at h
 split at h
 ·omega
 ·split at h
  ·omega
  ·split at h
   ·omega
   ·rename_i a b c
    refine⟨by omega,by omega,by omega,fun q=>?_⟩
    exact Nat.lt_of_not_le fun r=>c ⟨q,r⟩
theorem MOk.wr{M:Nat→Option Sec}{hm:Nat}(ho:MOk M hm)(i:Int)(b:List UInt8):MOk (wrM M hm i b) hm:=by
 unfold wrM
 split
 ·rename_i h
  obtain⟨a1,a2,a3,_⟩:=wrE_ok h
  exact ho.put (by omega) a3
 ·exact ho
set_option maxHeartbeats 400000 in
theorem writeT_over{w:World}{v:Value}(h:OverV w v)(i:Int)(a:Option Addr)(n c:Nat) :
  Calls Tryz.prog 64 #[v,.int .i64 i,.slice a n c] w fun e w'=>e=.returned (.int .i64 5)∧∃n,w'=w.drewN n:=by
 have H:=Lib.hid h
 clear h
 go_enter Tryz.func64,Tryz.ntmps64
 go_wp2_with fail
 refine(over_yes H.out).mono ?_
 rintro e w' ⟨rfl,n,rfl⟩
 go_wp2_with fail
 go_ret
 exact⟨rfl,_,rfl⟩
theorem WaitM.look2{w:World}{F:Nat→Prop}{mb:Nat}{M:Nat→Option Sec}(hw:WaitM w F mb M)(i:Int) :
  ∃(v0:Value) (mine:Bool),(∀n,(Instr.lookup 99 (.map (some mb)) (.int .i64 i) true).run Tryz.prog (w.drewN n)=.ok (.tuple #[v0,.bool mine]) (w.drewN n))∧(mine=true↔0≤i∧(M i.toNat).isSome=true):=by
 rcases hw.look i with⟨v,s,h0,hs,_,h1,_⟩ | ⟨hno,h1⟩
 ·exact⟨v,true,h1,by simp[h0,hs]⟩
 ·refine⟨.slice none 0 0,false,h1,?_⟩
  constructor
  ·intro q;simp at q
  ·rintro⟨a,b⟩
   rcases hno with q | q
   ·omega
   ·rw[q] at b;simp at b
theorem writeT_map{w w2:World}{t:TG}{jb:Nat}{turn:Int}{M:Nat→Option Sec}(h:TxAt w t jb turn M){i:Nat}{b:List UInt8}(hb:0<b.length)(hu:Upd [] w w2){v:Value}{F:Nat→Prop}(ho:OwnN w2 5 F v b)(hF:∀k,F k→t.F k) :
  ∃o,(Instr.mapUpdate 99 (.map (some t.wb)) (.int .i64 (i:Int)) v).run Tryz.prog w2=.ok () (setBlock w2 t.wb o)∧TxAt (setBlock w2 t.wb o) t jb turn (fun k=>if k=i then some b else M k)∧(setBlock w2 t.wb o).cell? ⟨t.tb,2,none⟩=some (.map (some t.wb))∧Upd [t.wb] w (setBlock w2 t.wb o):=by
 have h2:TxAt w2 t jb turn M:=h.below hu
 obtain⟨o,hrun,hmap⟩:=h2.wrote.update (i:Int) (by omega) v b ((ho.own hb).mono hF)
 rw[Int.toNat_natCast] at hmap
 have hne:t.tb≠t.wb:=fun e=>h2.map (by rw[← e];exact h2.st)
 have hst:(setBlock w2 t.wb o).heap[t.tb]?=_:=(setBlock_ne o hne).trans h2.st
 refine⟨o,hrun,⟨hst,hmap⟩,?_,(hu.mono (by simp)).setBlock _ (.inl (by simp))⟩
 rw[blk_cell hst];rfl
set_option maxRecDepth 100000 in
set_option maxHeartbeats 2000000 in
theorem writeT_spec{w:World}{t:TG}{j:JG}{turn:Int}{M:Nat→Option Sec}(h:TxAt w t j.jb turn M)(hnw:∀k,w.heap.size≤k→t.F k){J:Jn}{D:Dk}{F:Nat→Prop}(hj:JnAt w F j J D)(hne:t.wb∉j.all){hm:Nat}(ho:MOk M hm)(hh:J.homes D.n=hm)(i:Int)(v:Value)(b:List UInt8)(hr:Rd w v b)(hb:b.length≤1000000) :
  Calls Tryz.prog 64 #[.pointer (some ⟨t.tb,0,none⟩),.int .i64 i,v] w fun e w'=>e=.returned (.int .i64 (wrE M hm i b.length))∧TxAt w' t j.jb turn (wrM M hm i b)∧JnAt w' F j J D∧Upd [t.wb] w w':=by
 obtain⟨av,cv,rfl,_⟩:=id hr
 have H:=Lib.hid h
 have HJ:=Lib.hid hj
 have HR:=Lib.hid hr
 have hc:=blk_cell h.st
 have hne2:=Lib.hid hne
 have HO:=Lib.hid ho
 have HLB:=Lib.hid hb
 have HHM:=fun n=>Lib.hid (homes_spec (hj.drewN n))
 rw[hh] at HHM
 have HLEN:=Lib.hid (h.wrote.len ho)
 obtain⟨v0,mine,hl,hmine⟩:=h.wrote.look2 i
 have hh1:hm≤5000:=by have:=hj.disk.ok.n1;unfold Jn.homes at hh;omega
 have HNW:=Lib.hid hnw
 clear h hj hr hne ho hb hh hnw
 by_cases b1:i<0
 ·have d1:decide (i<0)=true:=by simpa using b1
  have HE:Hid (wrE M hm i b.length=1):=by show _=_;unfold wrE;rw[if_pos (.inl b1)]
  have HM:Hid (wrM M hm i b=M):=by show _=_;unfold wrM;rw[if_neg (by rw[HE.out];decide)]
  clear hmine b1
  go_enter Tryz.func64,Tryz.ntmps64
  go_wp2_with fail
  refine(over_no H.out).mono ?_
  rintro e w' ⟨rfl,n,rfl⟩
  go_wp2_with fail
  go_ret
  rw[HE.out,HM.out]
  exact⟨rfl,H.out.drewN _,HJ.out.drewN _,(Upd.refl _ _).drewN _⟩
 obtain⟨iN,rfl⟩:=Int.eq_ofNat_of_zero_le (show 0≤i by omega)
 have d1:decide ((iN:Int)<0)=false:=by simp
 by_cases b2:hm≤iN
 ·have d2:decide (hm≤iN)=true:=by simpa using b2
  have HE:Hid (wrE M hm (iN:Int) b.length=1):=by show _=_;unfold wrE;rw[if_pos (.inr (by omega))]
  have HM:Hid (wrM M hm (iN:Int) b=M):=by show _=_;unfold wrM;rw[if_neg (by rw[HE.out];decide)]
  clear hmine b1 b2
  go_enter Tryz.func64,Tryz.ntmps64
  go_wp2_with fail
  refine(over_no H.out).mono ?_
  rintro e w' ⟨rfl,n,rfl⟩
  go_wp2_with fail
  refine(HHM n).out.mono ?_
  rintro e w' ⟨rfl,m,rfl⟩
  go_wp2_with fail
  go_ret
  rw[HE.out,HM.out]
  exact⟨rfl,H.out.drewN _,HJ.out.drewN _,(Upd.refl _ _).drewN _⟩
 have d2:decide (hm≤iN)=false:=by simpa using b2
 by_cases b3:b.length=512
 ·have d3:((b.length:Int) != 512)=false:=by simp[b3]
  have HLB2:Hid (0<b.length):=by show 0<_;omega
  have hor:(mine=true∧M iN≠none)∨(mine=false∧M iN=none∧40≤cntM M hm)∨(mine=false∧cntM M hm<40):=by
   cases hmi:mine with
   | true=>
    left;refine⟨rfl,fun q=>?_⟩
    have:=(hmine.1 hmi).2
    rw[Int.toNat_natCast,q] at this;simp at this
   | false=>
    right
    have hn:M iN=none:=by
     cases hq:M iN with
     | none=>rfl
     | some s=>exact absurd (hmine.2 ⟨by omega,by rw[Int.toNat_natCast,hq];rfl⟩) (by simp[hmi])
    by_cases q:40≤cntM M hm
    ·exact .inl ⟨rfl,hn,q⟩
    ·exact .inr ⟨rfl,by omega⟩
  clear hmine
  have hc5:cntM M hm≤5000:=by have:=cntM_le M hm;omega
  rcases hor with⟨rfl,b4⟩ | ⟨rfl,b4,b5⟩ | ⟨rfl,b4⟩
  ·have HE:Hid (wrE M hm (iN:Int) b.length=0):=by show _=_;unfold wrE;rw[if_neg (by omega),if_neg (by simpa using b3),if_neg (fun q=>b4 q.1)]
   have HM:Hid (wrM M hm (iN:Int) b=fun k=>if k=iN then some b else M k):=by show _=_;unfold wrM;rw[if_pos HE.out,Int.toNat_natCast]
   clear b1 b2 b3 b4
   go_enter Tryz.func64,Tryz.ntmps64
   go_wp2_with fail
   refine(over_no H.out).mono ?_
   rintro e w' ⟨rfl,n,rfl⟩
   go_wp2_with fail
   refine HHM n |>.out.mono ?_
   rintro e w' ⟨rfl,m,rfl⟩
   have q:Qt w ((w.drewN n).drewN m):=(Qt.of_drewN (n:=n) rfl).trans (Qt.of_drewN rfl)
   have hlen2:∀ty,(Builtin.len_ #[99] ty #[.map (some t.wb)]).run Tryz.prog ((w.drewN n).drewN m)=.ok (goInt (cntM M hm:Int)) ((w.drewN n).drewN m):=fun ty=>by rw[World.drewN_drewN];exact HLEN.out ty _
   generalize (w.drewN n).drewN m=W at q hlen2 ⊢
   have HTW:=Lib.hid (H.out.below q.upd)
   have HJW:=Lib.hid (HJ.out.below q.upd)
   have HRW:=Lib.hid (HR.out.below q.upd)
   have cW:=blk_cell HTW.out.st
   have cW2:W.cell? ⟨t.tb,2,none⟩=some (.map (some t.wb)):=by rw[cW];rfl
   have HQ:=Lib.hid q
   clear q cW hl hc
   go_wp2_with fail
   clear hlen2
   go_region_held3 (fun w'=>w'.cell? ⟨t.tb,2,none⟩=some (.map (some t.wb))) (go_keep)
    (first | (go_at_call 106;(with_reducible refine(clone_spec _ b _ ?_ ?_).mono ?_);exact HRW.out;exact HLB.out;rintro e w2 ⟨v',rfl,hu2,ho2⟩;obtain⟨o,hrun,hmap,hcell,hus⟩:=writeT_map (i:=iN) (HTW.out.below (Upd.refl _ _).drew) HLB2.out hu2 ho2 (fun k hk=>HNW.out k (Nat.le_trans HQ.out.upd.size hk));have HMAP:=Lib.hid hmap;have HUS:=Lib.hid hus;have hc2:w2.cell? ⟨t.tb,2,none⟩=some (.map (some t.wb)):=(World.cell?_of_block (hu2.block _ HTW.out.lt.1 (by simp))).trans cW2;clear hu2 ho2 hmap hus))
   go_wp2_with fail
   go_ret
   rw[HE.out,HM.out]
   exact⟨rfl,HMAP.out,(HJW.out.below (Upd.refl _ _).drew).tx (HTW.out.below (Upd.refl _ _).drew) hne2.out HUS.out (by simp),((HQ.out.upd.drew).mono (by simp)).trans HUS.out⟩
  ·have d5:decide (40≤(cntM M hm:Int))=true:=by simp;omega
   have HE:Hid (wrE M hm (iN:Int) b.length=2):=by show _=_;unfold wrE;rw[if_neg (by omega),if_neg (by simpa using b3),if_pos ⟨by rw[Int.toNat_natCast];exact b4,b5⟩]
   have HM:Hid (wrM M hm (iN:Int) b=M):=by show _=_;unfold wrM;rw[if_neg (by rw[HE.out];decide)]
   have hlen:=HLEN.out
   clear b1 b2 b3 b4 b5
   go_enter Tryz.func64,Tryz.ntmps64
   go_wp2_with fail
   refine(over_no H.out).mono ?_
   rintro e w' ⟨rfl,n,rfl⟩
   go_wp2_with fail
   refine(HHM n).out.mono ?_
   rintro e w' ⟨rfl,m,rfl⟩
   go_wp2_with fail
   go_ret
   rw[HE.out,HM.out]
   exact⟨rfl,H.out.drewN _,HJ.out.drewN _,(Upd.refl _ _).drewN _⟩
  ·have d5:decide (40≤(cntM M hm:Int))=false:=by simp;omega
   have HE:Hid (wrE M hm (iN:Int) b.length=0):=by show _=_;unfold wrE;rw[if_neg (by omega),if_neg (by simpa using b3),if_neg (fun q=>by have:=q.2;omega)]
   have HM:Hid (wrM M hm (iN:Int) b=fun k=>if k=iN then some b else M k):=by show _=_;unfold wrM;rw[if_pos HE.out,Int.toNat_natCast]
   clear b1 b2 b3 b4
   go_enter Tryz.func64,Tryz.ntmps64
   go_wp2_with fail
   refine(over_no H.out).mono ?_
   rintro e w' ⟨rfl,n,rfl⟩
   go_wp2_with fail
   refine HHM n |>.out.mono ?_
   rintro e w' ⟨rfl,m,rfl⟩
   have q:Qt w ((w.drewN n).drewN m):=(Qt.of_drewN (n:=n) rfl).trans (Qt.of_drewN rfl)
   have hlen2:∀ty,(Builtin.len_ #[99] ty #[.map (some t.wb)]).run Tryz.prog ((w.drewN n).drewN m)=.ok (goInt (cntM M hm:Int)) ((w.drewN n).drewN m):=fun ty=>by rw[World.drewN_drewN];exact HLEN.out ty _
   generalize (w.drewN n).drewN m=W at q hlen2 ⊢
   have HTW:=Lib.hid (H.out.below q.upd)
   have HJW:=Lib.hid (HJ.out.below q.upd)
   have HRW:=Lib.hid (HR.out.below q.upd)
   have cW:=blk_cell HTW.out.st
   have cW2:W.cell? ⟨t.tb,2,none⟩=some (.map (some t.wb)):=by rw[cW];rfl
   have HQ:=Lib.hid q
   clear q cW hl hc
   go_wp2_with fail
   clear hlen2
   go_region_held3 (fun w'=>w'.cell? ⟨t.tb,2,none⟩=some (.map (some t.wb))) (go_keep)
    (first | (go_at_call 106;(with_reducible refine(clone_spec _ b _ ?_ ?_).mono ?_);exact HRW.out;exact HLB.out;rintro e w2 ⟨v',rfl,hu2,ho2⟩;obtain⟨o,hrun,hmap,hcell,hus⟩:=writeT_map (i:=iN) (HTW.out.below (Upd.refl _ _).drew) HLB2.out hu2 ho2 (fun k hk=>HNW.out k (Nat.le_trans HQ.out.upd.size hk));have HMAP:=Lib.hid hmap;have HUS:=Lib.hid hus;have hc2:w2.cell? ⟨t.tb,2,none⟩=some (.map (some t.wb)):=(World.cell?_of_block (hu2.block _ HTW.out.lt.1 (by simp))).trans cW2;clear hu2 ho2 hmap hus))
   go_wp2_with fail
   go_ret
   rw[HE.out,HM.out]
   exact⟨rfl,HMAP.out,(HJW.out.below (Upd.refl _ _).drew).tx (HTW.out.below (Upd.refl _ _).drew) hne2.out HUS.out (by simp),((HQ.out.upd.drew).mono (by simp)).trans HUS.out⟩
 ·have d3:((b.length:Int) != 512)=true:=by simp;omega
  have HE:Hid (wrE M hm (iN:Int) b.length=9):=by show _=_;unfold wrE;rw[if_neg (by omega),if_pos b3]
  have HM:Hid (wrM M hm (iN:Int) b=M):=by show _=_;unfold wrM;rw[if_neg (by rw[HE.out];decide)]
  clear hmine b1 b2 b3
  go_enter Tryz.func64,Tryz.ntmps64
  go_wp2_with fail
  refine(over_no H.out).mono ?_
  rintro e w' ⟨rfl,n,rfl⟩
  go_wp2_with fail
  refine(HHM n).out.mono ?_
  rintro e w' ⟨rfl,m,rfl⟩
  go_wp2_with fail
  go_ret
  rw[HE.out,HM.out]
  exact⟨rfl,H.out.drewN _,HJ.out.drewN _,(Upd.refl _ _).drewN _⟩
end Go.Proofs.YtplppdbdfhkljaaGreat
namespace Go.Proofs.YtplppdbdfhkljaaGreat
open Go.RowKit Go.MapKept Go.ChangeMaps
def txL(M:Nat→Option Sec)(hm:Nat):List Put:=(keysM M hm).map fun(i:Nat)=>((i:Int),(M i).getD [])
def Jn.txD(J:Jn)(D:Dk)(turn:Int)(l:List Put):Dk × Int:=if J.turn-1≠turn then(D,10) else J.comD D l
def Jn.txJ(J:Jn)(D:Dk)(turn:Int)(l:List Put):Jn:=if J.turn-1≠turn then J else J.com D l
set_option maxHeartbeats 400000 in
theorem commitT_over{w:World}{v:Value}(h:OverV w v) :
  Calls Tryz.prog 11 #[v] w fun e w'=>e=.returned (.int .i64 5)∧∃n,w'=w.drewN n:=by
 have H:=Lib.hid h
 clear h
 go_enter Tryz.func11,Tryz.ntmps11
 go_wp2_with fail
 refine(over_yes H.out).mono ?_
 rintro e w' ⟨rfl,n,rfl⟩
 go_wp2_with fail
 go_ret
 exact⟨rfl,_,rfl⟩
theorem txL_length(M:Nat→Option Sec)(hm:Nat):(txL M hm).length=cntM M hm:=by unfold txL cntM;rw[List.length_map]
theorem txL_get(M:Nat→Option Sec)(hm:Nat){k:Nat}(h:k<(keysM M hm).length):(txL M hm).take (k+1)=(txL M hm).take k ++ [((((keysM M hm)[k]:Nat):Int),(M (keysM M hm)[k]).getD [])]:=by
 unfold txL
 rw[List.take_succ_eq_append_getElem (by simpa using h),List.getElem_map]
theorem keysF_M{M:Nat→Option Sec}{hm:Nat}(ho:MOk M hm){w:World}{F:Nat→Prop}{f:Int→Option Value}(hf1:∀k v,f k=some v→0≤k∧∃s,M k.toNat=some s∧Own w 5 F v s)(hf2:∀i s,M i=some s→∃v,f (i:Int)=some v) :
  keysF f hm=keysM M hm∧∀k v,f k=some v→0≤k∧k<(hm:Int):=by
 constructor
 ·unfold keysF keysM
  refine List.filter_congr fun i _=>?_
  rw[Bool.eq_iff_iff]
  constructor
  ·intro q
   obtain⟨v,hv⟩:=Option.isSome_iff_exists.1 q
   obtain⟨_,s,hs,_⟩:=hf1 _ v hv
   rw[Int.toNat_natCast] at hs
   rw[hs];rfl
  ·intro q
   obtain⟨s,hs⟩:=Option.isSome_iff_exists.1 q
   obtain⟨v,hv⟩:=hf2 i s hs
   rw[hv];rfl
 ·intro k v hk
  obtain⟨k0,s,hs,_⟩:=hf1 k v hk
  have:=(ho _ s hs).1
  omega
set_option maxRecDepth 100000 in
set_option maxHeartbeats 2000000 in
theorem commitT_spec{w:World}{t:TG}{j:JG}{turn:Int}{M:Nat→Option Sec}(h:TxAt w t j.jb turn M){J:Jn}{D:Dk}{F:Nat→Prop}(hj:JnAt w F j J D)(hnw:∀k,w.heap.size≤k→F k)(hne:t.wb∉j.all){hm:Nat}(ho:MOk M hm)(hm1:hm≤5000)(hus:J.used≤5000) :
  Calls Tryz.prog 11 #[.pointer (some ⟨t.tb,0,none⟩)] w fun e w'=>e=.returned (.int .i64 (J.txD D turn (txL M hm)).2)∧OverV w' (.pointer (some ⟨t.tb,0,none⟩))∧JnAt w' F j (J.txJ D turn (txL M hm)) (J.txD D turn (txL M hm)).1∧Upd (t.tb :: j.all) w w':=by
 have H:=Lib.hid h
 have HJ:=Lib.hid hj
 have hc:=blk_cell h.st
 have hne2:=Lib.hid hne
 have HO:=Lib.hid ho
 have HM1:=Lib.hid hm1
 have HUS:=Lib.hid hus
 have c0:w.cell? ⟨t.tb,0,none⟩=some (.pointer (some ⟨j.jb,0,none⟩)):=by rw[hc];rfl
 have c2:w.cell? ⟨t.tb,2,none⟩=some (.map (some t.wb)):=by rw[hc];rfl
 have hlt:=h.lt.1
 have HNW:=Lib.hid hnw
 clear h hj hne ho hm1 hus hc hnw
 go_enter Tryz.func11,Tryz.ntmps11
 go_wp2_with fail
 refine(over_no H.out).mono ?_
 rintro e w' ⟨rfl,n,rfl⟩
 go_wp2_with fail
 go_quiet (fail)
 go_wp2_with fail
 have hwu:Upd [] w (w.drewN (n+nq)):=(Upd.refl _ _).drewN _
 generalize w.drewN (n+nq)=w1 at hwu ⊢
 have HT1:=Lib.hid (H.out.below hwu)
 have HJ1:=Lib.hid (HJ.out.below hwu)
 have HU1:=Lib.hid hwu
 clear hwu c0 c2
 refine(abort_spec HT1.out).mono ?_
 rintro e w2 ⟨rfl,hst2,hwt2,hu2⟩
 have HJ2:=Lib.hid (HJ1.out.tx HT1.out hne2.out hu2 (by simp))
 have HST2:=Lib.hid hst2
 have HWT2:=Lib.hid hwt2
 have HU2:=Lib.hid ((HU1.out.mono (by simp)).trans hu2)
 have c1:w2.cell? ⟨t.tb,1,none⟩=some (.int .u64 turn):=by rw[blk_cell hst2];rfl
 have hlt2:t.tb<w2.heap.size:=blk_lt hst2
 clear hst2 hwt2 hu2
 have HTU:∀m,Hid (Calls Tryz.prog 44 #[.pointer (some ⟨j.jb,0,none⟩)] (w2.drewN m) fun e w'=>e=.returned (.int .u64 (J.turn-1))∧∃k,w'=(w2.drewN m).drewN k):=fun m=>Lib.hid ((turn_spec (HJ2.out.drewN m)).mono fun e w' ⟨he,hw⟩=>⟨he,0,hw.symm⟩)
 go_wp2_with fail
 by_cases htu:J.turn-1=turn
 ·have hb:(J.turn-1 != turn)=false:=by simp[htu]
  have HRES:Hid (J.txD D turn (txL M hm)=J.comD D (txL M hm)∧J.txJ D turn (txL M hm)=J.com D (txL M hm)):=by
   show _∧_
   unfold Jn.txD Jn.txJ
   rw[if_neg (by simpa using htu),if_neg (by simpa using htu)];exact⟨rfl,rfl⟩
  clear htu
  go_quiet ((go_at_call 44;exact Calls.quiet_of (HTU _).out))
  go_wp2_with fail
  have hq3:Upd [] w2 (w2.drewN nq):=(Upd.refl _ _).drewN _
  generalize w2.drewN nq=w3 at hq3 ⊢
  have HJ3:=Lib.hid (HJ2.out.below hq3)
  have HST3:Hid (w3.heap[t.tb]?=_):=(hq3.block _ (blk_lt HST2.out) (by simp)).trans HST2.out
  have HWT3:Hid (WaitM w3 t.F t.wb M):=by
   obtain⟨f,hf,_⟩:=id HWT2.out
   exact HWT2.out.world (hq3.block _ hf.lt (by simp)) fun k c _ e=>hq3.block _ (blk_lt e) (by simp)
  have HU3:=Lib.hid (HU2.out.trans (hq3.mono (by simp)))
  clear hq3 c1
  obtain⟨f,hf,hf1,hf2⟩:=HWT3.out
  obtain⟨hk1,hk2⟩:=keysF_M HO.out hf1 hf2
  have cS:=sorted_call hf hm (by have:=HM1.out;omega) hk2
  rw[hk1] at cS
  have CS:=Lib.hid cS
  have hkl:(keysM M hm).length≤5000:=by have:=cntM_le M hm;unfold cntM at this;have:=HM1.out;omega
  clear hf hf1 hf2 hk1 hk2 cS
  go_wp2_with (first | (go_at_call 46;refine(keys_call _ _).mono ?_;rintro e w' ⟨rfl,rfl⟩) | fail)
  refine CS.out.mono ?_
  rintro e w4 ⟨vw,rfl,hrow,hu4⟩
  have hrl:RdL w4 [] vw ((keysM M hm).map fun i:Nat=> .int .i64 (i:Int)):=RdL.of_row (by simpa using hrow) (by simp)
  obtain⟨aw,capw,rfl,hcapw,_⟩:=id hrl
  simp only[List.length_map] at hrl hrow ⊢
  have HRL:=Lib.hid hrl
  have HJ4:=Lib.hid (HJ3.out.below hu4)
  have HST4:Hid (w4.heap[t.tb]?=_):=(hu4.block _ (blk_lt HST3.out) (by simp)).trans HST3.out
  have HWT4:Hid (WaitM w4 t.F t.wb M):=by
   obtain⟨f,hf,_⟩:=id HWT3.out
   exact HWT3.out.world (hu4.block _ hf.lt (by simp)) fun k c _ e=>hu4.block _ (blk_lt e) (by simp)
  have HU4:=Lib.hid (HU3.out.trans (hu4.mono (by simp)))
  clear hrl hu4 hrow hcapw
  go_wp2_with fail
  go_loopw [5,31] (fun m i wr=>∃k:Nat,k≤(keysM M hm).length∧i=.int .i64 (k:Int)∧PutsOwnB wr w4.heap.size AnyF m ((txL M hm).take k)∧Upd [] w4 wr) (fun _ i _=>(keysM M hm).length-(intOf i).toNat)
  case atStart=>exact⟨0,Nat.zero_le _,rfl,⟨[],⟨by simp[putCells],.inl ⟨rfl,rfl⟩⟩,by simp,by simp⟩,Upd.refl _ _⟩
  case round=>
   obtain⟨k,hk,rfl,hm',hu⟩:=hrel
   obtain⟨am,nm,cm,rfl⟩:=hm'.shape3
   by_cases hltk:k<(keysM M hm).length
   ·have hlt':decide ((k:Int)<((keysM M hm).length:Int))=true:=by simpa using hltk
    obtain⟨aw',capw',e,_,hh⟩:=HRL.out.upd hu (fun _ h=>h)
    simp only[List.length_map,Value.slice.injEq] at e hh
    obtain⟨rfl,_,rfl⟩:=e
    obtain⟨wb,woff,_,rfl,hcw⟩:=hh (by omega)
    have hcell:=hcw k hltk
    rw[List.getElem_map] at hcell
    have HTL:=Lib.hid (txL_get M hm hltk)
    have hsm:=(mem_keysM HO.out).1 (List.getElem_mem hltk)
    obtain⟨i,hi⟩:∃i,i=(keysM M hm)[k]:=⟨_,rfl⟩
    rw[← hi] at hcell HTL hsm
    obtain⟨s,hs⟩:=Option.isSome_iff_exists.1 hsm
    rw[hs] at HTL
    have hwr:WaitM wr t.F t.wb M:=by
     obtain⟨f,hf,_⟩:=id HWT4.out
     exact HWT4.out.world (hu.block _ hf.lt (by simp)) fun k c _ e=>hu.block _ (blk_lt e) (by simp)
    rcases hwr.look (i:Int) with⟨v,s',_,hs',ho,_,hl2⟩ | ⟨hno,_⟩
    rotate_left
    ·rcases hno with q | q
     ·omega
     ·rw[Int.toNat_natCast,hs] at q;simp at q
    rw[Int.toNat_natCast,hs] at hs'
    obtain rfl:s=s':=by simpa using hs'
    obtain⟨kx,rest,hFx,rfl,hbx⟩:=ho
    have hl2':(Instr.lookup 99 (.map (some t.wb)) (.int .i64 (i:Int)) false).run Tryz.prog wr=.ok (.slice (some ⟨kx,0,none⟩) s.length (s.length+rest.length)) wr:=hl2 0
    have hi0:(0:Int)≤(k:Int):=by omega
    have hi1:(k:Int)<((keysM M hm).length:Int):=by omega
    obtain⟨a',b',c',w5,hrun,hm5,_,hu5,_⟩:=puts_push hm' (by rw[List.length_take];omega) hu.size hu (Nat.le_refl _) (i:Int) kx s.length (s.length+rest.length) s ⟨kx,rest,trivial,rfl,hbx⟩
    rw[show(some s).getD []=s from rfl] at HTL
    rw[← HTL.out] at hm5
    have HM5:=Lib.hid hm5
    have HU5:=Lib.hid hu5
    clear hm' hu hcw hh hsm hi hs hwr hs' hFx hbx hl2 hm5 hu5
    go_wp2_with (at_builtin;refine wpList_append_run rfl _ _ _ rfl rfl rfl hrun ?_)
    exact⟨⟨k+1,by omega,by go_num,HM5.out,HU5.out⟩,by simp[intOf];omega⟩
   ·obtain rfl:k=(keysM M hm).length:=by omega
    have hlt':decide (((keysM M hm).length:Int)<((keysM M hm).length:Int))=false:=by simp
    have htk:(txL M hm).take (keysM M hm).length=txL M hm:=List.take_of_length_le (by unfold txL;rw[List.length_map];exact Nat.le_refl _)
    rw[htk] at hm'
    have HJ5:=Lib.hid (HJ4.out.below hu)
    have HC:=Lib.hid (com_spec (HJ4.out.below hu) _ (txL M hm) hm'.own.at (by unfold txL;rw[List.length_map];omega) HUS.out)
    have HST5:Hid (wr.heap[t.tb]?=_):=(hu.block _ (blk_lt HST4.out) (by simp)).trans HST4.out
    have HU5:=Lib.hid (HU4.out.trans (hu.mono (by simp)))
    clear hm' hu htk
    go_wp2_with fail
    refine HC.out.mono ?_
    rintro e w6 ⟨rfl,hj6,hu6⟩
    have HJ6:=Lib.hid (hj6.gr fun k hk=>HNW.out k (Nat.le_trans HU5.out.size hk))
    have HST6:Hid (w6.heap[t.tb]?=_):=(hu6.block _ (blk_lt HST5.out) (HJ5.out.kind HST5.out (by decide) (by decide) (by decide))).trans HST5.out
    have HU6:=Lib.hid ((HU5.out.mono (T:=t.tb :: j.all) (by simp)).trans (hu6.mono (by intro q hq;simp[hq])))
    clear hj6 hu6
    go_wp2_with fail
    go_ret
    rw[HRES.out.1,HRES.out.2]
    exact⟨rfl,.inr ⟨_,_,rfl,HST6.out⟩,HJ6.out,HU6.out⟩
 ·have hb:(J.turn-1 != turn)=true:=by simpa using htu
  have HRES:Hid (J.txD D turn (txL M hm)=(D,10)∧J.txJ D turn (txL M hm)=J):=by
   show _∧_
   unfold Jn.txD Jn.txJ
   rw[if_pos htu,if_pos htu];exact⟨rfl,rfl⟩
  clear htu
  go_quiet ((go_at_call 44;exact Calls.quiet_of (HTU _).out))
  go_wp2_with fail
  go_ret
  rw[HRES.out.1,HRES.out.2]
  exact⟨rfl,.inr ⟨_,_,rfl,HST2.out⟩,HJ2.out.drewN _,(HU2.out.mono (by simp)).drewN _⟩
end Go.Proofs.YtplppdbdfhkljaaGreat
namespace Go.Proofs.YtplppdbdfhkljaaGreat
open Go.RowKit Go.MapKept Go.ChangeMaps
theorem fitsL_good{homes:Nat}:∀{l:List Put} {seen:List Int},(∀p∈l,0≤p.1∧p.1<(homes:Int)∧p.2.length=512∧p.1∉seen)→(l.map (·.1)).Nodup→fitsL homes seen l=0
 | [],_,_,_=>rfl
 | (i,b) :: l,seen,h,hn=>by
  obtain⟨a1,a2,a3,a4⟩:=h (i,b) (by simp)
  rw[List.map_cons,List.nodup_cons] at hn
  rw[fitsL_cons,if_neg (by simp only[not_or];exact⟨by show ¬i<0;simp at a1;omega,by simp at a2;omega,a4⟩),if_neg (by simpa using a3)]
  refine fitsL_good (fun p hp=>?_) hn.2
  obtain⟨b1,b2,b3,b4⟩:=h p (by simp[hp])
  refine⟨b1,b2,b3,fun q=>?_⟩
  rcases List.mem_cons.1 q with q | q
  ·exact hn.1 (by show i∈_;rw[← q];exact List.mem_map_of_mem hp)
  ·exact b4 q
theorem putsH_keys(g:Nat→Sec):∀(ks:List Nat) (H:Nat→Sec) (i:Nat),putsH H (ks.map fun(k:Nat)=>((k:Int),g k)) i=if i∈ks then g i else H i
 | [],H,i=>by simp[putsH]
 | k :: ks,H,i=>by
  show putsH (fun x=>if x=((k:Int),g k).1.toNat then((k:Int),g k).2 else H x) (ks.map fun(k:Nat)=>((k:Int),g k)) i=_
  rw[putsH_keys g ks]
  simp only[Int.toNat_natCast,List.mem_cons]
  by_cases h1:i∈ks
  ·rw[if_pos h1,if_pos (.inr h1)]
  ·rw[if_neg h1]
   by_cases h2:i=k
   ·rw[if_pos h2,if_pos (.inl h2),h2]
   ·rw[if_neg h2,if_neg (by rintro(q | q);exact h2 q;exact h1 q)]
theorem putsH_tx{M:Nat→Option Sec}{hm:Nat}(ho:MOk M hm)(H:Nat→Sec):putsH H (txL M hm)=fun i=>(M i).getD (H i):=by
 funext i
 unfold txL
 rw[putsH_keys fun k=>(M k).getD []]
 by_cases h:(M i).isSome=true
 ·rw[if_pos ((mem_keysM ho).2 h)]
  obtain⟨s,hs⟩:=Option.isSome_iff_exists.1 h
  rw[hs];rfl
 ·rw[if_neg fun q=>h ((mem_keysM ho).1 q)]
  have:M i=none:=by simpa using h
  rw[this];rfl
theorem fits_tx{M:Nat→Option Sec}{n ring:Nat}(ho:MOk M (n-2-ring))(h1:cntM M (n-2-ring)≤40)(h2:cntM M (n-2-ring)<ring):fitsR n ring (txL M (n-2-ring))=0:=by
 have e:fitsL (n-2-ring) [] (txL M (n-2-ring))=0:=fitsL_good (fun p hp=>by
  unfold txL at hp
  obtain⟨i,hi,rfl⟩:=List.mem_map.1 hp
  obtain⟨s,hs⟩:=Option.isSome_iff_exists.1 ((mem_keysM ho).1 hi)
  obtain⟨q1,q2⟩:=ho i s hs
  refine⟨by show(0:Int)≤(i:Int);omega,by show(i:Int)<_;omega,?_,by simp⟩
  show((M i).getD []).length=512
  rw[hs];exact q2) (by
   unfold txL
   rw[List.map_map]
   rw[List.Nodup,List.pairwise_map]
   refine(keysM_nodup M (n-2-ring)).imp fun hab q=>hab ?_
   have:((_:Nat):Int)=((_:Nat):Int):=q
   omega)
 unfold fitsR
 rw[e,if_neg (by simp),txL_length,if_neg (by omega)]
theorem txL_nil{M:Nat→Option Sec}{hm:Nat}(h:cntM M hm=0):txL M hm=[]:=List.eq_nil_of_length_eq_zero (by rw[txL_length];exact h)
theorem txL_ne{M:Nat→Option Sec}{hm:Nat}(h:0<cntM M hm):txL M hm≠[]:=by
 intro q
 have:=congrArg List.length q
 rw[txL_length] at this
 simp at this;omega
theorem JnAt.late{w:World}{F:Nat→Prop}{j:JG}{J:Jn}{D:Dk}(h:JnAt w F j J D){k:Nat}(hk:w.heap.size≤k):k∉j.all:=by
 have h1:=h.lt
 have h2:=h.disk.lt
 simp only[JG.all,List.mem_cons,List.not_mem_nil,or_false,not_or]
 omega
theorem TxAt.other{w w':World}{t u:TG}{jb jb2:Nat}{turn turn2:Int}{M M2:Nat→Option Sec}(h:TxAt w u jb turn M)(h2:TxAt w t jb2 turn2 M2)(hne:u.wb≠t.wb)(hu:Upd [t.wb] w w'):TxAt w' u jb turn M:=
 h.upd hu (by simp;intro e;exact h2.map (e ▸ h.st)) (by simpa using hne) (fun k c q e=>by simp at q;subst q;exact h2.map e)
theorem TxAt.over{w w':World}{t u:TG}{jb:Nat}{turn:Int}{M:Nat→Option Sec}(h:TxAt w u jb turn M){c:Array Value}(h2:w.heap[t.tb]?=some (.cells c 101 (0,0)))(hne:u.tb≠t.tb){F:Nat→Prop}{j:JG}{J:Jn}{D:Dk}(hj:JnAt w F j J D)(h1:u.wb∉j.all){S:List Nat}(hu:Upd S w w')(hS:∀k,k∈S→k=t.tb∨k∈j.all):TxAt w' u jb turn M:=
 h.upd hu (fun q=>by rcases hS _ q with e | e;exact hne e;exact hj.kind h.st (by decide) (by decide) (by decide) e)
  (fun q=>by rcases hS _ q with e | e;exact h.map (e ▸ h2);exact h1 e)
  (fun k c' q e=>by
   rcases hS k q with e' | e'
   ·subst e';rw[h2] at e;simp at e
   ·exact hj.kind e (by decide) (by decide) (by decide) e')
theorem begin_hi{w:World}{j:JG}{J:Jn}{D:Dk}{n ring:Nat}{t m:Int}{H:Nat→Sec}(h:JrAt w j J D n ring t m H) :
  Calls Tryz.prog 12 #[.pointer (some ⟨j.jb,0,none⟩)] w fun e w'=>∃x:TG,e=.returned (.tuple #[.pointer (some ⟨x.tb,0,none⟩),.int .i64 0])∧w.heap.size≤x.tb∧w.heap.size≤x.wb∧TxAt w' x j.jb (t-1) (fun _=>none)∧JrAt w' j J D n ring t m H∧Upd j.all w w'∧x.F=j.F:=by
 refine(begin_ok h.at_ h.nw h.live.held.may (by have:=h.used;omega)).mono ?_
 rintro e w' ⟨x,e1,e2,e3,e4,e5,e6,e7⟩
 exact⟨x,e1,e2,e3,by rw[← h.turn];exact e4,h.of e5 e6.size,e6,e7⟩
theorem JrAt.homes{w:World}{j:JG}{J:Jn}{D:Dk}{n ring:Nat}{t m:Int}{H:Nat→Sec}(h:JrAt w j J D n ring t m H):J.homes D.n=n-2-ring:=by unfold Jn.homes;rw[h.n,h.ring]
theorem write_hi{w:World}{x:TG}{turn:Int}{M:Nat→Option Sec}{j:JG}{J:Jn}{D:Dk}{n ring:Nat}{t m:Int}{H:Nat→Sec}(h:JrAt w j J D n ring t m H)(hx:TxAt w x j.jb turn M)(hfx:x.F=j.F)(hne:x.wb∉j.all)(ho:MOk M (n-2-ring))(i:Int)(v:Value)(b:List UInt8)(hr:Rd w v b)(hb:b.length≤1000000) :
  Calls Tryz.prog 64 #[.pointer (some ⟨x.tb,0,none⟩),.int .i64 i,v] w fun e w'=>e=.returned (.int .i64 (wrE M (n-2-ring) i b.length))∧TxAt w' x j.jb turn (wrM M (n-2-ring) i b)∧JrAt w' j J D n ring t m H∧Upd [x.wb] w w':=by
 refine(writeT_spec hx (by rw[hfx];exact h.nw) h.at_ hne ho h.homes i v b hr hb).mono ?_
 rintro e w' ⟨e1,e2,e3,e4⟩
 exact⟨e1,e2,h.of e3 e4.size,e4⟩
theorem JrAt.comm{w w':World}{j:JG}{J:Jn}{D:Dk}{n ring:Nat}{t m:Int}{H:Nat→Sec}(h:JrAt w j J D n ring t m H){l:List Put}(hf:fitsR n ring l=0)(ht:t<1000000)(hm:m<1000000)(hj:JnAt w' j.F j (J.com D l) (J.comD D l).1)(hsz:w.heap.size≤w'.heap.size) :
  (J.comD D l).2=0∧∃J' D' t',JrAt w' j J' D' n ring t' (m+1) (putsH H l)∧(t'=if l=[] then t else t+1):=by
 have hu:=h.used
 have h1:=h.num
 have h2:=h.turn
 by_cases h0:l=[]
 ·obtain⟨q1,q2⟩:=h.live.comNo (l:=l) (.inr h0)
  rw[q1] at hj ⊢
  rw[q2] at hj
  refine⟨by rw[h.fits];exact hf,J,D,t,?_,by rw[if_pos h0]⟩
  rw[h0]
  exact⟨hj,h.live,h.arm,h.n,h.ring,h.turn,by omega,h.home,fun k hk=>h.nw k (Nat.le_trans hsz hk)⟩
 ·rcases h.live.com ⟨by omega,by omega⟩ (by omega) ((h.fits l).trans hf) h0 with⟨q1,q2,q3,q4,q5,q6,q7,q8,q9⟩ | ⟨_,q,_⟩
  ·exact⟨q1,_,_,t+1,⟨hj,q2,q8 h.arm,q7.trans h.n,q5.trans h.ring,by omega,by omega,by rw[q3,h.home],fun k hk=>h.nw k (Nat.le_trans hsz hk)⟩,by rw[if_neg h0]⟩
  ·exact absurd h.arm q
theorem commit_hi{w:World}{x:TG}{M:Nat→Option Sec}{j:JG}{J:Jn}{D:Dk}{n ring:Nat}{t m:Int}{H:Nat→Sec}(h:JrAt w j J D n ring t m H)(hx:TxAt w x j.jb (t-1) M)(hne:x.wb∉j.all)(ho:MOk M (n-2-ring))(hn:n≤5000)(h1:cntM M (n-2-ring)≤40)(h2:cntM M (n-2-ring)<ring)(ht:t<1000000)(hm:m<1000000) :
  Calls Tryz.prog 11 #[.pointer (some ⟨x.tb,0,none⟩)] w fun e w'=>e=.returned (.int .i64 0)∧OverV w' (.pointer (some ⟨x.tb,0,none⟩))∧(∃J' D' t',JrAt w' j J' D' n ring t' (m+1) (fun i=>(M i).getD (H i))∧(t'=if cntM M (n-2-ring)=0 then t else t+1))∧Upd (x.tb :: j.all) w w':=by
 refine(commitT_spec hx h.at_ h.nw hne ho (by omega) (by have:=h.used;omega)).mono ?_
 rintro e w' ⟨e1,e2,e3,e4⟩
 have r1:J.txD D (t-1) (txL M (n-2-ring))=J.comD D (txL M (n-2-ring)):=by unfold Jn.txD;rw[if_neg (by rw[h.turn];simp)]
 have r2:J.txJ D (t-1) (txL M (n-2-ring))=J.com D (txL M (n-2-ring)):=by unfold Jn.txJ;rw[if_neg (by rw[h.turn];simp)]
 rw[r1] at e1 e3
 rw[r2] at e3
 obtain⟨q1,J',D',t',q2,q3⟩:=h.comm (fits_tx ho h1 h2) ht hm e3 e4.size
 rw[q1] at e1
 rw[putsH_tx ho] at q2
 refine⟨e1,e2,⟨J',D',t',q2,?_⟩,e4⟩
 rw[q3]
 by_cases h0:cntM M (n-2-ring)=0
 ·rw[if_pos h0,if_pos (txL_nil h0)]
 ·rw[if_neg h0,if_neg (txL_ne (by omega))]
theorem commit_late{w:World}{x:TG}{turn:Int}{M:Nat→Option Sec}{j:JG}{J:Jn}{D:Dk}{n ring:Nat}{t m:Int}{H:Nat→Sec}(h:JrAt w j J D n ring t m H)(hx:TxAt w x j.jb turn M)(hne:x.wb∉j.all)(ho:MOk M (n-2-ring))(hn:n≤5000)(ht:t-1≠turn) :
  Calls Tryz.prog 11 #[.pointer (some ⟨x.tb,0,none⟩)] w fun e w'=>e=.returned (.int .i64 10)∧OverV w' (.pointer (some ⟨x.tb,0,none⟩))∧JrAt w' j J D n ring t m H∧Upd (x.tb :: j.all) w w':=by
 refine(commitT_spec hx h.at_ h.nw hne ho (by omega) (by have:=h.used;omega)).mono ?_
 rintro e w' ⟨e1,e2,e3,e4⟩
 have r1:J.txD D turn (txL M (n-2-ring))=(D,10):=by unfold Jn.txD;rw[if_pos (by rw[h.turn];exact ht)]
 have r2:J.txJ D turn (txL M (n-2-ring))=J:=by unfold Jn.txJ;rw[if_pos (by rw[h.turn];exact ht)]
 rw[r1] at e1 e3
 rw[r2] at e3
 exact⟨e1,e2,h.of e3 e4.size,e4⟩
set_option maxHeartbeats 1000000 in
theorem made_hi(n ring:Nat)(h0:32≤n)(h1:n≤4096)(r0:8≤ring)(r1:ring≤1024)(r2:ring+10≤n)(w:World) :
  Calls Tryz.prog 28 #[.int .i64 (n:Int),.int .i64 (ring:Int)] w fun e w'=>∃j:JG,e=.returned (.tuple #[.pointer (some ⟨j.d.db,0,none⟩),.pointer (some ⟨j.jb,0,none⟩)])∧JG.Late j w∧(∃J D,JrAt w' j J D n ring 1 2 (fun _=>zsec)∧J.used=0)∧Upd [] w w':=by
 have HN:=Lib.hid (new_hi n h0 h1 w)
 have hn:=h0
 have hn1:=h1
 have hr0:=r0
 have hr1:=r1
 have hr2:=r2
 go_enter Tryz.func28,Tryz.ntmps28
 go_wp2_with fail
 refine HN.out.mono ?_
 rintro e w1 ⟨g,rfl,hd1,hg1,hg2,hg3,hu1⟩
 have HG:Hid (g.Late w):=⟨hg1,hg2,hg3⟩
 have HF:=Lib.hid (new_fmt_hi hd1 (by omega) (by omega) ring (by omega) (by omega) (by omega))
 have HU1:=Lib.hid hu1
 clear hd1 hg1 hg2 hg3 hu1
 go_wp2_with fail
 refine HF.out.mono ?_
 rintro e w2 ⟨rfl,hd2,hu2⟩
 have HO:=Lib.hid (open_hi hd2 (by omega) (by omega))
 have HU2:=Lib.hid (HU1.out.lateD hu2 HG.out)
 clear hd2 hu2
 go_wp2_with fail
 refine HO.out.mono ?_
 rintro e w3 ⟨jb,ab,rfl,hj1,hj2,⟨J3,D3,hr3,hus3⟩,hu3⟩
 have HJ:Hid (JG.Late ⟨jb,ab,g,AnyF⟩ w):=⟨Nat.le_trans HU2.out.size hj1,Nat.le_trans HU2.out.size hj2,HG.out⟩
 have HU3:=Lib.hid (HU2.out.lateD hu3 HG.out)
 have HR3:=Lib.hid hr3
 have HUS:=Lib.hid hus3
 clear hj1 hj2 hr3 hu3 hus3
 go_wp2_with fail
 go_ret2
 exact⟨⟨jb,ab,g,AnyF⟩,rfl,HJ.out,⟨J3,D3,HR3.out,HUS.out⟩,HU3.out⟩
end Go.Proofs.YtplppdbdfhkljaaGreat
end
