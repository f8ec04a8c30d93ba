/-
  Frames of blocks, byte rows and small facts on worlds that all later texts of this seat use.
-/
import Derived.Test.YtplppdbdfhkljaaGreatRows
import Derived.WalkKit
import Derived.WalkSpells
import Derived.WalkLawsBesides
import Derived.Lib.Hide
import Derived.Laws.CopyOwn
import Derived.Maps.RangeRun
import Derived.Maps.Own
import Derived.Lib.SliceRun
set_option maxRecDepth 100000
set_option maxHeartbeats 16000000
namespace Go.Proofs.YtplppdbdfhkljaaGreat
theorem η{p:Prop}(h:p):Go.RowKit.Hid p:=Lib.hid h
theorem αs{α:Type _}{l:List α}{i:Nat}{a:α}:l.toArray.setIfInBounds i a=(l.set i a).toArray:=List.setIfInBounds_toArray ..
theorem αz{α:Type _}{a b:α}{l:List α}:(a::l).set 0 b=b::l:=rfl
theorem αc{α:Type _}{a b:α}{l:List α}{n:Nat}:(a::l).set (n+1) b=a::l.set n b:=rfl
end Go.Proofs.YtplppdbdfhkljaaGreat
section
namespace Go.Proofs.YtplppdbdfhkljaaGreat
open Go.RowKit
theorem blk_cell{w:World}{b:Nat}{c:Array Value}{e:TypeId}{f:Nat × Nat}(h:w.heap[b]?=some (.cells c e f))(o:Nat):w.cell? ⟨b,o,none⟩=c[o]?:=by
 simp[World.cell?,h]
theorem blk_free{w:World}{b:Nat}{c:Array Value}{e:TypeId}(h:w.heap[b]?=some (.cells c e (0,0)))(o:Nat):w.frozen? ⟨b,o,none⟩=false:=by
 simp[World.frozen?,h]
theorem blk_lt{w:World}{b:Nat}{o:Obj}(h:w.heap[b]?=some o):b<w.heap.size:=by
 exact(Array.getElem?_eq_some_iff.1 h).1
theorem blk_set{w:World}{b:Nat}{c:Array Value}{e:TypeId}{f:Nat × Nat}(h:w.heap[b]?=some (.cells c e f))(o:Nat)(v:Value) :
  (w.setCell ⟨b,o,none⟩ v).heap[b]?=some (.cells (c.setIfInBounds o v) e f):=by
 simp[World.setCell,Array.getElem?_modify,h]
theorem blk_set_ne{w:World}{b k:Nat}(o:Nat)(v:Value)(h:k≠b):(w.setCell ⟨b,o,none⟩ v).heap[k]?=w.heap[k]?:=heap_setCell_other _ _ _ _ h
theorem blk_alloc_ne{w:World}{o:Obj}{k:Nat}(h:k<w.heap.size):(w.alloc o).heap[k]?=w.heap[k]?:=Below.heap_alloc _ _ _ h
theorem blk_alloc{w:World}(o:Obj):(w.alloc o).heap[w.heap.size]?=some o:=heap_alloc_new _ _
theorem blk_drew{w:World}{k:Nat}:w.drew.heap[k]?=w.heap[k]?:=rfl
structure Upd(S:List Nat)(w w':World):Prop where
 os:w'.os=w.os
 tape:w'.tape=w.tape
 output:w'.output=w.output
 size:w.heap.size≤w'.heap.size
 block:∀k,k<w.heap.size→k∉S→w'.heap[k]?=w.heap[k]?
theorem Upd.refl(S:List Nat)(w:World):Upd S w w:=⟨rfl,rfl,rfl,Nat.le_refl _,fun _ _ _=>rfl⟩
theorem Upd.trans{S:List Nat}{a b c:World}(h:Upd S a b)(k:Upd S b c):Upd S a c:=
 ⟨k.os.trans h.os,k.tape.trans h.tape,k.output.trans h.output,Nat.le_trans h.size k.size,
 fun i hi hs=>(k.block i (Nat.lt_of_lt_of_le hi h.size) hs).trans (h.block i hi hs)⟩
theorem Upd.mono{S T:List Nat}{a b:World}(h:Upd S a b)(hs:∀k,k∈S→k∈T):Upd T a b:=
 ⟨h.os,h.tape,h.output,h.size,fun i hi ht=>h.block i hi fun q=>ht (hs _ q)⟩
theorem Upd.late{S T:List Nat}{a b c:World}(h:Upd S a b)(k:Upd T b c)(hT:∀i,i∈T→i∈S∨a.heap.size≤i):Upd S a c:=
 ⟨k.os.trans h.os,k.tape.trans h.tape,k.output.trans h.output,Nat.le_trans h.size k.size,
 fun i hi hs=>(k.block i (Nat.lt_of_lt_of_le hi h.size) (fun q=>by rcases hT i q with r | r;exact hs r;omega)).trans (h.block i hi hs)⟩
theorem Upd.alloc{S:List Nat}{a w:World}(h:Upd S a w)(o:Obj):Upd S a (w.alloc o):=
 h.trans ⟨rfl,rfl,rfl,by simp,fun k hk _=>blk_alloc_ne hk⟩
theorem Upd.drew{S:List Nat}{a w:World}(h:Upd S a w):Upd S a w.drew:=⟨h.os,h.tape,h.output,h.size,h.block⟩
theorem Upd.drewN{S:List Nat}{a w:World}(h:Upd S a w)(n:Nat):Upd S a (w.drewN n):=⟨h.os,h.tape,h.output,h.size,h.block⟩
theorem Upd.set{S:List Nat}{a w:World}(h:Upd S a w){b o:Nat}(v:Value)(hb:b∈S∨a.heap.size≤b):Upd S a (w.setCell ⟨b,o,none⟩ v):=
 ⟨h.os,h.tape,h.output,by simpa using h.size,fun k hk hs=>by
  rw[blk_set_ne _ _ (by rintro rfl;rcases hb with q | q;exact hs q;omega)];exact h.block k hk hs⟩
theorem Upd.toBelow{w w':World}(h:Upd [] w w'):Below w.heap.size w w':=⟨h.os,h.tape,h.output,h.size,fun k hk=>h.block k hk (by simp)⟩
theorem Upd.grown{S:List Nat}{a w w':World}{row:Option Nat}(h:Upd S a w)(hg:w.grownBy w' row)(hr:∀k,row=some k→k∈S∨a.heap.size≤k):Upd S a w':=
 ⟨hg.os.trans h.os,hg.tape.trans h.tape,hg.output.trans h.output,Nat.le_trans h.size hg.size,fun k hk hs=>
  (hg.block k (Nat.lt_of_lt_of_le hk h.size) (fun e=>by rcases hr k e.symm with q | q;exact hs q;omega)).trans (h.block k hk hs)⟩
def setObjAt(w:World)(r:Nat)(o:Obj):World:={ w with heap:=w.heap.setIfInBounds r o }
@[simp] theorem setObjAt_size (w : World) (r : Nat) (o : Obj) : (setObjAt w r o).heap.size = w.heap.size := by simp [setObjAt]
theorem setObjAt_ne{w:World}{r k:Nat}(o:Obj)(h:k≠r):(setObjAt w r o).heap[k]?=w.heap[k]?:=by
 simp only[setObjAt,Array.getElem?_setIfInBounds];rw[if_neg (by omega)]
theorem Upd.setObj{S:List Nat}{a w:World}(h:Upd S a w){r:Nat}(o:Obj)(hb:r∈S∨a.heap.size≤r):Upd S a (setObjAt w r o):=
 ⟨h.os,h.tape,h.output,by simpa using h.size,fun k hk hs=>by
  rw[setObjAt_ne _ (by rintro rfl;rcases hb with q | q;exact hs q;omega)];exact h.block k hk hs⟩
def bv(c:UInt8):Value:=.int .u8 (c.toNat:Int)
def bts(l:List UInt8):List Value:=l.map bv
@[simp] theorem bts_length (l : List UInt8) : (bts l).length = l.length := by simp [bts]
@[simp] theorem bts_append (a b : List UInt8) : bts (a ++ b) = bts a ++ bts b := by simp [bts]
@[simp] theorem bts_nil : bts [] = [] := rfl
theorem bts_get(l:List UInt8)(i:Nat):(bts l)[i]?=l[i]?.map bv:=by simp[bts]
theorem bts_one(l:List UInt8):∀v∈bts l,v.oneCell'=true:=by
 intro v hv
 obtain⟨c,_,rfl⟩:=List.mem_map.1 hv
 rfl
def Rd(w:World)(v:Value)(l:List UInt8):Prop:=
 ∃ao cap,v=.slice ao l.length cap∧l.length≤cap∧
  (0<l.length→∃b off,ao=some ⟨b,off,none⟩∧∀i (h:i<l.length),w.cell? ⟨b,off+i,none⟩=some (bv l[i]))
theorem Rd.nil(w:World):Rd w (.slice none 0 0) []:=⟨none,0,rfl,Nat.le_refl _,fun h=>absurd h (by simp)⟩
def Own(w:World)(u8:TypeId)(F:Nat→Prop)(v:Value)(l:List UInt8):Prop:=
 ∃k rest,F k∧v=.slice (some ⟨k,0,none⟩) l.length (l.length+rest.length)∧w.heap[k]?=some (.cells (bts l++rest).toArray u8 (0,0))
theorem Own.rd{w:World}{u8:TypeId}{F:Nat→Prop}{v:Value}{l:List UInt8}(h:Own w u8 F v l):Rd w v l:=by
 obtain⟨k,rest,_,rfl,hb⟩:=h
 refine⟨_,_,rfl,by omega,fun _=>⟨k,0,rfl,fun i hi=>?_⟩⟩
 rw[blk_cell hb]
 simp[List.getElem?_append_left,bts,hi]
theorem Own.mono{w:World}{u8:TypeId}{F G:Nat→Prop}{v:Value}{l:List UInt8}(h:Own w u8 F v l)(hFG:∀k,F k→G k):Own w u8 G v l:=by
 obtain⟨k,rest,hF,h1,h2⟩:=h
 exact⟨k,rest,hFG _ hF,h1,h2⟩
theorem Own.world{w w':World}{u8:TypeId}{F:Nat→Prop}{v:Value}{l:List UInt8}(h:Own w u8 F v l)(ha:∀k c,F k→w.heap[k]?=some (.cells c u8 (0,0))→w'.heap[k]?=w.heap[k]?):Own w' u8 F v l:=by
 obtain⟨k,rest,hF,h1,h2⟩:=h
 exact⟨k,rest,hF,h1,by rw[ha k _ hF h2];exact h2⟩
end Go.Proofs.YtplppdbdfhkljaaGreat
namespace Go.Proofs.YtplppdbdfhkljaaGreat
open Go.RowKit Go.MapKept Go.ChangeMaps
def MapI(w:World)(mb:Nat)(f:Int→Option Value):Prop:=
 ∃es clock,w.heap[mb]?=some (.map es clock)∧Stamped es clock∧(∀x∈es.toList,∃k:Int,x.key=.int .i64 k)∧
  ∀k v,f k=some v↔∃x∈es.toList,x.key=.int .i64 k∧x.val=v
theorem setBlock_same{w:World}{r:Nat}{o o':Obj}(h:w.heap[r]?=some o):(setBlock w r o').heap[r]?=some o':=(heap_set h).1
theorem setBlock_ne{w:World}{r k:Nat}(o:Obj)(h:k≠r):(setBlock w r o).heap[k]?=w.heap[k]?:=setObjAt_ne o h
@[simp] theorem setBlock_size (w : World) (r : Nat) (o : Obj) : (setBlock w r o).heap.size = w.heap.size := setObjAt_size w r o
theorem Upd.setBlock{S:List Nat}{a w:World}(h:Upd S a w){r:Nat}(o:Obj)(hb:r∈S∨a.heap.size≤r):Upd S a (setBlock w r o):=Upd.setObj h o hb
theorem MapI.world{w w':World}{mb:Nat}{f:Int→Option Value}(h:MapI w mb f)(he:w'.heap[mb]?=w.heap[mb]?):MapI w' mb f:=by
 obtain⟨es,clock,hb,r⟩:=h
 exact⟨es,clock,by rw[he];exact hb,r⟩
theorem MapI.lt{w:World}{mb:Nat}{f:Int→Option Value}(h:MapI w mb f):mb<w.heap.size:=by
 obtain⟨es,clock,hb,_⟩:=h
 exact blk_lt hb
theorem MapI.made{w:World}{mb:Nat}{c:Nat}(h:w.heap[mb]?=some (.map #[] c)):MapI w mb (fun _=>none):=
 ⟨#[],c,h,stamped_empty _,by simp,by simp⟩
theorem MapI.not_cells{w:World}{mb:Nat}{f:Int→Option Value}(h:MapI w mb f){k:Nat}{c:Array Value}{e:TypeId}{fr:Nat × Nat}(hk:w.heap[k]?=some (.cells c e fr)):k≠mb:=by
 rintro rfl
 obtain⟨es,clock,hb,_⟩:=h
 rw[hb] at hk;simp at hk
section
variable {P:Program} {w:World} {mb:Nat} {f:Int→Option Value} {T K E:TypeId}
theorem MapI.find{es:Array MapEntry}(hk:∀x∈es.toList,∃k:Int,x.key=.int .i64 k)
  (hf:∀k v,f k=some v↔∃x∈es.toList,x.key=.int .i64 k∧x.val=v) (k:Int) :
  (Instr.findNow (.int .i64) (.int .i64 k) es.toList 0=some none∧f k=none∧∀x∈es.toList,x.key≠.int .i64 k)∨
  ∃j e,Instr.findNow (.int .i64) (.int .i64 k) es.toList 0=some (some (j,e.val))∧es.toList[j]?=some e∧e.key=.int .i64 k∧f k=some e.val:=by
 have hik:∀x∈es.toList,IsKey (.int .i64) x.key:=fun x hx=>by obtain⟨q,e⟩:=hk x hx;rw[e];simp[IsKey]
 rcases findNow_spec (d:=.int .i64) (k:=.int .i64 k) (by simp[IsKey]) es.toList 0 hik with⟨h1,h2⟩ | ⟨j,e,h1,h2,h3⟩
 ·refine .inl ⟨h1,?_,h2⟩
  cases hq:f k with
  | none=>rfl
  | some v=>obtain⟨x,hx,e1,_⟩:=(hf k v).1 hq;exact absurd e1 (h2 x hx)
 ·rw[Nat.zero_add] at h1
  exact .inr ⟨j,e,h1,h2,h3,(hf k e.val).2 ⟨e,List.mem_of_getElem? h2,h3,rfl⟩⟩
theorem MapI.lookup(h:MapI w mb f)(hT:P.underlying T=some (.map K E))(hK:P.underlying K=some (.int .i64)){z:Value}(hz:(zeroValue E).run P w=.ok z w)(k:Int)(c:Bool) :
  (Instr.lookup T (.map (some mb)) (.int .i64 k) c).run P w=.ok (if c then .tuple #[(f k).getD z,.bool (f k).isSome] else(f k).getD z) w:=by
 obtain⟨es,clock,hb,hst,hk,hf⟩:=h
 have hck:∀e,(Instr.checkKey e 10000 K (.int .i64 k)).run P w=.ok () w:=fun e=>run_checkKey hK (by simp[IsKey]) e 9999
 rcases MapI.find hk hf k with⟨h1,h2,_⟩ | ⟨j,e,h1,_,_,h2⟩
 ·cases c<;>simp[Instr.lookup,run_underlying hT,MapKept.run_getObj_map hb,hck,run_findKey hK h1,Result.andThen,hz,h2]
 ·cases c<;>simp[Instr.lookup,run_underlying hT,MapKept.run_getObj_map hb,hck,run_findKey hK h1,Result.andThen,h2]
theorem MapI.update(h:MapI w mb f)(hT:P.underlying T=some (.map K E))(hK:P.underlying K=some (.int .i64))(k:Int)(v:Value) :
  ∃o,(Instr.mapUpdate T (.map (some mb)) (.int .i64 k) v).run P w=.ok () (setBlock w mb o)∧MapI (setBlock w mb o) mb (fun j=>if j=k then some v else f j):=by
 obtain⟨es,clock,hb,hst,hk,hf⟩:=h
 have hck:∀e,(Instr.checkKey e 10000 K (.int .i64 k)).run P w=.ok () w:=fun e=>run_checkKey hK (by simp[IsKey]) e 9999
 rcases MapI.find hk hf k with⟨h1,_,h3⟩ | ⟨j,e,h1,h2,h3,_⟩
 ·refine⟨.map (es.push { key:=.int .i64 k,val:=v,born:=clock }) (clock+1),?_,_,_,setBlock_same hb,stamped_push hst h3,?_,?_⟩
  ·simp[Instr.mapUpdate,run_underlying hT,MapKept.run_getObj_map hb,hck,run_findKey hK h1,Result.andThen,run_setObj_map _ hb];rfl
  ·intro x hx
   simp only[Array.toList_push,List.mem_append,List.mem_singleton] at hx
   rcases hx with hx | rfl
   ·exact hk x hx
   ·exact⟨k,rfl⟩
  ·intro q u
   simp only[Array.toList_push,List.mem_append,List.mem_singleton]
   by_cases hq:q=k
   ·subst hq
    rw[if_pos rfl]
    constructor
    ·intro e;cases e;exact⟨_,.inr rfl,rfl,rfl⟩
    ·rintro⟨x,hx | rfl,e1,e2⟩
     ·exact absurd e1 (h3 x hx)
     ·rw[← e2]
   ·rw[if_neg hq,hf]
    constructor
    ·rintro⟨x,hx,e⟩;exact⟨x,.inl hx,e⟩
    ·rintro⟨x,hx | rfl,e1,e2⟩
     ·exact⟨x,hx,e1,e2⟩
     ·simp at e1;exact absurd e1.symm hq
 ·have hkey:(((es[j]?).map (·.key)).getD (.int .i64 k))=.int .i64 k:=by
   rw[Array.getElem?_toList] at h2;simp[h2,h3]
  have hks:(Instr.keyThatStays (.int .i64 k) (.int .i64 k)).run P w=.ok (.int .i64 k) w:=by
   simp[Instr.keyThatStays,Instr.sameBits]
  have h2':es[j]?=some e:=by rw[Array.getElem?_toList] at h2;exact h2
  have hmem:e∈es.toList:=List.mem_of_getElem? h2
  have hjlt:j<es.toList.length:=(List.getElem?_eq_some_iff.1 h2).1
  refine⟨.map (es.modify j fun e=> { e with key:=.int .i64 k,val:=v }) clock,?_,_,_,setBlock_same hb,?_,?_,?_⟩
  ·simp[Instr.mapUpdate,run_underlying hT,MapKept.run_getObj_map hb,hck,run_findKey hK h1,Result.andThen,run_setObj_map _ hb,hkey,hks];rfl
  ·exact stamped_modify hst j _ (fun _ _=>rfl) (fun x _ hx=>by rw[h2'] at hx;cases hx;exact h3.symm)
  ·intro x hx
   rw[Array.mem_toList_iff,Array.mem_iff_getElem?] at hx
   obtain⟨i,hi⟩:=hx
   rw[Array.getElem?_modify] at hi
   split at hi
   ·simp only[Option.map_eq_some_iff] at hi;obtain⟨y,_,rfl⟩:=hi;exact⟨k,rfl⟩
   ·exact hk x (by rw[Array.mem_toList_iff];exact Array.mem_of_getElem? hi)
  ·intro q u
   have hnd:(es.toList.map (·.key)).Nodup:=hst.2.2
   have huniq:∀i x,es[i]?=some x→x.key=.int .i64 k→i=j:=by
    intro i x hi hx
    have g1:(es.toList.map (·.key))[i]?=some (.int .i64 k):=by simp[hi,hx]
    have g2:(es.toList.map (·.key))[j]?=some (.int .i64 k):=by simp[h2',h3]
    have l1:=(List.getElem?_eq_some_iff.1 g1).1
    exact(List.getElem?_inj l1 hnd).1 (g1.trans g2.symm)
   show(if q=k then some v else f q)=some u↔_
   by_cases hq:q=k
   ·subst hq
    rw[if_pos rfl]
    constructor
    ·intro e1
     obtain rfl:v=u:=by simpa using e1
     refine⟨{ e with key:=.int .i64 q,val:=v },?_,rfl,rfl⟩
     rw[Array.mem_toList_iff,Array.mem_iff_getElem?]
     exact⟨j,by rw[Array.getElem?_modify,if_pos rfl,h2'];rfl⟩
    ·rintro⟨x,hx,e1,e2⟩
     rw[Array.mem_toList_iff,Array.mem_iff_getElem?] at hx
     obtain⟨i,hi⟩:=hx
     rw[Array.getElem?_modify] at hi
     split at hi
     ·simp only[Option.map_eq_some_iff] at hi;obtain⟨y,_,rfl⟩:=hi;simp at e2;rw[e2]
     ·rename_i hne;exact absurd (huniq i x hi e1).symm hne
   ·rw[if_neg hq,hf]
    constructor
    ·rintro⟨x,hx,e1,e2⟩
     refine⟨x,?_,e1,e2⟩
     rw[Array.mem_toList_iff,Array.mem_iff_getElem?] at hx ⊢
     obtain⟨i,hi⟩:=hx
     refine⟨i,?_⟩
     rw[Array.getElem?_modify,if_neg]
     ·exact hi
     ·rintro rfl
      rw[h2'] at hi;cases hi
      rw[h3] at e1;simp at e1;exact hq e1.symm
    ·rintro⟨x,hx,e1,e2⟩
     rw[Array.mem_toList_iff,Array.mem_iff_getElem?] at hx
     obtain⟨i,hi⟩:=hx
     rw[Array.getElem?_modify] at hi
     split at hi
     ·simp only[Option.map_eq_some_iff] at hi;obtain⟨y,_,rfl⟩:=hi;simp at e1;exact absurd e1.symm hq
     ·exact⟨x,by rw[Array.mem_toList_iff];exact Array.mem_of_getElem? hi,e1,e2⟩
theorem MapI.clear(h:MapI w mb f)(hT:P.underlying T=some (.map K E))(ty:TypeId) :
  ∃o,(Builtin.clear_ #[T] ty #[.map (some mb)]).run P w=.ok (.tuple #[]) (setBlock w mb o)∧MapI (setBlock w mb o) mb (fun _=>none):=by
 obtain⟨es,clock,hb,hst,hk,hf⟩:=h
 refine⟨.map #[] clock,?_,MapI.made (setBlock_same hb)⟩
 simp[Builtin.clear_,run_underlying hT,MapKept.run_getObj_map hb,Result.andThen,run_setObj_map _ hb];rfl
theorem MapI.keys(h:MapI w mb f)(hT:P.underlying T=some (.map K E))(ty:TypeId) :
  ∃ks:List Int,ks.Nodup∧(∀k,k∈ks↔(f k).isSome=true)∧(Builtin.len_ #[T] ty #[.map (some mb)]).run P w=.ok (goInt ks.length) w:=by
 obtain⟨es,clock,hb,hst,hk,hf⟩:=h
 refine⟨es.toList.map (fun x=>match x.key with | .int _ k=>k | _=>0),?_,?_,?_⟩
 ·have hnd:(es.toList.map (·.key)).Nodup:=hst.2.2
  rw[List.Nodup,List.pairwise_map] at hnd ⊢
  refine hnd.imp_of_mem fun {a b} ha hb' hne e=>hne ?_
  obtain⟨q,e1⟩:=hk a ha
  obtain⟨r,e2⟩:=hk b hb'
  rw[e1,e2] at e ⊢
  simp at e;rw[e]
 ·intro k
  rw[Option.isSome_iff_exists]
  constructor
  ·intro hm
   obtain⟨x,hx,e⟩:=List.mem_map.1 hm
   obtain⟨q,e1⟩:=hk x hx
   rw[e1] at e;simp at e;subst e
   exact⟨x.val,(hf q x.val).2 ⟨x,hx,e1,rfl⟩⟩
  ·rintro⟨v,hv⟩
   obtain⟨x,hx,e1,_⟩:=(hf k v).1 hv
   exact List.mem_map.2 ⟨x,hx,by rw[e1]⟩
 ·simp[Builtin.len_,run_underlying hT,MapKept.run_getObj_map hb,Result.andThen]
end
end Go.Proofs.YtplppdbdfhkljaaGreat
namespace Go.Proofs.YtplppdbdfhkljaaGreat
open Go.RowKit
abbrev Sec:=List UInt8
def zsec:Sec:=List.replicate 512 0
@[simp] theorem zsec_length : zsec.length = 512 := List.length_replicate
def pad(l:List UInt8):Sec:=(l++zsec).take 512
@[simp] theorem pad_length (l : List UInt8) : (pad l).length = 512 := by rw [pad, List.length_take, List.length_append, zsec_length]; omega
theorem pad_full{l:List UInt8}(h:l.length=512):pad l=l:=by
 unfold pad;rw[← h];exact List.take_left
theorem pad_nil:pad []=zsec:=by rw[pad,List.nil_append];exact List.take_of_length_le (by rw[zsec_length];omega)
structure Dk where
 n:Nat
 last:Nat→Sec
 wait:Nat→Option Sec
 off:Bool
 armed:Int
 part:Nat
 way:Option Nat
 front:List UInt8
 writes:Int
 lives:Int
structure Dk.Ok(D:Dk):Prop where
 n0:32≤D.n
 n1:D.n≤4096
 last:∀i,(D.last i).length=512
 wait:∀i s,D.wait i=some s→i<D.n∧s.length=512
 armed0 : -1≤D.armed
 armed1:D.armed≤9223372036854775807
 part:D.part≤512
 way:∀i,D.way=some i→i<D.n
 front:D.front.length≤512
namespace Dk
def new(n:Nat):Dk:={ n,last:=fun _=>zsec,wait:=fun _=>none,off:=false,armed:=-1,part:=0,way:=none,front:=[],writes:=0,lives:=0 }
def may(D:Dk)(i:Int):Int:=if D.off then 8 else if i<0∨(D.n:Int)≤i then 1 else 0
def now(D:Dk)(i:Nat):Sec:=(D.wait i).getD (D.last i)
def read(D:Dk)(i:Int):List UInt8 × Int:=if D.may i=0 then(D.now i.toNat,0) else([],D.may i)
def step(D:Dk):Dk:=if 0<D.armed then { D with armed:=D.armed-1 } else D
def write(D:Dk)(i:Int)(b:List UInt8):Dk × Int:=
 if D.may i≠0 then(D,D.may i) else if b.length≠512 then(D,9)
 else if D.armed=0 then({ D with off:=true,way:=some i.toNat,front:=b.take D.part },8)
 else({ D.step with wait:=fun j=>if j=i.toNat then some b else D.wait j,writes:=wrap64 (D.writes+1) },0)
def flush(D:Dk):Dk × Int:=
 if D.off then(D,8) else if D.armed=0 then({ D with off:=true },8)
 else({ D.step with last:=D.now,wait:=fun _=>none },0)
def arm(D:Dk)(n part:Int):Dk:={ D with armed:=max n (-1),part:=(min (max part 0) 512).toNat }
def waiting(D:Dk):List Nat:=(List.range D.n).filter fun i=>(D.wait i).isSome
def kept(D:Dk)(keep:List Bool)(i:Nat):Sec:=
 if keep.getD (D.waiting.idxOf i) false=true then D.now i else D.last i
def power(D:Dk)(keep:List Bool):Dk:=
 { D with
  last:=fun i=>if D.way=some i then D.front++(D.kept keep i).drop D.front.length else D.kept keep i
  wait:=fun _=>none,off:=false,armed:=-1,way:=none,front:=[],lives:=wrap64 (D.lives+1) }
end Dk
end Go.Proofs.YtplppdbdfhkljaaGreat
namespace Go.Proofs.YtplppdbdfhkljaaGreat
open Go.RowKit
theorem wpList_append_run{P:Program}{ops:Array Oper}{rest:List Oper}{o:Oper}{a:Act}{Q:Exit→Act→World→Prop}{w:World}(hgd:o.guard=none)(s x:Operand)(T:TypeId)
  (ho:o.op=.call { callee:=.builtin .append,args:=#[s,x],argTypes:=#[T,T] }) {vs vx v':Value} {w':World} (hs:a.eval s=vs) (hx:a.eval x=vx)
  (hrun:∀ty,(Builtin.append_ #[T,T] ty #[vs,vx]).run P w=.ok v' w') (h:wpList P ops Q rest (a.put o.dst v') w'):wpList P ops Q (o :: rest) a w:=by
 refine wpList_plain hgd fun K hK=>?_
 unfold Oper.wp execOp
 simp only[ho,resolve,invoke,builtin,Sem.run_bind,Sem.run_pure,Result.andThen_ok,List.map_toArray,List.map_cons,List.map_nil,hs,hx,hrun]
 exact hK _ _ h
theorem addr_add(b off i:Nat):(⟨b,off,none⟩:Addr).add i=⟨b,off+i,none⟩:=by
 unfold Addr.add;split<;>simp_all
theorem setRow_alloc(w:World)(c c':Array Value)(e:TypeId):(w.alloc (.cells c e)).setRow w.heap.size c'=w.alloc (.cells c' e):=by
 simp only[World.setRow,World.alloc]
 congr 1
 apply Array.ext_getElem?
 intro i
 rw[Array.getElem?_modify,Array.getElem?_push,Array.getElem?_push]
 by_cases h:w.heap.size=i
 ·subst h;simp
 ·rw[if_neg h];rw[if_neg (Ne.symm h),if_neg (Ne.symm h)]
theorem Rd.cells{w:World}{v:Value}{l:List UInt8}(h:Rd w v l):∃ao cap,v=.slice ao l.length cap∧l.length≤cap∧(0<l.length→∃ad,ao=some ad∧∀j u,(bts l)[j]?=some u→w.cell? (ad.add j)=some u):=by
 obtain⟨ao,cap,rfl,hc,hh⟩:=h
 refine⟨ao,cap,rfl,hc,fun hp=>?_⟩
 obtain⟨b,off,rfl,hcell⟩:=hh hp
 refine⟨_,rfl,fun j u hj=>?_⟩
 rw[bts_get] at hj
 obtain⟨c,hc',rfl⟩:=Option.map_eq_some_iff.1 hj
 obtain⟨hlt,rfl⟩:=List.getElem?_eq_some_iff.1 hc'
 rw[addr_add];exact hcell j hlt
theorem run_copy_rd{P:Program}{w:World}{dT sT ty u8:TypeId}(hu:P.underlying dT=some (.slice u8))(hs:(P.info? u8).map (·.size)=some 1)
  (g o dLen dCap:Nat) (cur:List Value) (hg:w.heap[g]?=some (.cells cur.toArray u8 (0,0))) (hfit:o+dLen≤cur.length) {v:Value} {l:List UInt8} (hr:Rd w v l) :
  (Builtin.copy_ #[dT,sT] ty #[.slice (some ⟨g,o,none⟩) dLen dCap,v]).run P w=.ok (goInt ((min l.length dLen:Nat):Int)) (w.setRow g (splice cur o (bts (l.take dLen))).toArray):=by
 obtain⟨ao,cap,rfl,_,hh⟩:=hr.cells
 by_cases h0:min l.length dLen=0
 ·rw[run_copy_none w dT sT ty u8 _ ao dLen dCap l.length cap hu hs h0,h0]
  simp only[Int.natCast_zero]
  have:l.take dLen=[]:=by
   apply List.eq_nil_of_length_eq_zero;rw[List.length_take];omega
  rw[this]
  have e:splice cur o (bts [])=cur:=by simp[splice]
  rw[e,setRow_self w g cur.toArray u8 (0,0) hg]
 ·obtain⟨ad,rfl,hc⟩:=hh (by omega)
  have hlen:(bts (l.take dLen)).length=min l.length dLen:=by simp;omega
  have hrun:=run_copy_row (P:=P) w dT sT ty u8 g o dLen dCap ad l.length cap cur.toArray u8 (bts (l.take dLen)) hu hs hg (by rw[hlen])
   (fun j u hj=>hc j u (by
    rw[bts_get] at hj ⊢
    rw[List.getElem?_take] at hj
    split at hj
    ·exact hj
    ·simp at hj)) (by rw[hlen];simp;omega) (bts_one _)
  rw[hrun,splice,hlen]
  simp only[List.append_assoc]
theorem madeCells_bytes(n:Nat):madeCells #[.int .u8 0] n=(bts (List.replicate n 0)).toArray:=by
 apply Array.ext
 ·simp[size_madeCells]
 ·intro i h1 h2
  simp[madeCells,bts,bv,Nat.mod_one]
theorem splice_head{cur:List Value}{l:List Value}:splice cur 0 l=l++cur.drop l.length:=by
 simp[splice]
theorem splice_pad(l:List UInt8):splice (bts zsec) 0 (bts (l.take 512))=bts (pad l):=by
 rw[splice_head,bts_length]
 unfold pad
 have:(bts zsec).drop (l.take 512).length=bts (zsec.drop (l.take 512).length):=by simp[bts,List.map_drop]
 rw[this,← bts_append]
 congr 1
 rw[List.take_append]
 congr 1
 rw[List.length_take]
 by_cases h:l.length≤512
 ·have e1:min 512 l.length=l.length:=by omega
  rw[e1]
  unfold zsec
  rw[List.drop_replicate,List.take_replicate]
  congr 1;omega
 ·have e1:min 512 l.length=512:=by omega
  have e2:512-l.length=0:=by omega
  rw[e1,e2,List.take_zero]
  exact List.drop_eq_nil_of_le (by rw[zsec_length];omega)
end Go.Proofs.YtplppdbdfhkljaaGreat
namespace Go.Proofs.YtplppdbdfhkljaaGreat
open Go.RowKit
theorem infoU8:(Tryz.prog.info? 5).map (fun i=>(i.zero,i.size,i.bytes))=some (some (.int .u8 0),1,1):=by kernel_rfl
theorem sizeU8:(Tryz.prog.info? 5).map (·.size)=some 1:=by kernel_rfl
theorem run_make_u8(n:Nat)(hn:n≤100000)(w:World):(Instr.makeSlice 34 (.int .i64 (n:Int)) (.int .i64 (n:Int))).run Tryz.prog w =
  .ok (.slice (some ⟨w.heap.size,0,none⟩) n n) (w.alloc (.cells (bts (List.replicate n 0)).toArray 5)):=by
 obtain⟨i0,hi,hz0,hz1,hz2⟩:=info_parts infoU8
 have:=run_make (P:=Tryz.prog) w 34 5 i0 (.int .u8 0) Tryz.underlying34 hi hz0 .i64 .i64 n n (by omega) (by omega) (by rw[hz2];omega) (by omega)
 rw[this,hz1]
 simp only[Int.toNat_natCast,Nat.mul_one]
 rw[show(Value.int IntKind.u8 0).cells=#[.int .u8 0] from rfl,madeCells_bytes]
theorem run_make_512(w:World):(Instr.makeSlice 34 (.int .i64 512) (.int .i64 512)).run Tryz.prog w =
  .ok (.slice (some ⟨w.heap.size,0,none⟩) 512 512) (w.alloc (.cells (bts zsec).toArray 5)):=run_make_u8 512 (by omega) w
theorem Rd.alloc{w:World}{v:Value}{l:List UInt8}(h:Rd w v l)(o:Obj):Rd (w.alloc o) v l:=by
 obtain⟨ao,cap,e,hc,hh⟩:=h
 refine⟨ao,cap,e,hc,fun hp=>?_⟩
 obtain⟨b,off,rfl,hcell⟩:=hh hp
 refine⟨b,off,rfl,fun i hi=>?_⟩
 have hlt:b<w.heap.size:=block_lt_of_cell (hcell i hi)
 rw[World.cell?_alloc_past _ _ _ hlt];exact hcell i hi
set_option maxHeartbeats 400000 in
theorem whole_spec(v:Value)(l:List UInt8)(w:World)(hr:Rd w v l) :
  Calls Tryz.prog 80 #[v] w fun e w'=>e=.returned (.slice (some ⟨w.heap.size,0,none⟩) 512 512)∧w.alloc (.cells (bts (pad l)).toArray 5)=w':=by
 have hmk:=run_make_512
 have hcp:∀ty,(Builtin.copy_ #[34,34] ty #[.slice (some ⟨w.heap.size,0,none⟩) 512 512,v]).run Tryz.prog (w.alloc (.cells (bts zsec).toArray 5))=.ok (goInt ((min l.length 512:Nat):Int)) (w.alloc (.cells (bts (pad l)).toArray 5)):=by
  intro ty
  rw[run_copy_rd (u8:=5) Tryz.underlying34 sizeU8 w.heap.size 0 512 512 (bts zsec) (blk_alloc _) (by rw[bts_length,zsec_length];omega) (hr.alloc _),setRow_alloc,splice_pad]
 clear hr
 generalize (bts zsec).toArray=Z at *
 generalize (bts (pad l)).toArray=Y at *
 go_enter Tryz.func80,Tryz.ntmps80
 go_wp2
 go_ret
 exact⟨rfl,rfl⟩
def OwnN(w:World)(u8:TypeId)(F:Nat→Prop)(v:Value)(l:List UInt8):Prop:=(Own w u8 F v l∧∀o n c,v=.slice o n c→c≤maxLen)∨(l=[]∧v=.slice none 0 0)
theorem OwnN.rd{w:World}{u8:TypeId}{F:Nat→Prop}{v:Value}{l:List UInt8}(h:OwnN w u8 F v l):Rd w v l:=by
 rcases h with h | ⟨rfl,rfl⟩
 ·exact h.1.rd
 ·exact Rd.nil w
theorem OwnN.mono{w:World}{u8:TypeId}{F G:Nat→Prop}{v:Value}{l:List UInt8}(h:OwnN w u8 F v l)(hFG:∀k,F k→G k):OwnN w u8 G v l:=by
 rcases h with h | h
 ·exact .inl ⟨h.1.mono hFG,h.2⟩
 ·exact .inr h
theorem OwnN.world{w w':World}{u8:TypeId}{F:Nat→Prop}{v:Value}{l:List UInt8}(h:OwnN w u8 F v l)(ha:∀k c,F k→w.heap[k]?=some (.cells c u8 (0,0))→w'.heap[k]?=w.heap[k]?):OwnN w' u8 F v l:=by
 rcases h with h | h
 ·exact .inl ⟨h.1.world ha,h.2⟩
 ·exact .inr h
theorem OwnN.own{w:World}{u8:TypeId}{F:Nat→Prop}{v:Value}{l:List UInt8}(h:OwnN w u8 F v l)(hl:0<l.length):Own w u8 F v l:=by
 rcases h with h | ⟨rfl,_⟩
 ·exact h.1
 ·simp at hl
theorem ownN_of_row{w:World}{base:Nat}{u8:TypeId}{v:Value}{l:List UInt8}(h:w.ownsRow base u8 1 v l.length (bts l)):OwnN w u8 (fun k=>base≤k) v l:=by
 rcases h.2 with⟨rfl,h0⟩ | ⟨g,cap,cur,rfl,hb,hg,hc,hcm,hs,ht⟩
 ·exact .inr ⟨List.eq_nil_of_length_eq_zero h0,rfl⟩
 ·refine .inl ⟨⟨g,cur.toList.drop l.length,hb,?_,?_⟩,fun o n c e=>by cases e;exact hcm⟩
  ·congr 1;simp;omega
  ·rw[hg];congr 2
   rw[Nat.mul_one] at ht
   rw[← ht,List.take_append_drop]
theorem run_build_u8(w:World):(Instr.buildSlice 34 0 #[]).run Tryz.prog w=.ok (.slice (some ⟨w.heap.size,0,none⟩) 0 0) (w.alloc (.cells #[] 5)):=by kernel_rfl
set_option maxHeartbeats 400000 in
theorem clone_spec(v:Value)(l:List UInt8)(w:World)(hr:Rd w v l)(hl:l.length≤1000000) :
  Calls Tryz.prog 106 #[v] w fun e w'=>∃v',e=.returned v'∧Upd [] w w'∧OwnN w' 5 (fun k=>w.heap.size≤k) v' l:=by
 obtain⟨ao,cap,rfl,_,hh⟩:=hr.cells
 have hnil:∀(a:Option Addr) (n c:Nat) (w:World),(binOp .eql 34 (.slice a n c) (.slice none 0 0)).run Tryz.prog w=.ok (.bool a.isNone) w:=fun a n c w=>Lib.run_eql_slice_nil w 34 5 a n c 0 0 Tryz.underlying34
 cases ao with
 | none=>
  have h0:l=[]:=by
   apply List.eq_nil_of_length_eq_zero
   by_cases h:0<l.length
   ·obtain⟨_,e,_⟩:=hh h;simp at e
   ·omega
  clear hh hr
  go_enter Tryz.func106,Tryz.ntmps106
  go_wp2
  go_ret
  exact⟨_,rfl,Upd.refl _ _,.inr ⟨h0,rfl⟩⟩
 | some ad=>
  have hbs:=run_build_u8
  obtain⟨i0,hi,hz0,hz1,hz2⟩:=info_parts infoU8
  have happ:∃v' w',(∀ty,(Builtin.append_ #[34,34] ty #[.slice (some ⟨w.heap.size,0,none⟩) 0 0,.slice (some ad) l.length cap]).run Tryz.prog (w.alloc (.cells #[] 5))=.ok v' w')∧Upd [] w w'∧OwnN w' 5 (fun k=>w.heap.size≤k) v' l:=by
   have hc':∀j u,(bts l)[j]?=some u→(w.alloc (.cells #[] 5)).cell? (ad.add j)=some u:=by
    intro j u hj
    obtain⟨ad',e,hc⟩:=hh (by have:=(List.getElem?_eq_some_iff.1 hj).1;simp at this;omega)
    cases e
    have hb:(ad.add j).block<w.heap.size:=block_lt_of_cell (hc j u hj)
    rw[World.cell?_of_block (w:=w) (blk_alloc_ne hb)]
    exact hc j u hj
   obtain⟨v',w',hrun,hown,hg,_⟩:=run_append_own (P:=Tryz.prog) (w.alloc (.cells #[] 5)) w.heap.size 34 0 5 i0 (.int .u8 0) 1 1 Tryz.underlying34 hi hz0 hz1 hz2 rfl (by decide) _ 0 []
    (World.ownsRow_made w #[] 0 (Nat.le_refl _) (by unfold maxLen;omega) rfl) ad l.length cap (bts l) (by simp) hc' (bts_one _) (by unfold maxLen;omega) (by omega) (by simp)
   refine⟨v',w',fun _=>hrun,((Upd.refl _ _).alloc _).grown hg (fun k hk=>by cases hk;exact .inr (Nat.le_refl _)),ownN_of_row (by simpa using hown)⟩
  obtain⟨v',w',hrun,hu,ho⟩:=happ
  clear hh hr hi hz0 hz1 hz2
  have HU:=Lib.hid hu;clear hu
  have HO:=Lib.hid ho;clear ho
  go_enter Tryz.func106,Tryz.ntmps106
  go_wp2_with (at_builtin;refine wpList_append_run rfl _ _ _ rfl rfl rfl hrun ?_)
  go_ret
  exact⟨_,rfl,HU.out,HO.out⟩
end Go.Proofs.YtplppdbdfhkljaaGreat
namespace Go.Proofs.YtplppdbdfhkljaaGreat
open Go.RowKit
structure DG where
 db:Nat
 lb:Nat
 mb:Nat
def wayv:Option Nat→Int
 | none=> -1
 | some i=>(i:Int)
def LastV(w:World)(F:Nat→Prop)(v:Value)(s:Sec):Prop:=(v=.slice none 0 0∧s=zsec)∨Own w 5 F v s
def WaitM(w:World)(F:Nat→Prop)(mb:Nat)(wt:Nat→Option Sec):Prop:=
 ∃f,MapI w mb f∧(∀k v,f k=some v→0≤k∧∃s,wt k.toNat=some s∧Own w 5 F v s)∧∀i s,wt i=some s→∃v,f (i:Int)=some v
structure DiskAt(w:World)(F:Nat→Prop)(g:DG)(D:Dk):Prop where
 st:∃fv,w.heap[g.db]?=some (.cells #[.slice (some ⟨g.lb,0,none⟩) D.n D.n,.map (some g.mb),.bool D.off,.int .i64 D.armed,.int .i64 (D.part:Int),.int .i64 (wayv D.way),fv,.int .i64 D.writes,.int .i64 D.lives] 158 (0,0))∧OwnN w 5 F fv D.front
 last:∃lv:List Value,w.heap[g.lb]?=some (.cells lv.toArray 34 (0,0))∧lv.length=D.n∧∀i v,lv[i]?=some v→LastV w F v (D.last i)
 wait:WaitM w F g.mb D.wait
 ok:D.Ok
theorem LastV.mono{w:World}{F G:Nat→Prop}{v:Value}{s:Sec}(h:LastV w F v s)(hFG:∀k,F k→G k):LastV w G v s:=by
 rcases h with h | h
 ·exact .inl h
 ·exact .inr (h.mono hFG)
theorem LastV.world{w w':World}{F:Nat→Prop}{v:Value}{s:Sec}(h:LastV w F v s)(ha:∀k c,F k→w.heap[k]?=some (.cells c 5 (0,0))→w'.heap[k]?=w.heap[k]?):LastV w' F v s:=by
 rcases h with h | h
 ·exact .inl h
 ·exact .inr (h.world ha)
theorem WaitM.mono{w:World}{F G:Nat→Prop}{mb:Nat}{wt:Nat→Option Sec}(h:WaitM w F mb wt)(hFG:∀k,F k→G k):WaitM w G mb wt:=by
 obtain⟨f,h1,h2,h3⟩:=h
 refine⟨f,h1,fun k v hk=>?_,h3⟩
 obtain⟨a,s,e,o⟩:=h2 k v hk
 exact⟨a,s,e,o.mono hFG⟩
theorem WaitM.world{w w':World}{F:Nat→Prop}{mb:Nat}{wt:Nat→Option Sec}(h:WaitM w F mb wt)(hm:w'.heap[mb]?=w.heap[mb]?)(ha:∀k c,F k→w.heap[k]?=some (.cells c 5 (0,0))→w'.heap[k]?=w.heap[k]?):WaitM w' F mb wt:=by
 obtain⟨f,h1,h2,h3⟩:=h
 refine⟨f,h1.world hm,fun k v hk=>?_,h3⟩
 obtain⟨a,s,e,o⟩:=h2 k v hk
 exact⟨a,s,e,o.world ha⟩
theorem DiskAt.mono{w:World}{F G:Nat→Prop}{g:DG}{D:Dk}(h:DiskAt w F g D)(hFG:∀k,F k→G k):DiskAt w G g D:=by
 obtain⟨⟨fv,a1,a2⟩,⟨lv,b1,b2,b3⟩,c,d⟩:=h
 exact⟨⟨fv,a1,a2.mono hFG⟩,⟨lv,b1,b2,fun i v hv=>(b3 i v hv).mono hFG⟩,c.mono hFG,d⟩
theorem DiskAt.world{w w':World}{F:Nat→Prop}{g:DG}{D:Dk}(h:DiskAt w F g D)(h1:w'.heap[g.db]?=w.heap[g.db]?)(h2:w'.heap[g.lb]?=w.heap[g.lb]?)(h3:w'.heap[g.mb]?=w.heap[g.mb]?)
  (ha:∀k c,F k→w.heap[k]?=some (.cells c 5 (0,0))→w'.heap[k]?=w.heap[k]?):DiskAt w' F g D:=by
 obtain⟨⟨fv,a1,a2⟩,⟨lv,b1,b2,b3⟩,c,d⟩:=h
 exact⟨⟨fv,by rw[h1];exact a1,a2.world ha⟩,⟨lv,by rw[h2];exact b1,b2,fun i v hv=>(b3 i v hv).world ha⟩,c.world h3 ha,d⟩
theorem DiskAt.re{w w':World}{F:Nat→Prop}{g:DG}{D D':Dk}(h:DiskAt w F g D)
  (hst:∃fv,w'.heap[g.db]?=some (.cells #[.slice (some ⟨g.lb,0,none⟩) D.n D.n,.map (some g.mb),.bool D'.off,.int .i64 D'.armed,.int .i64 (D'.part:Int),.int .i64 (wayv D'.way),fv,.int .i64 D'.writes,.int .i64 D'.lives] 158 (0,0))∧OwnN w' 5 F fv D'.front)
  (ho:∀k,k<w.heap.size→k≠g.db→w'.heap[k]?=w.heap[k]?) (hn:D'.n=D.n) (hl:D'.last=D.last) (hw:D'.wait=D.wait) (hok:D'.Ok):DiskAt w' F g D':=by
 obtain⟨⟨fv,a1,a2⟩,⟨lv,b1,b2,b3⟩,c,d⟩:=h
 have ha:∀k c,F k→w.heap[k]?=some (.cells c 5 (0,0))→w'.heap[k]?=w.heap[k]?:=by
  intro k c _ hk
  refine ho k (blk_lt hk) ?_
  rintro rfl
  rw[a1] at hk;simp at hk
 refine⟨by rw[hn];exact hst,⟨lv,?_,by rw[hn];exact b2,fun i v hv=>by rw[hl];exact(b3 i v hv).world ha⟩,?_,hok⟩
 ·rw[ho _ (blk_lt b1)]
  ·exact b1
  ·intro e;rw[e,a1] at b1;simp at b1
 ·rw[hw]
  obtain⟨f,hf,_⟩:=id c
  exact c.world (ho _ hf.lt (Ne.symm (hf.not_cells a1))) ha
theorem DiskAt.ne1{w:World}{F:Nat→Prop}{g:DG}{D:Dk}(h:DiskAt w F g D):g.lb≠g.db:=by
 obtain⟨⟨fv,a1,_⟩,⟨lv,b1,_⟩,_,_⟩:=h
 intro e;rw[e,a1] at b1;simp at b1
theorem DiskAt.ne2{w:World}{F:Nat→Prop}{g:DG}{D:Dk}(h:DiskAt w F g D):g.mb≠g.db:=by
 obtain⟨⟨fv,a1,_⟩,_,⟨f,hf,_⟩,_⟩:=h
 exact Ne.symm (hf.not_cells a1)
theorem DiskAt.ne3{w:World}{F:Nat→Prop}{g:DG}{D:Dk}(h:DiskAt w F g D):g.mb≠g.lb:=by
 obtain⟨_,⟨lv,b1,_⟩,⟨f,hf,_⟩,_⟩:=h
 exact Ne.symm (hf.not_cells b1)
theorem DiskAt.lt{w:World}{F:Nat→Prop}{g:DG}{D:Dk}(h:DiskAt w F g D):g.db<w.heap.size∧g.lb<w.heap.size∧g.mb<w.heap.size:=by
 obtain⟨⟨fv,a1,_⟩,⟨lv,b1,_⟩,⟨f,hf,_⟩,_⟩:=h
 exact⟨blk_lt a1,blk_lt b1,hf.lt⟩
theorem DiskAt.byte{w:World}{F:Nat→Prop}{g:DG}{D:Dk}(h:DiskAt w F g D){k:Nat}{c:Array Value}{f:Nat × Nat}(hk:w.heap[k]?=some (.cells c 5 f)):k∉[g.db,g.lb,g.mb]:=by
 obtain⟨⟨fv,a1,_⟩,⟨lv,b1,_⟩,⟨f,hf,_⟩,_⟩:=h
 simp only[List.mem_cons,List.not_mem_nil,or_false,not_or]
 refine⟨?_,?_,hf.not_cells hk⟩
 ·rintro rfl;rw[a1] at hk;simp at hk
 ·rintro rfl;rw[b1] at hk;simp at hk
theorem ret_int{k:IntKind}{a b:Int}(h:a=b):Ending.returned (.int k a)=.returned (.int k b):=by rw[h]
theorem ret_bool{a b:Bool}(h:a=b):Ending.returned (.bool a)=.returned (.bool b):=by rw[h]
set_option maxHeartbeats 400000 in
theorem len_nil(w:World):Calls Tryz.prog 78 #[.pointer none] w fun e w'=>e=.returned (.int .i64 0)∧w=w':=by
 go_enter Tryz.func78,Tryz.ntmps78
 go_wp2
 go_ret
 exact⟨rfl,rfl⟩
set_option maxHeartbeats 400000 in
theorem len_spec{w:World}{F:Nat→Prop}{g:DG}{D:Dk}(h:DiskAt w F g D) :
  Calls Tryz.prog 78 #[.pointer (some ⟨g.db,0,none⟩)] w fun e w'=>e=.returned (.int .i64 (D.n:Int))∧w=w':=by
 obtain⟨fv,a1,_⟩:=h.st
 have hc:=blk_cell a1
 clear h a1
 go_enter Tryz.func78,Tryz.ntmps78
 go_wp2
 go_ret
 exact⟨rfl,rfl⟩
set_option maxHeartbeats 400000 in
theorem lives_spec{w:World}{F:Nat→Prop}{g:DG}{D:Dk}(h:DiskAt w F g D) :
  Calls Tryz.prog 82 #[.pointer (some ⟨g.db,0,none⟩)] w fun e w'=>e=.returned (.int .i64 D.lives)∧w=w':=by
 obtain⟨fv,a1,_⟩:=h.st
 have hc:=blk_cell a1
 clear h a1
 go_enter Tryz.func82,Tryz.ntmps82
 go_wp2
 go_ret
 exact⟨rfl,rfl⟩
set_option maxHeartbeats 400000 in
theorem dead_spec{w:World}{F:Nat→Prop}{g:DG}{D:Dk}(h:DiskAt w F g D) :
  Calls Tryz.prog 81 #[.pointer (some ⟨g.db,0,none⟩)] w fun e w'=>e=.returned (.bool D.off)∧w=w':=by
 have H:=Lib.hid h
 obtain⟨fv,a1,_⟩:=h.st
 have hc:=blk_cell a1
 have hn:=h.ok.n0
 have hn':((D.n:Int) == 0)=false:=beq_eq_false_iff_ne.2 (by omega)
 clear h a1
 go_enter Tryz.func81,Tryz.ntmps81
 go_wp2_with (go_at_call 78;refine(len_spec H.out).mono ?_;rintro e w' ⟨rfl,rfl⟩)
 go_ret
 exact⟨rfl,rfl⟩
set_option maxHeartbeats 400000 in
theorem may_spec{w:World}{F:Nat→Prop}{g:DG}{D:Dk}(h:DiskAt w F g D)(i:Int) :
  Calls Tryz.prog 127 #[.pointer (some ⟨g.db,0,none⟩),.int .i64 i] w fun e w'=>e=.returned (.int .i64 (D.may i))∧w=w':=by
 have H:=Lib.hid h
 obtain⟨fv,a1,_⟩:=h.st
 have hc:=blk_cell a1
 have hn:=h.ok.n0
 have hn1:=h.ok.n1
 clear h a1
 go_enter Tryz.func127,Tryz.ntmps127
 go_wp2_with (go_at_call 78;refine(len_spec H.out).mono ?_;rintro e w' ⟨rfl,rfl⟩)
 all_goals
  go_ret
  refine⟨ret_int ?_,rfl⟩
  simp only[Dk.may]
  simp_all
  try omega
def Dk.gone(D:Dk):Dk:=if D.armed=0 then { D with off:=true } else D.step
theorem Dk.step_ok{D:Dk}(h:D.Ok):D.step.Ok:=by
 unfold Dk.step
 split
 ·exact⟨h.n0,h.n1,h.last,h.wait,by have:=h.armed0;simp;omega,by have:=h.armed1;simp;omega,h.part,h.way,h.front⟩
 ·exact h
theorem Dk.gone_ok{D:Dk}(h:D.Ok):D.gone.Ok:=by
 unfold Dk.gone
 split
 ·exact⟨h.n0,h.n1,h.last,h.wait,h.armed0,h.armed1,h.part,h.way,h.front⟩
 ·exact Dk.step_ok h
set_option maxHeartbeats 400000 in
theorem goes_spec{w:World}{F:Nat→Prop}{g:DG}{D:Dk}(h:DiskAt w F g D) :
  Calls Tryz.prog 143 #[.pointer (some ⟨g.db,0,none⟩)] w fun e w'=>e=.returned (.bool (D.armed != 0))∧DiskAt w' F g D.gone∧Upd [g.db] w w':=by
 have H:=Lib.hid h
 obtain⟨fv,a1,a2⟩:=h.st
 have hc:=blk_cell a1
 have hf:=blk_free a1
 have hA0:=h.ok.armed0
 have hA1:=h.ok.armed1
 have HA:=Lib.hid a1
 have HB:=Lib.hid a2
 clear h a1 a2
 have key:∀(D':Dk) (o:Nat) (v:Value),D'=D.gone→D'.front=D.front→D'.n=D.n→D'.last=D.last→D'.wait=D.wait→(#[.slice (some ⟨g.lb,0,none⟩) D.n D.n,.map (some g.mb),.bool D.off,.int .i64 D.armed,.int .i64 (D.part:Int),.int .i64 (wayv D.way),fv,.int .i64 D.writes,.int .i64 D.lives]:Array Value).setIfInBounds o v=#[.slice (some ⟨g.lb,0,none⟩) D.n D.n,.map (some g.mb),.bool D'.off,.int .i64 D'.armed,.int .i64 (D'.part:Int),.int .i64 (wayv D'.way),fv,.int .i64 D'.writes,.int .i64 D'.lives]→
   DiskAt (w.setCell ⟨g.db,o,none⟩ v) F g D.gone∧Upd [g.db] w (w.setCell ⟨g.db,o,none⟩ v):=by
  intro D' o v e e1 e2 e3 e4 hs
  refine⟨?_,(Upd.refl _ _).set v (.inl (by simp))⟩
  rw[← e]
  refine H.out.re ⟨fv,by rw[← hs];exact blk_set HA.out o v,?_⟩ (fun k _ hk=>blk_set_ne _ _ hk) e2 e3 e4 (by rw[e];exact Dk.gone_ok H.out.ok)
  rw[e1]
  exact HB.out.world (fun k c _ hk=>blk_set_ne _ _ (by rintro rfl;rw[HA.out] at hk;simp at hk))
 have K:=Lib.hid key
 clear key
 rcases Int.lt_trichotomy D.armed 0 with h0 | h0 | h0
 ·have hb1:(D.armed == 0)=false:=beq_eq_false_iff_ne.2 (by omega)
  go_enter Tryz.func143,Tryz.ntmps143
  go_wp2
  go_ret
  refine⟨ret_bool ?_,?_,Upd.refl _ _⟩
  ·simp[bne,hb1]
  ·have e:D.gone=D:=by unfold Dk.gone Dk.step;rw[if_neg (by omega),if_neg (by omega)]
   rw[e];exact H.out
 ·have hb1:(D.armed == 0)=true:=beq_iff_eq.2 h0
  have H0:=Lib.hid h0
  clear h0
  go_enter Tryz.func143,Tryz.ntmps143
  go_wp2
  go_ret
  refine⟨ret_bool ?_,K.out { D with off:=true } _ _ ?_ rfl rfl rfl rfl rfl⟩
  ·simp[bne,hb1]
  ·unfold Dk.gone;rw[if_pos H0.out]
 ·have hb1:(D.armed == 0)=false:=beq_eq_false_iff_ne.2 (by omega)
  go_enter Tryz.func143,Tryz.ntmps143
  go_wp2
  go_ret
  refine⟨ret_bool ?_,K.out { D with armed:=D.armed-1 } _ _ ?_ rfl rfl rfl rfl rfl⟩
  ·simp[bne,hb1]
  ·unfold Dk.gone Dk.step;rw[if_neg (by omega),if_pos h0]
end Go.Proofs.YtplppdbdfhkljaaGreat
namespace Go.Proofs.YtplppdbdfhkljaaGreat
open Go.RowKit
theorem zeroBytes(w:World):(zeroValue 34).run Tryz.prog w=.ok (.slice none 0 0) w:=by kernel_rfl
theorem Dk.may_zero{D:Dk}{i:Int}(h:D.may i=0):D.off=false∧0≤i∧i<D.n:=by
 unfold Dk.may at h
 split at h
 ·simp at h
 ·split at h
  ·simp at h
  ·rename_i a b;refine⟨by simpa using a,by omega,by omega⟩
theorem Dk.may_of{D:Dk}{i:Int}(h:D.off=false)(h0:0≤i)(h1:i<D.n):D.may i=0:=by
 unfold Dk.may;rw[h,if_neg (by simp),if_neg (by omega)]
set_option maxHeartbeats 400000 in
theorem read_err{w:World}{F:Nat→Prop}{g:DG}{D:Dk}(h:DiskAt w F g D)(i:Int)(hm:D.may i≠0) :
  Calls Tryz.prog 83 #[.pointer (some ⟨g.db,0,none⟩),.int .i64 i] w fun e w'=>e=.returned (.tuple #[.slice none 0 0,.int .i64 (D.may i)])∧w=w':=by
 have H:=Lib.hid h
 have hm':(D.may i != 0)=true:=by simpa using hm
 clear h hm
 go_enter Tryz.func83,Tryz.ntmps83
 go_wp2_with (go_at_call 127;refine(may_spec H.out _).mono ?_;rintro e w' ⟨rfl,rfl⟩)
 go_ret2
 exact⟨rfl,rfl⟩
set_option maxHeartbeats 400000 in
theorem read_ok{w:World}{F:Nat→Prop}{g:DG}{D:Dk}(h:DiskAt w F g D)(i:Nat)(hoff:D.off=false)(hi:i<D.n) :
  Calls Tryz.prog 83 #[.pointer (some ⟨g.db,0,none⟩),.int .i64 (i:Int)] w fun e w'=>e=.returned (.tuple #[.slice (some ⟨w.heap.size,0,none⟩) 512 512,.int .i64 0])∧w.alloc (.cells (bts (D.now i)).toArray 5)=w':=by
 have H:=Lib.hid h
 have hm:D.may i=0:=Dk.may_of hoff (by omega) (by omega)
 have hm':(D.may i != 0)=false:=by simp[hm]
 obtain⟨fv,a1,_⟩:=h.st
 obtain⟨f,hf,hf1,hf2⟩:=h.wait
 obtain⟨lv,b1,b2,b3⟩:=h.last
 have hc:=blk_cell a1
 have hok:=h.ok
 have hlk:=hf.lookup (P:=Tryz.prog) (T:=99) Tryz.underlying99 Tryz.underlying3 (zeroBytes w) (i:Int) true
 cases hfi:f (i:Int) with
 | some v=>
  obtain⟨_,s,e1,o⟩:=hf1 _ _ hfi
  have hnow:pad s=D.now i:=by
   have e2:D.wait i=some s:=by simpa using e1
   rw[pad_full (hok.wait i s e2).2];simp[Dk.now,e2]
  rw[hfi] at hlk
  simp only[if_true,Option.getD_some,Option.isSome_some] at hlk
  have HR:=Lib.hid o.rd
  have HN:=Lib.hid hnow
  clear h a1 hf hf1 hf2 b1 b2 b3 hok hm o hnow hfi e1
  go_enter Tryz.func83,Tryz.ntmps83
  go_wp2_with (first | (go_at_call 127;refine(may_spec H.out _).mono ?_;rintro e w' ⟨rfl,rfl⟩) | (go_at_call 80;refine(whole_spec _ _ _ HR.out).mono ?_;rintro e w' ⟨rfl,rfl⟩))
  go_ret2
  exact⟨rfl,by rw[HN.out]⟩
 | none=>
  have e2:D.wait i=none:=by
   cases hq:D.wait i with
   | none=>rfl
   | some s=>obtain⟨v,hv⟩:=hf2 i s hq;rw[hfi] at hv;simp at hv
  rw[hfi] at hlk
  simp only[if_true,Option.getD_none,Option.isSome_none] at hlk
  obtain⟨v,hv⟩:∃v,lv[i]?=some v:=⟨_,List.getElem?_eq_getElem (by omega)⟩
  have hcl:w.cell? ⟨g.lb,i,none⟩=some v:=by rw[blk_cell b1];simpa using hv
  have hnow:∃l,Rd w v l∧pad l=D.now i:=by
   rcases b3 i v hv with⟨rfl,e⟩ | o
   ·exact⟨[],Rd.nil w,by rw[pad_nil];simp[Dk.now,e2,e]⟩
   ·exact⟨_,o.rd,by rw[pad_full (hok.last i)];simp[Dk.now,e2]⟩
  obtain⟨l,hr,hn⟩:=hnow
  have HR:=Lib.hid hr
  have HN:=Lib.hid hn
  clear h a1 hf hf1 hf2 b1 b2 b3 hok hm hr hn hfi hv
  go_enter Tryz.func83,Tryz.ntmps83
  go_wp2_with (first | (go_at_call 127;refine(may_spec H.out _).mono ?_;rintro e w' ⟨rfl,rfl⟩) | (go_at_call 80;refine(whole_spec _ _ _ HR.out).mono ?_;rintro e w' ⟨rfl,rfl⟩))
  go_ret2
  exact⟨rfl,by rw[HN.out]⟩
theorem infoBS:(Tryz.prog.info? 34).map (fun i=>(i.zero,i.size,i.bytes))=some (some (.slice none 0 0),1,24):=by kernel_rfl
theorem madeCells_one(z:Value)(hz:z.cells=#[z])(n:Nat):madeCells z.cells n=(List.replicate n z).toArray:=by
 rw[hz]
 apply Array.ext
 ·simp[size_madeCells]
 ·intro i h1 h2
  simp[madeCells,Nat.mod_one]
theorem run_make_bs(n:Nat)(hn:n≤100000)(w:World):(Instr.makeSlice 156 (.int .i64 (n:Int)) (.int .i64 (n:Int))).run Tryz.prog w =
  .ok (.slice (some ⟨w.heap.size,0,none⟩) n n) (w.alloc (.cells (List.replicate n (.slice none 0 0)).toArray 34)):=by
 obtain⟨i0,hi,hz0,hz1,hz2⟩:=info_parts infoBS
 have:=run_make (P:=Tryz.prog) w 156 34 i0 (.slice none 0 0) Tryz.underlying156 hi hz0 .i64 .i64 n n (by omega) (by omega) (by rw[hz2];omega) (by omega)
 rw[this,hz1]
 simp only[Int.toNat_natCast,Nat.mul_one]
 rw[madeCells_one _ rfl]
set_option maxHeartbeats 400000 in
theorem new_spec(n:Nat)(h0:32≤n)(h1:n≤4096)(w:World) :
  Calls Tryz.prog 66 #[.int .i64 (n:Int)] w fun e w'=>e=.returned (.pointer (some ⟨w.heap.size+2,0,none⟩))∧DiskAt w' (fun _=>False) ⟨w.heap.size+2,w.heap.size,w.heap.size+1⟩ (Dk.new n)∧Upd [] w w':=by
 have hmk:=run_make_bs n (by omega)
 have hmm:=@run_makeMap Tryz.prog
 have fin:∀A B C:Obj,A=.cells (Array.replicate n (.slice none 0 0)) 34→B=.map #[] 0→C=.cells #[.slice (some ⟨w.heap.size,0,none⟩) n n,.map (some (w.heap.size+1)),.bool false,.int .i64 (-1),.int .i64 0,.int .i64 (-1),.slice none 0 0,.int .i64 0,.int .i64 0] 158→
   DiskAt (((w.alloc A).alloc B).alloc C) (fun _=>False) ⟨w.heap.size+2,w.heap.size,w.heap.size+1⟩ (Dk.new n)∧Upd [] w (((w.alloc A).alloc B).alloc C):=by
  intro A B C eA eB eC
  have e3:(((w.alloc A).alloc B).alloc C).heap[w.heap.size+2]?=some C:=by
   have:=blk_alloc (w:=(w.alloc A).alloc B) C
   simpa using this
  have e2:(((w.alloc A).alloc B).alloc C).heap[w.heap.size+1]?=some B:=by
   rw[blk_alloc_ne (by simp)]
   have:=blk_alloc (w:=w.alloc A) B
   simpa using this
  have e1:(((w.alloc A).alloc B).alloc C).heap[w.heap.size]?=some A:=by
   rw[blk_alloc_ne (by simp;omega),blk_alloc_ne (by simp)]
   exact blk_alloc A
  refine⟨⟨⟨.slice none 0 0,?_,.inr ⟨rfl,rfl⟩⟩,⟨List.replicate n (.slice none 0 0),?_,by simp[Dk.new],?_⟩,⟨fun _=>none,?_,by simp,by simp[Dk.new]⟩,?_⟩,(((Upd.refl _ _).alloc _).alloc _).alloc _⟩
  ·rw[e3,eC];rfl
  ·rw[e1,eA];simp
  ·intro i v hv
   rw[List.getElem?_replicate] at hv
   split at hv
   ·cases hv;exact .inl ⟨rfl,rfl⟩
   ·simp at hv
  ·exact MapI.made (c:=0) (by rw[e2,eB])
  ·exact⟨h0,h1,fun _=>zsec_length,by simp[Dk.new],by simp[Dk.new],by simp[Dk.new],by simp[Dk.new],by simp[Dk.new],by simp[Dk.new]⟩
 have FIN:=Lib.hid fin
 clear fin
 go_enter Tryz.func66,Tryz.ntmps66
 go_wp2
 go_ret
 exact⟨rfl,FIN.out _ _ _ rfl rfl rfl⟩
end Go.Proofs.YtplppdbdfhkljaaGreat
end
