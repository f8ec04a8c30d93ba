/-
  Frames of blocks, byte rows and small facts on worlds that all later texts of this seat use.
-/
import Derived.Test.YtgfbepakonjbnaaGreatRows
import Derived.WalkKit
import Derived.WalkSpells
import Derived.WalkLawsBesides
import Derived.Lib.Hide
import Derived.Laws.CopyOwn
import Derived.Maps.RangeRun
import Derived.Maps.Own
import Derived.Lib.SliceRun
import Derived.Laws.BitsAllLaws
import Derived.Laws.Bits128
import Derived.Laws.Entries
set_option maxRecDepth 100000
set_option maxHeartbeats 16000000
namespace Go.Proofs.YtgfbepakonjbnaaGreat
theorem η{p:Prop}(h:p):Go.RowKit.Hid p:=Lib.hid h
theorem αs{α:Type _}{l:List α}{i:Nat}{a:α}:l.toArray.setIfInBounds i a=(l.set i a).toArray:=List.setIfInBounds_toArray ..
theorem αz{α:Type _}{a b:α}{l:List α}:(a::l).set 0 b=b::l:=rfl
theorem αc{α:Type _}{a b:α}{l:List α}{n:Nat}:(a::l).set (n+1) b=a::l.set n b:=rfl
end Go.Proofs.YtgfbepakonjbnaaGreat
section
namespace Go.Proofs.YtgfbepakonjbnaaGreat
open Go.RowKit
theorem A4{w:World}{b:Nat}{c:Array Value}{e:TypeId}{f:Nat × Nat}(h:w.heap[b]?=some (.cells c e f))(o:Nat):w.cell? ⟨b,o,none⟩=c[o]?:=by
 simp[World.cell?,h]
theorem E4{w:World}{b:Nat}{c:Array Value}{e:TypeId}(h:w.heap[b]?=some (.cells c e (0,0)))(o:Nat):w.frozen? ⟨b,o,none⟩=false:=by
 simp[World.frozen?,h]
theorem A2{w:World}{b:Nat}{o:Obj}(h:w.heap[b]?=some o):b<w.heap.size:=by
 exact(Array.getElem?_eq_some_iff.1 h).1
theorem B3{w:World}{b:Nat}{c:Array Value}{e:TypeId}{f:Nat × Nat}(h:w.heap[b]?=some (.cells c e f))(o:Nat)(v:Value) :
  (w.setCell ⟨b,o,none⟩ v).heap[b]?=some (.cells (c.setIfInBounds o v) e f):=by
 simp[World.setCell,Array.getElem?_modify,h]
theorem E7{w:World}{b k:Nat}(o:Nat)(v:Value)(h:k≠b):(w.setCell ⟨b,o,none⟩ v).heap[k]?=w.heap[k]?:=heap_setCell_other _ _ _ _ h
theorem A9{w:World}{o:Obj}{k:Nat}(h:k<w.heap.size):(w.alloc o).heap[k]?=w.heap[k]?:=Below.heap_alloc _ _ _ h
theorem A6{w:World}(o:Obj):(w.alloc o).heap[w.heap.size]?=some o:=heap_alloc_new _ _
theorem Bj2{w:World}{k:Nat}:w.drew.heap[k]?=w.heap[k]?:=rfl
structure Upd(S:List Nat)(w w':World):Prop where
 os:w'.os=w.os
 tape:w'.tape=w.tape
 output:w'.output=w.output
 size:w.heap.size<=w'.heap.size
 block:∀k,k<w.heap.size->k∉S->w'.heap[k]?=w.heap[k]?
theorem Upd.refl(S:List Nat)(w:World):Upd S w w:=⟨rfl,rfl,rfl,Nat.le_refl _,λ _ _ _=>rfl⟩
theorem Upd.trans{S:List Nat}{a b c:World}(h:Upd S a b)(k:Upd S b c):Upd S a c:=
 ⟨k.os.trans h.os,k.tape.trans h.tape,k.output.trans h.output,Nat.le_trans h.size k.size,
 λ i hi hs=>(k.block i (Nat.lt_of_lt_of_le hi h.size) hs).trans (h.block i hi hs)⟩
theorem Upd.mono{S T:List Nat}{a b:World}(h:Upd S a b)(hs:∀k,k∈S->k∈T):Upd T a b:=
 ⟨h.os,h.tape,h.output,h.size,λ i hi ht=>h.block i hi λ q=>ht (hs _ q)⟩
theorem Upd.late{S T:List Nat}{a b c:World}(h:Upd S a b)(k:Upd T b c)(hT:∀i,i∈T->i∈S∨a.heap.size<=i):Upd S a c:=
 ⟨k.os.trans h.os,k.tape.trans h.tape,k.output.trans h.output,Nat.le_trans h.size k.size,
 λ i hi hs=>(k.block i (Nat.lt_of_lt_of_le hi h.size) (λ q=>by rcases hT i q with r | r;exact hs r;omega)).trans (h.block i hi hs)⟩
theorem Upd.alloc{S:List Nat}{a w:World}(h:Upd S a w)(o:Obj):Upd S a (w.alloc o):=
 h.trans ⟨rfl,rfl,rfl,by simp,λ k hk _=>A9 hk⟩
theorem Upd.drew{S:List Nat}{a w:World}(h:Upd S a w):Upd S a w.drew:=⟨h.os,h.tape,h.output,h.size,h.block⟩
theorem Upd.drewN{S:List Nat}{a w:World}(h:Upd S a w)(n:Nat):Upd S a (w.drewN n):=⟨h.os,h.tape,h.output,h.size,h.block⟩
theorem Upd.set{S:List Nat}{a w:World}(h:Upd S a w){b o:Nat}(v:Value)(hb:b∈S∨a.heap.size<=b):Upd S a (w.setCell ⟨b,o,none⟩ v):=
 ⟨h.os,h.tape,h.output,by simpa using h.size,λ k hk hs=>by
  rw[E7 _ _ (by rintro rfl;rcases hb with q | q;exact hs q;omega)];exact h.block k hk hs⟩
theorem Upd.toBelow{w w':World}(h:Upd [] w w'):Below w.heap.size w w':=⟨h.os,h.tape,h.output,h.size,λ k hk=>h.block k hk (by simp)⟩
theorem Upd.grown{S:List Nat}{a w w':World}{row:Option Nat}(h:Upd S a w)(hg:w.grownBy w' row)(hr:∀k,row=some k->k∈S∨a.heap.size<=k):Upd S a w':=
 ⟨hg.os.trans h.os,hg.tape.trans h.tape,hg.output.trans h.output,Nat.le_trans h.size hg.size,λ k hk hs=>
  (hg.block k (Nat.lt_of_lt_of_le hk h.size) (λ e=>by rcases hr k e.symm with q | q;exact hs q;omega)).trans (h.block k hk hs)⟩
def Ai1(w:World)(r:Nat)(o:Obj):World:={ w with heap:=w.heap.setIfInBounds r o }
@[simp] theorem Bb7 (w : World) (r : Nat) (o : Obj) : (Ai1 w r o).heap.size = w.heap.size := by simp [Ai1]
theorem As0{w:World}{r k:Nat}(o:Obj)(h:k≠r):(Ai1 w r o).heap[k]?=w.heap[k]?:=by
 simp only[Ai1,Array.getElem?_setIfInBounds];rw[if_neg (by omega)]
theorem Upd.setObj{S:List Nat}{a w:World}(h:Upd S a w){r:Nat}(o:Obj)(hb:r∈S∨a.heap.size<=r):Upd S a (Ai1 w r o):=
 ⟨h.os,h.tape,h.output,by simpa using h.size,λ k hk hs=>by
  rw[As0 _ (by rintro rfl;rcases hb with q | q;exact hs q;omega)];exact h.block k hk hs⟩
def bv(c:UInt8):Value:=.int .u8 (c.toNat:Int)
def bts(l:List UInt8):List Value:=l.map bv
@[simp] theorem A8 (l : List UInt8) : (bts l).length = l.length := by simp [bts]
@[simp] theorem Bq6 (a b : List UInt8) : bts (a ++ b) = bts a ++ bts b := by simp [bts]
@[simp] theorem Cs1 : bts [] = [] := rfl
theorem Au5(l:List UInt8)(i:Nat):(bts l)[i]?=l[i]?.map bv:=by simp[bts]
theorem G7(l:List UInt8):∀v∈bts l,v.oneCell'=true:=by
 intro v hv;obtain⟨c,_,rfl⟩:=List.mem_map.1 hv;rfl
def Rd(w:World)(v:Value)(l:List UInt8):Prop:=
 ∃ao cap,v=.slice ao l.length cap/\l.length<=cap/\
  (0<l.length->∃b off,ao=some ⟨b,off,none⟩/\∀i (h:i<l.length),w.cell? ⟨b,off+i,none⟩=some (bv l[i]))
theorem Rd.nil(w:World):Rd w (.slice none 0 0) []:=⟨none,0,rfl,Nat.le_refl _,λ h=>absurd h (by simp)⟩
def Own(w:World)(u8:TypeId)(F:Nat->Prop)(v:Value)(l:List UInt8):Prop:=
 ∃k rest,F k/\v=.slice (some ⟨k,0,none⟩) l.length (l.length+rest.length)/\w.heap[k]?=some (.cells (bts l++rest).toArray u8 (0,0))
theorem Own.rd{w:World}{u8:TypeId}{F:Nat->Prop}{v:Value}{l:List UInt8}(h:Own w u8 F v l):Rd w v l:=by
 obtain⟨k,rest,_,rfl,hb⟩:=h;refine⟨_,_,rfl,by omega,λ _=>⟨k,0,rfl,λ i hi=>?_⟩⟩;rw[A4 hb];simp[List.getElem?_append_left,bts,hi]
theorem Own.mono{w:World}{u8:TypeId}{F G:Nat->Prop}{v:Value}{l:List UInt8}(h:Own w u8 F v l)(hFG:∀k,F k->G k):Own w u8 G v l:=by
 obtain⟨k,rest,hF,h1,h2⟩:=h;exact⟨k,rest,hFG _ hF,h1,h2⟩
theorem Own.world{w w':World}{u8:TypeId}{F:Nat->Prop}{v:Value}{l:List UInt8}(h:Own w u8 F v l)(ha:∀k c,F k->w.heap[k]?=some (.cells c u8 (0,0))->w'.heap[k]?=w.heap[k]?):Own w' u8 F v l:=by
 obtain⟨k,rest,hF,h1,h2⟩:=h;exact⟨k,rest,hF,h1,by rw[ha k _ hF h2];exact h2⟩
end Go.Proofs.YtgfbepakonjbnaaGreat
namespace Go.Proofs.YtgfbepakonjbnaaGreat
open Go.RowKit Go.MapKept Go.ChangeMaps
def P6(w:World)(mb:Nat)(f:Int->Option Value):Prop:=
 ∃es clock,w.heap[mb]?=some (.map es clock)/\Stamped es clock/\(∀x∈es.toList,∃k:Int,x.key=.int .i64 k)/\
  ∀k v,f k=some v↔∃x∈es.toList,x.key=.int .i64 k/\x.val=v
theorem Z5{w:World}{r:Nat}{o o':Obj}(h:w.heap[r]?=some o):(setBlock w r o').heap[r]?=some o':=(heap_set h).1
theorem K1{w:World}{r k:Nat}(o:Obj)(h:k≠r):(setBlock w r o).heap[k]?=w.heap[k]?:=As0 o h
@[simp] theorem Cj1 (w : World) (r : Nat) (o : Obj) : (setBlock w r o).heap.size = w.heap.size := Bb7 w r o
theorem Upd.setBlock{S:List Nat}{a w:World}(h:Upd S a w){r:Nat}(o:Obj)(hb:r∈S∨a.heap.size<=r):Upd S a (setBlock w r o):=Upd.setObj h o hb
theorem P6.world{w w':World}{mb:Nat}{f:Int->Option Value}(h:P6 w mb f)(he:w'.heap[mb]?=w.heap[mb]?):P6 w' mb f:=by
 obtain⟨es,clock,hb,r⟩:=h;exact⟨es,clock,by rw[he];exact hb,r⟩
theorem P6.lt{w:World}{mb:Nat}{f:Int->Option Value}(h:P6 w mb f):mb<w.heap.size:=by
 obtain⟨es,clock,hb,_⟩:=h;exact A2 hb
theorem P6.made{w:World}{mb:Nat}{c:Nat}(h:w.heap[mb]?=some (.map #[] c)):P6 w mb (λ _=>none):=
 ⟨#[],c,h,stamped_empty _,by simp,by simp⟩
theorem P6.not_cells{w:World}{mb:Nat}{f:Int->Option Value}(h:P6 w mb f){k:Nat}{c:Array Value}{e:TypeId}{fr:Nat × Nat}(hk:w.heap[k]?=some (.cells c e fr)):k≠mb:=by
 rintro rfl;obtain⟨es,clock,hb,_⟩:=h;rw[hb] at hk;simp at hk
section
variable {P:Program} {w:World} {mb:Nat} {f:Int->Option Value} {T K E:TypeId}
theorem P6.find{es:Array MapEntry}(hk:∀x∈es.toList,∃k:Int,x.key=.int .i64 k)
  (hf:∀k v,f k=some v↔∃x∈es.toList,x.key=.int .i64 k/\x.val=v) (k:Int) :
  (Instr.findNow (.int .i64) (.int .i64 k) es.toList 0=some none/\f k=none/\∀x∈es.toList,x.key≠.int .i64 k)∨
  ∃j e,Instr.findNow (.int .i64) (.int .i64 k) es.toList 0=some (some (j,e.val))/\es.toList[j]?=some e/\e.key=.int .i64 k/\f k=some e.val:=by
 have hik:∀x∈es.toList,IsKey (.int .i64) x.key:=λ x hx=>by obtain⟨q,e⟩:=hk x hx;rw[e];simp[IsKey]
 rcases findNow_spec (d:=.int .i64) (k:=.int .i64 k) (by simp[IsKey]) es.toList 0 hik with⟨h1,h2⟩ | ⟨j,e,h1,h2,h3⟩
 ·refine .inl ⟨h1,?_,h2⟩;cases hq:f k with
  | none=>rfl
  | some v=>obtain⟨x,hx,e1,_⟩:=(hf k v).1 hq;exact absurd e1 (h2 x hx)
 ·rw[Nat.zero_add] at h1;exact .inr ⟨j,e,h1,h2,h3,(hf k e.val).2 ⟨e,List.mem_of_getElem? h2,h3,rfl⟩⟩
theorem P6.lookup(h:P6 w mb f)(hT:P.underlying T=some (.map K E))(hK:P.underlying K=some (.int .i64)){z:Value}(hz:(zeroValue E).run P w=.ok z w)(k:Int)(c:Bool) :
  (Instr.lookup T (.map (some mb)) (.int .i64 k) c).run P w=.ok (if c then .tuple #[(f k).getD z,.bool (f k).isSome] else(f k).getD z) w:=by
 obtain⟨es,clock,hb,hst,hk,hf⟩:=h;have hck:∀e,(Instr.checkKey e 10000 K (.int .i64 k)).run P w=.ok () w:=λ e=>run_checkKey hK (by simp[IsKey]) e 9999;rcases P6.find hk hf k with⟨h1,h2,_⟩ | ⟨j,e,h1,_,_,h2⟩
 ·cases c<;>simp[Instr.lookup,run_underlying hT,MapKept.run_getObj_map hb,hck,run_findKey hK h1,Result.andThen,hz,h2]
 ·cases c<;>simp[Instr.lookup,run_underlying hT,MapKept.run_getObj_map hb,hck,run_findKey hK h1,Result.andThen,h2]
theorem P6.update(h:P6 w mb f)(hT:P.underlying T=some (.map K E))(hK:P.underlying K=some (.int .i64))(k:Int)(v:Value) :
  ∃o,(Instr.mapUpdate T (.map (some mb)) (.int .i64 k) v).run P w=.ok () (setBlock w mb o)/\P6 (setBlock w mb o) mb (λ j=>if j=k then some v else f j):=by
 obtain⟨es,clock,hb,hst,hk,hf⟩:=h;have hck:∀e,(Instr.checkKey e 10000 K (.int .i64 k)).run P w=.ok () w:=λ e=>run_checkKey hK (by simp[IsKey]) e 9999;rcases P6.find hk hf k with⟨h1,_,h3⟩ | ⟨j,e,h1,h2,h3,_⟩
 ·refine⟨.map (es.push { key:=.int .i64 k,val:=v,born:=clock }) (clock+1),?_,_,_,Z5 hb,stamped_push hst h3,?_,?_⟩
  ·simp[Instr.mapUpdate,run_underlying hT,MapKept.run_getObj_map hb,hck,run_findKey hK h1,Result.andThen,run_setObj_map _ hb];rfl
  ·intro x hx;simp only[Array.toList_push,List.mem_append,List.mem_singleton] at hx;rcases hx with hx | rfl
   ·exact hk x hx
   ·exact⟨k,rfl⟩
  ·intro q u;simp only[Array.toList_push,List.mem_append,List.mem_singleton];by_cases hq:q=k
   ·subst hq;rw[if_pos rfl];constructor
    ·intro e;cases e;exact⟨_,.inr rfl,rfl,rfl⟩
    ·rintro⟨x,hx | rfl,e1,e2⟩
     ·exact absurd e1 (h3 x hx)
     ·rw[← e2]
   ·rw[if_neg hq,hf];constructor
    ·rintro⟨x,hx,e⟩;exact⟨x,.inl hx,e⟩
    ·rintro⟨x,hx | rfl,e1,e2⟩
     ·exact⟨x,hx,e1,e2⟩
     ·simp at e1;exact absurd e1.symm hq
 ·have hkey:(((es[j]?).map (·.key)).getD (.int .i64 k))=.int .i64 k:=by
   rw[Array.getElem?_toList] at h2;simp[h2,h3]
  have hks:(Instr.keyThatStays (.int .i64 k) (.int .i64 k)).run P w=.ok (.int .i64 k) w:=by
   simp[Instr.keyThatStays,Instr.sameBits]
  have h2':es[j]?=some e:=by rw[Array.getElem?_toList] at h2;exact h2
  have hmem:e∈es.toList:=List.mem_of_getElem? h2;have hjlt:j<es.toList.length:=(List.getElem?_eq_some_iff.1 h2).1;refine⟨.map (es.modify j λ e=> { e with key:=.int .i64 k,val:=v }) clock,?_,_,_,Z5 hb,?_,?_,?_⟩
  ·simp[Instr.mapUpdate,run_underlying hT,MapKept.run_getObj_map hb,hck,run_findKey hK h1,Result.andThen,run_setObj_map _ hb,hkey,hks];rfl
  ·exact stamped_modify hst j _ (λ _ _=>rfl) (λ x _ hx=>by rw[h2'] at hx;cases hx;exact h3.symm)
  ·intro x hx;rw[Array.mem_toList_iff,Array.mem_iff_getElem?] at hx;obtain⟨i,hi⟩:=hx;rw[Array.getElem?_modify] at hi;split at hi
   ·simp only[Option.map_eq_some_iff] at hi;obtain⟨y,_,rfl⟩:=hi;exact⟨k,rfl⟩
   ·exact hk x (by rw[Array.mem_toList_iff];exact Array.mem_of_getElem? hi)
  ·intro q u;have hnd:(es.toList.map (·.key)).Nodup:=hst.2.2;have huniq:∀i x,es[i]?=some x->x.key=.int .i64 k->i=j:=by
    intro i x hi hx;have g1:(es.toList.map (·.key))[i]?=some (.int .i64 k):=by simp[hi,hx]
    have g2:(es.toList.map (·.key))[j]?=some (.int .i64 k):=by simp[h2',h3]
    have l1:=(List.getElem?_eq_some_iff.1 g1).1;exact(List.getElem?_inj l1 hnd).1 (g1.trans g2.symm)
   show(if q=k then some v else f q)=some u↔_
   by_cases hq:q=k
   ·subst hq;rw[if_pos rfl];constructor
    ·intro e1;obtain rfl:v=u:=by simpa using e1
     refine⟨{ e with key:=.int .i64 q,val:=v },?_,rfl,rfl⟩;rw[Array.mem_toList_iff,Array.mem_iff_getElem?];exact⟨j,by rw[Array.getElem?_modify,if_pos rfl,h2'];rfl⟩
    ·rintro⟨x,hx,e1,e2⟩;rw[Array.mem_toList_iff,Array.mem_iff_getElem?] at hx;obtain⟨i,hi⟩:=hx;rw[Array.getElem?_modify] at hi;split at hi
     ·simp only[Option.map_eq_some_iff] at hi;obtain⟨y,_,rfl⟩:=hi;simp at e2;rw[e2]
     ·rename_i hne;exact absurd (huniq i x hi e1).symm hne
   ·rw[if_neg hq,hf];constructor
    ·rintro⟨x,hx,e1,e2⟩;refine⟨x,?_,e1,e2⟩;rw[Array.mem_toList_iff,Array.mem_iff_getElem?] at hx ⊢;obtain⟨i,hi⟩:=hx;refine⟨i,?_⟩;rw[Array.getElem?_modify,if_neg]
     ·exact hi
     ·rintro rfl;rw[h2'] at hi;cases hi
      rw[h3] at e1;simp at e1;exact hq e1.symm
    ·rintro⟨x,hx,e1,e2⟩;rw[Array.mem_toList_iff,Array.mem_iff_getElem?] at hx;obtain⟨i,hi⟩:=hx;rw[Array.getElem?_modify] at hi;split at hi
     ·simp only[Option.map_eq_some_iff] at hi;obtain⟨y,_,rfl⟩:=hi;simp at e1;exact absurd e1.symm hq
     ·exact⟨x,by rw[Array.mem_toList_iff];exact Array.mem_of_getElem? hi,e1,e2⟩
theorem P6.clear(h:P6 w mb f)(hT:P.underlying T=some (.map K E))(ty:TypeId) :
  ∃o,(Builtin.clear_ #[T] ty #[.map (some mb)]).run P w=.ok (.tuple #[]) (setBlock w mb o)/\P6 (setBlock w mb o) mb (λ _=>none):=by
 obtain⟨es,clock,hb,hst,hk,hf⟩:=h;refine⟨.map #[] clock,?_,P6.made (Z5 hb)⟩;simp[Builtin.clear_,run_underlying hT,MapKept.run_getObj_map hb,Result.andThen,run_setObj_map _ hb];rfl
theorem P6.keys(h:P6 w mb f)(hT:P.underlying T=some (.map K E))(ty:TypeId) :
  ∃ks:List Int,ks.Nodup/\(∀k,k∈ks↔(f k).isSome=true)/\(Builtin.len_ #[T] ty #[.map (some mb)]).run P w=.ok (goInt ks.length) w:=by
 obtain⟨es,clock,hb,hst,hk,hf⟩:=h;refine⟨es.toList.map (λ x=>match x.key with | .int _ k=>k | _=>0),?_,?_,?_⟩
 ·have hnd:(es.toList.map (·.key)).Nodup:=hst.2.2;rw[List.Nodup,List.pairwise_map] at hnd ⊢;refine hnd.imp_of_mem fun {a b} ha hb' hne e=>hne ?_;obtain⟨q,e1⟩:=hk a ha;obtain⟨r,e2⟩:=hk b hb';rw[e1,e2] at e ⊢;simp at e;rw[e]
 ·intro k;rw[Option.isSome_iff_exists];constructor
  ·intro hm;obtain⟨x,hx,e⟩:=List.mem_map.1 hm;obtain⟨q,e1⟩:=hk x hx;rw[e1] at e;simp at e;subst e;exact⟨x.val,(hf q x.val).2 ⟨x,hx,e1,rfl⟩⟩
  ·rintro⟨v,hv⟩;obtain⟨x,hx,e1,_⟩:=(hf k v).1 hv;exact List.mem_map.2 ⟨x,hx,by rw[e1]⟩
 ·simp[Builtin.len_,run_underlying hT,MapKept.run_getObj_map hb,Result.andThen]
end
end Go.Proofs.YtgfbepakonjbnaaGreat
namespace Go.Proofs.YtgfbepakonjbnaaGreat
open Go.RowKit
abbrev Sec:=List UInt8
def F9:Sec:=List.replicate 512 0
@[simp] theorem C0 : F9.length = 512 := List.length_replicate
def pad(l:List UInt8):Sec:=(l++F9).take 512
@[simp] theorem Cn9 (l : List UInt8) : (pad l).length = 512 := by rw [pad, List.length_take, List.length_append, C0]; omega
theorem Av4{l:List UInt8}(h:l.length=512):pad l=l:=by
 unfold pad;rw[← h];exact List.take_left
theorem Cj2:pad []=F9:=by rw[pad,List.nil_append];exact List.take_of_length_le (by rw[C0];omega)
structure Dk where
 n:Nat
 last:Nat->Sec
 wait:Nat->Option Sec
 off:Bool
 armed:Int
 part:Nat
 way:Option Nat
 front:List UInt8
 writes:Int
 lives:Int
structure Dk.Ok(D:Dk):Prop where
 n0:32<=D.n
 n1:D.n<=4096
 last:∀i,(D.last i).length=512
 wait:∀i s,D.wait i=some s->i<D.n/\s.length=512
 armed0 : -1<=D.armed
 armed1:D.armed<=9223372036854775807
 part:D.part<=512
 way:∀i,D.way=some i->i<D.n
 front:D.front.length<=512
namespace Dk
def new(n:Nat):Dk:={ n,last:=λ _=>F9,wait:=λ _=>none,off:=false,armed:=-1,part:=0,way:=none,front:=[],writes:=0,lives:=0 }
def may(D:Dk)(i:Int):Int:=if D.off then 8 else if i<0∨(D.n:Int)<=i then 1 else 0
def now(D:Dk)(i:Nat):Sec:=(D.wait i).getD (D.last i)
def read(D:Dk)(i:Int):List UInt8 × Int:=if D.may i=0 then(D.now i.toNat,0) else([],D.may i)
def step(D:Dk):Dk:=if 0<D.armed then { D with armed:=D.armed-1 } else D
def write(D:Dk)(i:Int)(b:List UInt8):Dk × Int:=
 if D.may i≠0 then(D,D.may i) else if b.length≠512 then(D,9)
 else if D.armed=0 then({ D with off:=true,way:=some i.toNat,front:=b.take D.part },8)
 else({ D.step with wait:=λ j=>if j=i.toNat then some b else D.wait j,writes:=wrap64 (D.writes+1) },0)
def flush(D:Dk):Dk × Int:=
 if D.off then(D,8) else if D.armed=0 then({ D with off:=true },8)
 else({ D.step with last:=D.now,wait:=λ _=>none },0)
def arm(D:Dk)(n part:Int):Dk:={ D with armed:=max n (-1),part:=(min (max part 0) 512).toNat }
def waiting(D:Dk):List Nat:=(List.range D.n).filter λ i=>(D.wait i).isSome
def kept(D:Dk)(keep:List Bool)(i:Nat):Sec:=
 if keep.getD (D.waiting.idxOf i) false=true then D.now i else D.last i
def power(D:Dk)(keep:List Bool):Dk:=
 { D with
  last:=λ i=>if D.way=some i then D.front++(D.kept keep i).drop D.front.length else D.kept keep i
  wait:=λ _=>none,off:=false,armed:=-1,way:=none,front:=[],lives:=wrap64 (D.lives+1) }
end Dk
end Go.Proofs.YtgfbepakonjbnaaGreat
namespace Go.Proofs.YtgfbepakonjbnaaGreat
open Go.RowKit
theorem B4{P:Program}{ops:Array Oper}{rest:List Oper}{o:Oper}{a:Act}{Q:Exit->Act->World->Prop}{w:World}(hgd:o.guard=none)(s x:Operand)(T:TypeId)
  (ho:o.op=.call { callee:=.builtin .append,args:=#[s,x],argTypes:=#[T,T] }) {vs vx v':Value} {w':World} (hs:a.eval s=vs) (hx:a.eval x=vx)
  (hrun:∀ty,(Builtin.append_ #[T,T] ty #[vs,vx]).run P w=.ok v' w') (h:wpList P ops Q rest (a.put o.dst v') w'):wpList P ops Q (o :: rest) a w:=by
 refine wpList_plain hgd λ K hK=>?_;unfold Oper.wp execOp;simp only[ho,resolve,invoke,builtin,Sem.run_bind,Sem.run_pure,Result.andThen_ok,List.map_toArray,List.map_cons,List.map_nil,hs,hx,hrun];exact hK _ _ h
theorem I5(b off i:Nat):(⟨b,off,none⟩:Addr).add i=⟨b,off+i,none⟩:=by
 unfold Addr.add;split<;>simp_all
theorem N8(w:World)(c c':Array Value)(e:TypeId):(w.alloc (.cells c e)).setRow w.heap.size c'=w.alloc (.cells c' e):=by
 simp only[World.setRow,World.alloc];congr 1
 apply Array.ext_getElem?;intro i;rw[Array.getElem?_modify,Array.getElem?_push,Array.getElem?_push];by_cases h:w.heap.size=i
 ·subst h;simp
 ·rw[if_neg h];rw[if_neg (Ne.symm h),if_neg (Ne.symm h)]
theorem Rd.cells{w:World}{v:Value}{l:List UInt8}(h:Rd w v l):∃ao cap,v=.slice ao l.length cap/\l.length<=cap/\(0<l.length->∃ad,ao=some ad/\∀j u,(bts l)[j]?=some u->w.cell? (ad.add j)=some u):=by
 obtain⟨ao,cap,rfl,hc,hh⟩:=h;refine⟨ao,cap,rfl,hc,λ hp=>?_⟩;obtain⟨b,off,rfl,hcell⟩:=hh hp;refine⟨_,rfl,λ j u hj=>?_⟩;rw[Au5] at hj;obtain⟨c,hc',rfl⟩:=Option.map_eq_some_iff.1 hj;obtain⟨hlt,rfl⟩:=List.getElem?_eq_some_iff.1 hc';rw[I5];exact hcell j hlt
theorem Ad1{P:Program}{w:World}{dT sT ty u8:TypeId}(hu:P.underlying dT=some (.slice u8))(hs:(P.info? u8).map (·.size)=some 1)
  (g o dLen dCap:Nat) (cur:List Value) (hg:w.heap[g]?=some (.cells cur.toArray u8 (0,0))) (hfit:o+dLen<=cur.length) {v:Value} {l:List UInt8} (hr:Rd w v l) :
  (Builtin.copy_ #[dT,sT] ty #[.slice (some ⟨g,o,none⟩) dLen dCap,v]).run P w=.ok (goInt ((min l.length dLen:Nat):Int)) (w.setRow g (splice cur o (bts (l.take dLen))).toArray):=by
 obtain⟨ao,cap,rfl,_,hh⟩:=hr.cells;by_cases h0:min l.length dLen=0
 ·rw[run_copy_none w dT sT ty u8 _ ao dLen dCap l.length cap hu hs h0,h0];simp only[Int.natCast_zero];have:l.take dLen=[]:=by
   apply List.eq_nil_of_length_eq_zero;rw[List.length_take];omega
  rw[this];have e:splice cur o (bts [])=cur:=by simp[splice]
  rw[e,setRow_self w g cur.toArray u8 (0,0) hg]
 ·obtain⟨ad,rfl,hc⟩:=hh (by omega);have hlen:(bts (l.take dLen)).length=min l.length dLen:=by simp;omega
  have hrun:=run_copy_row (P:=P) w dT sT ty u8 g o dLen dCap ad l.length cap cur.toArray u8 (bts (l.take dLen)) hu hs hg (by rw[hlen])
   (λ j u hj=>hc j u (by
    rw[Au5] at hj ⊢;rw[List.getElem?_take] at hj;split at hj
    ·exact hj
    ·simp at hj)) (by rw[hlen];simp;omega) (G7 _)
  rw[hrun,splice,hlen];simp only[List.append_assoc]
theorem Ah8(n:Nat):madeCells #[.int .u8 0] n=(bts (List.replicate n 0)).toArray:=by
 apply Array.ext
 ·simp[size_madeCells]
 ·intro i h1 h2;simp[madeCells,bts,bv,Nat.mod_one]
theorem Bj3{cur:List Value}{l:List Value}:splice cur 0 l=l++cur.drop l.length:=by
 simp[splice]
theorem Bq7(l:List UInt8):splice (bts F9) 0 (bts (l.take 512))=bts (pad l):=by
 rw[Bj3,A8];unfold pad;have:(bts F9).drop (l.take 512).length=bts (F9.drop (l.take 512).length):=by simp[bts,List.map_drop]
 rw[this,← Bq6];congr 1
 rw[List.take_append];congr 1
 rw[List.length_take];by_cases h:l.length<=512
 ·have e1:min 512 l.length=l.length:=by omega
  rw[e1];unfold F9;rw[List.drop_replicate,List.take_replicate];congr 1;omega
 ·have e1:min 512 l.length=512:=by omega
  have e2:512-l.length=0:=by omega
  rw[e1,e2,List.take_zero];exact List.drop_eq_nil_of_le (by rw[C0];omega)
end Go.Proofs.YtgfbepakonjbnaaGreat
namespace Go.Proofs.YtgfbepakonjbnaaGreat
open Go.RowKit
theorem Bf7:(Tryz.prog.info? 5).map (λ i=>(i.zero,i.size,i.bytes))=some (some (.int .u8 0),1,1):=by kernel_rfl
theorem Bf8:(Tryz.prog.info? 5).map (·.size)=some 1:=by kernel_rfl
theorem Bj4(n:Nat)(hn:n<=100000)(w:World):(Instr.makeSlice 32 (.int .i64 (n:Int)) (.int .i64 (n:Int))).run Tryz.prog w =
  .ok (.slice (some ⟨w.heap.size,0,none⟩) n n) (w.alloc (.cells (bts (List.replicate n 0)).toArray 5)):=by
 obtain⟨i0,hi,hz0,hz1,hz2⟩:=info_parts Bf7;have:=run_make (P:=Tryz.prog) w 32 5 i0 (.int .u8 0) Tryz.underlying32 hi hz0 .i64 .i64 n n (by omega) (by omega) (by rw[hz2];omega) (by omega);rw[this,hz1];simp only[Int.toNat_natCast,Nat.mul_one];rw[show(Value.int IntKind.u8 0).cells=#[.int .u8 0] from rfl,Ah8]
theorem P7(w:World):(Instr.makeSlice 32 (.int .i64 512) (.int .i64 512)).run Tryz.prog w =
  .ok (.slice (some ⟨w.heap.size,0,none⟩) 512 512) (w.alloc (.cells (bts F9).toArray 5)):=Bj4 512 (by omega) w
theorem Rd.alloc{w:World}{v:Value}{l:List UInt8}(h:Rd w v l)(o:Obj):Rd (w.alloc o) v l:=by
 obtain⟨ao,cap,e,hc,hh⟩:=h;refine⟨ao,cap,e,hc,λ hp=>?_⟩;obtain⟨b,off,rfl,hcell⟩:=hh hp;refine⟨b,off,rfl,λ i hi=>?_⟩;have hlt:b<w.heap.size:=block_lt_of_cell (hcell i hi);rw[World.cell?_alloc_past _ _ _ hlt];exact hcell i hi
theorem Am0(v:Value)(l:List UInt8)(w:World)(hr:Rd w v l) :
  Calls Tryz.prog 101 #[v] w λ e w'=>e=.returned (.slice (some ⟨w.heap.size,0,none⟩) 512 512)/\w.alloc (.cells (bts (pad l)).toArray 5)=w':=by
 have hmk:=P7;have hcp:∀ty,(Builtin.copy_ #[32,32] ty #[.slice (some ⟨w.heap.size,0,none⟩) 512 512,v]).run Tryz.prog (w.alloc (.cells (bts F9).toArray 5))=.ok (goInt ((min l.length 512:Nat):Int)) (w.alloc (.cells (bts (pad l)).toArray 5)):=by
  intro ty;rw[Ad1 (u8:=5) Tryz.underlying32 Bf8 w.heap.size 0 512 512 (bts F9) (A6 _) (by rw[A8,C0];omega) (hr.alloc _),N8,Bq7]
 clear hr;generalize (bts F9).toArray=Z at *;generalize (bts (pad l)).toArray=Y at *;go_enter Tryz.func101,Tryz.ntmps101
 go_wp2
 go_ret;exact⟨rfl,rfl⟩
def Aa1(w:World)(u8:TypeId)(F:Nat->Prop)(v:Value)(l:List UInt8):Prop:=Own w u8 F v l∨(l=[]/\v=.slice none 0 0)
theorem Aa1.rd{w:World}{u8:TypeId}{F:Nat->Prop}{v:Value}{l:List UInt8}(h:Aa1 w u8 F v l):Rd w v l:=by
 rcases h with h | ⟨rfl,rfl⟩
 ·exact h.rd
 ·exact Rd.nil w
theorem Aa1.mono{w:World}{u8:TypeId}{F G:Nat->Prop}{v:Value}{l:List UInt8}(h:Aa1 w u8 F v l)(hFG:∀k,F k->G k):Aa1 w u8 G v l:=by
 rcases h with h | h
 ·exact .inl (h.mono hFG)
 ·exact .inr h
theorem Aa1.world{w w':World}{u8:TypeId}{F:Nat->Prop}{v:Value}{l:List UInt8}(h:Aa1 w u8 F v l)(ha:∀k c,F k->w.heap[k]?=some (.cells c u8 (0,0))->w'.heap[k]?=w.heap[k]?):Aa1 w' u8 F v l:=by
 rcases h with h | h
 ·exact .inl (h.world ha)
 ·exact .inr h
theorem Aa1.own{w:World}{u8:TypeId}{F:Nat->Prop}{v:Value}{l:List UInt8}(h:Aa1 w u8 F v l)(hl:0<l.length):Own w u8 F v l:=by
 rcases h with h | ⟨rfl,_⟩
 ·exact h
 ·simp at hl
theorem As1{w:World}{base:Nat}{u8:TypeId}{v:Value}{l:List UInt8}(h:w.ownsRow base u8 1 v l.length (bts l)):Aa1 w u8 (λ k=>base<=k) v l:=by
 rcases h.2 with⟨rfl,h0⟩ | ⟨g,cap,cur,rfl,hb,hg,hc,_,hs,ht⟩
 ·exact .inr ⟨List.eq_nil_of_length_eq_zero h0,rfl⟩
 ·refine .inl ⟨g,cur.toList.drop l.length,hb,?_,?_⟩
  ·congr 1;simp;omega
  ·rw[hg];congr 2
   rw[Nat.mul_one] at ht;rw[← ht,List.take_append_drop]
theorem Bf9(w:World):(Instr.buildSlice 32 0 #[]).run Tryz.prog w=.ok (.slice (some ⟨w.heap.size,0,none⟩) 0 0) (w.alloc (.cells #[] 5)):=by kernel_rfl
theorem V8(v:Value)(l:List UInt8)(w:World)(hr:Rd w v l)(hl:l.length<=1000000) :
  Calls Tryz.prog 166 #[v] w λ e w'=>∃v',e=.returned v'/\Upd [] w w'/\Aa1 w' 5 (λ k=>w.heap.size<=k) v' l:=by
 obtain⟨ao,cap,rfl,_,hh⟩:=hr.cells;have hnil:∀(a:Option Addr) (n c:Nat) (w:World),(binOp .eql 32 (.slice a n c) (.slice none 0 0)).run Tryz.prog w=.ok (.bool a.isNone) w:=λ a n c w=>Lib.run_eql_slice_nil w 32 5 a n c 0 0 Tryz.underlying32;cases ao with
 | none=>
  have h0:l=[]:=by
   apply List.eq_nil_of_length_eq_zero;by_cases h:0<l.length
   ·obtain⟨_,e,_⟩:=hh h;simp at e
   ·omega
  clear hh hr;go_enter Tryz.func166,Tryz.ntmps166
  go_wp2
  go_ret;exact⟨_,rfl,Upd.refl _ _,.inr ⟨h0,rfl⟩⟩
 | some ad=>
  have hbs:=Bf9;obtain⟨i0,hi,hz0,hz1,hz2⟩:=info_parts Bf7;have happ:∃v' w',(∀ty,(Builtin.append_ #[32,32] ty #[.slice (some ⟨w.heap.size,0,none⟩) 0 0,.slice (some ad) l.length cap]).run Tryz.prog (w.alloc (.cells #[] 5))=.ok v' w')/\Upd [] w w'/\Aa1 w' 5 (λ k=>w.heap.size<=k) v' l:=by
   have hc':∀j u,(bts l)[j]?=some u->(w.alloc (.cells #[] 5)).cell? (ad.add j)=some u:=by
    intro j u hj;obtain⟨ad',e,hc⟩:=hh (by have:=(List.getElem?_eq_some_iff.1 hj).1;simp at this;omega);cases e
    have hb:(ad.add j).block<w.heap.size:=block_lt_of_cell (hc j u hj);rw[World.cell?_of_block (w:=w) (A9 hb)];exact hc j u hj
   obtain⟨v',w',hrun,hown,hg,_⟩:=run_append_own (P:=Tryz.prog) (w.alloc (.cells #[] 5)) w.heap.size 32 0 5 i0 (.int .u8 0) 1 1 Tryz.underlying32 hi hz0 hz1 hz2 rfl (by decide) _ 0 []
    (World.ownsRow_made w #[] 0 (Nat.le_refl _) (by unfold maxLen;omega) rfl) ad l.length cap (bts l) (by simp) hc' (G7 _) (by unfold maxLen;omega) (by omega) (by simp)
   refine⟨v',w',λ _=>hrun,((Upd.refl _ _).alloc _).grown hg (λ k hk=>by cases hk;exact .inr (Nat.le_refl _)),As1 (by simpa using hown)⟩
  obtain⟨v',w',hrun,hu,ho⟩:=happ;clear hh hr hi hz0 hz1 hz2;have HU:=η hu;clear hu;have HO:=η ho;clear ho;go_enter Tryz.func166,Tryz.ntmps166
  go_wp2_with (at_builtin;refine B4 rfl _ _ _ rfl rfl rfl hrun ?_)
  go_ret;exact⟨_,rfl,HU.out,HO.out⟩
end Go.Proofs.YtgfbepakonjbnaaGreat
namespace Go.Proofs.YtgfbepakonjbnaaGreat
open Go.RowKit
structure DG where
 db:Nat
 lb:Nat
 mb:Nat
def Cc4:Option Nat->Int
 | none=> -1
 | some i=>(i:Int)
def As2(w:World)(F:Nat->Prop)(v:Value)(s:Sec):Prop:=(v=.slice none 0 0/\s=F9)∨Own w 5 F v s
def P8(w:World)(F:Nat->Prop)(mb:Nat)(wt:Nat->Option Sec):Prop:=
 ∃f,P6 w mb f/\(∀k v,f k=some v->0<=k/\∃s,wt k.toNat=some s/\Own w 5 F v s)/\∀i s,wt i=some s->∃v,f (i:Int)=some v
structure C9(w:World)(F:Nat->Prop)(g:DG)(D:Dk):Prop where
 st:∃fv,w.heap[g.db]?=some (.cells #[.slice (some ⟨g.lb,0,none⟩) D.n D.n,.map (some g.mb),.bool D.off,.int .i64 D.armed,.int .i64 (D.part:Int),.int .i64 (Cc4 D.way),fv,.int .i64 D.writes,.int .i64 D.lives] 184 (0,0))/\Aa1 w 5 F fv D.front
 last:∃lv:List Value,w.heap[g.lb]?=some (.cells lv.toArray 32 (0,0))/\lv.length=D.n/\∀i v,lv[i]?=some v->As2 w F v (D.last i)
 wait:P8 w F g.mb D.wait
 ok:D.Ok
theorem As2.mono{w:World}{F G:Nat->Prop}{v:Value}{s:Sec}(h:As2 w F v s)(hFG:∀k,F k->G k):As2 w G v s:=by
 rcases h with h | h
 ·exact .inl h
 ·exact .inr (h.mono hFG)
theorem As2.world{w w':World}{F:Nat->Prop}{v:Value}{s:Sec}(h:As2 w F v s)(ha:∀k c,F k->w.heap[k]?=some (.cells c 5 (0,0))->w'.heap[k]?=w.heap[k]?):As2 w' F v s:=by
 rcases h with h | h
 ·exact .inl h
 ·exact .inr (h.world ha)
theorem P8.mono{w:World}{F G:Nat->Prop}{mb:Nat}{wt:Nat->Option Sec}(h:P8 w F mb wt)(hFG:∀k,F k->G k):P8 w G mb wt:=by
 obtain⟨f,h1,h2,h3⟩:=h;refine⟨f,h1,λ k v hk=>?_,h3⟩;obtain⟨a,s,e,o⟩:=h2 k v hk;exact⟨a,s,e,o.mono hFG⟩
theorem P8.world{w w':World}{F:Nat->Prop}{mb:Nat}{wt:Nat->Option Sec}(h:P8 w F mb wt)(hm:w'.heap[mb]?=w.heap[mb]?)(ha:∀k c,F k->w.heap[k]?=some (.cells c 5 (0,0))->w'.heap[k]?=w.heap[k]?):P8 w' F mb wt:=by
 obtain⟨f,h1,h2,h3⟩:=h;refine⟨f,h1.world hm,λ k v hk=>?_,h3⟩;obtain⟨a,s,e,o⟩:=h2 k v hk;exact⟨a,s,e,o.world ha⟩
theorem C9.mono{w:World}{F G:Nat->Prop}{g:DG}{D:Dk}(h:C9 w F g D)(hFG:∀k,F k->G k):C9 w G g D:=by
 obtain⟨⟨fv,a1,a2⟩,⟨lv,b1,b2,b3⟩,c,d⟩:=h;exact⟨⟨fv,a1,a2.mono hFG⟩,⟨lv,b1,b2,λ i v hv=>(b3 i v hv).mono hFG⟩,c.mono hFG,d⟩
theorem C9.world{w w':World}{F:Nat->Prop}{g:DG}{D:Dk}(h:C9 w F g D)(h1:w'.heap[g.db]?=w.heap[g.db]?)(h2:w'.heap[g.lb]?=w.heap[g.lb]?)(h3:w'.heap[g.mb]?=w.heap[g.mb]?)
  (ha:∀k c,F k->w.heap[k]?=some (.cells c 5 (0,0))->w'.heap[k]?=w.heap[k]?):C9 w' F g D:=by
 obtain⟨⟨fv,a1,a2⟩,⟨lv,b1,b2,b3⟩,c,d⟩:=h;exact⟨⟨fv,by rw[h1];exact a1,a2.world ha⟩,⟨lv,by rw[h2];exact b1,b2,λ i v hv=>(b3 i v hv).world ha⟩,c.world h3 ha,d⟩
theorem C9.re{w w':World}{F:Nat->Prop}{g:DG}{D D':Dk}(h:C9 w F g D)
  (hst:∃fv,w'.heap[g.db]?=some (.cells #[.slice (some ⟨g.lb,0,none⟩) D.n D.n,.map (some g.mb),.bool D'.off,.int .i64 D'.armed,.int .i64 (D'.part:Int),.int .i64 (Cc4 D'.way),fv,.int .i64 D'.writes,.int .i64 D'.lives] 184 (0,0))/\Aa1 w' 5 F fv D'.front)
  (ho:∀k,k<w.heap.size->k≠g.db->w'.heap[k]?=w.heap[k]?) (hn:D'.n=D.n) (hl:D'.last=D.last) (hw:D'.wait=D.wait) (hok:D'.Ok):C9 w' F g D':=by
 obtain⟨⟨fv,a1,a2⟩,⟨lv,b1,b2,b3⟩,c,d⟩:=h;have ha:∀k c,F k->w.heap[k]?=some (.cells c 5 (0,0))->w'.heap[k]?=w.heap[k]?:=by
  intro k c _ hk;refine ho k (A2 hk) ?_;rintro rfl;rw[a1] at hk;simp at hk
 refine⟨by rw[hn];exact hst,⟨lv,?_,by rw[hn];exact b2,λ i v hv=>by rw[hl];exact(b3 i v hv).world ha⟩,?_,hok⟩
 ·rw[ho _ (A2 b1)]
  ·exact b1
  ·intro e;rw[e,a1] at b1;simp at b1
 ·rw[hw];obtain⟨f,hf,_⟩:=id c;exact c.world (ho _ hf.lt (Ne.symm (hf.not_cells a1))) ha
theorem C9.ne1{w:World}{F:Nat->Prop}{g:DG}{D:Dk}(h:C9 w F g D):g.lb≠g.db:=by
 obtain⟨⟨fv,a1,_⟩,⟨lv,b1,_⟩,_,_⟩:=h;intro e;rw[e,a1] at b1;simp at b1
theorem C9.ne2{w:World}{F:Nat->Prop}{g:DG}{D:Dk}(h:C9 w F g D):g.mb≠g.db:=by
 obtain⟨⟨fv,a1,_⟩,_,⟨f,hf,_⟩,_⟩:=h;exact Ne.symm (hf.not_cells a1)
theorem C9.ne3{w:World}{F:Nat->Prop}{g:DG}{D:Dk}(h:C9 w F g D):g.mb≠g.lb:=by
 obtain⟨_,⟨lv,b1,_⟩,⟨f,hf,_⟩,_⟩:=h;exact Ne.symm (hf.not_cells b1)
theorem C9.lt{w:World}{F:Nat->Prop}{g:DG}{D:Dk}(h:C9 w F g D):g.db<w.heap.size/\g.lb<w.heap.size/\g.mb<w.heap.size:=by
 obtain⟨⟨fv,a1,_⟩,⟨lv,b1,_⟩,⟨f,hf,_⟩,_⟩:=h;exact⟨A2 a1,A2 b1,hf.lt⟩
theorem C9.byte{w:World}{F:Nat->Prop}{g:DG}{D:Dk}(h:C9 w F g D){k:Nat}{c:Array Value}{f:Nat × Nat}(hk:w.heap[k]?=some (.cells c 5 f)):k∉[g.db,g.lb,g.mb]:=by
 obtain⟨⟨fv,a1,_⟩,⟨lv,b1,_⟩,⟨f,hf,_⟩,_⟩:=h;simp only[List.mem_cons,List.not_mem_nil,or_false,not_or];refine⟨?_,?_,hf.not_cells hk⟩
 ·rintro rfl;rw[a1] at hk;simp at hk
 ·rintro rfl;rw[b1] at hk;simp at hk
theorem M0{k:IntKind}{a b:Int}(h:a=b):Ending.returned (.int k a)=.returned (.int k b):=by rw[h]
theorem An5{a b:Bool}(h:a=b):Ending.returned (.bool a)=.returned (.bool b):=by rw[h]
theorem Cj3(w:World):Calls Tryz.prog 99 #[.pointer none] w λ e w'=>e=.returned (.int .i64 0)/\w=w':=by
 go_enter Tryz.func99,Tryz.ntmps99
 go_wp2
 go_ret;exact⟨rfl,rfl⟩
theorem Ac0{w:World}{F:Nat->Prop}{g:DG}{D:Dk}(h:C9 w F g D) :
  Calls Tryz.prog 99 #[.pointer (some ⟨g.db,0,none⟩)] w λ e w'=>e=.returned (.int .i64 (D.n:Int))/\w=w':=by
 obtain⟨fv,a1,_⟩:=h.st;have hc:=A4 a1;clear h a1;go_enter Tryz.func99,Tryz.ntmps99
 go_wp2
 go_ret;exact⟨rfl,rfl⟩
theorem Am1{w:World}{F:Nat->Prop}{g:DG}{D:Dk}(h:C9 w F g D) :
  Calls Tryz.prog 103 #[.pointer (some ⟨g.db,0,none⟩)] w λ e w'=>e=.returned (.int .i64 D.lives)/\w=w':=by
 obtain⟨fv,a1,_⟩:=h.st;have hc:=A4 a1;clear h a1;go_enter Tryz.func103,Tryz.ntmps103
 go_wp2
 go_ret;exact⟨rfl,rfl⟩
theorem Bx3{w:World}{F:Nat->Prop}{g:DG}{D:Dk}(h:C9 w F g D) :
  Calls Tryz.prog 102 #[.pointer (some ⟨g.db,0,none⟩)] w λ e w'=>e=.returned (.bool D.off)/\w=w':=by
 have H:=η h;obtain⟨fv,a1,_⟩:=h.st;have hc:=A4 a1;have hn:=h.ok.n0;have hn':((D.n:Int) == 0)=false:=beq_eq_false_iff_ne.2 (by omega);clear h a1;go_enter Tryz.func102,Tryz.ntmps102
 go_wp2_with (go_at_call 99;refine(Ac0 H.out).mono ?_;rintro e w' ⟨rfl,rfl⟩)
 go_ret;exact⟨rfl,rfl⟩
theorem V3{w:World}{F:Nat->Prop}{g:DG}{D:Dk}(h:C9 w F g D)(i:Int) :
  Calls Tryz.prog 181 #[.pointer (some ⟨g.db,0,none⟩),.int .i64 i] w λ e w'=>e=.returned (.int .i64 (D.may i))/\w=w':=by
 have H:=η h;obtain⟨fv,a1,_⟩:=h.st;have hc:=A4 a1;have hn:=h.ok.n0;have hn1:=h.ok.n1;clear h a1;go_enter Tryz.func181,Tryz.ntmps181
 go_wp2_with (go_at_call 99;refine(Ac0 H.out).mono ?_;rintro e w' ⟨rfl,rfl⟩)
 all_goals
  go_ret;refine⟨M0 ?_,rfl⟩;simp only[Dk.may];simp_all
  try omega
def Dk.gone(D:Dk):Dk:=if D.armed=0 then { D with off:=true } else D.step
theorem Dk.step_ok{D:Dk}(h:D.Ok):D.step.Ok:=by
 unfold Dk.step;split
 ·exact⟨h.n0,h.n1,h.last,h.wait,by have:=h.armed0;simp;omega,by have:=h.armed1;simp;omega,h.part,h.way,h.front⟩
 ·exact h
theorem Dk.gone_ok{D:Dk}(h:D.Ok):D.gone.Ok:=by
 unfold Dk.gone;split
 ·exact⟨h.n0,h.n1,h.last,h.wait,h.armed0,h.armed1,h.part,h.way,h.front⟩
 ·exact Dk.step_ok h
theorem Ak2{w:World}{F:Nat->Prop}{g:DG}{D:Dk}(h:C9 w F g D) :
  Calls Tryz.prog 240 #[.pointer (some ⟨g.db,0,none⟩)] w λ e w'=>e=.returned (.bool (D.armed != 0))/\C9 w' F g D.gone/\Upd [g.db] w w':=by
 have H:=η h;obtain⟨fv,a1,a2⟩:=h.st;have hc:=A4 a1;have hf:=E4 a1;have hA0:=h.ok.armed0;have hA1:=h.ok.armed1;have HA:=η a1;have HB:=η a2;clear h a1 a2;have key:∀(D':Dk) (o:Nat) (v:Value),D'=D.gone->D'.front=D.front->D'.n=D.n->D'.last=D.last->D'.wait=D.wait->(#[.slice (some ⟨g.lb,0,none⟩) D.n D.n,.map (some g.mb),.bool D.off,.int .i64 D.armed,.int .i64 (D.part:Int),.int .i64 (Cc4 D.way),fv,.int .i64 D.writes,.int .i64 D.lives]:Array Value).setIfInBounds o v=#[.slice (some ⟨g.lb,0,none⟩) D.n D.n,.map (some g.mb),.bool D'.off,.int .i64 D'.armed,.int .i64 (D'.part:Int),.int .i64 (Cc4 D'.way),fv,.int .i64 D'.writes,.int .i64 D'.lives]->
   C9 (w.setCell ⟨g.db,o,none⟩ v) F g D.gone/\Upd [g.db] w (w.setCell ⟨g.db,o,none⟩ v):=by
  intro D' o v e e1 e2 e3 e4 hs;refine⟨?_,(Upd.refl _ _).set v (.inl (by simp))⟩;rw[← e];refine H.out.re ⟨fv,by rw[← hs];exact B3 HA.out o v,?_⟩ (λ k _ hk=>E7 _ _ hk) e2 e3 e4 (by rw[e];exact Dk.gone_ok H.out.ok);rw[e1];exact HB.out.world (λ k c _ hk=>E7 _ _ (by rintro rfl;rw[HA.out] at hk;simp at hk))
 have K:=η key;clear key;rcases Int.lt_trichotomy D.armed 0 with h0 | h0 | h0
 ·have hb1:(D.armed == 0)=false:=beq_eq_false_iff_ne.2 (by omega);go_enter Tryz.func240,Tryz.ntmps240
  go_wp2
  go_ret;refine⟨An5 ?_,?_,Upd.refl _ _⟩
  ·simp[bne,hb1]
  ·have e:D.gone=D:=by unfold Dk.gone Dk.step;rw[if_neg (by omega),if_neg (by omega)]
   rw[e];exact H.out
 ·have hb1:(D.armed == 0)=true:=beq_iff_eq.2 h0;have H0:=η h0;clear h0;go_enter Tryz.func240,Tryz.ntmps240
  go_wp2
  go_ret;refine⟨An5 ?_,K.out { D with off:=true } _ _ ?_ rfl rfl rfl rfl rfl⟩
  ·simp[bne,hb1]
  ·unfold Dk.gone;rw[if_pos H0.out]
 ·have hb1:(D.armed == 0)=false:=beq_eq_false_iff_ne.2 (by omega);go_enter Tryz.func240,Tryz.ntmps240
  go_wp2
  go_ret;refine⟨An5 ?_,K.out { D with armed:=D.armed-1 } _ _ ?_ rfl rfl rfl rfl rfl⟩
  ·simp[bne,hb1]
  ·unfold Dk.gone Dk.step;rw[if_neg (by omega),if_pos h0]
end Go.Proofs.YtgfbepakonjbnaaGreat
namespace Go.Proofs.YtgfbepakonjbnaaGreat
open Go.RowKit
theorem W8(w:World):(zeroValue 32).run Tryz.prog w=.ok (.slice none 0 0) w:=by kernel_rfl
theorem Dk.may_zero{D:Dk}{i:Int}(h:D.may i=0):D.off=false/\0<=i/\i<D.n:=by
 unfold Dk.may at h;split at h
 ·simp at h
 ·split at h
  ·simp at h
  ·rename_i a b;refine⟨by simpa using a,by omega,by omega⟩
theorem Dk.may_of{D:Dk}{i:Int}(h:D.off=false)(h0:0<=i)(h1:i<D.n):D.may i=0:=by
 unfold Dk.may;rw[h,if_neg (by simp),if_neg (by omega)]
theorem Cc5{w:World}{F:Nat->Prop}{g:DG}{D:Dk}(h:C9 w F g D)(i:Int)(hm:D.may i≠0) :
  Calls Tryz.prog 104 #[.pointer (some ⟨g.db,0,none⟩),.int .i64 i] w λ e w'=>e=.returned (.tuple #[.slice none 0 0,.int .i64 (D.may i)])/\w=w':=by
 have H:=η h;have hm':(D.may i != 0)=true:=by simpa using hm
 clear h hm;go_enter Tryz.func104,Tryz.ntmps104
 go_wp2_with (go_at_call 181;refine(V3 H.out _).mono ?_;rintro e w' ⟨rfl,rfl⟩)
 go_ret2;exact⟨rfl,rfl⟩
theorem Au6{w:World}{F:Nat->Prop}{g:DG}{D:Dk}(h:C9 w F g D)(i:Nat)(hoff:D.off=false)(hi:i<D.n) :
  Calls Tryz.prog 104 #[.pointer (some ⟨g.db,0,none⟩),.int .i64 (i:Int)] w λ e w'=>e=.returned (.tuple #[.slice (some ⟨w.heap.size,0,none⟩) 512 512,.int .i64 0])/\w.alloc (.cells (bts (D.now i)).toArray 5)=w':=by
 have H:=η h;have hm:D.may i=0:=Dk.may_of hoff (by omega) (by omega);have hm':(D.may i != 0)=false:=by simp[hm]
 obtain⟨fv,a1,_⟩:=h.st;obtain⟨f,hf,hf1,hf2⟩:=h.wait;obtain⟨lv,b1,b2,b3⟩:=h.last;have hc:=A4 a1;have hok:=h.ok;have hlk:=hf.lookup (P:=Tryz.prog) (T:=151) Tryz.underlying151 Tryz.underlying3 (W8 w) (i:Int) true;cases hfi:f (i:Int) with
 | some v=>
  obtain⟨_,s,e1,o⟩:=hf1 _ _ hfi;have hnow:pad s=D.now i:=by
   have e2:D.wait i=some s:=by simpa using e1
   rw[Av4 (hok.wait i s e2).2];simp[Dk.now,e2]
  rw[hfi] at hlk;simp only[if_true,Option.getD_some,Option.isSome_some] at hlk;have HR:=η o.rd;have HN:=η hnow;clear h a1 hf hf1 hf2 b1 b2 b3 hok hm o hnow hfi e1;go_enter Tryz.func104,Tryz.ntmps104
  go_wp2_with (first | (go_at_call 181;refine(V3 H.out _).mono ?_;rintro e w' ⟨rfl,rfl⟩) | (go_at_call 101;refine(Am0 _ _ _ HR.out).mono ?_;rintro e w' ⟨rfl,rfl⟩))
  go_ret2;exact⟨rfl,by rw[HN.out]⟩
 | none=>
  have e2:D.wait i=none:=by
   cases hq:D.wait i with
   | none=>rfl
   | some s=>obtain⟨v,hv⟩:=hf2 i s hq;rw[hfi] at hv;simp at hv
  rw[hfi] at hlk;simp only[if_true,Option.getD_none,Option.isSome_none] at hlk;obtain⟨v,hv⟩:∃v,lv[i]?=some v:=⟨_,List.getElem?_eq_getElem (by omega)⟩;have hcl:w.cell? ⟨g.lb,i,none⟩=some v:=by rw[A4 b1];simpa using hv
  have hnow:∃l,Rd w v l/\pad l=D.now i:=by
   rcases b3 i v hv with⟨rfl,e⟩ | o
   ·exact⟨[],Rd.nil w,by rw[Cj2];simp[Dk.now,e2,e]⟩
   ·exact⟨_,o.rd,by rw[Av4 (hok.last i)];simp[Dk.now,e2]⟩
  obtain⟨l,hr,hn⟩:=hnow;have HR:=η hr;have HN:=η hn;clear h a1 hf hf1 hf2 b1 b2 b3 hok hm hr hn hfi hv;go_enter Tryz.func104,Tryz.ntmps104
  go_wp2_with (first | (go_at_call 181;refine(V3 H.out _).mono ?_;rintro e w' ⟨rfl,rfl⟩) | (go_at_call 101;refine(Am0 _ _ _ HR.out).mono ?_;rintro e w' ⟨rfl,rfl⟩))
  go_ret2;exact⟨rfl,by rw[HN.out]⟩
theorem Co0:(Tryz.prog.info? 32).map (λ i=>(i.zero,i.size,i.bytes))=some (some (.slice none 0 0),1,24):=by kernel_rfl
theorem Bb8(z:Value)(hz:z.cells=#[z])(n:Nat):madeCells z.cells n=(List.replicate n z).toArray:=by
 rw[hz];apply Array.ext
 ·simp[size_madeCells]
 ·intro i h1 h2;simp[madeCells,Nat.mod_one]
theorem Bj5(n:Nat)(hn:n<=100000)(w:World):(Instr.makeSlice 182 (.int .i64 (n:Int)) (.int .i64 (n:Int))).run Tryz.prog w =
  .ok (.slice (some ⟨w.heap.size,0,none⟩) n n) (w.alloc (.cells (List.replicate n (.slice none 0 0)).toArray 32)):=by
 obtain⟨i0,hi,hz0,hz1,hz2⟩:=info_parts Co0;have:=run_make (P:=Tryz.prog) w 182 32 i0 (.slice none 0 0) Tryz.underlying182 hi hz0 .i64 .i64 n n (by omega) (by omega) (by rw[hz2];omega) (by omega);rw[this,hz1];simp only[Int.toNat_natCast,Nat.mul_one];rw[Bb8 _ rfl]
theorem Cc6(n:Nat)(h0:32<=n)(h1:n<=4096)(w:World) :
  Calls Tryz.prog 142 #[.int .i64 (n:Int)] w λ e w'=>e=.returned (.pointer (some ⟨w.heap.size+2,0,none⟩))/\C9 w' (λ _=>False) ⟨w.heap.size+2,w.heap.size,w.heap.size+1⟩ (Dk.new n)/\Upd [] w w':=by
 have hmk:=Bj5 n (by omega);have hmm:=@run_makeMap Tryz.prog;have fin:∀A B C:Obj,A=.cells (Array.replicate n (.slice none 0 0)) 32->B=.map #[] 0->C=.cells #[.slice (some ⟨w.heap.size,0,none⟩) n n,.map (some (w.heap.size+1)),.bool false,.int .i64 (-1),.int .i64 0,.int .i64 (-1),.slice none 0 0,.int .i64 0,.int .i64 0] 184->
   C9 (((w.alloc A).alloc B).alloc C) (λ _=>False) ⟨w.heap.size+2,w.heap.size,w.heap.size+1⟩ (Dk.new n)/\Upd [] w (((w.alloc A).alloc B).alloc C):=by
  intro A B C eA eB eC;have e3:(((w.alloc A).alloc B).alloc C).heap[w.heap.size+2]?=some C:=by
   have:=A6 (w:=(w.alloc A).alloc B) C;simpa using this
  have e2:(((w.alloc A).alloc B).alloc C).heap[w.heap.size+1]?=some B:=by
   rw[A9 (by simp)];have:=A6 (w:=w.alloc A) B;simpa using this
  have e1:(((w.alloc A).alloc B).alloc C).heap[w.heap.size]?=some A:=by
   rw[A9 (by simp;omega),A9 (by simp)];exact A6 A
  refine⟨⟨⟨.slice none 0 0,?_,.inr ⟨rfl,rfl⟩⟩,⟨List.replicate n (.slice none 0 0),?_,by simp[Dk.new],?_⟩,⟨λ _=>none,?_,by simp,by simp[Dk.new]⟩,?_⟩,(((Upd.refl _ _).alloc _).alloc _).alloc _⟩
  ·rw[e3,eC];rfl
  ·rw[e1,eA];simp
  ·intro i v hv;rw[List.getElem?_replicate] at hv;split at hv
   ·cases hv;exact .inl ⟨rfl,rfl⟩
   ·simp at hv
  ·exact P6.made (c:=0) (by rw[e2,eB])
  ·exact⟨h0,h1,λ _=>C0,by simp[Dk.new],by simp[Dk.new],by simp[Dk.new],by simp[Dk.new],by simp[Dk.new],by simp[Dk.new]⟩
 have FIN:=η fin;clear fin;go_enter Tryz.func142,Tryz.ntmps142
 go_wp2
 go_ret;exact⟨rfl,FIN.out _ _ _ rfl rfl rfl⟩
end Go.Proofs.YtgfbepakonjbnaaGreat
end
section
namespace Go.Proofs.YtgfbepakonjbnaaGreat
open Go.RowKit
def Af0(l:List UInt8)(i:Nat):Bool:=(l.getD (i / 8) 0).toNat.testBit (i % 8)
def Cf1(c k:Nat):Nat:=c &&& (255-2 ^ k)
def Bl6(c k:Nat)(on:Bool):Nat:=if on then Cf1 c k ||| 2 ^ k else Cf1 c k
def Ax8(l:List UInt8)(i:Nat)(on:Bool):List UInt8:=l.set (i / 8) (UInt8.ofNat (Bl6 (l.getD (i / 8) 0).toNat (i % 8) on))
def Ai6(l:List UInt8)(s:Nat)(on:Bool):Nat->List UInt8
 | 0=>l
 | n+1=>Ax8 (Ai6 l s on n) (s+n) on
def Y5(l:List UInt8):List UInt8:=l.set 0 (UInt8.ofNat ((l.getD 0 0).toNat ||| 15))
theorem Au7{c k:Nat}(hc:c<256):Cf1 c k<256:=Nat.lt_of_le_of_lt Nat.and_le_left hc
theorem Au8{k:Nat}(hk:k<8):2 ^ k<256:=Nat.lt_of_lt_of_le (Nat.pow_lt_pow_right (by omega) hk) (by decide)
theorem Bv7{c k:Nat}(hc:c<256)(hk:k<8)(on:Bool):Bl6 c k on<256:=by
 unfold Bl6;split
 ·exact Nat.or_lt_two_pow (n:=8) (Au7 hc) (Au8 hk)
 ·exact Au7 hc
theorem Cf2:∀c:Fin 256,∀k k':Fin 8,∀on:Bool,(Bl6 c.val k.val on).testBit k'.val=if k'=k then on else c.val.testBit k'.val:=by decide +kernel
theorem Cf3{c k k':Nat}(hc:c<256)(hk:k<8)(hk':k'<8)(on:Bool):(Bl6 c k on).testBit k'=if k'=k then on else c.testBit k':=by
 have:=Cf2 ⟨c,hc⟩ ⟨k,hk⟩ ⟨k',hk'⟩ on;simp only[Fin.mk.injEq] at this;exact this
theorem Cf4:∀c:Fin 256,∀k:Fin 8,(c.val ||| 15).testBit k.val=(decide (k.val<4) || c.val.testBit k.val):=by decide +kernel
theorem Ai7{x:Nat}(h:x<256):(UInt8.ofNat x).toNat=x:=by simp;omega
theorem Bl7(l:List UInt8)(i:Nat)(on:Bool):(Ax8 l i on).length=l.length:=by unfold Ax8;rw[List.length_set]
theorem U0(l:List UInt8)(s:Nat)(on:Bool):∀n,(Ai6 l s on n).length=l.length
 | 0=>rfl
 | n+1=>by show(Ax8 _ _ _).length=_;rw[Bl7,U0 l s on n]
theorem X0(l:List UInt8):(Y5 l).length=l.length:=by unfold Y5;rw[List.length_set]
theorem Bl8{l:List UInt8}{i j:Nat}{x:UInt8}(hi:i<l.length):(l.set i x).getD j 0=if j=i then x else l.getD j 0:=by
 rw[List.getD_eq_getElem?_getD,List.getD_eq_getElem?_getD];by_cases e:j=i
 ·subst e;rw[if_pos rfl,List.getElem?_set_self hi];rfl
 ·rw[if_neg e,List.getElem?_set_ne (λ q=>e q.symm)]
theorem By7{l:List UInt8}{i:Nat}(hi:i<8*l.length)(on:Bool)(j:Nat):Af0 (Ax8 l i on) j=if j=i then on else Af0 l j:=by
 unfold Af0 Ax8;rw[Bl8 (by omega)];have hc:=(l.getD (i / 8) 0).toNat_lt;by_cases e:j / 8=i / 8
 ·rw[if_pos e,Ai7 (Bv7 (by omega) (by omega) on),Cf3 (by omega) (by omega) (by omega),e];by_cases e2:j % 8=i % 8
  ·rw[if_pos e2,if_pos (by omega)]
  ·rw[if_neg e2,if_neg (by omega)]
 ·rw[if_neg e,if_neg (by omega)]
theorem Bd9{l:List UInt8}{s:Nat}(on:Bool):∀{n:Nat},s+n<=8*l.length->∀j,Af0 (Ai6 l s on n) j=if s<=j/\j<s+n then on else Af0 l j
 | 0,_,j=>by rw[if_neg (by omega)];rfl
 | n+1,h,j=>by
  show Af0 (Ax8 _ _ _) j=_
  rw[By7 (by rw[U0];omega),Bd9 on (by omega)];by_cases e:j=s+n
  ·rw[if_pos e,if_pos (by omega)]
  ·rw[if_neg e];by_cases e2:s<=j/\j<s+n
   ·rw[if_pos e2,if_pos (by omega)]
   ·rw[if_neg e2,if_neg (by omega)]
theorem Ai8{l:List UInt8}(hl:0<l.length)(j:Nat):Af0 (Y5 l) j=(decide (j<4) || Af0 l j):=by
 unfold Af0 Y5;rw[Bl8 hl];have hc:=(l.getD 0 0).toNat_lt;by_cases e:j / 8=0
 ·rw[if_pos e,Ai7 (Nat.or_lt_two_pow (n:=8) (by omega) (by decide)),e];have:=Cf4 ⟨(l.getD 0 0).toNat,by omega⟩ ⟨j % 8,by omega⟩;simp only at this;rw[this];congr 1
  rw[decide_eq_decide];omega
 ·rw[if_neg e];have:decide (j<4)=false:=decide_eq_false (by omega);rw[this,Bool.false_or]
theorem By8(j:Nat):Af0 F9 j=false:=by
 unfold Af0 F9;rw[List.getD_eq_getElem?_getD,List.getElem?_replicate];split<;>simp
def Bh4(T:Nat->Bool)(s k:Nat):Prop:=∀q,q<k->T (s+q)=false
def Aa4(T:Nat->Bool)(h k:Nat):Option Nat->Prop
 | some s=>s+k<=h/\Bh4 T s k/\∀s',s'<s->¬Bh4 T s' k
 | none=>∀s',s'+k<=h->¬Bh4 T s' k
theorem Aa4.uniq{T:Nat->Bool}{h k:Nat}{a b:Option Nat}(ha:Aa4 T h k a)(hb:Aa4 T h k b):a=b:=by
 cases a with
 | none=>
  cases b with
  | none=>rfl
  | some t=>exact absurd hb.2.1 (ha t hb.1)
 | some s=>
  cases b with
  | none=>exact absurd ha.2.1 (hb s ha.1)
  | some t=>
   have h1:¬t<s:=λ q=>ha.2.2 t q hb.2.1;have h2:¬s<t:=λ q=>hb.2.2 s q ha.2.1;congr 1;omega
structure Run(T:Nat->Bool)(k i r:Nat):Prop where
 le:r<=i
 lt:r<k
 free:∀q,q<r->T (i-1-q)=false
 stop:r<i->T (i-1-r)=true
 none:∀s',s'+k<=i->¬Bh4 T s' k
theorem Run.zero{T:Nat->Bool}{k:Nat}(hk:1<=k):Run T k 0 0:=⟨Nat.le_refl _,hk,λ q h=>by omega,λ h=>by omega,λ s' h=>by omega⟩
theorem Run.set{T:Nat->Bool}{k i r:Nat}(h:Run T k i r)(ht:T i=true):Run T k (i+1) 0:=by
 have hk:1<=k:=by have:=h.lt;omega
 refine⟨by omega,hk,λ q hq=>by omega,λ _=>by simpa using ht,λ s' hs hf=>?_⟩;by_cases e:s'+k<=i
 ·exact h.none s' e hf
 ·have:=hf (k-1) (by omega);rw[show s'+(k-1)=i from by omega,ht] at this;simp at this
theorem Run.next{T:Nat->Bool}{k i r:Nat}(h:Run T k i r)(ht:T i=false)(hr:r+1<k):Run T k (i+1) (r+1):=by
 have h1:=h.le;refine⟨by omega,hr,λ q hq=>?_,λ hlt=>?_,λ s' hs hf=>?_⟩
 ·cases q with
  | zero=>simpa using ht
  | succ q=>
   have:=h.free q (by omega);rw[show i+1-1-(q+1)=i-1-q from by omega];exact this
 ·have:=h.stop (by omega);rw[show i+1-1-(r+1)=i-1-r from by omega];exact this
 ·by_cases e:s'+k<=i
  ·exact h.none s' e hf
  ·have hst:=h.stop (by omega);have:=hf (i-1-r-s') (by omega);rw[show s'+(i-1-r-s')=i-1-r from by omega,hst] at this;simp at this
theorem Run.found{T:Nat->Bool}{k i r h0:Nat}(h:Run T k i r)(ht:T i=false)(hr:r+1=k)(hi:i<h0):Aa4 T h0 k (some (i+1-k)):=by
 have h1:=h.le;refine⟨by omega,λ q hq=>?_,λ s' hs=>h.none s' (by omega)⟩;by_cases e:q=k-1
 ·rw[show i+1-k+q=i from by omega];exact ht
 ·have:=h.free (r-1-q) (by omega);rw[show i-1-(r-1-q)=i+1-k+q from by omega] at this;exact this
theorem Run.full{T:Nat->Bool}{k i r:Nat}(h:Run T k i r):Aa4 T i k Option.none:=h.none
theorem Bm0(n:Int):bits .and .i64 n 7=n % 8:=by
 have h7:(BitVec.ofInt 64 7).toNat=2 ^ 3-1:=by decide
 have key:(BitVec.ofInt 64 n &&& BitVec.ofInt 64 7).toNat=(n % ((2 ^ 64:Nat):Int)).toNat % 2 ^ 3:=by
  rw[BitVec.toNat_and,BitVec.toNat_ofInt,h7,Nat.and_two_pow_sub_one_eq_mod]
 show IntKind.i64.wrap ((BitVec.ofInt 64 n &&& BitVec.ofInt 64 7).toNat:Nat)=n % 8
 rw[key,IntKind.wrap_i64];omega
theorem Cf5{x k:Nat}(hx:x<256):(bits BinOp.and IntKind.u8 ((x:Int) / 2 ^ k) 1 == 1)=x.testBit k:=by
 have e:((x:Int) / 2 ^ k)=((x / 2 ^ k:Nat):Int):=by
  rw[Int.natCast_ediv];congr 1
 have hlt:x / 2 ^ k<256:=Nat.lt_of_le_of_lt (Nat.div_le_self _ _) hx;have:=u8_and_nat (x / 2 ^ k) 1 hlt (by decide);rw[e,show(1:Int)=((1:Nat):Int) from rfl,this,nat_mask1,Nat.testBit_eq_decide_div_mod_eq];rw[Bool.eq_iff_iff,beq_iff_eq,decide_eq_true_eq];omega
theorem Ay0(v:Value)(l:List UInt8)(i:Nat)(w:World)(hr:Rd w v l)(hi:i<8*l.length)(hl:l.length<=512) :
  Calls Tryz.prog 123 #[v,.int .i64 (i:Int)] w λ e w'=>e=.returned (.bool (Af0 l i))/\w=w':=by
 obtain⟨ao,cap,rfl,hc,hh⟩:=hr;obtain⟨b,off,rfl,hcell⟩:=hh (by omega);have hc0:=hcell (i / 8) (by omega);obtain⟨x,hx⟩:∃x,x=(l[i / 8]'(by omega)).toNat:=⟨_,rfl⟩;have hc1:w.cell? ⟨b,off+i / 8,none⟩=some (.int .u8 (x:Int)):=by rw[hc0,hx];rfl
 obtain⟨k,hk⟩:∃k,k=i % 8:=⟨_,rfl⟩;have hand:bits BinOp.and IntKind.i64 (i:Int) 7=(k:Int):=by rw[Bm0,hk];omega
 have hk8:k<8:=by omega
 have hw:IntKind.u64.wrap (k:Int)=(k:Int):=by rw[IntKind.wrap_u64];omega
 have hx8:x<256:=by rw[hx];exact UInt8.toNat_lt _
 have HB:Hid (Af0 l i=x.testBit k):=by
  show _=_
  unfold Af0;rw[hx,hk,List.getD_eq_getElem?_getD,List.getElem?_eq_getElem (by omega)];rfl
 clear hc0 hcell hh hx hk;go_enter Tryz.func123,Tryz.ntmps123
 go_wp2_with fail
 go_ret;exact⟨An5 (by rw[HB.out];exact Cf5 hx8),rfl⟩
theorem Bh5(n:Nat)(hn:n<=100000)(w:World):(Instr.makeSlice 32 (.int .i64 0) (.int .i64 (n:Int))).run Tryz.prog w =
  .ok (.slice (some ⟨w.heap.size,0,none⟩) 0 n) (w.alloc (.cells (bts (List.replicate n 0)).toArray 5)):=by
 obtain⟨i0,hi,hz0,hz1,hz2⟩:=info_parts Bf7;have:=run_make (P:=Tryz.prog) w 32 5 i0 (.int .u8 0) Tryz.underlying32 hi hz0 .i64 .i64 0 n (by omega) (by omega) (by rw[hz2];omega) (by omega);rw[this,hz1];simp only[Int.toNat_natCast,Nat.mul_one,Int.toNat_zero];rw[show(Value.int IntKind.u8 0).cells=#[.int .u8 0] from rfl,Ah8]
theorem Cf6(v:Value)(l:List UInt8)(w:World)(hr:Rd w v l)(h0:0<l.length)(hl:l.length<=100000) :
  Calls Tryz.prog 227 #[v,.int .i64 0] w λ e w'=>∃k c,e=.returned (.slice (some ⟨k,0,none⟩) l.length c)/\Own w' 5 (λ k=>w.heap.size<=k) (.slice (some ⟨k,0,none⟩) l.length c) l/\Upd [] w w':=by
 obtain⟨ao,cap,rfl,_,hh⟩:=hr.cells;obtain⟨ad,rfl,hc⟩:=hh h0;have hmk:=Bh5 l.length hl w;obtain⟨i0,hi,hz0,hz1,hz2⟩:=info_parts Bf7;have hc':∀j u,(bts l)[j]?=some u->(w.alloc (.cells (bts (List.replicate l.length 0)).toArray 5)).cell? (ad.add j)=some u:=by
  intro j u hj;have hb:(ad.add j).block<w.heap.size:=block_lt_of_cell (hc j u hj);rw[World.cell?_of_block (w:=w) (A9 hb)];exact hc j u hj
 have hrow:(w.alloc (.cells (bts (List.replicate l.length 0)).toArray 5)).ownsRow w.heap.size 5 1 (.slice (some ⟨w.heap.size,0,none⟩) 0 l.length) 0 []:=
  ⟨by simp,.inr ⟨w.heap.size,l.length,_,rfl,Nat.le_refl _,A6 _,by omega,by unfold maxLen;omega,by simp,by simp⟩⟩
 obtain⟨v',w',hrun,hown,hg,_⟩:=run_append_own (P:=Tryz.prog) (w.alloc (.cells (bts (List.replicate l.length 0)).toArray 5)) w.heap.size 32 0 5 i0 (.int .u8 0) 1 1 Tryz.underlying32 hi hz0 hz1 hz2 rfl (by decide) _ 0 [] hrow ad l.length cap (bts l) (by simp) hc' (G7 _) (by unfold maxLen;omega) (by omega) (by simp);have hrun':∀ty,(Builtin.append_ #[32,32] ty #[.slice (some ⟨w.heap.size,0,none⟩) 0 l.length,.slice (some ad) l.length cap]).run Tryz.prog (w.alloc (.cells (bts (List.replicate l.length 0)).toArray 5))=.ok v' w':=λ _=>hrun;have ho:Aa1 w' 5 (λ k=>w.heap.size<=k) v' l:=As1 (by simpa using hown);have hu:Upd [] w w':=((Upd.refl _ _).alloc _).grown hg (λ k hk=>by cases hk;exact .inr (Nat.le_refl _));obtain⟨k,rest,hk,rfl,hb⟩:=ho.own h0;have HO:Hid (Own w' 5 (λ k=>w.heap.size<=k) (.slice (some ⟨k,0,none⟩) l.length (l.length+rest.length)) l):=⟨k,rest,hk,rfl,hb⟩;have HU:=η hu;clear hh hc hr hi hz0 hz1 hz2 hc' hrow hrun hown hg ho hu hk hb;generalize (bts (List.replicate l.length 0)).toArray=Z at *;go_enter Tryz.func227,Tryz.ntmps227
 go_wp2_with (at_builtin;refine B4 rfl _ _ _ rfl rfl rfl hrun' ?_)
 go_ret;exact⟨_,_,rfl,HO.out,HU.out⟩
theorem Cl4{l:List UInt8}{i x k:Nat}(hi:i / 8<l.length)(hx:x=(l[i / 8]'hi).toNat)(hk:k=i % 8)(on:Bool):Ax8 l i on=l.set (i / 8) (UInt8.ofNat (Bl6 x k on)):=by
 unfold Ax8;rw[hx,hk,List.getD_eq_getElem?_getD,List.getElem?_eq_getElem hi];rfl
theorem Bh6{w:World}{k c:Nat}{F:Nat->Prop}{l:List UInt8}(h:Own w 5 F (.slice (some ⟨k,0,none⟩) l.length c) l){q:Nat}(hq:q<l.length){y:Nat}(hy:y<256):Own (w.setCell ⟨k,q,none⟩ (.int .u8 (y:Int))) 5 F (.slice (some ⟨k,0,none⟩) l.length c) (l.set q (UInt8.ofNat y)):=by
 obtain⟨k',rest,hF,e,hb⟩:=h;obtain⟨rfl,rfl⟩:k=k'/\c=l.length+rest.length:=by simpa using e
 refine⟨k,rest,hF,by rw[List.length_set],?_⟩;have hv:(.int .u8 (y:Int):Value)=bv (UInt8.ofNat y):=by unfold bv;rw[Ai7 hy]
 rw[hv,B3 hb];congr 2
 rw[αs,List.set_append_left _ _ (by simpa using hq)];unfold bts;rw[List.map_set]
theorem Bm1(v:Value)(l:List UInt8)(i:Nat)(on:Bool)(w:World)(hr:Rd w v l)(hi:i<8*l.length)(hl:l.length<=512) :
  Calls Tryz.prog 193 #[v,.int .i64 (i:Int),.bool on] w λ e w'=>∃k c,e=.returned (.tuple #[.slice (some ⟨k,0,none⟩) l.length c,.int .i64 0])/\Own w' 5 (λ k=>w.heap.size<=k) (.slice (some ⟨k,0,none⟩) l.length c) (Ax8 l i on)/\Upd [] w w':=by
 obtain⟨av,cv,rfl,_⟩:=id hr;have HW:=η (Cf6 _ l w hr (by omega) (by omega));obtain⟨x,hx⟩:∃x,x=(l[i / 8]'(by omega)).toNat:=⟨_,rfl⟩;obtain⟨k,hk⟩:∃k,k=i % 8:=⟨_,rfl⟩;have HSB:=λ on=>η (Cl4 (by omega) hx hk on);have HX:=η hx;have hand:bits BinOp.and IntKind.i64 (i:Int) 7=(k:Int):=by rw[Bm0,hk];omega
 have hk8:k<8:=by omega
 have hw:IntKind.u64.wrap (k:Int)=(k:Int):=by rw[IntKind.wrap_u64];omega
 have hx8:x<256:=by rw[hx];exact UInt8.toNat_lt _
 have d1:decide (l.length<=i / 8)=false:=decide_eq_false (by omega);have d2:decide ((l.length:Int)<=(i:Int) / 8)=false:=decide_eq_false (by omega);have d3:decide ((i:Int)<0)=false:=decide_eq_false (by omega);clear hr hx hk;go_enter Tryz.func193,Tryz.ntmps193
 go_wp2_with fail
 refine HW.out.mono ?_;rintro e w1 ⟨kb,c,rfl,ho,hu⟩;obtain⟨kb',rest,hF,e,hb⟩:=id ho;obtain⟨rfl,rfl⟩:kb=kb'/\c=l.length+rest.length:=by simpa using e
 have hcell:w1.cell? ⟨kb,i / 8,none⟩=some (.int .u8 (x:Int)):=by
  rw[A4 hb,HX.out];simp[List.getElem?_append_left,bts,show i / 8<l.length from by omega,bv]
 have hfz:=E4 hb (i / 8);have i0:(0:Int)<=(i:Int) / 8:=by omega
 have i1:(i:Int) / 8<(l.length:Int):=by omega
 have HO:=η ho;have HU:=η hu;clear ho hu hb hF e;have hpw:((2:Int) ^ k % 256)=((2 ^ k:Nat):Int):=by
  have hp:=Au8 hk8;have e2:((2:Int) ^ k)=((2 ^ k:Nat):Int):=(Int.natCast_pow 2 k).symm;rw[e2];generalize 2 ^ k=P at hp;omega
 obtain⟨y1,hy1⟩:∃y1,y1=Cf1 x k:=⟨_,rfl⟩;obtain⟨y2,hy2⟩:∃y2,y2=(Cf1 x k ||| 2 ^ k):=⟨_,rfl⟩;have hn:bits BinOp.andNot IntKind.u8 (x:Int) ((2:Int) ^ k % 256)=(y1:Int):=by rw[hpw,u8_andNot_nat _ _ hx8 (Au8 hk8),hy1];rfl
 have hor:bits BinOp.or IntKind.u8 (y1:Int) ((2:Int) ^ k % 256)=(y2:Int):=by rw[hpw,hy1,u8_or_nat _ _ (Au7 hx8) (Au8 hk8),hy2]
 have hl1:y1<256:=by rw[hy1];exact Au7 hx8
 have hl2:y2<256:=by rw[hy2];exact Bv7 hx8 hk8 true
 have HY1:Hid (Bl6 x k false=y1):=by show _=_;rw[hy1];rfl
 have HY2:Hid (Bl6 x k true=y2):=by show _=_;rw[hy2];rfl
 clear hpw hy1 hy2;have hq:i / 8<l.length:=by omega
 have o1:=Bh6 HO.out hq hl1;have u1:Upd [] w (w1.setCell ⟨kb,i / 8,none⟩ (.int .u8 (y1:Int))):=HU.out.set _ (.inr (by obtain⟨k',_,h,e,_⟩:=HO.out;simp at e;rw[e.1];exact h));have u2:Upd [] w ((w1.setCell ⟨kb,i / 8,none⟩ (.int .u8 (y1:Int))).setCell ⟨kb,i / 8,none⟩ (.int .u8 (y2:Int))):=u1.set _ (.inr (by obtain⟨k',_,h,e,_⟩:=HO.out;simp at e;rw[e.1];exact h));have o2:Own ((w1.setCell ⟨kb,i / 8,none⟩ (.int .u8 (y1:Int))).setCell ⟨kb,i / 8,none⟩ (.int .u8 (y2:Int))) 5 (λ k=>w.heap.size<=k) (.slice (some ⟨kb,0,none⟩) l.length (l.length+rest.length)) (l.set (i / 8) (UInt8.ofNat y2)):=by
  have o1':Own (w1.setCell ⟨kb,i / 8,none⟩ (.int .u8 (y1:Int))) 5 (λ k=>w.heap.size<=k) (.slice (some ⟨kb,0,none⟩) (l.set (i / 8) (UInt8.ofNat y1)).length (l.length+rest.length)) (l.set (i / 8) (UInt8.ofNat y1)):=by rw[List.length_set];exact o1
  have:=Bh6 o1' (q:=i / 8) (by rw[List.length_set];exact hq) hl2;rw[List.length_set,List.set_set] at this;exact this
 have O1:=η o1;have O2:=η o2;have U1:=η u1;have U2:=η u2;clear o1 o2 u1 u2;cases on
 ·go_wp2_with fail
  go_ret2;exact⟨_,_,rfl,by rw[(HSB false).out,HY1.out];exact O1.out,U1.out⟩
 ·go_wp2_with fail
  go_ret2;exact⟨_,_,rfl,by rw[(HSB true).out,HY2.out];exact O2.out,U2.out⟩
end Go.Proofs.YtgfbepakonjbnaaGreat
end
