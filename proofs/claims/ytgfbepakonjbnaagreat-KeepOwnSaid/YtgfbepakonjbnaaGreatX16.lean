/-
  Keys: arrays of bytes; which of two stands ahead. Rows of arrays; where a key stands in a node. Numbers laid into bytes; a node's bytes.
-/
import Derived.Test.YtgfbepakonjbnaaGreatX10
import Derived.Lib.BytesEntry
import Derived.Laws.Rows
import Derived.Deep.MidRow
import Derived.ChangeKeysEq
import Derived.Deep.RegionHeld3
import Derived.Great.BuildSlice
set_option maxRecDepth 100000
set_option maxHeartbeats 16000000
section
section
namespace Go.Proofs.YtgfbepakonjbnaaGreat
open Go.RowKit Go.MapKept Go.ChangeMaps
def arr(l:List UInt8):Value:=.agg (bts l).toArray
def ltB:List UInt8->List UInt8->Bool
 | [],[]=>false
 | [],_ :: _=>true
 | _ :: _,[]=>false
 | x :: a,y :: b=>if x.toNat<y.toNat then true else if y.toNat<x.toNat then false else ltB a b
theorem I6:∀a,ltB a a=false
 | []=>rfl
 | x :: a=>by unfold ltB;rw[if_neg (by omega),if_neg (by omega)];exact I6 a
theorem L7:∀{a b c},ltB a b=true->ltB b c=true->ltB a c=true
 | [],[],c,h,_=>by simp[ltB] at h
 | [],y :: b,[],_,h=>by simp[ltB] at h
 | [],y :: b,z :: c,_,_=>rfl
 | x :: a,[],c,h,_=>by simp[ltB] at h
 | x :: a,y :: b,[],_,h=>by simp[ltB] at h
 | x :: a,y :: b,z :: c,h,k=>by
  unfold ltB at h k ⊢;by_cases h1:x.toNat<y.toNat
  ·by_cases k1:y.toNat<z.toNat
   ·rw[if_pos (by omega)]
   ·rw[if_neg k1] at k;by_cases k2:z.toNat<y.toNat
    ·rw[if_pos k2] at k;simp at k
    ·rw[if_pos (by omega)]
  ·rw[if_neg h1] at h;by_cases h2:y.toNat<x.toNat
   ·rw[if_pos h2] at h;simp at h
   ·rw[if_neg h2] at h;by_cases k1:y.toNat<z.toNat
    ·rw[if_pos (by omega)]
    ·rw[if_neg k1] at k;by_cases k2:z.toNat<y.toNat
     ·rw[if_pos k2] at k;simp at k
     ·rw[if_neg k2] at k;rw[if_neg (by omega),if_neg (by omega)];exact L7 h k
theorem T5{a b:List UInt8}(h:ltB a b=true):ltB b a=false:=by
 cases q:ltB b a
 ·rfl
 ·have:=L7 h q;rw[I6] at this;simp at this
theorem Y0:∀{a b:List UInt8},ltB a b=false->ltB b a=false->a=b
 | [],[],_,_=>rfl
 | [],y :: b,h,_=>by simp[ltB] at h
 | x :: a,[],_,h=>by simp[ltB] at h
 | x :: a,y :: b,h,k=>by
  unfold ltB at h k;by_cases h1:x.toNat<y.toNat
  ·rw[if_pos h1] at h;simp at h
  ·rw[if_neg h1] at h;by_cases h2:y.toNat<x.toNat
   ·rw[if_pos h2] at k;simp at k
   ·rw[if_neg h2] at h;rw[if_neg h2,if_neg h1] at k;rw[UInt8.toNat_inj.1 (show x.toNat=y.toNat by omega),Y0 h k]
theorem Cr9:∀(a b:List UInt8),decide (Lib.compareBytes a b<0)=ltB a b
 | [],[]=>by simp[Lib.compareBytes,ltB]
 | [],y :: b=>by simp[Lib.compareBytes,ltB]
 | x :: a,[]=>by simp[Lib.compareBytes,ltB]
 | x :: a,y :: b=>by
  have ih:=Cr9 a b;unfold ltB Lib.compareBytes;simp only[UInt8.lt_iff_toNat_lt];by_cases h1:x.toNat<y.toNat
  ·rw[if_pos h1,if_pos h1];rfl
  ·rw[if_neg h1,if_neg h1];by_cases h2:y.toNat<x.toNat
   ·rw[if_pos h2,if_pos h2];rfl
   ·rw[if_neg h2,if_neg h2];exact ih
theorem Ay6{w:World}{v:Value}{l:List UInt8}(h:Rd w v l):(Extern.Bytes.bytesOf v).run Tryz.prog w=.ok ⟨l.toArray⟩ w:=by
 obtain⟨ao,cap,rfl,hc,hh⟩:=h;cases ao with
 | none=>
  cases l with
  | nil=>rfl
  | cons x l=>obtain⟨b,off,h,_⟩:=hh (by simp);simp at h
 | some a=>
  by_cases hp:0<l.length
  ·obtain⟨b,off,hab,hcell⟩:=hh hp;cases hab
   have:=Lib.run_loadBytesX (P:=Tryz.prog) w (l.map λ c=>(c.toNat:Int)) ⟨b,off,none⟩ .empty (λ j x hj=>by
    rw[List.getElem?_map] at hj;have hjl:j<l.length:=by
     rcases Nat.lt_or_ge j l.length with r | r
     ·exact r
     ·rw[List.getElem?_eq_none r] at hj;simp at hj
    rw[List.getElem?_eq_getElem hjl] at hj;simp at hj;rw[P9,hcell j hjl,← hj];rfl)
   rw[List.length_map] at this;show(Extern.Bytes.loadBytes ⟨b,off,none⟩ l.length .empty).run Tryz.prog w=_
   rw[this];congr 1
   apply ByteArray.ext;show(#[]:Array UInt8)++(Lib.bytesOf (l.map λ c=>(c.toNat:Int))).toArray=l.toArray
   simp[Lib.bytesOf];exact(List.map_congr_left λ c _=>by simp).trans (List.map_id _)
  ·have:l=[]:=by cases l with | nil=>rfl | cons x l=>simp at hp
   subst this;rfl
theorem Cx6{w:World}{v1 v2:Value}{a b:List UInt8}(h1:Rd w v1 a)(h2:Rd w v2 b):(Extern.BytealgCompare.compare #[v1,v2]).run Tryz.prog w=.ok (.int .i64 (Lib.compareBytes a b)) w:=by
 change Sem.run Tryz.prog (do pure (goInt (Extern.BytealgCompare.cmp (← Extern.Bytes.bytesOf v1) (← Extern.Bytes.bytesOf v2)))) w=_
 simp only[Sem.run_bind,Ay6 h1,Ay6 h2,Sem.run_pure,Result.andThen];rw[Lib.cmp_eq];rfl
theorem Bo9{w:World}{v1 v2:Value}{a b:List UInt8}(h1:Rd w v1 a)(h2:Rd w v2 b) :
  Calls Tryz.prog 212 #[v1,v2] w λ e w'=>e=.returned (.int .i64 (Lib.compareBytes a b))/\w=w':=by
 have hr:=Cx6 h1 h2;clear h1 h2;go_enter Tryz.func212,Tryz.ntmps212
 go_wp2
 rw[run_callFunc_extern Tryz.func239 (by kernel_rfl) (by kernel_rfl) (by kernel_rfl) (e:=Extern.BytealgCompare.compare) (by kernel_rfl),hr];simp only[Result.andThen];rw[Oper.upon_value];go_wp2
 go_ret;exact⟨rfl,rfl⟩
theorem Bp0{w:World}{b:Nat}{l:List UInt8}{T:TypeId}{fr:Nat × Nat}(h:w.heap[b]?=some (.cells (bts l).toArray T fr))(hl:l.length=32):Rd w (.slice (some ⟨b,0,none⟩) 32 32) l:=by
 refine⟨some ⟨b,0,none⟩,32,by rw[hl],by omega,λ _=>⟨b,0,rfl,λ i hi=>?_⟩⟩;rw[A2 h,List.getElem?_toArray,Nat.zero_add];simp[bts,hi]
theorem Bl2(a b:List UInt8)(ha:a.length=32)(hb:b.length=32)(w:World) :
  Calls Tryz.prog 138 #[arr a,arr b] w λ e w'=>e=.returned (.bool (ltB a b))/\Upd [] w w':=by
 obtain⟨w2,hw2⟩:∃w2,w2=(w.alloc (.cells (bts a).toArray 35)).alloc (.cells (bts b).toArray 35):=⟨_,rfl⟩;have hu:Upd [] w w2:=by rw[hw2];exact((Upd.refl _ _).alloc _).alloc _
 have h1:w2.heap[w.heap.size]?=some (.cells (bts a).toArray 35 (0,0)):=by
  rw[hw2,A6 (by simp)];exact A4 _
 have h2:w2.heap[w.heap.size+1]?=some (.cells (bts b).toArray 35 (0,0)):=by
  rw[hw2];have:=A4 (w:=w.alloc (.cells (bts a).toArray 35)) (.cells (bts b).toArray 35);simpa using this
 have HC:=η (λ n=>Bo9 (w:=w2.drewN n) (Bp0 (b:=w.heap.size) h1 ha) (Bp0 (b:=w.heap.size+1) h2 hb));have HU:=η hu;have HW:=η hw2;have hlt:=Cr9 a b;clear hu h1 h2 hw2;unfold arr;go_enter Tryz.func138,Tryz.ntmps138
 go_wp2
 have hw2:=HW.out;rw[← hw2];clear hw2;go_quiet ((go_at_call 212;exact Calls.quiet_of_same ((HC.out _).mono λ _ _ ⟨a,b⟩=>⟨a,b.symm⟩)))
 all_goals
  go_wp2
  go_ret;exact⟨rfl,HU.out.drewN _⟩
end Go.Proofs.YtgfbepakonjbnaaGreat
end
section
namespace Go.Proofs.YtgfbepakonjbnaaGreat
open Go.RowKit Go.MapKept Go.ChangeMaps
theorem Cb8:Tryz.prog.cellsOf 5=1:=by kernel_rfl
theorem Ay7(d:Nat)(a b:List UInt8)(w:World):∀is:List Nat,(∀i,i∈is->i<a.length/\i<b.length)->
  ∃r:Bool,(Op.eqItems (d+1) 5 1 (bts a).toArray (bts b).toArray is).run Tryz.prog w=.ok r w/\(r=true↔∀i,i∈is->a[i]?=b[i]?)
 | [],_=>⟨true,by simp[Op.eqItems],by simp⟩
 | i :: is,h=>by
  obtain⟨hi,hj⟩:=h i (by simp);obtain⟨r,hr,hiff⟩:=Ay7 d a b w is (λ k hk=>h k (by simp[hk]));have e1:(bts a).toArray[i]?=some (bv a[i]):=by simp[bts,hi]
  have e2:(bts b).toArray[i]?=some (bv b[i]):=by simp[bts,hj]
  have p1:=run_part_plain (P:=Tryz.prog) (w:=w) (e:=5) (by kernel_rfl) e1;have p2:=run_part_plain (P:=Tryz.prog) (w:=w) (e:=5) (by kernel_rfl) e2;have p3:=run_equalIn_int (P:=Tryz.prog) w d 5 .u8 .u8 (a[i].toNat:Int) (b[i].toNat:Int) Tryz.underlying5;unfold Op.eqItems;simp only[Nat.mul_one,Sem.run_bind,p1,p2,Result.andThen_ok];unfold bv;simp only[p3,Result.andThen_ok];by_cases hab:a[i]=b[i]
  ·refine⟨r,by simp[hab,hr],?_⟩;rw[hiff];simp only[List.mem_cons,forall_eq_or_imp,List.getElem?_eq_getElem hi,List.getElem?_eq_getElem hj,hab,true_and]
  ·have:((a[i].toNat:Int) == (b[i].toNat:Int))=false:=by
    rw[beq_eq_false_iff_ne];intro q;exact hab (UInt8.toNat_inj.1 (by omega))
   refine⟨false,by simp[this],?_⟩;simp only[Bool.false_eq_true,false_iff,List.mem_cons,forall_eq_or_imp,List.getElem?_eq_getElem hi,List.getElem?_eq_getElem hj,Option.some.injEq];exact λ q=>hab q.1
theorem Cj6{a b:List UInt8}(ha:a.length=32)(hb:b.length=32)(w:World):(Op.equalIn 10000 35 (.agg (bts a).toArray) (.agg (bts b).toArray)).run Tryz.prog w=.ok (decide (a=b)) w:=by
 obtain⟨r,hr,hiff⟩:=Ay7 9998 a b w (List.range 32) (λ i hi=>by have:=List.mem_range.1 hi;omega);have hu:=Tryz.underlying35;obtain⟨i0,hi0⟩:∃i0,Tryz.prog.info? 5=some i0:=Option.isSome_iff_exists.1 (by kernel_rfl);have h1:=run_equalIn_array (P:=Tryz.prog) w 9999 (t:=35) (bts a).toArray (bts b).toArray hu hi0;rw[Cb8] at h1;rw[h1,hr];congr 1
 cases hr':r
 ·symm;rw[decide_eq_false_iff_not]
  rintro rfl;rw[hr'] at hiff;simp at hiff
 ·symm;rw[decide_eq_true_eq]
  apply List.ext_getElem?;intro i;by_cases hi:i<32
  ·exact hiff.1 hr' i (List.mem_range.2 hi)
  ·rw[List.getElem?_eq_none (by omega),List.getElem?_eq_none (by omega)]
theorem D6{w w':World}{S:List Nat}{a:Addr}{v:Value}(h:w.cell? a=some v)(hu:Upd S w w')(hS:a.block∉S):w'.cell? a=some v:=by
 rw[World.cell?_of_block (w:=w) (hu.block _ (block_lt_of_cell h) hS)];exact h
theorem F7{w w':World}{S:List Nat}{b o:Nat}{cs:List Value}(h:w.rangeAt b o cs)(hu:Upd S w w')(hS:b∉S):w'.rangeAt b o cs:=λ j v hv=>D6 (h j v hv) hu hS
def RRd(w:World)(v:Value)(sz:Nat)(es:List (List Value)):Prop:=
 ∃ao cap,v=.slice ao es.length cap/\es.length<=cap/\(0<es.length->∃b off,ao=some ⟨b,off,none⟩/\∀i e,es[i]?=some e->w.rangeAt b (off+i*sz) e)
theorem RRd.keep{w w':World}{v:Value}{sz:Nat}{es:List (List Value)}(h:RRd w v sz es){S:List Nat}(hu:Upd S w w')(hS:∀a l c,v=.slice (some a) l c->a.block∉S):RRd w' v sz es:=by
 obtain⟨ao,cap,rfl,hc,hh⟩:=h;refine⟨ao,cap,rfl,hc,λ hp=>?_⟩;obtain⟨b,off,rfl,hr⟩:=hh hp;exact⟨b,off,rfl,λ i e he=>F7 (hr i e he) hu (hS _ _ _ rfl)⟩
theorem RRd.shape{w:World}{v:Value}{sz:Nat}{es:List (List Value)}(h:RRd w v sz es):∃a c,v=.slice a es.length c:=by
 obtain⟨ao,cap,rfl,_⟩:=h;exact⟨_,_,rfl⟩
def L5:List (List UInt8)->List UInt8->Nat
 | [],_=>0
 | k :: ks,key=>if ltB k key then L5 ks key+1 else 0
theorem An0:∀(ks:List (List UInt8)) (key:List UInt8),L5 ks key<=ks.length
 | [],_=>Nat.le_refl _
 | k :: ks,key=>by
  have:=An0 ks key;unfold L5;split
  ·simp;omega
  ·simp
theorem Av6{key:List UInt8}:∀{ks:List (List UInt8)} {q:Nat},q<=ks.length->(∀p k,p<q->ks[p]?=some k->ltB k key=true)->(∀k,ks[q]?=some k->ltB k key=false)->L5 ks key=q
 | [],q,hq,_,_=>by simp at hq;rw[hq];rfl
 | x :: ks,q,hq,h1,h2=>by
  unfold L5;cases q with
  | zero=>rw[h2 x (by simp)];rfl
  | succ q=>
   rw[h1 0 x (by omega) (by simp),Av6 (ks:=ks) (q:=q) (by simpa using hq) (λ p k hp e=>h1 (p+1) k (by omega) (by simpa using e)) (λ k e=>h2 k (by simpa using e))];rfl
def Q4(ks:List (List UInt8))(key:List UInt8):Bool:=decide (ks[L5 ks key]?=some key)
def ld3:Op:=.load 35 (.tmp 3)
theorem Dd1:Op.load 35 (.tmp 3)=ld3:=rfl
attribute [local go_sem] ld3
attribute [-go_sem] loadCells
theorem F8{w:World}{b o:Nat}{l:List UInt8}(h:w.rangeAt b o (bts l))(hl:l.length=32):(loadCells ⟨b,o,none⟩ 32).run Tryz.prog w=.ok (bts l).toArray w:=by
 have:=run_loadCells_list (P:=Tryz.prog) w ⟨b,o,none⟩ (bts l) (λ j v hv=>by rw[Addr.add_mid];exact h j v hv);rw[A5,hl] at this;exact this
theorem B8{w:World}{b n:Nat}{cs:List Value}{T:TypeId}{fr:Nat × Nat}(h:w.heap[b]?=some (.cells cs.toArray T fr))(hn:cs.length=n):(loadCells ⟨b,0,none⟩ n).run Tryz.prog w=.ok cs.toArray w:=by
 have:=run_loadCells_list (P:=Tryz.prog) w ⟨b,0,none⟩ cs (λ j v hv=>by rw[Addr.add_mid,A2 h,List.getElem?_toArray,Nat.zero_add];exact hv);rw[hn] at this;exact this
theorem Aj1:(Tryz.prog.info? 35).map (·.size)=some 32:=by kernel_rfl
theorem An1{w:World}{vk vv vd:Value}(kd:Int){ks:List (List UInt8)}(hk:RRd w vk 32 (ks.map bts))(hl:∀k,k∈ks->k.length=32)(hn:ks.length<=100)(key:List UInt8)(hkey:key.length=32) :
  Calls Tryz.prog 134 #[.agg #[.int .i64 kd,vk,vv,vd],arr key] w λ e w'=>e=.returned (.tuple #[.int .i64 (L5 ks key:Int),.bool (Q4 ks key)])/\Upd [] w w':=by
 obtain⟨ak,ck,rfl⟩:=hk.shape;rw[List.length_map] at hk ⊢;obtain⟨wA,hwA⟩:∃wA,wA=(w.alloc (.cells #[.int .i64 kd,.slice ak ks.length ck,vv,vd] 220)).alloc (.cells (bts key).toArray 35):=⟨_,rfl⟩;have hu:Upd [] w wA:=by rw[hwA];exact((Upd.refl _ _).alloc _).alloc _
 obtain⟨b2,hb2⟩:∃b,b=w.heap.size:=⟨_,rfl⟩;obtain⟨b3,hb3⟩:∃b,b=w.heap.size+1:=⟨_,rfl⟩;have h1:wA.heap[b2]?=some (.cells #[.int .i64 kd,.slice ak ks.length ck,vv,vd] 220 (0,0)):=by
  rw[hwA,hb2,A6 (by simp)];exact A4 _
 have h2:wA.heap[b3]?=some (.cells (bts key).toArray 35 (0,0)):=by
  rw[hwA,hb3];have:=A4 (w:=w.alloc (.cells #[.int .i64 kd,.slice ak ks.length ck,vv,vd] 220)) (.cells (bts key).toArray 35);simpa using this
 have HK:=η (hk.keep hu (λ _ _ _ _=>by simp));have HU:=η hu;have HW:=η hwA;have H1:=η h1;have H2:=η h2;have HL:=η hl;have HB2:=η hb2;have HB3:=η hb3;have hu35:=Tryz.underlying35;have hi35:∀k:List UInt8,k.length=32->(Tryz.prog.info? 35).map (·.size)=some (bts k).length:=λ k hk=>by
  rw[A5,hk];exact Aj1
 have hikey:=hi35 key hkey;have HI:=η hi35;clear hk hl hu h1 h2 hwA hb2 hb3 hi35;unfold arr;go_enter Tryz.func134,Tryz.ntmps134
 go_wp2
 have hwA:=HW.out;have hb2:=HB2.out;have hb3:=HB3.out;rw[← hwA,← hb3,← hb2];clear hwA hb2 hb3;go_loopw [6] (λ i wr=>∃q:Nat,q<=ks.length/\i=.int .i64 (q:Int)/\(∀p k,p<q->ks[p]?=some k->ltB k key=true)/\Upd [] wA wr) (λ i _=>ks.length-(intOf i).toNat)
 case atStart=>exact⟨0,Nat.zero_le _,rfl,λ p k hp=>by omega,Upd.refl _ _⟩
 case round=>
  obtain⟨q,hq,rfl,hall,hu⟩:=hrel;have HAll:=η hall;have HUr:=η hu;have c1:wr.cell? ⟨b2,1,none⟩=some (.slice ak ks.length ck):=by rw[A2 ((hu.block _ (A3 H1.out) (by simp)).trans H1.out)];rfl
  have rkey:wr.rangeAt b3 0 (bts key):=λ j v hv=>by rw[A2 ((hu.block _ (A3 H2.out) (by simp)).trans H2.out),← hv];simp
  have HKr:=η (HK.out.keep hu (λ _ _ _ _=>by simp));clear hall hu;by_cases hlt:q<ks.length
  ·have hlt':decide ((q:Int)<(ks.length:Int))=true:=decide_eq_true (by omega);have hlt2:decide (q<ks.length)=true:=decide_eq_true hlt;obtain⟨ao,cap,hv,_,hh⟩:=HKr.out;rw[List.length_map] at hv hh;cases hv
   obtain⟨bk,off,rfl,hr⟩:=hh (by omega);have hkq:ks[q]?=some ks[q]:=List.getElem?_eq_getElem hlt;have rk:=hr q (bts ks[q]) (by rw[List.getElem?_map,hkq];rfl);have hlk:=HL.out _ (List.getElem_mem hlt);clear hh hr;generalize ks[q]=kq at *;have hik:=HI.out kq hlk;have HKQ:=η hkq;have hls:∀w,Calls Tryz.prog 138 #[.agg (bts kq).toArray,.agg (bts key).toArray] w λ e w'=>e=.returned (.bool (ltB kq key))/\Upd [] w w':=λ w=>Bl2 kq key hlk hkey w;have HLS:=η hls;have i0:(0:Int)<=(q:Int):=by omega
   have i1:(q:Int)<(ks.length:Int):=by omega
   have hld:=F8 (F7 rkey (Upd.refl [] _).drew (by simp)) hkey;clear hls hkq;rw[Dd1];cases hlb:ltB kq key
   ·rw[hlb] at HLS;have HLB:=η hlb;clear hlb;go_wp2_with fail
    go_region_held3 (λ w'=>w'.cell? ⟨b2,1,none⟩=some (.slice (some ⟨bk,off,none⟩) ks.length ck)/\w'.rangeAt bk (off+q*32) (bts kq)/\w'.rangeAt b3 0 (bts key)) (refine⟨?_,?_,?_⟩<;>first | assumption | (exact D6 (by assumption) ((Upd.refl [] _).drew) (by simp)) | (exact F7 (by assumption) ((Upd.refl [] _).drew) (by simp)))
     (first | (go_at_call 138;(with_reducible refine(HLS.out _).mono ?_);rintro e w5 ⟨rfl,hu5⟩;have c15:=D6 (D6 c1 (Upd.refl [] _).drew (by simp)) hu5 (by simp);have rk5:=F7 (F7 rk (Upd.refl [] _).drew (by simp)) hu5 (by simp);have rkey5:=F7 (F7 rkey (Upd.refl [] _).drew (by simp)) hu5 (by simp);have hld5:=F8 rkey5 hkey;have HU5:=η hu5;clear hu5))
    all_goals
     have hp:L5 ks key=q:=Av6 (by omega) HAll.out (λ k e=>by rw[HKQ.out] at e;cases e;exact HLB.out);have hh:Q4 ks key=decide (kq=key):=by
      unfold Q4;rw[hp,HKQ.out];exact decide_eq_decide.2 ⟨λ q=>Option.some.inj q,λ q=>by rw[q]⟩
     have HP:=η hp;have HHH:=η hh;have hldk:∀n,(loadCells ⟨bk,off+q*32,none⟩ 32).run Tryz.prog (w5.drewN n)=.ok (bts kq).toArray (w5.drewN n):=λ n=>F8 rk5 hlk;have hldy:∀n,(loadCells ⟨b3,0,none⟩ 32).run Tryz.prog (w5.drewN n)=.ok (bts key).toArray (w5.drewN n):=λ n=>F8 rkey5 hkey;have heq:=λ w=>Cj6 hlk hkey w;clear hp hh;go_wp2_with fail
     go_quiet (fail)
     all_goals
      go_wp2_with fail
      go_ret2;exact⟨by rw[HP.out,HHH.out];rfl,((HU.out.trans HUr.out).drew.trans HU5.out).drewN _⟩
   ·rw[hlb] at HLS;have HLB:=η hlb;clear hlb;go_wp2_with fail
    go_region_held3 (λ w'=>w'.cell? ⟨b2,1,none⟩=some (.slice (some ⟨bk,off,none⟩) ks.length ck)/\w'.rangeAt bk (off+q*32) (bts kq)/\w'.rangeAt b3 0 (bts key)) (refine⟨?_,?_,?_⟩<;>first | assumption | (exact D6 (by assumption) ((Upd.refl [] _).drew) (by simp)) | (exact F7 (by assumption) ((Upd.refl [] _).drew) (by simp)))
     (first | (go_at_call 138;(with_reducible refine(HLS.out _).mono ?_);rintro e w5 ⟨rfl,hu5⟩;have c15:=D6 (D6 c1 (Upd.refl [] _).drew (by simp)) hu5 (by simp);have rk5:=F7 (F7 rk (Upd.refl [] _).drew (by simp)) hu5 (by simp);have rkey5:=F7 (F7 rkey (Upd.refl [] _).drew (by simp)) hu5 (by simp);have hld5:=F8 rkey5 hkey;have HU5:=η hu5;clear hu5))
    all_goals
     go_wp2_with fail
     exact⟨⟨q+1,by omega,by go_num,λ p k hp e=>(by
      by_cases e2:p=q
      ·subst e2;rw[HKQ.out] at e;cases e;exact HLB.out
      ·exact HAll.out p k (by omega) e),(HUr.out.trans (Upd.refl [] _).drew).trans HU5.out⟩,by simp[intOf];omega⟩
  ·obtain rfl:q=ks.length:=by omega
   have hlt':decide ((ks.length:Int)<(ks.length:Int))=false:=by simp
   have hp:L5 ks key=ks.length:=Av6 (by omega) HAll.out (λ k e=>by rw[List.getElem?_eq_none (by omega)] at e;cases e);have hh:Q4 ks key=false:=by
    unfold Q4;rw[hp,List.getElem?_eq_none (by omega)];rfl
   have HP:=η hp;have HHH:=η hh;clear hp hh;go_wp2_with fail
   go_quiet (fail)
   all_goals
    go_wp2_with fail
    go_quiet (fail)
    all_goals
     go_wp2_with fail
     go_ret2;exact⟨by rw[HP.out,HHH.out];rfl,((HU.out.trans HUr.out).drewN _).drewN _⟩
def chK(ks:List (List UInt8))(key:List UInt8):Nat:=if Q4 ks key then L5 ks key+1 else L5 ks key
theorem Aq4{w:World}{vk vv vd:Value}(kd:Int){ks:List (List UInt8)}(hk:RRd w vk 32 (ks.map bts))(hl:∀k,k∈ks->k.length=32)(hn:ks.length<=100)(key:List UInt8)(hkey:key.length=32) :
  Calls Tryz.prog 135 #[.agg #[.int .i64 kd,vk,vv,vd],arr key] w λ e w'=>e=.returned (.int .i64 (chK ks key:Int))/\Upd [] w w':=by
 obtain⟨wA,hwA⟩:∃wA,wA=(w.alloc (.cells #[.int .i64 kd,vk,vv,vd] 220)).alloc (.cells (bts key).toArray 35):=⟨_,rfl⟩;have hu:Upd [] w wA:=by rw[hwA];exact((Upd.refl _ _).alloc _).alloc _
 have h1:wA.heap[w.heap.size]?=some (.cells #[.int .i64 kd,vk,vv,vd] 220 (0,0)):=by
  rw[hwA,A6 (by simp)];exact A4 _
 have h2:wA.heap[w.heap.size+1]?=some (.cells (bts key).toArray 35 (0,0)):=by
  rw[hwA];have:=A4 (w:=w.alloc (.cells #[.int .i64 kd,vk,vv,vd] 220)) (.cells (bts key).toArray 35);simpa using this
 have l1:=B8 (n:=4) (cs:=[.int .i64 kd,vk,vv,vd]) h1 rfl;have l2:=B8 (n:=32) h2 (by rw[A5,hkey]);have HF:=η (An1 (vv:=vv) (vd:=vd) kd (hk.keep hu (λ _ _ _ _=>by simp)) hl hn key hkey);have HU:=η hu;have HW:=η hwA;have hp:=An0 ks key;unfold chK;rw[hwA] at l1 l2;clear hk hu h1 h2 hwA;unfold arr at *;generalize L5 ks key=P at *;cases hh:Q4 ks key
 all_goals
  rw[hh] at HF;clear hh;go_enter Tryz.func135,Tryz.ntmps135
  go_wp2_with fail
  have hwA:=HW.out;rw[← hwA];clear hwA;refine HF.out.mono ?_;rintro e w1 ⟨rfl,hu⟩;go_wp2_with fail
  go_ret;exact⟨by go_num,HU.out.trans hu⟩
end Go.Proofs.YtgfbepakonjbnaaGreat
end
section
namespace Go.Proofs.YtgfbepakonjbnaaGreat
open Go.RowKit Go.MapKept Go.ChangeMaps
theorem Ay8{w:World}{v:Value}{l:List UInt8}(hr:Rd w v l)(a:Nat)(ai:Int)(hai:ai=(a:Int))(ha:a+4<=l.length)(hl:l.length<=1000) :
  Calls Tryz.prog 211 #[v,.int .i64 ai] w λ e w'=>e=.returned (.int .u32 (num l a 4:Int))/\w=w':=by
 subst hai;have hat:=Am2 v l a 4 w hr (by omega) (by omega) (by omega) (by omega);obtain⟨N,hN⟩:∃N:Int,N=(num l a 4:Int):=⟨_,rfl⟩;have hN0:0<=N:=by omega
 have hN1:N<4294967296:=by have:=Ap1 l a 4;omega
 have hwr:IntKind.u32.wrap N=N:=by rw[IntKind.wrap_u32];omega
 rw[← hN,show((4:Nat):Int)=4 from rfl] at hat;rw[← hN];have HAT:=η hat;clear hat hN hr;go_enter Tryz.func211,Tryz.ntmps211
 go_wp2_with fail
 refine HAT.out.mono ?_;rintro e w' ⟨rfl,rfl⟩;go_wp2_with fail
 go_ret;exact⟨rfl,rfl⟩
theorem Ce8(l:List UInt8)(i:Nat){y:Nat}(hy:y<256):(bts l).set i (.int .u8 (y:Int))=bts (l.set i (UInt8.ofNat y)):=by
 unfold bts;rw[List.map_set];congr 1
 unfold bv;rw[UInt8.toNat_ofNat',Nat.mod_eq_of_lt (by omega)]
theorem Z4{w:World}{b:Nat}{l:List UInt8}{T:TypeId}(h:w.heap[b]?=some (.cells (bts l).toArray T (0,0)))(i:Nat){y:Nat}(hy:y<256):(w.setCell ⟨b,i,none⟩ (.int .u8 (y:Int))).heap[b]?=some (.cells (bts (l.set i (UInt8.ofNat y))).toArray T (0,0)):=by
 rw[A8 h,αs,Ce8 _ _ hy]
theorem Bf2{w:World}{b:Nat}{l:List UInt8}{T:TypeId}(h:w.heap[b]?=some (.cells (bts l).toArray T (0,0))){i:Nat}(hi:i<l.length):w.cell? ⟨b,i,none⟩=some (.int .u8 ((l.getD i 0).toNat:Int))/\w.frozen? ⟨b,i,none⟩=false:=by
 refine⟨?_,B6 h i⟩;rw[A2 h,List.getElem?_toArray,bts,List.getElem?_map,List.getElem?_eq_getElem hi,List.getD_eq_getElem?_getD,List.getElem?_eq_getElem hi];rfl
theorem Bl3{w:World}{kb:Nat}{l:List UInt8}(hb:w.heap[kb]?=some (.cells (bts l).toArray 5 (0,0)))(hl:l.length=512)(c:Nat)(a:Nat)(ai:Int)(hai:ai=(a:Int))(ha:a+4<=512)(V:Nat) :
  Calls Tryz.prog 198 #[.slice (some ⟨kb,0,none⟩) 512 c,.int .i64 ai,.int .u32 (V:Int)] w λ e w'=>e=.returned (.tuple #[])/\w'.heap[kb]?=some (.cells (bts (put l a 4 V)).toArray 5 (0,0))/\Upd [kb] w w':=by
 subst hai;have HB:=η hb;clear hb;go_enter Tryz.func198,Tryz.ntmps198
 go_wp2_with fail
 go_loopw [7] (λ i wr=>∃q:Nat,q<=4/\i=.int .i64 (q:Int)/\wr.heap[kb]?=some (.cells (bts (Ah7 l a 4 V q)).toArray 5 (0,0))/\Upd [kb] w wr) (λ i _=>4-(intOf i).toNat)
 case atStart=>exact⟨0,by omega,rfl,by rw[Ag0];exact HB.out,Upd.refl _ _⟩
 case round=>
  obtain⟨q,hq,rfl,ho,hu⟩:=hrel;by_cases hlt:q<4
  ·have hlt':decide ((q:Int)<4)=true:=decide_eq_true (by omega);have hlen:(Ah7 l a 4 V q).length=512:=by rw[Aa7 (by omega) (by omega)];exact hl
   have hst:=Ag2 (b:=l) (a:=a) (n:=4) (v:=V) hlt (by omega);obtain⟨I,hI⟩:∃I,I=a+q:=⟨_,rfl⟩;have hIk:(a:Int)+(q:Int)=(I:Int):=by omega
   obtain⟨hcl,hf⟩:=Bf2 ho (i:=I) (by omega);obtain⟨Y,hY⟩:∃Y,Y=V / 256 ^ (4-1-q) % 256:=⟨_,rfl⟩;have o2:=Z4 ho I (y:=Y) (by omega);have eY:UInt8.ofNat Y=UInt8.ofNat (V / 256 ^ (4-1-q)):=by
    apply UInt8.toNat_inj.1;rw[UInt8.toNat_ofNat',UInt8.toNat_ofNat',hY];omega
   rw[eY,hI,hst,← hI] at o2;have u2:Upd [kb] wr (wr.setCell ⟨kb,I,none⟩ (.int .u8 (Y:Int))):=(Upd.refl _ _).set _ (by simp);have HO:=η o2;have HUx:=η (hu.trans u2);have i0:(0:Int)<=(I:Int):=by omega
   have i1:(I:Int)<512:=by omega
   have s0:decide ((24:Int)-8*(q:Int)<0)=false:=decide_eq_false (by omega);have hsh:(0:Int)<=24-8*(q:Int):=by omega
   have hsh2:24-8*(q:Int)<=24:=by omega
   have hYI:(V:Int) / 2 ^ (24-8*q) % 256=(Y:Int):=by
    have e1:(2:Int) ^ (24-8*q)=((256 ^ (4-1-q):Nat):Int):=by
     rw[show(256:Nat)=2 ^ 8 from rfl,← Nat.pow_mul,Int.natCast_pow,show 24-8*q=8*(4-1-q) from by omega];rfl
    rw[e1,hY];omega
   have HYI:=η hYI;clear ho hu hlen hst hI eY o2 u2 hYI hY;go_wp2_with fail
   exact⟨⟨q+1,by omega,by go_num,by rw[HYI.out];exact HO.out,by rw[HYI.out];exact HUx.out⟩,by simp[intOf];omega⟩
  ·obtain rfl:q=4:=by omega
   have hlt':decide (((4:Nat):Int)<4)=false:=rfl;rw[Ag1] at ho;have HO:=η ho;have HU:=η hu;clear ho hu;go_wp2_with fail
   go_end0
   exact⟨rfl,HO.out,HU.out⟩
theorem M5{l x:List UInt8}{a b n:Nat}(h:a+x.length<=l.length)(hd:b+n<=a∨a+x.length<=b):((G8 l a x).drop b).take n=(l.drop b).take n:=
 Au5 λ i h1 h2=>by rw[V5 h,if_neg (by omega)]
theorem T4{l x:List UInt8}{a:Nat}(h:a+x.length<=l.length):(G8 l a x).length=l.length:=by unfold G8;simp;omega
theorem Bp1{l x:List UInt8}{a i:Nat}(h:a+x.length<=l.length)(hi:i<a):(G8 l a x)[i]?=l[i]?:=by rw[V5 h,if_neg (by omega)]
def hdN(kd n:Nat):Sec:=(D9.set 0 (UInt8.ofNat kd)).set 1 (UInt8.ofNat n)
theorem Z5(kd n:Nat):(hdN kd n).length=512:=by unfold hdN;rw[List.length_set,List.length_set,B9]
theorem Cz0(kd n:Nat):(hdN kd n)[0]?=some (UInt8.ofNat kd):=by
 unfold hdN;rw[List.getElem?_set_ne (by omega),List.getElem?_set_self (by rw[B9];omega)]
theorem Cz1(kd n:Nat):(hdN kd n)[1]?=some (UInt8.ofNat n):=by
 unfold hdN;rw[List.getElem?_set_self (by rw[List.length_set,B9];omega)]
abbrev Bs:=List UInt8
def Aj8(ks vs:List Bs):Nat->Sec
 | 0=>hdN 1 ks.length
 | k+1=>G8 (G8 (Aj8 ks vs k) (8+48*k) (ks.getD k [])) (8+48*k+32) (vs.getD k [])
def Z6(ks:List Bs)(ds:List Nat):Nat->Sec
 | 0=>put (hdN 2 ks.length) 8 4 (ds.getD 0 0)
 | k+1=>put (G8 (Z6 ks ds k) (12+36*k) (ks.getD k [])) (12+36*k+32) 4 (ds.getD (k+1) 0)
structure Q5(ks vs:List Bs):Prop where
 k:∀x,x∈ks->x.length=32
 v:∀x,x∈vs->x.length=16
 n:vs.length=ks.length
 most:ks.length<=10
structure P8(ks:List Bs)(ds:List Nat):Prop where
 k:∀x,x∈ks->x.length=32
 d:∀x,x∈ds->x<4294967296
 n:ds.length=ks.length+1
 most:ks.length<=13
theorem V8{ls:List Bs}{n:Nat}(h:∀x,x∈ls->x.length=n){k:Nat}(hk:k<ls.length):(ls.getD k []).length=n:=by
 rw[List.getD_eq_getElem?_getD,List.getElem?_eq_getElem hk];exact h _ (List.getElem_mem hk)
section
variable {ks vs:List Bs} {ds:List Nat}
theorem R7(h:Q5 ks vs):∀{k:Nat},k<=ks.length->(Aj8 ks vs k).length=512
 | 0,_=>Z5 _ _
 | k+1,hk=>by
  have ih:=R7 h (k:=k) (by omega);have h1:=V8 h.k (k:=k) (by omega);have h2:=V8 h.v (k:=k) (by rw[h.n];omega);have:=h.most;show(G8 (G8 _ _ _) _ _).length=512
  rw[T4 (by rw[T4 (by omega)];omega),T4 (by omega)];exact ih
theorem Av7(h:Q5 ks vs){i:Nat}(hi:i<8):∀{k:Nat},k<=ks.length->(Aj8 ks vs k)[i]?=(hdN 1 ks.length)[i]?
 | 0,_=>rfl
 | k+1,hk=>by
  have ih:=Av7 h hi (k:=k) (by omega);have hl:=R7 h (k:=k) (by omega);have h1:=V8 h.k (k:=k) (by omega);have h2:=V8 h.v (k:=k) (by rw[h.n];omega);have:=h.most;show(G8 (G8 _ _ _) _ _)[i]?=_
  rw[Bp1 (by rw[T4 (by omega)];omega) (by omega),Bp1 (by omega) (by omega)];exact ih
theorem Bv8(h:Q5 ks vs){j:Nat}:∀{k:Nat},k<=ks.length->j<k->((Aj8 ks vs k).drop (8+48*j)).take 32=ks.getD j []/\((Aj8 ks vs k).drop (8+48*j+32)).take 16=vs.getD j []
 | 0,_,hj=>by omega
 | k+1,hk,hj=>by
  have hl:=R7 h (k:=k) (by omega);have h1:=V8 h.k (k:=k) (by omega);have h2:=V8 h.v (k:=k) (by rw[h.n];omega);have hm:=h.most;have e1:8+48*k+(ks.getD k []).length<=(Aj8 ks vs k).length:=by omega
  have e2:8+48*k+32+(vs.getD k []).length<=(G8 (Aj8 ks vs k) (8+48*k) (ks.getD k [])).length:=by rw[T4 e1];omega
  show((G8 (G8 _ _ _) _ _).drop _).take _=_/\((G8 (G8 _ _ _) _ _).drop _).take _=_
  by_cases hjk:j=k
  ·subst hjk;refine⟨?_,?_⟩
   ·rw[M5 e2 (.inl (by omega))];have:=Ar6 e1;rw[h1] at this;exact this
   ·have:=Ar6 e2;rw[h2] at this;exact this
  ·obtain⟨i1,i2⟩:=Bv8 h (k:=k) (j:=j) (by omega) (by omega);refine⟨?_,?_⟩
   ·rw[M5 e2 (.inl (by omega)),M5 e1 (.inl (by omega))];exact i1
   ·rw[M5 e2 (.inl (by omega)),M5 e1 (.inl (by omega))];exact i2
theorem M6(h:P8 ks ds):∀{k:Nat},k<=ks.length->(Z6 ks ds k).length=512
 | 0,_=>by show(put _ _ _ _).length=512;rw[Ac9 (by rw[Z5];omega)];exact Z5 _ _
 | k+1,hk=>by
  have ih:=M6 h (k:=k) (by omega);have h1:=V8 h.k (k:=k) (by omega);have:=h.most;show(put (G8 _ _ _) _ _ _).length=512
  rw[Ac9 (by rw[T4 (by omega)];omega),T4 (by omega)];exact ih
theorem Aq5(h:P8 ks ds){i:Nat}(hi:i<8):∀{k:Nat},k<=ks.length->(Z6 ks ds k)[i]?=(hdN 2 ks.length)[i]?
 | 0,_=>by show(put _ _ _ _)[i]?=_;rw[Ae8 _ (by rw[Z5];omega),if_neg (by omega)]
 | k+1,hk=>by
  have ih:=Aq5 h hi (k:=k) (by omega);have hl:=M6 h (k:=k) (by omega);have h1:=V8 h.k (k:=k) (by omega);have:=h.most;show(put (G8 _ _ _) _ _ _)[i]?=_
  rw[Ae8 _ (by rw[T4 (by omega)];omega),if_neg (by omega),Bp1 (by omega) (by omega)];exact ih
theorem At0(h:P8 ks ds):∀{k:Nat},k<=ks.length->num (Z6 ks ds k) 8 4=ds.getD 0 0
 | 0,_=>by
  have hd:ds.getD 0 0<256 ^ 4:=by
   rw[List.getD_eq_getElem?_getD,List.getElem?_eq_getElem (by rw[h.n];omega)];exact h.d _ (List.getElem_mem _)
  exact O8 (by rw[Z5];omega) hd
 | k+1,hk=>by
  have ih:=At0 h (k:=k) (by omega);have hl:=M6 h (k:=k) (by omega);have h1:=V8 h.k (k:=k) (by omega);have:=h.most;show num (put (G8 _ _ _) _ _ _) _ _=_
  rw[E3 _ (by rw[T4 (by omega)];omega) (.inl (by omega)),← ih];unfold num;rw[M5 (by omega) (.inl (by omega))]
theorem Bl4(h:P8 ks ds){j:Nat}:∀{k:Nat},k<=ks.length->j<k->((Z6 ks ds k).drop (12+36*j)).take 32=ks.getD j []/\num (Z6 ks ds k) (12+36*j+32) 4=ds.getD (j+1) 0
 | 0,_,hj=>by omega
 | k+1,hk,hj=>by
  have hl:=M6 h (k:=k) (by omega);have h1:=V8 h.k (k:=k) (by omega);have hm:=h.most;have e1:12+36*k+(ks.getD k []).length<=(Z6 ks ds k).length:=by omega
  have e2:12+36*k+32+4<=(G8 (Z6 ks ds k) (12+36*k) (ks.getD k [])).length:=by rw[T4 e1];omega
  show((put (G8 _ _ _) _ _ _).drop _).take _=_/\num (put (G8 _ _ _) _ _ _) _ _=_
  by_cases hjk:j=k
  ·subst hjk;refine⟨?_,?_⟩
   ·rw[Ar5,M5 (by rw[E5];exact e2) (.inl (by omega))];have:=Ar6 e1;rw[h1] at this;exact this
   ·refine O8 e2 ?_;rw[List.getD_eq_getElem?_getD,List.getElem?_eq_getElem (by rw[h.n];omega)];exact h.d _ (List.getElem_mem _)
  ·obtain⟨i1,i2⟩:=Bl4 h (k:=k) (j:=j) (by omega) (by omega);refine⟨?_,?_⟩
   ·rw[Ar5,M5 (by rw[E5];exact e2) (.inl (by omega)),M5 e1 (.inl (by omega))];exact i1
   ·rw[E3 _ e2 (.inl (by omega)),← i2];unfold num;rw[M5 e1 (.inl (by omega))]
end
def E8(ks vs:List Bs):Sec:=Aj8 ks vs ks.length
def C9(ks:List Bs)(ds:List Nat):Sec:=Z6 ks ds ks.length
end Go.Proofs.YtgfbepakonjbnaaGreat
end
end
section
section
namespace Go.Proofs.YtgfbepakonjbnaaGreat
open Go.RowKit Go.MapKept Go.ChangeMaps
attribute [-go_sem] loadCells
theorem At1(l:List UInt8):(bts l).toArray.all (·.oneCell')=true:=all_oneCell_toArray (G5 l)
theorem Af2(w:World){l:List UInt8}(hl:l.length=32):(storeCells ⟨w.heap.size,0,none⟩ (bts l) 0).run Tryz.prog (w.alloc (.cells #[.int .u8 0,.int .u8 0,.int .u8 0,.int .u8 0,.int .u8 0,.int .u8 0,.int .u8 0,.int .u8 0,.int .u8 0,.int .u8 0,.int .u8 0,.int .u8 0,.int .u8 0,.int .u8 0,.int .u8 0,.int .u8 0,.int .u8 0,.int .u8 0,.int .u8 0,.int .u8 0,.int .u8 0,.int .u8 0,.int .u8 0,.int .u8 0,.int .u8 0,.int .u8 0,.int .u8 0,.int .u8 0,.int .u8 0,.int .u8 0,.int .u8 0,.int .u8 0] 35))=.ok () (w.alloc (.cells (bts l).toArray 35)):=by
 have:=run_storeCells_from (P:=Tryz.prog) w.heap.size 35 (bts l) 0 #[.int .u8 0,.int .u8 0,.int .u8 0,.int .u8 0,.int .u8 0,.int .u8 0,.int .u8 0,.int .u8 0,.int .u8 0,.int .u8 0,.int .u8 0,.int .u8 0,.int .u8 0,.int .u8 0,.int .u8 0,.int .u8 0,.int .u8 0,.int .u8 0,.int .u8 0,.int .u8 0,.int .u8 0,.int .u8 0,.int .u8 0,.int .u8 0,.int .u8 0,.int .u8 0,.int .u8 0,.int .u8 0,.int .u8 0,.int .u8 0,.int .u8 0,.int .u8 0] _ (A4 _) (by rw[A5,hl];rfl) (G5 l);rw[this,V0];congr 3
theorem Cb9{W:World}{kb I N C n:Nat}{l x:List UInt8}{v:Value}(hb:W.heap[kb]?=some (.cells (bts l).toArray 5 (0,0)))(hr:Rd W v x)(hI:I+N<=l.length)(hx:x.length<=N)(hn:n=x.length) :
  ∃W9,(∀ty,(Builtin.copy_ #[32,32] ty #[.slice (some ⟨kb,I,none⟩) N C,v]).run Tryz.prog W=.ok (.int .i64 (n:Int)) W9)/\W9.heap[kb]?=some (.cells (bts (G8 l I x)).toArray 5 (0,0))/\Upd [kb] W W9:=by
 have hrun:=λ ty=>X5 (P:=Tryz.prog) (dT:=32) (sT:=32) (ty:=ty) (u8:=5) Tryz.underlying32 Ao8 kb I N C (bts l) hb (by rw[A5];omega) hr;rw[Nat.min_eq_left hx,List.take_of_length_le hx,← hn] at hrun;refine⟨_,hrun,?_,?_⟩
 ·rw[setRow_heap _ _ _ _ _ _ hb];congr 2
  unfold G8 splice;simp[bts,List.map_drop,List.map_take]
 ·exact⟨rfl,rfl,rfl,by simp,λ q _ hq=>by rw[setRow_other _ _ _ _ (by simpa using hq)]⟩
def K9(M:Nat->Option Sec)(i:Nat)(s:Sec):Nat->Option Sec:=λ k=>if k=i then some s else M k
theorem Cs0{w:World}{b o n:Nat}{l:List UInt8}(h:w.rangeAt b o (bts l))(hl:l.length=n):Rd w (.slice (some ⟨b,o,none⟩) n n) l:=by
 subst hl;refine⟨_,_,rfl,Nat.le_refl _,λ hp=>⟨b,o,rfl,λ i hi=>h i _ ?_⟩⟩;simp[bts,hi]
def KRd(w:World)(v:Value)(ds:List Nat):Prop:=
 ∃ao cap,v=.slice ao ds.length cap/\ds.length<=cap/\(0<ds.length->∃b off,ao=some ⟨b,off,none⟩/\∀(i d:Nat),ds[i]?=some d->w.cell? ⟨b,off+i,none⟩=some (.int .u32 (d:Int)))
theorem KRd.keep{w w':World}{v:Value}{ds:List Nat}(h:KRd w v ds){S:List Nat}(hu:Upd S w w')(hS:∀a l c,v=.slice (some a) l c->a.block∉S):KRd w' v ds:=by
 obtain⟨ao,cap,rfl,hc,hh⟩:=h;refine⟨ao,cap,rfl,hc,λ hp=>?_⟩;obtain⟨b,off,rfl,hr⟩:=hh hp;exact⟨b,off,rfl,λ i e he=>D6 (hr i e he) hu (hS ⟨b,off,none⟩ _ _ rfl)⟩
theorem KRd.shape{w:World}{v:Value}{ds:List Nat}(h:KRd w v ds):∃a c,v=.slice a ds.length c:=by
 obtain⟨ao,cap,rfl,_⟩:=h;exact⟨_,_,rfl⟩
theorem O3{w:World}{b:Nat}{x0 x1 x2 x3:Value}{T:TypeId}{fr:Nat × Nat}(h:w.heap[b]?=some (.cells #[x0,x1,x2,x3] T fr)):w.cell? ⟨b,0,none⟩=some x0/\w.cell? ⟨b,1,none⟩=some x1/\w.cell? ⟨b,2,none⟩=some x2/\w.cell? ⟨b,3,none⟩=some x3:=by
 refine⟨?_,?_,?_,?_⟩<;>(rw[A2 h];rfl)
theorem Aj2{w:World}{g:Sg}{M:Nat->Option Sec}(h:B7 w g M){vk vv vd:Value}{ks vs:List Bs}(hk:RRd w vk 32 (ks.map bts))(hv:RRd w vv 16 (vs.map bts))(hok:Q5 ks vs)(at_:Nat)(hat:at_<g.h)(hat2:at_<4294967296)(hc:(M at_).isSome=true∨E1 M g.h<40) :
  Calls Tryz.prog 127 #[.agg #[.int .i64 1,vk,vv,vd],.pointer (some ⟨g.x.tb,0,none⟩),.int .u32 (at_:Int)] w λ e w'=>e=.returned (.int .i64 0)/\B7 w' g (K9 M at_ (E8 ks vs))/\Upd [g.x.wb] w w':=by
 obtain⟨ak,ck,rfl⟩:=hk.shape;obtain⟨av,cv,rfl⟩:=hv.shape;simp only[List.length_map] at hk hv ⊢;have hmk:=L0;obtain⟨wA,hwA⟩:∃wA,wA=(w.alloc (.cells #[.int .i64 1,.slice ak ks.length ck,.slice av vs.length cv,vd] 220)).alloc (.cells (bts D9).toArray 5):=⟨_,rfl⟩;have hu:Upd [] w wA:=by rw[hwA];exact((Upd.refl _ _).alloc _).alloc _
 obtain⟨b3,hb3⟩:∃b,b=w.heap.size:=⟨_,rfl⟩;obtain⟨kb,hkb⟩:∃b,b=w.heap.size+1:=⟨_,rfl⟩;have h1:wA.heap[b3]?=some (.cells #[.int .i64 1,.slice ak ks.length ck,.slice av vs.length cv,vd] 220 (0,0)):=by
  rw[hwA,hb3,A6 (by simp)];exact A4 _
 have h2:wA.heap[kb]?=some (.cells (bts D9).toArray 5 (0,0)):=by
  rw[hwA,hkb];have:=A4 (w:=w.alloc (.cells #[.int .i64 1,.slice ak ks.length ck,.slice av vs.length cv,vd] 220)) (.cells (bts D9).toArray 5);simpa using this
 have hw1:(w.alloc (.cells #[.int .i64 1,.slice ak ks.length ck,.slice av vs.length cv,vd] 220)).heap.size=kb:=by rw[hkb];simp
 have HW:=η hwA;have HB3:=η hb3;have HKB:=η hkb;have HH:=η h;have HK:=η hk;have HV:=η hv;have HOK:=η hok;have HC:=η hc;have HU:=η hu;have H1:=η h1;have H2:=η h2;have hn:=hok.most;clear h hk hv hok hc hu h1 h2 hwA hb3 hkb;go_enter Tryz.func127,Tryz.ntmps127
 go_upto_region 2 with(fail)
 have hwA:=HW.out;have hb3:=HB3.out;have hkb:=HKB.out;try rw[← hwA]
 try rw[← hkb]
 try rw[← hb3]
 clear hwA hkb hb3 hmk hw1;have n0:wA.cell? ⟨b3,0,none⟩=some (.int .i64 1):=by rw[A2 H1.out];rfl
 have n1:wA.cell? ⟨b3,1,none⟩=some (.slice ak ks.length ck):=by rw[A2 H1.out];rfl
 obtain⟨z0,f0⟩:=Bf2 H2.out (i:=0) (by rw[B9];omega);obtain⟨z1,f1⟩:=Bf2 H2.out (i:=1) (by rw[B9];omega);have hwn:IntKind.u8.wrap (ks.length:Int)=(ks.length:Int):=by rw[IntKind.wrap_u8];omega
 have hne:b3≠kb:=by have:=HB3.out;have:=HKB.out;omega
 go_cut [] (λ wy=>wy.heap[kb]?=some (.cells (bts (hdN 1 ks.length)).toArray 5 (0,0))/\Upd [kb] wA wy)
 case first=>
  go_region
  all_goals
   go_wp2_with fail
   go_meet
   have o2:=Z4 (Z4 H2.out 0 (y:=1) (by omega)) 1 (y:=ks.length) (by omega);exact⟨o2,(((Upd.refl _ _).set _ (.inl (by simp))).set _ (.inl (by simp))).drew⟩
 case rest=>
  rename World=>wy
  obtain⟨hy,huy⟩:=hcut;have m0:=D6 n0 huy (by simpa using hne);have m1:=D6 n1 huy (by simpa using hne);have HY:=η hy;have HUY:=η huy;have hkw:w.heap.size<=kb:=by have:=HKB.out;omega
  clear hy huy n0 n1 z0 f0 z1 f1 hwn;go_wp2_with fail
  go_loopw [34] (λ i wr=>∃q:Nat,q<=ks.length/\i=.int .i64 (q:Int)/\wr.heap[kb]?=some (.cells (bts (Aj8 ks vs q)).toArray 5 (0,0))/\Upd [kb] wA wr) (λ i _=>ks.length-(intOf i).toNat)
  case atStart=>exact⟨0,Nat.zero_le _,rfl,HY.out,HUY.out⟩
  case round=>
   obtain⟨q,hq,rfl,hb,hu⟩:=hrel;have hB3:=(hu.block _ (A3 H1.out) (by simpa using hne)).trans H1.out;have huw:=HU.out.late hu (λ k hk=>by simp at hk;subst hk;exact .inr hkw);have HB:=η hb;have HUr:=η hu;have HUw:=η huw;have HB3r:=η hB3;clear hb hu huw hB3 m0 m1;by_cases hlt:q<ks.length
   ·have hlt':decide ((q:Int)<(ks.length:Int))=true:=decide_eq_true (by omega);have hlt2:decide (q<ks.length)=true:=decide_eq_true hlt;obtain⟨n0,n1,n2,-⟩:=O3 HB3r.out;obtain⟨ao,cap,he,_,hh⟩:=HK.out;simp only[List.length_map] at he hh;cases he
    obtain⟨bk,off,rfl,hr⟩:=hh (by omega);have hkq:ks[q]?=some ks[q]:=List.getElem?_eq_getElem hlt;have rk:=F7 (hr q (bts ks[q]) (by rw[List.getElem?_map,hkq];rfl)) HUw.out (by simp);clear hh hr;obtain⟨ao,cap,he,_,hh⟩:=HV.out;simp only[List.length_map] at he hh;cases he
    have hnv:=HOK.out.n;obtain⟨bvv,offv,rfl,hr⟩:=hh (by omega);have hvq:vs[q]?=some vs[q]:=List.getElem?_eq_getElem (by omega);have rv:=hr q (bts vs[q]) (by rw[List.getElem?_map,hvq];rfl);have hlk:=HOK.out.k _ (List.getElem_mem hlt);have hlv:=HOK.out.v _ (List.getElem_mem (show q<vs.length by omega));have hgk:ks.getD q []=ks[q]:=by rw[List.getD_eq_getElem?_getD,hkq];rfl
    have hgv:vs.getD q []=vs[q]:=by rw[List.getD_eq_getElem?_getD,hvq];rfl
    clear hh hr;generalize ks[q]=kq at *;generalize vs[q]=vq at *;have hll:=R7 HOK.out (k:=q) (by omega);obtain⟨I1,hI1⟩:∃I,I=8+48*q:=⟨_,rfl⟩;obtain⟨I2,hI2⟩:∃I,I=I1+32:=⟨_,rfl⟩;have hi1:8+48*(q:Int)=(I1:Int):=by omega
    have hi2:(I1:Int)+32=(I2:Int):=by omega
    have hi3:I2<=512:=by omega
    obtain⟨wB,hwB⟩:∃wB,wB=wr.alloc (.cells (bts kq).toArray 35):=⟨_,rfl⟩;obtain⟨b9,hb9⟩:∃b,b=wr.heap.size:=⟨_,rfl⟩;have uB:Upd [kb] wr wB:=by rw[hwB];exact(Upd.refl _ _).alloc _
    have hbB:wB.drew.heap[kb]?=some (.cells (bts (Aj8 ks vs q)).toArray 5 (0,0)):=by
     show wB.heap[kb]?=_
     rw[hwB,A6 (A3 HB.out)];exact HB.out
    have hb9B:wB.drew.heap[b9]?=some (.cells (bts kq).toArray 35 (0,0)):=by
     show wB.heap[b9]?=_
     rw[hwB,hb9];exact A4 _
    obtain⟨w9,hrun9,h9,hu9⟩:=Cb9 (I:=I1) (N:=512-I1) (C:=512-I1) (n:=32) hbB (Bp0 hb9B hlk) (by omega) (by omega) hlk.symm;have hld:=F8 rk hlk;have HWB:=η hwB;have HB9:=η hb9;have HU9:=η hu9;have H9:=η h9;have HGK:=η hgk;have HGV:=η hgv;have HI1:=η hI1;have HI2:=η hI2;have i0:(0:Int)<=(q:Int):=by omega
    have i1:(q:Int)<(ks.length:Int):=by omega
    have j0:(0:Int)<=(I1:Int):=by omega
    have j1:(I1:Int)<=512:=by omega
    have UB:=η uB;have RV:=η rv;clear hwB hb9 hu9 h9 hgk hgv hI1 hI2 uB rv hbB hb9B;have hst:=Af2 wr hlk;have n0':(wr.alloc (.cells (bts kq).toArray 35)).cell? ⟨b3,0,none⟩=some (.int .i64 1):=D6 n0 ((Upd.refl [] _).alloc _) (by simp);go_wp2_with fail
    have hwB:=HWB.out;have hb9:=HB9.out;rw[← hwB,← hb9];clear hwB hb9;go_region
    all_goals
     have u9:=((HUr.out.trans UB.out).drew).trans HU9.out;have m2:w9.cell? ⟨b3,2,none⟩=some (.slice (some ⟨bvv,offv,none⟩) vs.length cv):=by
      rw[A2 ((u9.block _ (A3 H1.out) (by simpa using hne)).trans H1.out)];rfl
     have hb9d:w9.drew.heap[kb]?=some (.cells (bts (G8 (Aj8 ks vs q) I1 kq)).toArray 5 (0,0)):=H9.out;have rv9:w9.drew.rangeAt bvv (offv+q*16) (bts vq):=F7 RV.out (HU.out.late u9 (λ k hk=>by simp at hk;subst hk;exact .inr hkw)).drew (by simp);have hI2:=HI2.out;obtain⟨w10,hrun10,h10,hu10⟩:=Cb9 (I:=I2) (N:=512-I2) (C:=512-I2) (n:=16) hb9d (Cs0 rv9 hlv) (by rw[T4 (by omega)];omega) (by omega) hlv.symm;have HU10:=η (u9.drew.trans hu10);have H10:=η h10;have j2:(0:Int)<=(I2:Int):=by omega
     have j3:(I2:Int)<=512:=by omega
     have i3:(q:Int)<(vs.length:Int):=by have:=HOK.out.n;omega
     clear u9 hb9d rv9 h10 hu10 hrun9 hI2;go_wp2_with fail
     go_region
     all_goals
      go_wp2_with fail
      refine⟨⟨q+1,by omega,by go_num,?_,HU10.out⟩,by simp[intOf];omega⟩;show w10.heap[kb]?=some (.cells (bts (G8 (G8 (Aj8 ks vs q) (8+48*q) (ks.getD q [])) (8+48*q+32) (vs.getD q []))).toArray 5 (0,0))
      rw[HGK.out,HGV.out,← HI1.out,← HI2.out];exact H10.out
   ·obtain rfl:q=ks.length:=by omega
    have hlt':decide ((ks.length:Int)<(ks.length:Int))=false:=by simp
    have hll:=R7 HOK.out (k:=ks.length) (Nat.le_refl _);have HWR:=η (Ai9 (HH.out.below HUw.out) at_ hat (.slice (some ⟨kb,0,none⟩) 512 512) (E8 ks vs) (I8 HB.out hll) hll HC.out);clear hll;go_wp2_with fail
    refine HWR.out.mono ?_;rintro e w' ⟨rfl,h',hu'⟩;have H':=η h';have HU':=η ((HUw.out.mono (by simp)).trans hu');clear h' hu';go_wp2_with fail
    go_ret;exact⟨rfl,H'.out,HU'.out⟩
theorem Al5{w:World}{g:Sg}{M:Nat->Option Sec}(h:B7 w g M){vk vv vd:Value}{ks:List Bs}{ds:List Nat}(hk:RRd w vk 32 (ks.map bts))(hv:KRd w vd ds)(hok:P8 ks ds)(at_:Nat)(hat:at_<g.h)(hat2:at_<4294967296)(hc:(M at_).isSome=true∨E1 M g.h<40) :
  Calls Tryz.prog 127 #[.agg #[.int .i64 2,vk,vv,vd],.pointer (some ⟨g.x.tb,0,none⟩),.int .u32 (at_:Int)] w λ e w'=>e=.returned (.int .i64 0)/\B7 w' g (K9 M at_ (C9 ks ds))/\Upd [g.x.wb] w w':=by
 obtain⟨ak,ck,rfl⟩:=hk.shape;obtain⟨av,cv,rfl⟩:=hv.shape;simp only[List.length_map] at hk ⊢;have hmk:=L0;obtain⟨wA,hwA⟩:∃wA,wA=(w.alloc (.cells #[.int .i64 2,.slice ak ks.length ck,vv,.slice av ds.length cv] 220)).alloc (.cells (bts D9).toArray 5):=⟨_,rfl⟩;have hu:Upd [] w wA:=by rw[hwA];exact((Upd.refl _ _).alloc _).alloc _
 obtain⟨b3,hb3⟩:∃b,b=w.heap.size:=⟨_,rfl⟩;obtain⟨kb,hkb⟩:∃b,b=w.heap.size+1:=⟨_,rfl⟩;have h1:wA.heap[b3]?=some (.cells #[.int .i64 2,.slice ak ks.length ck,vv,.slice av ds.length cv] 220 (0,0)):=by
  rw[hwA,hb3,A6 (by simp)];exact A4 _
 have h2:wA.heap[kb]?=some (.cells (bts D9).toArray 5 (0,0)):=by
  rw[hwA,hkb];have:=A4 (w:=w.alloc (.cells #[.int .i64 2,.slice ak ks.length ck,vv,.slice av ds.length cv] 220)) (.cells (bts D9).toArray 5);simpa using this
 have hw1:(w.alloc (.cells #[.int .i64 2,.slice ak ks.length ck,vv,.slice av ds.length cv] 220)).heap.size=kb:=by rw[hkb];simp
 have HW:=η hwA;have HB3:=η hb3;have HKB:=η hkb;have HH:=η h;have HK:=η hk;have HV:=η hv;have HOK:=η hok;have HC:=η hc;have HU:=η hu;have H1:=η h1;have H2:=η h2;have hn:=hok.most;clear h hk hv hok hc hu h1 h2 hwA hb3 hkb;go_enter Tryz.func127,Tryz.ntmps127
 go_upto_region 2 with(fail)
 have hwA:=HW.out;have hb3:=HB3.out;have hkb:=HKB.out;try rw[← hwA]
 try rw[← hkb]
 try rw[← hb3]
 clear hwA hkb hb3 hmk hw1;have n0:wA.cell? ⟨b3,0,none⟩=some (.int .i64 2):=by rw[A2 H1.out];rfl
 have n1:wA.cell? ⟨b3,1,none⟩=some (.slice ak ks.length ck):=by rw[A2 H1.out];rfl
 obtain⟨z0,f0⟩:=Bf2 H2.out (i:=0) (by rw[B9];omega);obtain⟨z1,f1⟩:=Bf2 H2.out (i:=1) (by rw[B9];omega);have hwn:IntKind.u8.wrap (ks.length:Int)=(ks.length:Int):=by rw[IntKind.wrap_u8];omega
 have hne:b3≠kb:=by have:=HB3.out;have:=HKB.out;omega
 go_cut [] (λ wy=>wy.heap[kb]?=some (.cells (bts (hdN 2 ks.length)).toArray 5 (0,0))/\Upd [kb] wA wy)
 case first=>
  go_region
  all_goals
   go_wp2_with fail
   go_meet
   have o2:=Z4 (Z4 H2.out 0 (y:=2) (by omega)) 1 (y:=ks.length) (by omega);exact⟨o2,(((Upd.refl _ _).set _ (.inl (by simp))).set _ (.inl (by simp))).drew⟩
 case rest=>
  rename World=>wy
  obtain⟨hy,huy⟩:=hcut;have m0:=D6 n0 huy (by simpa using hne);have m1:=D6 n1 huy (by simpa using hne);have hkw:w.heap.size<=kb:=by have:=HKB.out;omega
  have m3:wy.cell? ⟨b3,3,none⟩=some (.slice av ds.length cv):=by rw[A2 ((huy.block _ (A3 H1.out) (by simpa using hne)).trans H1.out)];rfl
  obtain⟨ao,cap,he,_,hh⟩:=HV.out;cases he
  have hnd:=HOK.out.n;obtain⟨bd,offd,rfl,hr⟩:=hh (by omega);obtain⟨d0,hd0⟩:∃d,ds[0]?=some d:=⟨_,List.getElem?_eq_getElem (by omega)⟩;have hgd:ds.getD 0 0=d0:=by rw[List.getD_eq_getElem?_getD,hd0];rfl
  have k0:=D6 (hr 0 d0 hd0) (HU.out.late huy (λ k hk=>by simp at hk;subst hk;exact .inr hkw)) (by simp);rw[Nat.add_zero] at k0;have HRD:Hid (∀(i d:Nat),ds[i]?=some d->w.cell? ⟨bd,offd+i,none⟩=some (.int .u32 (d:Int))):=by show ∀(i d:Nat),_;exact hr
  have HLAY:=η (Bl3 hy (Z5 _ _) 512 8 8 rfl (by omega) d0);have i9:(0:Int)<(ds.length:Int):=by omega
  have HGD:=η hgd;have HUY:=η huy;clear hy huy n0 n1 z0 f0 z1 f1 hwn hnd hh hr hd0 hgd;go_wp2_with fail
  refine HLAY.out.mono ?_;rintro e wz ⟨rfl,hz,huz⟩;have HZ:Hid (wz.heap[kb]?=some (.cells (bts (Z6 ks ds 0)).toArray 5 (0,0))):=by
   show wz.heap[kb]?=some (.cells (bts (put (hdN 2 ks.length) 8 4 (ds.getD 0 0))).toArray 5 (0,0))
   rw[HGD.out];exact hz
  have m0':=D6 m0 huz (by simpa using hne);have m1':=D6 m1 huz (by simpa using hne);have HUZ:=η (HUY.out.trans huz);clear hz huz m0 m1 m3 k0;go_wp2_with fail
  go_loopw [34] (λ i wr=>∃q:Nat,q<=ks.length/\i=.int .i64 (q:Int)/\wr.heap[kb]?=some (.cells (bts (Z6 ks ds q)).toArray 5 (0,0))/\Upd [kb] wA wr) (λ i _=>ks.length-(intOf i).toNat)
  case atStart=>exact⟨0,Nat.zero_le _,rfl,HZ.out,HUZ.out⟩
  case round=>
   obtain⟨q,hq,rfl,hb,hu⟩:=hrel;have hB3:=(hu.block _ (A3 H1.out) (by simpa using hne)).trans H1.out;have huw:=HU.out.late hu (λ k hk=>by simp at hk;subst hk;exact .inr hkw);have HB:=η hb;have HUr:=η hu;have HUw:=η huw;have HB3r:=η hB3;clear hb hu huw hB3 m0' m1';by_cases hlt:q<ks.length
   ·have hlt':decide ((q:Int)<(ks.length:Int))=true:=decide_eq_true (by omega);have hlt2:decide (q<ks.length)=true:=decide_eq_true hlt;obtain⟨n0,n1,-,n3⟩:=O3 HB3r.out;obtain⟨ao,cap,he,_,hh⟩:=HK.out;simp only[List.length_map] at he hh;cases he
    obtain⟨bk,off,rfl,hr⟩:=hh (by omega);have hkq:ks[q]?=some ks[q]:=List.getElem?_eq_getElem hlt;have rk:=F7 (hr q (bts ks[q]) (by rw[List.getElem?_map,hkq];rfl)) HUw.out (by simp);clear hh hr;have hnd:=HOK.out.n;obtain⟨dq,hdq⟩:∃d,ds[q+1]?=some d:=⟨_,List.getElem?_eq_getElem (by omega)⟩;have kd:=HRD.out _ _ hdq;have hgv:ds.getD (q+1) 0=dq:=by rw[List.getD_eq_getElem?_getD,hdq];rfl
    have hlk:=HOK.out.k _ (List.getElem_mem hlt);have hgk:ks.getD q []=ks[q]:=by rw[List.getD_eq_getElem?_getD,hkq];rfl
    clear hdq hnd;generalize ks[q]=kq at *;have hll:=M6 HOK.out (k:=q) (by omega);obtain⟨I1,hI1⟩:∃I,I=12+36*q:=⟨_,rfl⟩;obtain⟨I2,hI2⟩:∃I,I=I1+32:=⟨_,rfl⟩;have hi1:12+36*(q:Int)=(I1:Int):=by omega
    have hi2:(I1:Int)+32=(I2:Int):=by omega
    have hi3:I2+4<=512:=by omega
    obtain⟨wB,hwB⟩:∃wB,wB=wr.alloc (.cells (bts kq).toArray 35):=⟨_,rfl⟩;obtain⟨b9,hb9⟩:∃b,b=wr.heap.size:=⟨_,rfl⟩;have uB:Upd [kb] wr wB:=by rw[hwB];exact(Upd.refl _ _).alloc _
    have hbB:wB.drew.heap[kb]?=some (.cells (bts (Z6 ks ds q)).toArray 5 (0,0)):=by
     show wB.heap[kb]?=_
     rw[hwB,A6 (A3 HB.out)];exact HB.out
    have hb9B:wB.drew.heap[b9]?=some (.cells (bts kq).toArray 35 (0,0)):=by
     show wB.heap[b9]?=_
     rw[hwB,hb9];exact A4 _
    obtain⟨w9,hrun9,h9,hu9⟩:=Cb9 (I:=I1) (N:=512-I1) (C:=512-I1) (n:=32) hbB (Bp0 hb9B hlk) (by omega) (by omega) hlk.symm;have hld:=F8 rk hlk;have HWB:=η hwB;have HB9:=η hb9;have HU9:=η hu9;have H9:=η h9;have HGK:=η hgk;have HGV:=η hgv;have HI1:=η hI1;have HI2:=η hI2;have i0:(0:Int)<=(q:Int):=by omega
    have i1:(q:Int)<(ks.length:Int):=by omega
    have j0:(0:Int)<=(I1:Int):=by omega
    have j1:(I1:Int)<=512:=by omega
    have UB:=η uB;have KD:=η kd;clear hwB hb9 hu9 h9 hgk hgv hI1 hI2 uB kd hbB hb9B;have hst:=Af2 wr hlk;have n0':(wr.alloc (.cells (bts kq).toArray 35)).cell? ⟨b3,0,none⟩=some (.int .i64 2):=D6 n0 ((Upd.refl [] _).alloc _) (by simp);go_wp2_with fail
    have hwB:=HWB.out;have hb9:=HB9.out;rw[← hwB,← hb9];clear hwB hb9;go_region
    all_goals
     have u9:=((HUr.out.trans UB.out).drew).trans HU9.out;have m3:w9.cell? ⟨b3,3,none⟩=some (.slice (some ⟨bd,offd,none⟩) ds.length cv):=by
      rw[A2 ((u9.block _ (A3 H1.out) (by simpa using hne)).trans H1.out)];rfl
     have kd9:w9.cell? ⟨bd,offd+(q+1),none⟩=some (.int .u32 (dq:Int)):=D6 KD.out (HU.out.late u9 (λ k hk=>by simp at hk;subst hk;exact .inr hkw)) (by simp);have hI2:=HI2.out;have HL9:=η (Bl3 H9.out (by rw[T4 (by omega)];exact hll) 512 I2 (I2:Int) rfl (by omega) dq);have HU9A:=η u9;have i3:(q:Int)+1<(ds.length:Int):=by have:=HOK.out.n;omega
     have i4:(0:Int)<=(q:Int)+1:=by omega
     clear u9 hrun9 hI2;go_wp2_with fail
     refine HL9.out.mono ?_;rintro e w10 ⟨rfl,h10,hu10⟩;have H10:=η h10;have HU10:=η (HU9A.out.trans hu10);clear h10 hu10;go_wp2_with fail
     refine⟨⟨q+1,by omega,by go_num,?_,HU10.out⟩,by simp[intOf];omega⟩;show w10.heap[kb]?=some (.cells (bts (put (G8 (Z6 ks ds q) (12+36*q) (ks.getD q [])) (12+36*q+32) 4 (ds.getD (q+1) 0))).toArray 5 (0,0))
     rw[HGK.out,HGV.out,← HI1.out,← HI2.out];exact H10.out
   ·obtain rfl:q=ks.length:=by omega
    have hlt':decide ((ks.length:Int)<(ks.length:Int))=false:=by simp
    have hll:=M6 HOK.out (k:=ks.length) (Nat.le_refl _);have HWR:=η (Ai9 (HH.out.below HUw.out) at_ hat (.slice (some ⟨kb,0,none⟩) 512 512) (C9 ks ds) (I8 HB.out hll) hll HC.out);clear hll;go_wp2_with fail
    refine HWR.out.mono ?_;rintro e w' ⟨rfl,h',hu'⟩;have H':=η h';have HU':=η ((HUw.out.mono (by simp)).trans hu');clear h' hu';go_wp2_with fail
    go_ret;exact⟨rfl,H'.out,HU'.out⟩
end Go.Proofs.YtgfbepakonjbnaaGreat
end
section
namespace Go.Proofs.YtgfbepakonjbnaaGreat
open Go.RowKit Go.MapKept Go.ChangeMaps
theorem X1{T e:TypeId}{sz:Nat}(hu:Tryz.prog.underlying T=some (.slice e))(hi:((Tryz.prog.info? e).map λ i=>(i.zero.isSome,i.size))=some (true,sz))(h0:0<sz)(h1:sz<=1000)(cs:List Value)(hc:cs.length=sz)(w:World) :
  (Instr.buildSlice T 1 #[(0,.agg cs.toArray)]).run Tryz.prog w=.ok (.slice (some ⟨w.heap.size,0,none⟩) 1 1) (w.alloc (.cells cs.toArray e)):=by
 cases hq:Tryz.prog.info? e with
 | none=>rw[hq] at hi;simp at hi
 | some i=>
  rw[hq] at hi;simp at hi;obtain⟨hz,hs⟩:=hi;obtain⟨z,hz⟩:=Option.isSome_iff_exists.1 hz;have hd:=Great.fill_dense (s:=sz) h0 [.agg cs.toArray] 0 ((Array.range (1*i.size)).map (z.cells[· % z.cells.size]!)) (λ v hv=>by simp at hv;subst hv;simp[Value.cells,hc]) (by simp[hs]);obtain⟨r,hr,hrs,hrk⟩:=hd;have he:r=cs.toArray:=by
   apply Array.ext_getElem?;intro k;rw[hrk k];by_cases hk:k<sz
   ·rw[if_pos ⟨by omega,by simpa using hk⟩,Nat.div_eq_of_lt hk,Nat.mod_eq_of_lt hk];simp[Value.cells]
   ·rw[if_neg (by simp;omega),Array.getElem?_eq_none (by simp[hs];omega),Array.getElem?_eq_none (by simp;omega)]
  rw[he] at hr;refine run_buildSlice w T e 1 _ cs.toArray i z hu hq hz (by omega) (by omega) ?_;rw[hs];rw[hs] at hr;exact hr
theorem Ah1{T e:TypeId}{sz bytes:Nat}{z:Value}(hu:Tryz.prog.underlying T=some (.slice e))(hi:(Tryz.prog.info? e).map (λ i=>(i.zero,i.size,i.bytes))=some (some z,sz,bytes))(hzs:z.cells.size=sz)(h0:0<sz)(hby:bytes<=1000)
  {w:World} {B n:Nat} {v:Value} {xs:List Value} (hp:w.ownsRow B e sz v n xs) (hl:n<=1000) (hB:B<=w.heap.size) (cs:List Value) (hc:cs.length=sz) (h1:∀u∈cs,u.oneCell'=true) :
  ∃a b c' w' S,(∀ty,(Builtin.append_ #[T,T] ty #[v,.slice (some ⟨w.heap.size,0,none⟩) 1 1]).run Tryz.prog (w.alloc (.cells cs.toArray e))=.ok (.slice a b c') w')/\w'.ownsRow B e sz (.slice a b c') (n+1) (xs++cs)/\
   Upd S w w'/\(∀k,k∈S->B<=k/\∃c,w.heap[k]?=some (.cells c e (0,0))):=by
 obtain⟨i0,hi0,hz0,hz1,hz2⟩:=info_parts hi;have hp1:(w.alloc (.cells cs.toArray e)).ownsRow B e sz v n xs:=by
  refine⟨hp.1,?_⟩;rcases hp.2 with h | ⟨g,cap,cur,hv,hb,hg,r⟩
  ·exact .inl h
  ·exact .inr ⟨g,cap,cur,hv,hb,(A6 (A3 hg)).trans hg,r⟩
 have hmul:(n+1)*bytes<=140737488355328:=Nat.le_trans (Nat.mul_le_mul (show n+1<=1001 by omega) hby) (by decide);obtain⟨v',w',hrun,hown,hg,_⟩:=run_append_own (P:=Tryz.prog) (w.alloc (.cells cs.toArray e)) B T 0 e i0 z sz bytes hu hi0 hz0 hz1 hz2 hzs h0 v n xs hp1 ⟨w.heap.size,0,none⟩ 1 1 cs (by rw[hc,Nat.one_mul])
  (λ k u hj=>by rw[P9,A2 (A4 _),List.getElem?_toArray,Nat.zero_add];exact hj) h1 (by unfold maxLen;omega) hmul (by simp;omega)
 have hs:∃a c',v'=.slice a (n+1) c':=by
  rcases hown.2 with⟨_,h⟩ | ⟨g,cap,cur,h,_⟩
  ·omega
  ·exact⟨_,_,h⟩
 obtain⟨a,c',rfl⟩:=hs;have hsz:=hg.size;have hos:w'.os=w.os/\w'.tape=w.tape/\w'.output=w.output:=⟨hg.os,hg.tape,hg.output⟩;have hsz':w.heap.size<=w'.heap.size:=by simp at hsz;omega
 rcases hp.2 with⟨rfl,_⟩ | ⟨g,cap,cur,rfl,hb,hgb,_⟩
 ·refine⟨a,_,c',w',[],λ _=>hrun,hown,⟨hos.1,hos.2.1,hos.2.2,hsz',λ k hk _=>?_⟩,by simp⟩;rw[hg.block k (by simp;omega) (by simp[Value.ownBlock]),A6 hk]
 ·refine⟨a,_,c',w',[g],λ _=>hrun,hown,⟨hos.1,hos.2.1,hos.2.2,hsz',λ k hk hS=>?_⟩,by simp;exact⟨hb,_,hgb⟩⟩;rw[hg.block k (by simp;omega) (by simp[Value.ownBlock];rintro rfl;exact hS (by simp)),A6 hk]
theorem Bv9{w w':World}{B n sz:Nat}{e:TypeId}{v:Value}{xs:List Value}(h:w.ownsRow B e sz v n xs)(hk:∀(k:Nat) (c:Array Value),B<=k->w.heap[k]?=some (.cells c e (0,0))->w'.heap[k]?=w.heap[k]?):w'.ownsRow B e sz v n xs:=by
 refine⟨h.1,?_⟩;rcases h.2 with h | ⟨g,cap,cur,hv,hb,hg,r⟩
 ·exact .inl h
 ·exact .inr ⟨g,cap,cur,hv,hb,(hk g cur hb hg).trans hg,r⟩
theorem C4{w w':World}{B n sz:Nat}{e:TypeId}{v:Value}{xs:List Value}(h:w.ownsRow B e sz v n xs){S:List Nat}(hu:Upd S w w')(hS:∀(k:Nat) (c:Array Value),k∈S->B<=k->w.heap[k]?≠some (.cells c e (0,0))):w'.ownsRow B e sz v n xs:=
 Bv9 h λ k c hb e=>hu.block _ (A3 e) λ q=>hS k c q hb e
theorem E9{w:World}{B n sz:Nat}{e:TypeId}{v:Value}{xs:List Value}(h:w.ownsRow B e sz v n xs):∃a c,v=.slice a n c:=by
 rcases h.2 with⟨h,h0⟩ | ⟨g,cap,cur,h,_⟩
 ·exact⟨none,0,by rw[h,h0]⟩
 ·exact⟨_,_,h⟩
theorem Bw0{sz:Nat}:∀{es:List (List Value)},(∀e,e∈es->e.length=sz)->∀{i j:Nat} {e:List Value},es[i]?=some e->j<sz->es.flatten[i*sz+j]?=e[j]?
 | [],_,i,j,e,h,_=>by simp at h
 | x :: es,hl,0,j,e,h,hj=>by
  simp at h;subst h;rw[List.flatten_cons,List.getElem?_append_left (by rw[hl x (by simp)];omega)];congr 1;omega
 | x :: es,hl,i+1,j,e,h,hj=>by
  have:=Bw0 (es:=es) (λ e he=>hl e (by simp[he])) (i:=i) (j:=j) (by simpa using h) hj;rw[List.flatten_cons,List.getElem?_append_right (by rw[hl x (by simp),Nat.add_mul];omega),hl x (by simp),← this];congr 1
  rw[Nat.add_mul];omega
theorem Ba7{w:World}{B n sz:Nat}{e:TypeId}{v:Value}{es:List (List Value)}(h:w.ownsRow B e sz v n es.flatten)(hn:n=es.length)(hl:∀e,e∈es->e.length=sz):RRd w v sz es:=by
 subst hn;rcases h.2 with⟨rfl,h0⟩ | ⟨g,cap,cur,rfl,hb,hg,hc,_,hs,ht⟩
 ·exact⟨none,0,by rw[h0],by omega,λ q=>by omega⟩
 ·refine⟨_,cap,rfl,hc,λ hp=>⟨g,0,rfl,λ i e he j v hv=>?_⟩⟩;have hel:=hl e (List.mem_of_getElem? he);have hj:j<sz:=by rw[← hel];exact(List.getElem?_eq_some_iff.1 hv).1
  have hi:i<es.length:=(List.getElem?_eq_some_iff.1 he).1;have hlt:i*sz+j<es.length*sz:=by
   have:=Nat.mul_le_mul_right sz (show i+1<=es.length by omega);rw[Nat.add_mul] at this;omega
  have hf:=Bw0 hl he hj;rw[hv,← ht,List.getElem?_take_of_lt hlt] at hf;rw[A2 hg,Nat.zero_add];simpa using hf
theorem At2:(Tryz.prog.info? 35).map (λ i=>(i.zero,i.size,i.bytes))=some (some (.agg (bts (List.replicate 32 0)).toArray),32,32):=by kernel_rfl
theorem Ba8:(Tryz.prog.info? 115).map (λ i=>(i.zero,i.size,i.bytes))=some (some (.agg (bts (List.replicate 16 0)).toArray),16,16):=by kernel_rfl
theorem Ba9:(Tryz.prog.info? 79).map (λ i=>(i.zero,i.size,i.bytes))=some (some (.int .u32 0),1,4):=by kernel_rfl
def F5(w:World)(B:Nat)(v:Value)(ks:List Bs):Prop:=w.ownsRow B 35 32 v ks.length (ks.map bts).flatten
def G7(w:World)(B:Nat)(v:Value)(vs:List Bs):Prop:=w.ownsRow B 115 16 v vs.length (vs.map bts).flatten
def G0(w:World)(B:Nat)(v:Value)(ds:List Nat):Prop:=w.ownsRow B 79 1 v ds.length (ds.map λ d:Nat=>Value.int .u32 (d:Int))
theorem F5.rd{w:World}{B:Nat}{v:Value}{ks:List Bs}(h:F5 w B v ks)(hl:∀k,k∈ks->k.length=32):RRd w v 32 (ks.map bts):=Ba7 h (by simp) (λ e he=>by obtain⟨k,hk,rfl⟩:=List.mem_map.1 he;rw[A5];exact hl k hk)
theorem G7.rd{w:World}{B:Nat}{v:Value}{vs:List Bs}(h:G7 w B v vs)(hl:∀k,k∈vs->k.length=16):RRd w v 16 (vs.map bts):=Ba7 h (by simp) (λ e he=>by obtain⟨k,hk,rfl⟩:=List.mem_map.1 he;rw[A5];exact hl k hk)
theorem G0.rd{w:World}{B:Nat}{v:Value}{ds:List Nat}(h:G0 w B v ds):KRd w v ds:=by
 rcases h.2 with⟨rfl,h0⟩ | ⟨g,cap,cur,rfl,hb,hg,hc,_,hs,ht⟩
 ·exact⟨none,0,by rw[h0],by omega,λ q=>by omega⟩
 ·refine⟨_,cap,rfl,hc,λ hp=>⟨g,0,rfl,λ i d hd=>?_⟩⟩;have hi:i<ds.length:=(List.getElem?_eq_some_iff.1 hd).1;have hf:(ds.map λ d:Nat=>Value.int .u32 (d:Int))[i]?=some (.int .u32 (d:Int)):=by rw[List.getElem?_map,hd];rfl
  rw[← ht,List.getElem?_take_of_lt (by omega)] at hf;rw[A2 hg,Nat.zero_add];simpa using hf
end Go.Proofs.YtgfbepakonjbnaaGreat
end
end
