/-
  The document's zeros: cofferref6.zeros.
-/
import Derived.Test.YtplppdbdfhkljaaGreatA11
import Derived.Test.YtplppdbdfhkljaaGreatA10
set_option maxRecDepth 100000
set_option maxHeartbeats 16000000
section
set_option linter.unusedSimpArgs false
set_option linter.unusedVariables false
namespace Go.Proofs.YtplppdbdfhkljaaGreat
open Go.RowKit Go.MapKept Go.ChangeMaps
section
attribute [-go_sem] loadCells storeCells Instr.build
set_option maxRecDepth 100000 in
set_option maxHeartbeats 1000000 in
theorem rzeros_spec(w:World)(n:Nat)(h0:0<n)(hn:n≤100000) :
  Calls Tryz.prog 68 #[.int .i64 (n:Int)] w fun e w'=>e=.returned (.string (str (List.replicate n 0)))∧Upd [] w w':=by
 have hmk:=run_make_u8 n hn w
 have hrow:BRow (w.alloc (.cells (bts (List.replicate n 0)).toArray 5)) w.heap.size (.slice (some ⟨w.heap.size,0,none⟩) (List.replicate n (0:UInt8)).length n) (List.replicate n 0):=
  ⟨by simp,.inr ⟨w.heap.size,n,_,rfl,Nat.le_refl _,blk_alloc _,by simp[bts],by unfold maxLen;omega,by simp,by simp;exact List.take_of_length_le (by simp[bts])⟩⟩
 have hcv:=run_str hrow.rd (by simpa using h0)
 rw[List.length_replicate] at hcv
 have g0:(0:Int)≤n:=by omega
 have HU:=Lib.hid ((Upd.refl [] w).alloc (.cells (bts (List.replicate n 0)).toArray 5))
 obtain⟨S,hS⟩:∃S,S=str (List.replicate n 0):=⟨_,rfl⟩
 rw[← hS] at hcv ⊢
 clear hrow h0 hn hS
 generalize (bts (List.replicate n 0)).toArray=Z at *
 go_enter Tryz.func68,Tryz.ntmps68
 go_wp2_with fail
 go_ret
 exact⟨rfl,HU.out⟩
end
end Go.Proofs.YtplppdbdfhkljaaGreat
end
section
namespace Go.Proofs.YtplppdbdfhkljaaGreat
open Go.RowKit Go.MapKept Go.ChangeMaps
section
section
variable {P:Program} {ops:Array Oper} {Q:Exit→Act→World→Prop} {md:Region.Mode} {S:World→Prop} {St:List Nat}
def NoneUp(St:List Nat)(listed:Array Bool):Prop:=∀s,s∈St→listed.getD s false=false
def Closed(md:Region.Mode)(ops:Array Oper)(listed:Array Bool):Prop:=∀j oj,ops[j]?=some oj→listed.getD j false=true→∀e∈oj.after,Region.binds md e=true→listed.getD e.on false=true
def waits(md:Region.Mode)(ops:Array Oper)(i:Nat):Nat→Nat→Bool
 | 0,s=>s == i
 | f+1,s=>s == i || match ops[s]? with
  | none=>false
  | some o=>o.after.any fun e=>Region.binds md e && waits md ops i f e.on
theorem waits_up{listed:Array Bool}(hc:Closed md ops listed){i:Nat}:∀{f s:Nat},waits md ops i f s=true→listed.getD s false=true→listed.getD i false=true
 | 0,s,h,hs=>by simp[waits] at h;rw[← h];exact hs
 | f+1,s,h,hs=>by
  unfold waits at h
  rw[Bool.or_eq_true] at h
  rcases h with h | h
  ·simp at h;rw[← h];exact hs
  ·cases ho:ops[s]? with
   | none=>rw[ho] at h;simp at h
   | some o=>
    rw[ho] at h
    obtain⟨e,he,hb⟩:=Array.any_eq_true'.1 h
    simp only[Bool.and_eq_true] at hb
    exact waits_up hc hb.2 (hc s o ho hs e he hb.1)
theorem Closed.set{listed:Array Bool}(hc:Closed md ops listed){j:Nat}(hj:j∈Region.ready md ops listed):Closed md ops (listed.setIfInBounds j true):=by
 intro k ok hk hl e he hb
 obtain⟨_,oj,hoj,hall⟩:=mem_ready.1 hj
 by_cases hkj:j=k
 ·subst hkj
  rw[hk] at hoj;cases hoj
  exact getD_set_true (hall e he hb)
 ·rw[getD_set_ne false hkj] at hl
  exact getD_set_true (hc k ok hk hl e he hb)
def wpAnyX(P:Program)(md:Region.Mode)(ops:Array Oper)(Q:Exit→Act→World→Prop)(S:World→Prop)(St:List Nat):Nat→Array Bool→Act→World→Prop
 | 0,listed,a,w=>Region.ready md ops listed=[]∧Q .normal a w
 | fuel+1,listed,a,w=>
  (Region.ready md ops listed=[]→Q .normal a w)∧
  ∀i∈Region.ready md ops listed,wpOp P ops Q i (fun a' w'=>(NoneUp St (listed.setIfInBounds i true)→S w')∧wpAnyX P md ops Q S St fuel (listed.setIfInBounds i true) a' w') a w
theorem wpAny_of_x:∀(fuel:Nat) (listed:Array Bool) (a:Act) (w:World),wpAnyX P md ops Q S St fuel listed a w→wpAny P md ops Q fuel listed a w
 | 0,_,_,_,h=>h
 | fuel+1,_,_,_,h=>⟨h.1,fun i hi=>wpOp_mono (fun a' w' h'=>wpAny_of_x fuel _ a' w' h'.2) (h.2 i hi)⟩
theorem wpAnyX_first{i:Nat}{oi:Oper}{v:Value}(hi:ops[i]?=some oi)(hsel:∀(j:Nat) (o:Oper) cs b,ops[j]?=some o→o.op≠.select cs b)
  (hQ:∀c a w,Q (.panic c) (a.put oi.dst v) w→Q (.panic c) a w) (hw:∀s,s∈St→∃f,waits md ops i f s=true∧s≠i) :
  ∀(fuel:Nat) (listed:Array Bool) (a:Act) (w:World),Closed md ops listed→
   (∀j oj,ops[j]?=some oj→j≠i→listed.getD j true=false→(∀e∈oj.after,Region.binds md e=true→e.on≠i)→oi.apart ops oj=true)→
   i∈Region.ready md ops listed→YieldsIf P ops S oi v a→S w→
   wpAnyX P md ops Q S St fuel (listed.setIfInBounds i true) (a.put oi.dst v) w→wpAnyX P md ops Q S St (fuel+1) listed a w:=by
 intro fuel
 induction fuel with
 | zero=>
  intro listed a w _ _ hr hy hS H
  refine⟨fun h=>(by rw[h] at hr;cases hr),fun j hj=>?_⟩
  by_cases hji:j=i
  ·subst hji;exact hy.wpOp hi hS ⟨fun _=>hS,H⟩
  ·have:=ready_mono hj hji
   rw[H.1] at this
   cases this
 | succ fuel ih=>
  intro listed a w hcl hfree hr hy hS H
  refine⟨fun h=>(by rw[h] at hr;cases hr),fun j hj=>?_⟩
  by_cases hji:j=i
  ·subst hji;exact hy.wpOp hi hS ⟨fun _=>hS,H⟩
  ·have h1:=H.2 j (ready_mono hj hji)
   obtain⟨hjun,oj,hoj,hall⟩:=mem_ready.1 hj
   have hiun:=(mem_ready.1 hr).1
   have hnot:∀e∈oj.after,Region.binds md e=true→e.on≠i:=fun e he hb heq=>by
    have h1:=hall e he hb
    rw[heq] at h1
    rcases Nat.lt_or_ge i listed.size with h' | h'
    ·simp[h'] at hiun h1;rw[hiun] at h1;cases h1
    ·simp[Array.getElem?_eq_none h'] at h1
   have h2:=wpOp_putIf hoj (hfree j oj hoj hji hjun hnot) (fun cs b=>hsel i oi cs b hi) (fun cs b=>hsel j oj cs b hoj) hQ hy h1
   have hfree':∀k ok,ops[k]?=some ok→k≠i→(listed.setIfInBounds j true).getD k true=false→
     (∀e∈ok.after,Region.binds md e=true→e.on≠i)→oi.apart ops ok=true:=fun k ok hk hki hun hno=>by
    refine hfree k ok hk hki ?_ hno
    by_cases hjk:j=k
    ·subst hjk;exact hjun
    ·rw[getD_set_ne true hjk] at hun;exact hun
   have hcl':=hcl.set hj
   have hi0:(listed.setIfInBounds j true).getD i false=false:=by
    rw[getD_set_ne false hji]
    rcases Nat.lt_or_ge i listed.size with h' | h'
    ·simp[h'] at hiun ⊢;exact hiun
    ·simp[Array.getElem?_eq_none h']
   have hnone:NoneUp St ((listed.setIfInBounds i true).setIfInBounds j true):=fun s hs=>by
    obtain⟨f,hf,hsi⟩:=hw s hs
    rw[Array.setIfInBounds_comm _ _ (Ne.symm hji),getD_set_ne false (Ne.symm hsi)]
    cases hq:(listed.setIfInBounds j true).getD s false
    ·rfl
    ·have:=waits_up hcl' hf hq
     rw[hi0] at this;cases this
   refine wpOp_mono (fun a' w' h3=>?_) h2
   have hS':=h3.2.1 hnone
   refine⟨fun _=>hS',ih (listed.setIfInBounds j true) a' w' hcl' hfree' (ready_mono hr (Ne.symm hji)) h3.1 hS' ?_⟩
   rw[Array.setIfInBounds_comm _ _ hji]
   exact h3.2.2
def closedB(md:Region.Mode)(ops:Array Oper)(listed:Array Bool):Bool:=(List.range ops.size).all fun j=> !listed.getD j false || ((ops[j]?).map (·.after.all fun e=> !Region.binds md e || listed.getD e.on false)).getD true
theorem closed_of{listed:Array Bool}(h:closedB md ops listed=true):Closed md ops listed:=by
 intro j oj hj hl e he hb
 have h1:=(List.all_eq_true.1 h) j (List.mem_range.2 (Array.getElem?_eq_some_iff.1 hj).1)
 rw[hj,hl] at h1
 simp only[Bool.not_true,Bool.false_or,Option.map_some,Option.getD_some] at h1
 have h2:=Array.all_eq_true_iff_forall_mem.1 h1 e he
 rw[hb] at h2
 simpa using h2
theorem wpAnyX_take{i:Nat}{oi:Oper}{v:Value}{fuel:Nat}{listed:Array Bool}{a:Act}{w:World}(hi:ops[i]?=some oi)
  (hk:(Region.noSelect ops && Region.free md ops listed i && (Region.ready md ops listed).contains i && closedB md ops listed && St.all fun s=>waits md ops i ops.size s && !(s == i))=true)
  (hQ:∀c a w,Q (.panic c) (a.put oi.dst v) w→Q (.panic c) a w) (hS:S w) (hy:YieldsIf P ops S oi v a)
  (h:wpAnyX P md ops Q S St fuel (listed.setIfInBounds i true) (a.put oi.dst v) w):wpAnyX P md ops Q S St (fuel+1) listed a w:=by
 simp only[Bool.and_eq_true] at hk
 obtain⟨⟨⟨⟨h1,h2⟩,h3⟩,h4⟩,h5⟩:=hk
 refine wpAnyX_first hi (Region.noSelect_spec h1) hQ (fun s hs=>?_) fuel listed a w (closed_of h4) (Region.free_spec hi h2) (by simpa using h3) hy hS h
 have:=(List.all_eq_true.1 h5) s hs
 simp only[Bool.and_eq_true,Bool.not_eq_true',beq_eq_false_iff_ne] at this
 exact⟨_,this.1,this.2⟩
def AllReadyX(P:Program)(md:Region.Mode)(ops:Array Oper)(Q:Exit→Act→World→Prop)(S:World→Prop)(St:List Nat)(fuel:Nat)(listed:Array Bool)(a:Act)(w:World)(rs:List Nat):Prop:=
 ∀i∈rs,wpOp P ops Q i (fun a' w'=>(NoneUp St (listed.setIfInBounds i true)→S w')∧wpAnyX P md ops Q S St fuel (listed.setIfInBounds i true) a' w') a w
theorem AllReadyX.one{fuel:Nat}{listed:Array Bool}{a:Act}{w:World}{i:Nat}{o:Oper}(ho:ops[i]?=some o)
  (h:∀K':Act→World→Prop,Shut (∀a w,(NoneUp St (listed.setIfInBounds i true)→S w)→(wpAnyX P md ops Q S St fuel (listed.setIfInBounds i true) a w)→K' a w)→if Region.wanted o (yielded ops a.tmps)=true then Oper.wp P o a w K' Q else K' (a.put o.dst undef) w):AllReadyX P md ops Q S St fuel listed a w [i]:=fun j hj=>by
 rcases List.mem_cons.1 hj with rfl | hj
 ·exact wpOp_step ho (fun K' hK=>h K' (fun a w hS hW=>hK a w ⟨hS,hW⟩))
 ·cases hj
theorem AllReadyX.cons{fuel:Nat}{listed:Array Bool}{a:Act}{w:World}{i:Nat}{rs:List Nat}(h:AllReadyX P md ops Q S St fuel listed a w [i])(hs:AllReadyX P md ops Q S St fuel listed a w rs):AllReadyX P md ops Q S St fuel listed a w (i :: rs):=fun j hj=>by
 rcases List.mem_cons.1 hj with rfl | hj
 ·exact h j (by simp)
 ·exact hs j hj
theorem wpAnyX_ready{rs:List Nat}{fuel:Nat}{listed:Array Bool}{a:Act}{w:World}(hr:Region.ready md ops listed=rs)(hne:rs≠[])
  (h:AllReadyX P md ops Q S St fuel listed a w rs):wpAnyX P md ops Q S St (fuel+1) listed a w:=
 ⟨fun h0=>absurd (hr ▸ h0) hne,hr ▸ h⟩
theorem wpAnyX_done{listed:Array Bool}{a:Act}{w:World}(hr:Region.ready md ops listed=[])(h:Q .normal a w) :
  ∀fuel,wpAnyX P md ops Q S St fuel listed a w
 | 0=>⟨hr,h⟩
 | _+1=>⟨fun _=>h,by rw[hr];simp⟩
theorem wp_region_x{id:Nat}{a:Act}{w:World}(S:World→Prop)(St:List Nat)(hm:P.follows .mixedOrders=true)(hS:S w.drew)
  (h:S w.drew→wpAnyX P .any ops Q S St ops.size (Array.replicate ops.size false) a w.drew):(Code.region id ops true).wp P Q a w:=
 wp_region_any hm (wpAny_of_x _ _ _ _ (h hS))
theorem wpAnyX_free:∀{fuel:Nat} {listed:Array Bool} {a:Act} {w:World},(St.any fun s=>listed.getD s false)=true→wpAnyX P md ops Q (fun _=>True) [] fuel listed a w→wpAnyX P md ops Q S St fuel listed a w
 | 0,_,_,_,_,h=>h
 | fuel+1,listed,a,w,hs,h=>⟨h.1,fun i hi=>wpOp_mono (fun a' w' h'=>by
   have hs':(St.any fun s=>(listed.setIfInBounds i true).getD s false)=true:=by
    obtain⟨s,hm,he⟩:=List.any_eq_true.1 hs
    exact List.any_eq_true.2 ⟨s,hm,getD_set_true he⟩
   refine⟨fun hn=>?_,wpAnyX_free hs' h'.2⟩
   obtain⟨s,hm,he⟩:=List.any_eq_true.1 hs'
   rw[hn s hm] at he;cases he) (h.2 i hi)⟩
theorem noneUp_not{listed:Array Bool}{T:World→Prop}{w:World}(h:(St.any fun s=>listed.getD s false)=true):NoneUp St listed→T w:=fun hn=>by
 obtain⟨s,hs,he⟩:=List.any_eq_true.1 h
 rw[hn s hs] at he;cases he
end
end
end Go.Proofs.YtplppdbdfhkljaaGreat
end
section
set_option linter.unusedSimpArgs false
set_option linter.unusedVariables false
namespace Go.Proofs.YtplppdbdfhkljaaGreat
open Go.RowKit Go.MapKept Go.ChangeMaps
section
attribute [-go_sem] loadCells storeCells Instr.build run_string_add_if
theorem put_mid(A B C:List UInt8){a n:Nat}(v:Nat)(hA:A.length=a)(hB:B.length=n):put (A++(B++C)) a n v=A++(be n v++C):=by
 subst hA hB
 unfold put
 rw[List.take_left' rfl,← List.append_assoc A B C,List.drop_left' (by rw[List.length_append])]
def ancB(s t p ring:Nat):List UInt8:=be 8 s++(be 8 t++(be 4 p++(be 4 ring++(List.replicate 480 0++be 8 s))))
theorem rep_app(m n k:Nat)(h:m+n=k):List.replicate k (0:UInt8)=List.replicate m 0++List.replicate n 0:=by rw[List.replicate_append_replicate,h]
theorem tagged_bytes(s:Int):tagged s=be 8 s.toNat++(List.replicate 496 0++be 8 s.toNat):=by
 unfold tagged
 have e1:zsec=[]++(List.replicate 8 0++List.replicate 504 0):=by unfold zsec;rw[List.nil_append];exact rep_app 8 504 512 rfl
 have h1:put zsec 0 8 s.toNat=be 8 s.toNat++List.replicate 504 0:=by
  rw[e1,put_mid [] (List.replicate 8 0) (List.replicate 504 0) (a:=0) (n:=8) s.toNat rfl (List.length_replicate ..),List.nil_append]
 have e2:be 8 s.toNat++List.replicate 504 (0:UInt8)=(be 8 s.toNat++List.replicate 496 0)++(List.replicate 8 0 ++ []):=by
  rw[List.append_assoc,List.append_nil,← rep_app 496 8 504 rfl]
 rw[h1,e2,put_mid (be 8 s.toNat++List.replicate 496 0) (List.replicate 8 0) [] (a:=504) (n:=8) s.toNat (by rw[List.length_append,be_length,List.length_replicate]) (List.length_replicate ..),List.append_nil,List.append_assoc]
theorem anc_bytes(a:Anc):a.sector=ancB a.number.toNat a.turn.toNat a.place a.ring:=by
 unfold Anc.sector ancB
 rw[tagged_bytes]
 have e0:List.replicate 496 (0:UInt8)=List.replicate 8 0++(List.replicate 4 0++(List.replicate 4 0++List.replicate 480 0)):=by
  rw[← rep_app 4 480 484 rfl,← rep_app 4 484 488 rfl,← rep_app 8 488 496 rfl]
 have e1:be 8 a.number.toNat++(List.replicate 496 0++be 8 a.number.toNat)=be 8 a.number.toNat++(List.replicate 8 0++(List.replicate 4 0++(List.replicate 4 0++(List.replicate 480 0++be 8 a.number.toNat)))):=by
  rw[e0];simp only[List.append_assoc]
 rw[e1,put_mid _ _ _ _ (be_length _ _) (List.length_replicate ..)]
 have e2:be 8 a.number.toNat++(be 8 a.turn.toNat++(List.replicate 4 0++(List.replicate 4 0++(List.replicate 480 0++be 8 a.number.toNat))))=(be 8 a.number.toNat++be 8 a.turn.toNat)++(List.replicate 4 0++(List.replicate 4 0++(List.replicate 480 0++be 8 a.number.toNat))):=by simp only[List.append_assoc]
 rw[e2,put_mid _ _ _ _ (by rw[List.length_append,be_length,be_length]) (List.length_replicate ..)]
 have e3:(be 8 a.number.toNat++be 8 a.turn.toNat)++(be 4 a.place++(List.replicate 4 0++(List.replicate 480 0++be 8 a.number.toNat)))=((be 8 a.number.toNat++be 8 a.turn.toNat)++be 4 a.place)++(List.replicate 4 0++(List.replicate 480 0++be 8 a.number.toNat)):=by simp only[List.append_assoc]
 rw[e3,put_mid _ _ _ _ (by rw[List.length_append,List.length_append,be_length,be_length,be_length]) (List.length_replicate ..)]
 simp only[List.append_assoc]
theorem str_append(x y:List UInt8):str x++str y=str (x++y):=by
 unfold str
 apply ByteArray.ext
 simp
theorem run_adds(x y:List UInt8)(hx:x.length≤100000)(hy:y.length≤100000)(w:World):(Op.stringOp .add (str x) (str y)).run Tryz.prog w=.ok (.string (str (x++y))) w:=by
 rw[run_string_add (P:=Tryz.prog) (w:=w) (str x) (str y) (by rw[str_size];omega) (by rw[str_size];omega),str_append]
set_option maxRecDepth 100000 in
set_option maxHeartbeats 4000000 in
theorem ranchor_spec(w:World)(s t p ring:Nat)(hs:s<18446744073709551616)(ht:t<18446744073709551616)(hp:p<100000)(hr:ring<100000) :
  Calls Tryz.prog 71 #[.int .u64 (s:Int),.int .u64 (t:Int),.int .i64 (p:Int),.int .i64 (ring:Int)] w fun e w'=>e=.returned (.string (str (ancB s t p ring)))∧Upd [] w w':=by
 have HP:=Lib.hid (rput_spec (w:=w) (BRow.nil w w.heap.size).rd (by simp) 4 p (by omega) (by omega) (by omega))
 have hw1:IntKind.u64.wrap (p:Int)=(p:Int):=by rw[IntKind.wrap_u64];omega
 have hw2:IntKind.u64.wrap (ring:Int)=(ring:Int):=by rw[IntKind.wrap_u64];omega
 have hw3:(p:Int) % 18446744073709551616=(p:Int):=by omega
 have hw4:(ring:Int) % 18446744073709551616=(ring:Int):=by omega
 have HS:=Lib.hid (And.intro hs (And.intro ht (And.intro hp hr)))
 clear hs ht hp hr
 go_enter Tryz.func71,Tryz.ntmps71
 go_wp2_with fail
 refine HP.out.mono ?_
 rintro e w1 ⟨a1,c1,rfl,hb1,hu1⟩
 rw[List.nil_append] at hb1
 rw[List.length_nil,Nat.zero_add] at hb1
 have HP2:=Lib.hid (rput_spec (w:=w1) hb1.rd (by rw[be_length];omega) 4 ring (by omega) (by omega) (by have:=HS.out.2.2.2;omega))
 rw[be_length] at HP2
 have HU1:=Lib.hid hu1
 clear hb1 hu1
 go_wp2_with fail
 refine HP2.out.mono ?_
 rintro e w2 ⟨a2,c2,rfl,hb2,hu2⟩
 have HB2:=Lib.hid hb2
 have HU2:=Lib.hid (HU1.out.trans hu2)
 clear hb2 hu2 hw1 hw2 hw3 hw4
 obtain⟨x1,hx1⟩:∃x,x=be 8 s:=⟨_,rfl⟩
 obtain⟨x2,hx2⟩:∃x,x=be 8 t:=⟨_,rfl⟩
 obtain⟨x3,hx3⟩:∃x,x=be 4 p++be 4 ring:=⟨_,rfl⟩
 have l1:x1.length=8:=by rw[hx1,be_length]
 have l2:x2.length=8:=by rw[hx2,be_length]
 have l3:x3.length=8:=by rw[hx3,List.length_append,be_length,be_length]
 rw[← hx3] at HB2
 have HE1:Hid (∀w,Calls Tryz.prog 125 #[.int .u64 (s:Int)] w fun e w'=>e=.returned (.string (str x1))∧Upd [] w w'):=by
  show ∀w,_
  intro w;rw[hx1];exact reightS_spec w s HS.out.1
 have HE2:Hid (∀w,Calls Tryz.prog 125 #[.int .u64 (t:Int)] w fun e w'=>e=.returned (.string (str x2))∧Upd [] w w'):=by
  show ∀w,_
  intro w;rw[hx2];exact reightS_spec w t HS.out.2.1
 have HA1:Hid (∀w,(Op.stringOp .add (str x1) (str x2)).run Tryz.prog w=.ok (.string (str (x1++x2))) w):=Lib.hid (fun w=>run_adds x1 x2 (by omega) (by omega) w)
 have HA2:Hid (∀w,(Op.stringOp .add (str (x1++x2)) (str x3)).run Tryz.prog w=.ok (.string (str ((x1++x2)++x3))) w):=Lib.hid (fun w=>run_adds _ x3 (by rw[List.length_append];omega) (by omega) w)
 obtain⟨x4,hx4⟩:∃x,x=(x1++x2)++x3:=⟨_,rfl⟩
 have l4:x4.length=24:=by rw[hx4,List.length_append,List.length_append];omega
 rw[← hx4] at HA2
 have hsz4:((str x4).size:Int)=24:=by rw[str_size,l4];rfl
 have HZ:Hid (∀w,Calls Tryz.prog 68 #[.int .i64 480] w fun e w'=>e=.returned (.string (str (List.replicate 480 0)))∧Upd [] w w'):=Lib.hid (fun w=>rzeros_spec w 480 (by omega) (by omega))
 obtain⟨x5,hx5⟩:∃x,x=List.replicate 480 (0:UInt8):=⟨_,rfl⟩
 have l5:x5.length=480:=by rw[hx5,List.length_replicate]
 rw[← hx5] at HZ
 have ha3:∀w,(Op.stringOp .add (str x4) (str x5)).run Tryz.prog w=.ok (.string (str (x4++x5))) w:=fun w=>run_adds x4 x5 (by omega) (by omega) w
 have ha4:∀w,(Op.stringOp .add (str (x4++x5)) (str x1)).run Tryz.prog w=.ok (.string (str ((x4++x5)++x1))) w:=fun w=>run_adds _ x1 (by rw[List.length_append];omega) (by omega) w
 have HEND:Hid (x4++(x5++x1)=ancB s t p ring):=by
  show _=_
  rw[hx4,hx5,hx3,hx2,hx1]
  unfold ancB
  simp only[List.append_assoc]
 have HA34:=Lib.hid (And.intro ha3 (And.intro ha4 hsz4))
 have HL3:=Lib.hid l3
 clear hx1 hx2 hx3 hx4 hx5 l1 l2 l3 l4 l5 ha3 ha4 hsz4 HP HP2
 go_wp2_with fail
 refine wp_region_x (fun w'=>Upd [] w2 w') [] (by kernel_rfl) (Upd.refl _ _).drew (fun hHeld=>?_)
 generalize w2.drew=w0 at hHeld ⊢
 refine wpAnyX_take (i:=0) (v:=?_) rfl (by kernel_rfl) (fun _ _ _ h=>h) hHeld (Or.inl ⟨by kernel_rfl,?_⟩) ?_
 rotate_left
 ·(intro w hSw;go_simp<;>with_reducible rfl)
 try simp only[Act.put,List.getElem_toArray,List.getElem_cons_zero,List.getElem_cons_succ,List.setIfInBounds_toArray,List.set_cons_zero,List.set_cons_succ]
 refine wpAnyX_take (i:=2) (v:=?_) rfl (by kernel_rfl) (fun _ _ _ h=>h) hHeld (Or.inl ⟨by kernel_rfl,?_⟩) ?_
 rotate_left
 ·(intro w hSw;go_simp<;>with_reducible rfl)
 try simp only[Act.put,List.getElem_toArray,List.getElem_cons_zero,List.getElem_cons_succ,List.setIfInBounds_toArray,List.set_cons_zero,List.set_cons_succ]
 refine wpAnyX_take (i:=5) (v:=?_) rfl (by kernel_rfl) (fun _ _ _ h=>h) hHeld (Or.inl ⟨by kernel_rfl,?_⟩) ?_
 rotate_left
 ·(intro w hSw;go_simp<;>with_reducible rfl)
 try simp only[Act.put,List.getElem_toArray,List.getElem_cons_zero,List.getElem_cons_succ,List.setIfInBounds_toArray,List.set_cons_zero,List.set_cons_succ]
 refine wpAnyX_take (i:=6) (v:=?_) rfl (by kernel_rfl) (fun _ _ _ h=>h) hHeld (Or.inl ⟨by kernel_rfl,?_⟩) ?_
 rotate_left
 ·(intro w hSw;have hcv:=run_str (HB2.out.rd.below hSw) (by rw[HL3.out];omega);go_simp<;>with_reducible rfl)
 try simp only[Act.put,List.getElem_toArray,List.getElem_cons_zero,List.getElem_cons_succ,List.setIfInBounds_toArray,List.set_cons_zero,List.set_cons_succ]
 refine wpAnyX_ready (rs:=[1]) (by kernel_rfl) (by simp) (AllReadyX.one rfl (fun K hK=>?_))
 go_simp
 go_at_call 125
 (with_reducible refine(HE1.out _).mono ?_)
 rintro e wl ⟨rfl,hul⟩
 refine hK.out _ _ (fun _=>hHeld.trans hul) ?_
 replace hHeld:=hHeld.trans hul
 clear hul hK K
 try simp only[Act.put,List.getElem_toArray,List.getElem_cons_zero,List.getElem_cons_succ,List.setIfInBounds_toArray,List.set_cons_zero,List.set_cons_succ]
 refine wpAnyX_ready (rs:=[3]) (by kernel_rfl) (by simp) (AllReadyX.one rfl (fun K hK=>?_))
 go_simp
 go_at_call 125
 (with_reducible refine(HE2.out _).mono ?_)
 rintro e wl ⟨rfl,hul⟩
 refine hK.out _ _ (fun _=>hHeld.trans hul) ?_
 replace hHeld:=hHeld.trans hul
 clear hul hK K
 try simp only[Act.put,List.getElem_toArray,List.getElem_cons_zero,List.getElem_cons_succ,List.setIfInBounds_toArray,List.set_cons_zero,List.set_cons_succ]
 refine wpAnyX_take (i:=4) (v:=?_) rfl (by kernel_rfl) (fun _ _ _ h=>h) hHeld (Or.inl ⟨by kernel_rfl,?_⟩) ?_
 rotate_left
 ·(intro w hSw;have ha:=HA1.out;go_simp<;>with_reducible rfl)
 try simp only[Act.put,List.getElem_toArray,List.getElem_cons_zero,List.getElem_cons_succ,List.setIfInBounds_toArray,List.set_cons_zero,List.set_cons_succ]
 refine wpAnyX_take (i:=7) (v:=?_) rfl (by kernel_rfl) (fun _ _ _ h=>h) hHeld (Or.inl ⟨by kernel_rfl,?_⟩) ?_
 rotate_left
 ·(intro w hSw;have ha:=HA2.out;go_simp<;>with_reducible rfl)
 try simp only[Act.put,List.getElem_toArray,List.getElem_cons_zero,List.getElem_cons_succ,List.setIfInBounds_toArray,List.set_cons_zero,List.set_cons_succ]
 refine wpAnyX_take (i:=8) (v:=?_) rfl (by kernel_rfl) (fun _ _ _ h=>h) hHeld (Or.inl ⟨by kernel_rfl,?_⟩) ?_
 rotate_left
 ·(intro w hSw;go_simp<;>with_reducible rfl)
 try simp only[Act.put,List.getElem_toArray,List.getElem_cons_zero,List.getElem_cons_succ,List.setIfInBounds_toArray,List.set_cons_zero,List.set_cons_succ]
 refine wpAnyX_done (by kernel_rfl) ?_ _
 have HU3:=Lib.hid (HU2.out.trans hHeld)
 clear hHeld
 obtain⟨ha3,ha4,hsz4⟩:=HA34.out
 go_wp2_with fail
 refine(HZ.out _).mono ?_
 rintro e w4 ⟨rfl,hu4⟩
 have HU4:=Lib.hid (HU3.out.trans hu4)
 clear hu4
 go_wp2_with fail
 refine(HE1.out _).mono ?_
 rintro e w5 ⟨rfl,hu5⟩
 have HU5:=Lib.hid (HU4.out.trans hu5)
 clear hu5
 go_wp2_with fail
 go_ret
 exact⟨by rw[← HEND.out];rfl,HU5.out⟩
end
section
attribute [-go_sem] loadCells storeCells Instr.build run_string_add_if
structure QG where
 jb:Nat
 ab:Nat
 nb:Nat
 ca:Nat
 cn:Nat
 r:RG
def QG.own(q:QG):List Nat:=[q.jb,q.ab,q.nb]
def QG.all(q:QG):List Nat:=q.own++q.r.all
def BolBl(w:World)(b:Nat)(l:List Value):Prop:=∃rest,w.heap[b]?=some (.cells (l++rest).toArray 4 (0,0))
theorem BolBl.cell{w:World}{b:Nat}{l:List Value}(h:BolBl w b l){i:Nat}{v:Value}(hi:l[i]?=some v):w.cell? ⟨b,i,none⟩=some v:=by
 obtain⟨rest,h⟩:=h
 rw[blk_cell h,List.getElem?_toArray,List.getElem?_append_left (List.getElem?_eq_some_iff.1 hi).1]
 exact hi
theorem BolBl.set{w:World}{b:Nat}{l:List Value}(h:BolBl w b l){i:Nat}(hi:i<l.length)(v:Value):BolBl (w.setCell ⟨b,i,none⟩ v) b (l.set i v):=by
 obtain⟨rest,h⟩:=h
 refine⟨rest,?_⟩
 rw[blk_set h,List.setIfInBounds_toArray,List.set_append_left _ _ hi]
theorem BolBl.upd{w w':World}{b:Nat}{l:List Value}(h:BolBl w b l){S:List Nat}(hu:Upd S w w')(hS:b∉S):BolBl w' b l:=by
 obtain⟨rest,h⟩:=h
 exact⟨rest,(hu.block _ (blk_lt h) hS).trans h⟩
def awayB(aw:Nat→Option Sec)(h:Nat):List Value:=(List.range h).map fun i=> .bool (aw i).isSome
theorem awayB_length(aw:Nat→Option Sec)(h:Nat):(awayB aw h).length=h:=by unfold awayB;rw[List.length_map,List.length_range]
theorem awayB_get{aw:Nat→Option Sec}{h i:Nat}(hi:i<h):(awayB aw h)[i]?=some (.bool (aw i).isSome):=by unfold awayB;rw[List.getElem?_map,List.getElem?_range hi];rfl
structure NowL(aw:Nat→Option Sec)(h:Nat)(l:List Value):Prop where
 len:l.length=h
 str:∀i,i<h→∃v,l[i]?=some (.string v)
 away:∀i s,i<h→aw i=some s→l[i]?=some (strV s)
structure RjmAt(w:World)(q:QG)(J:Jn)(D:Dk):Prop where
 disk:RdkAt w q.r D
 st:w.heap[q.jb]?=some (.cells #[.pointer (some ⟨q.r.rb,0,none⟩),.int .i64 (J.last.ring:Int),.int .u64 J.last.number,.int .u64 J.turn,.int .i64 (J.place:Int),.int .i64 (J.homes D.n:Int),.slice (some ⟨q.ab,0,none⟩) (J.homes D.n) q.ca,.slice (some ⟨q.nb,0,none⟩) (J.homes D.n) q.cn,.int .i64 (J.used:Int),.int .i64 J.lives,.bool J.done] 150 (0,0))
 away:BolBl w q.ab (awayB J.away (J.homes D.n))
 now:∃l,StrBl w q.nb l∧NowL J.away (J.homes D.n) l
 ok:J.Ok D.n
 ne:q.nb≠q.r.lb∧q.nb≠q.r.wb
theorem RdkAt.below{w w':World}{g:RG}{D:Dk}(h:RdkAt w g D)(hu:Upd [] w w'):RdkAt w' g D:=h.upd hu (by simp)
theorem RjmAt.upd{w w':World}{q:QG}{J:Jn}{D:Dk}(h:RjmAt w q J D){S:List Nat}(hu:Upd S w w')(hS:∀k,k∈q.all→k∉S):RjmAt w' q J D:=by
 obtain⟨l,h1,h2⟩:=h.now
 exact⟨h.disk.upd hu (fun k hk=>hS k (by simp[QG.all,hk])),(hu.block _ (blk_lt h.st) (hS _ (by simp[QG.all,QG.own]))).trans h.st,h.away.upd hu (hS _ (by simp[QG.all,QG.own])),⟨l,h1.upd hu (hS _ (by simp[QG.all,QG.own])),h2⟩,h.ok,h.ne⟩
theorem RjmAt.below{w w':World}{q:QG}{J:Jn}{D:Dk}(h:RjmAt w q J D)(hu:Upd [] w w'):RjmAt w' q J D:=h.upd hu (by simp)
theorem RjmAt.lt{w:World}{q:QG}{J:Jn}{D:Dk}(h:RjmAt w q J D):∀k,k∈q.all→k<w.heap.size:=by
 obtain⟨l,h1,_⟩:=h.now
 obtain⟨r2,h2⟩:=h.away
 obtain⟨x,hx⟩:=h.disk.st
 intro k hk
 simp[QG.all,QG.own,RG.all] at hk
 rcases hk with rfl | rfl | rfl | rfl | rfl | rfl
 ·exact blk_lt h.st
 ·exact blk_lt h2
 ·exact h1.lt
 ·exact blk_lt hx
 ·exact h.disk.last.lt
 ·exact h.disk.wait.lt
theorem RjmAt.apart{w:World}{q:QG}{J:Jn}{D:Dk}(h:RjmAt w q J D):∀k,k∈q.own→k∉q.r.all:=by
 obtain⟨l,⟨r1,h1⟩,_⟩:=h.now
 obtain⟨r2,h2⟩:=h.away
 obtain⟨x,hx⟩:=h.disk.st
 obtain⟨r3,h3⟩:=h.disk.last
 obtain⟨r4,h4⟩:=h.disk.wait
 have h0:=h.st
 have hne:=h.ne
 intro k hk hk2
 simp[QG.own] at hk
 simp[RG.all] at hk2
 have tt:∀{b:Nat} {c c':Array Value} {T T':TypeId} {f f':Nat × Nat},w.heap[b]?=some (.cells c T f)→w.heap[b]?=some (.cells c' T' f')→T=T':=by
  intro b c c' T T' f f' e1 e2
  rw[e1] at e2
  injection e2 with e2;injection e2
 rcases hk with rfl | rfl | rfl<;>rcases hk2 with e | e | e
 ·rw[e] at h0;exact absurd (tt h0 hx) (by decide)
 ·rw[e] at h0;exact absurd (tt h0 h3) (by decide)
 ·rw[e] at h0;exact absurd (tt h0 h4) (by decide)
 ·rw[e] at h2;exact absurd (tt h2 hx) (by decide)
 ·rw[e] at h2;exact absurd (tt h2 h3) (by decide)
 ·rw[e] at h2;exact absurd (tt h2 h4) (by decide)
 ·rw[e] at h1;exact absurd (tt h1 hx) (by decide)
 ·exact hne.1 e
 ·exact hne.2 e
theorem RjmAt.cells{w:World}{q:QG}{J:Jn}{D:Dk}(h:RjmAt w q J D) :
  w.cell? ⟨q.jb,0,none⟩=some (.pointer (some ⟨q.r.rb,0,none⟩))∧w.cell? ⟨q.jb,1,none⟩=some (.int .i64 (J.last.ring:Int))∧w.cell? ⟨q.jb,2,none⟩=some (.int .u64 J.last.number)∧w.cell? ⟨q.jb,3,none⟩=some (.int .u64 J.turn)∧w.cell? ⟨q.jb,4,none⟩=some (.int .i64 (J.place:Int))∧
   w.cell? ⟨q.jb,5,none⟩=some (.int .i64 (J.homes D.n:Int))∧w.cell? ⟨q.jb,6,none⟩=some (.slice (some ⟨q.ab,0,none⟩) (J.homes D.n) q.ca)∧w.cell? ⟨q.jb,7,none⟩=some (.slice (some ⟨q.nb,0,none⟩) (J.homes D.n) q.cn)∧w.cell? ⟨q.jb,8,none⟩=some (.int .i64 (J.used:Int))∧w.cell? ⟨q.jb,9,none⟩=some (.int .i64 J.lives)∧w.cell? ⟨q.jb,10,none⟩=some (.bool J.done):=by
 have h0:=h.st
 refine⟨?_,?_,?_,?_,?_,?_,?_,?_,?_,?_,?_⟩
 all_goals (rw[blk_cell h0];rfl)
theorem RdkAt.cells{w:World}{g:RG}{D:Dk}(h:RdkAt w g D):w.cell? ⟨g.rb,2,none⟩=some (.bool false)∧w.cell? ⟨g.rb,8,none⟩=some (.int .i64 D.lives):=by
 obtain⟨x,hx⟩:=h.st
 refine⟨?_,?_⟩
 all_goals (rw[blk_cell hx];rfl)
set_option maxRecDepth 100000 in
set_option maxHeartbeats 4000000 in
theorem rover_spec{w:World}{q:QG}{J:Jn}{D:Dk}(h:RjmAt w q J D) :
  Calls Tryz.prog 77 #[.pointer (some ⟨q.jb,0,none⟩)] w fun e w'=>e=.returned (.bool (decide (J.may D≠0)))∧Upd [] w w':=by
 have HC:Hid (∀w',Upd [] w w'→w'.cell? ⟨q.jb,10,none⟩=some (.bool J.done)∧w'.cell? ⟨q.jb,9,none⟩=some (.int .i64 J.lives)∧w'.cell? ⟨q.jb,0,none⟩=some (.pointer (some ⟨q.r.rb,0,none⟩))∧w'.cell? ⟨q.r.rb,8,none⟩=some (.int .i64 D.lives)):=by
  show ∀w',_
  intro w' hu
  obtain⟨c0,_,_,_,_,_,_,_,_,c9,c10⟩:=(h.below hu).cells
  exact⟨c10,c9,c0,(h.below hu).disk.cells.2⟩
 obtain⟨dn,hdn⟩:∃b,b=J.done:=⟨_,rfl⟩
 have HM:Hid (decide (J.may D≠0)=(dn || (J.lives != D.lives))):=by
  show _=_
  unfold Jn.may
  rw[hdn]
  by_cases e:J.lives=D.lives
  ·cases J.done<;>simp[e]
  ·have e2:D.lives≠J.lives:=fun q=>e q.symm
   cases J.done<;>simp[e,e2]
 rw[← hdn] at HC
 clear h hdn
 go_enter Tryz.func77,Tryz.ntmps77
 go_wp2_with fail
 refine wp_region_x (fun w'=>Upd [] w w') [] (by kernel_rfl) (Upd.refl _ _).drew (fun hHeld=>?_)
 generalize w.drew=w0 at hHeld ⊢
 refine wpAnyX_take (i:=0) (v:=?_) rfl (by kernel_rfl) (fun _ _ _ h=>h) hHeld (Or.inl ⟨by kernel_rfl,?_⟩) ?_
 rotate_left
 ·(intro w hSw;go_simp<;>with_reducible rfl)
 try simp only[Act.put,List.getElem_toArray,List.getElem_cons_zero,List.getElem_cons_succ,List.setIfInBounds_toArray,List.set_cons_zero,List.set_cons_succ]
 refine wpAnyX_take (i:=1) (v:=?_) rfl (by kernel_rfl) (fun _ _ _ h=>h) hHeld (Or.inl ⟨by kernel_rfl,?_⟩) ?_
 rotate_left
 ·(intro w hSw;go_simp<;>with_reducible rfl)
 try simp only[Act.put,List.getElem_toArray,List.getElem_cons_zero,List.getElem_cons_succ,List.setIfInBounds_toArray,List.set_cons_zero,List.set_cons_succ]
 refine wpAnyX_take (i:=2) (v:=?_) rfl (by kernel_rfl) (fun _ _ _ h=>h) hHeld (Or.inl ⟨by kernel_rfl,?_⟩) ?_
 rotate_left
 ·(intro w hSw;go_simp<;>with_reducible rfl)
 try simp only[Act.put,List.getElem_toArray,List.getElem_cons_zero,List.getElem_cons_succ,List.setIfInBounds_toArray,List.set_cons_zero,List.set_cons_succ]
 refine wpAnyX_take (i:=3) (v:=?_) rfl (by kernel_rfl) (fun _ _ _ h=>h) hHeld (Or.inl ⟨by kernel_rfl,?_⟩) ?_
 rotate_left
 ·(intro w hSw;obtain⟨c10,c9,c0,c8⟩:=HC.out _ hSw;go_simp<;>with_reducible rfl)
 try simp only[Act.put,List.getElem_toArray,List.getElem_cons_zero,List.getElem_cons_succ,List.setIfInBounds_toArray,List.set_cons_zero,List.set_cons_succ]
 refine wpAnyX_take (i:=4) (v:=?_) rfl (by kernel_rfl) (fun _ _ _ h=>h) hHeld (Or.inl ⟨by kernel_rfl,?_⟩) ?_
 rotate_left
 ·(intro w hSw;go_simp<;>with_reducible rfl)
 try simp only[Act.put,List.getElem_toArray,List.getElem_cons_zero,List.getElem_cons_succ,List.setIfInBounds_toArray,List.set_cons_zero,List.set_cons_succ]
 cases dn
 ·refine wpAnyX_take (i:=5) (v:=?_) rfl (by kernel_rfl) (fun _ _ _ h=>h) hHeld (Or.inl ⟨by kernel_rfl,?_⟩) ?_
  rotate_left
  ·(intro w hSw;go_simp<;>with_reducible rfl)
  try simp only[Act.put,List.getElem_toArray,List.getElem_cons_zero,List.getElem_cons_succ,List.setIfInBounds_toArray,List.set_cons_zero,List.set_cons_succ]
  refine wpAnyX_take (i:=6) (v:=?_) rfl (by kernel_rfl) (fun _ _ _ h=>h) hHeld (Or.inl ⟨by kernel_rfl,?_⟩) ?_
  rotate_left
  ·(intro w hSw;go_simp<;>with_reducible rfl)
  try simp only[Act.put,List.getElem_toArray,List.getElem_cons_zero,List.getElem_cons_succ,List.setIfInBounds_toArray,List.set_cons_zero,List.set_cons_succ]
  refine wpAnyX_take (i:=7) (v:=?_) rfl (by kernel_rfl) (fun _ _ _ h=>h) hHeld (Or.inl ⟨by kernel_rfl,?_⟩) ?_
  rotate_left
  ·(intro w hSw;go_simp<;>with_reducible rfl)
  try simp only[Act.put,List.getElem_toArray,List.getElem_cons_zero,List.getElem_cons_succ,List.setIfInBounds_toArray,List.set_cons_zero,List.set_cons_succ]
  refine wpAnyX_take (i:=8) (v:=?_) rfl (by kernel_rfl) (fun _ _ _ h=>h) hHeld (Or.inl ⟨by kernel_rfl,?_⟩) ?_
  rotate_left
  ·(intro w hSw;obtain⟨c10,c9,c0,c8⟩:=HC.out _ hSw;go_simp<;>with_reducible rfl)
  try simp only[Act.put,List.getElem_toArray,List.getElem_cons_zero,List.getElem_cons_succ,List.setIfInBounds_toArray,List.set_cons_zero,List.set_cons_succ]
  refine wpAnyX_take (i:=9) (v:=?_) rfl (by kernel_rfl) (fun _ _ _ h=>h) hHeld (Or.inl ⟨by kernel_rfl,?_⟩) ?_
  rotate_left
  ·(intro w hSw;go_simp<;>with_reducible rfl)
  try simp only[Act.put,List.getElem_toArray,List.getElem_cons_zero,List.getElem_cons_succ,List.setIfInBounds_toArray,List.set_cons_zero,List.set_cons_succ]
  refine wpAnyX_take (i:=10) (v:=?_) rfl (by kernel_rfl) (fun _ _ _ h=>h) hHeld (Or.inl ⟨by kernel_rfl,?_⟩) ?_
  rotate_left
  ·(intro w hSw;go_simp<;>with_reducible rfl)
  try simp only[Act.put,List.getElem_toArray,List.getElem_cons_zero,List.getElem_cons_succ,List.setIfInBounds_toArray,List.set_cons_zero,List.set_cons_succ]
  refine wpAnyX_take (i:=11) (v:=?_) rfl (by kernel_rfl) (fun _ _ _ h=>h) hHeld (Or.inl ⟨by kernel_rfl,?_⟩) ?_
  rotate_left
  ·(intro w hSw;go_simp<;>with_reducible rfl)
  try simp only[Act.put,List.getElem_toArray,List.getElem_cons_zero,List.getElem_cons_succ,List.setIfInBounds_toArray,List.set_cons_zero,List.set_cons_succ]
  refine wpAnyX_take (i:=12) (v:=?_) rfl (by kernel_rfl) (fun _ _ _ h=>h) hHeld (Or.inl ⟨by kernel_rfl,?_⟩) ?_
  rotate_left
  ·(intro w hSw;obtain⟨c10,c9,c0,c8⟩:=HC.out _ hSw;go_simp<;>with_reducible rfl)
  try simp only[Act.put,List.getElem_toArray,List.getElem_cons_zero,List.getElem_cons_succ,List.setIfInBounds_toArray,List.set_cons_zero,List.set_cons_succ]
  refine wpAnyX_take (i:=13) (v:=?_) rfl (by kernel_rfl) (fun _ _ _ h=>h) hHeld (Or.inl ⟨by kernel_rfl,?_⟩) ?_
  rotate_left
  ·(intro w hSw;go_simp<;>with_reducible rfl)
  try simp only[Act.put,List.getElem_toArray,List.getElem_cons_zero,List.getElem_cons_succ,List.setIfInBounds_toArray,List.set_cons_zero,List.set_cons_succ]
  refine wpAnyX_take (i:=14) (v:=?_) rfl (by kernel_rfl) (fun _ _ _ h=>h) hHeld (Or.inl ⟨by kernel_rfl,?_⟩) ?_
  rotate_left
  ·(intro w hSw;go_simp<;>with_reducible rfl)
  try simp only[Act.put,List.getElem_toArray,List.getElem_cons_zero,List.getElem_cons_succ,List.setIfInBounds_toArray,List.set_cons_zero,List.set_cons_succ]
  refine wpAnyX_take (i:=15) (v:=?_) rfl (by kernel_rfl) (fun _ _ _ h=>h) hHeld (Or.inl ⟨by kernel_rfl,?_⟩) ?_
  rotate_left
  ·(intro w hSw;obtain⟨c10,c9,c0,c8⟩:=HC.out _ hSw;go_simp<;>with_reducible rfl)
  try simp only[Act.put,List.getElem_toArray,List.getElem_cons_zero,List.getElem_cons_succ,List.setIfInBounds_toArray,List.set_cons_zero,List.set_cons_succ]
  refine wpAnyX_take (i:=16) (v:=?_) rfl (by kernel_rfl) (fun _ _ _ h=>h) hHeld (Or.inl ⟨by kernel_rfl,?_⟩) ?_
  rotate_left
  ·(intro w hSw;go_simp<;>with_reducible rfl)
  try simp only[Act.put,List.getElem_toArray,List.getElem_cons_zero,List.getElem_cons_succ,List.setIfInBounds_toArray,List.set_cons_zero,List.set_cons_succ]
  refine wpAnyX_take (i:=17) (v:=?_) rfl (by kernel_rfl) (fun _ _ _ h=>h) hHeld (Or.inl ⟨by kernel_rfl,?_⟩) ?_
  rotate_left
  ·(intro w hSw;go_simp<;>with_reducible rfl)
  try simp only[Act.put,List.getElem_toArray,List.getElem_cons_zero,List.getElem_cons_succ,List.setIfInBounds_toArray,List.set_cons_zero,List.set_cons_succ]
  refine wpAnyX_take (i:=18) (v:=?_) rfl (by kernel_rfl) (fun _ _ _ h=>h) hHeld (Or.inl ⟨by kernel_rfl,?_⟩) ?_
  rotate_left
  ·(intro w hSw;go_simp<;>with_reducible rfl)
  try simp only[Act.put,List.getElem_toArray,List.getElem_cons_zero,List.getElem_cons_succ,List.setIfInBounds_toArray,List.set_cons_zero,List.set_cons_succ]
  refine wpAnyX_done (by kernel_rfl) ?_ _
  go_wp2_with fail
  go_ret
  exact⟨by rw[HM.out];rfl,hHeld⟩
 ·refine wpAnyX_take (i:=5) (v:=undef) rfl (by kernel_rfl) (fun _ _ _ h=>h) hHeld (Or.inr ⟨by kernel_rfl,rfl⟩) ?_
  try simp only[Act.put,List.getElem_toArray,List.getElem_cons_zero,List.getElem_cons_succ,List.setIfInBounds_toArray,List.set_cons_zero,List.set_cons_succ]
  refine wpAnyX_take (i:=6) (v:=undef) rfl (by kernel_rfl) (fun _ _ _ h=>h) hHeld (Or.inr ⟨by kernel_rfl,rfl⟩) ?_
  try simp only[Act.put,List.getElem_toArray,List.getElem_cons_zero,List.getElem_cons_succ,List.setIfInBounds_toArray,List.set_cons_zero,List.set_cons_succ]
  refine wpAnyX_take (i:=7) (v:=undef) rfl (by kernel_rfl) (fun _ _ _ h=>h) hHeld (Or.inr ⟨by kernel_rfl,rfl⟩) ?_
  try simp only[Act.put,List.getElem_toArray,List.getElem_cons_zero,List.getElem_cons_succ,List.setIfInBounds_toArray,List.set_cons_zero,List.set_cons_succ]
  refine wpAnyX_take (i:=8) (v:=undef) rfl (by kernel_rfl) (fun _ _ _ h=>h) hHeld (Or.inr ⟨by kernel_rfl,rfl⟩) ?_
  try simp only[Act.put,List.getElem_toArray,List.getElem_cons_zero,List.getElem_cons_succ,List.setIfInBounds_toArray,List.set_cons_zero,List.set_cons_succ]
  refine wpAnyX_take (i:=9) (v:=undef) rfl (by kernel_rfl) (fun _ _ _ h=>h) hHeld (Or.inr ⟨by kernel_rfl,rfl⟩) ?_
  try simp only[Act.put,List.getElem_toArray,List.getElem_cons_zero,List.getElem_cons_succ,List.setIfInBounds_toArray,List.set_cons_zero,List.set_cons_succ]
  refine wpAnyX_take (i:=10) (v:=undef) rfl (by kernel_rfl) (fun _ _ _ h=>h) hHeld (Or.inr ⟨by kernel_rfl,rfl⟩) ?_
  try simp only[Act.put,List.getElem_toArray,List.getElem_cons_zero,List.getElem_cons_succ,List.setIfInBounds_toArray,List.set_cons_zero,List.set_cons_succ]
  refine wpAnyX_take (i:=11) (v:=undef) rfl (by kernel_rfl) (fun _ _ _ h=>h) hHeld (Or.inr ⟨by kernel_rfl,rfl⟩) ?_
  try simp only[Act.put,List.getElem_toArray,List.getElem_cons_zero,List.getElem_cons_succ,List.setIfInBounds_toArray,List.set_cons_zero,List.set_cons_succ]
  refine wpAnyX_take (i:=12) (v:=undef) rfl (by kernel_rfl) (fun _ _ _ h=>h) hHeld (Or.inr ⟨by kernel_rfl,rfl⟩) ?_
  try simp only[Act.put,List.getElem_toArray,List.getElem_cons_zero,List.getElem_cons_succ,List.setIfInBounds_toArray,List.set_cons_zero,List.set_cons_succ]
  refine wpAnyX_take (i:=13) (v:=undef) rfl (by kernel_rfl) (fun _ _ _ h=>h) hHeld (Or.inr ⟨by kernel_rfl,rfl⟩) ?_
  try simp only[Act.put,List.getElem_toArray,List.getElem_cons_zero,List.getElem_cons_succ,List.setIfInBounds_toArray,List.set_cons_zero,List.set_cons_succ]
  refine wpAnyX_take (i:=14) (v:=undef) rfl (by kernel_rfl) (fun _ _ _ h=>h) hHeld (Or.inr ⟨by kernel_rfl,rfl⟩) ?_
  try simp only[Act.put,List.getElem_toArray,List.getElem_cons_zero,List.getElem_cons_succ,List.setIfInBounds_toArray,List.set_cons_zero,List.set_cons_succ]
  refine wpAnyX_take (i:=15) (v:=undef) rfl (by kernel_rfl) (fun _ _ _ h=>h) hHeld (Or.inr ⟨by kernel_rfl,rfl⟩) ?_
  try simp only[Act.put,List.getElem_toArray,List.getElem_cons_zero,List.getElem_cons_succ,List.setIfInBounds_toArray,List.set_cons_zero,List.set_cons_succ]
  refine wpAnyX_take (i:=16) (v:=undef) rfl (by kernel_rfl) (fun _ _ _ h=>h) hHeld (Or.inr ⟨by kernel_rfl,rfl⟩) ?_
  try simp only[Act.put,List.getElem_toArray,List.getElem_cons_zero,List.getElem_cons_succ,List.setIfInBounds_toArray,List.set_cons_zero,List.set_cons_succ]
  refine wpAnyX_take (i:=17) (v:=?_) rfl (by kernel_rfl) (fun _ _ _ h=>h) hHeld (Or.inl ⟨by kernel_rfl,?_⟩) ?_
  rotate_left
  ·(intro w hSw;go_simp<;>with_reducible rfl)
  try simp only[Act.put,List.getElem_toArray,List.getElem_cons_zero,List.getElem_cons_succ,List.setIfInBounds_toArray,List.set_cons_zero,List.set_cons_succ]
  refine wpAnyX_take (i:=18) (v:=?_) rfl (by kernel_rfl) (fun _ _ _ h=>h) hHeld (Or.inl ⟨by kernel_rfl,?_⟩) ?_
  rotate_left
  ·(intro w hSw;go_simp<;>with_reducible rfl)
  try simp only[Act.put,List.getElem_toArray,List.getElem_cons_zero,List.getElem_cons_succ,List.setIfInBounds_toArray,List.set_cons_zero,List.set_cons_succ]
  refine wpAnyX_done (by kernel_rfl) ?_ _
  go_wp2_with fail
  go_ret
  exact⟨by rw[HM.out];rfl,hHeld⟩
set_option maxRecDepth 100000 in
set_option maxHeartbeats 8000000 in
theorem rjread_spec{w:World}{q:QG}{J:Jn}{D:Dk}(h:RjmAt w q J D)(i:Int) :
  Calls Tryz.prog 131 #[.pointer (some ⟨q.jb,0,none⟩),.int .i64 i] w fun e w'=>e=.returned (.tuple #[strV (J.read D i).1,.int .i64 (J.read D i).2.1])∧Upd [] w w':=by
 have HO:=Lib.hid (rover_spec h)
 have HH:=Lib.hid h
 have hoff:=h.disk.off
 obtain⟨m,hm⟩:∃m,m=decide (J.may D≠0):=⟨_,rfl⟩
 rw[← hm] at HO
 have HM:=Lib.hid hm
 have HOFF:=Lib.hid hoff
 clear h hm hoff
 go_enter Tryz.func131,Tryz.ntmps131
 go_wp2_with fail
 refine HO.out.mono ?_
 rintro e w1 ⟨rfl,hu1⟩
 have HU1:=Lib.hid hu1
 have H1:=Lib.hid (HH.out.below hu1)
 clear hu1
 have nil_str:Value.string ⟨#[]⟩=strV []:=rfl
 cases m with
 | true=>
  have HR:Hid (J.read D i=([],8,J.done)):=by
   show _=_
   unfold Jn.read
   rw[if_pos (of_decide_eq_true HM.out.symm)]
  clear nil_str
  go_wp2_with fail
  go_ret2
  exact⟨by rw[HR.out];rfl,HU1.out⟩
 | false=>
  have hmay:¬(J.may D≠0):=of_decide_eq_false HM.out.symm
  have HMY:=Lib.hid hmay
  clear hmay nil_str
  obtain⟨c0,c1,_,_,_,c5,c6,c7,_,_,_⟩:=H1.out.cells
  have d2:=H1.out.disk.cells.1
  rcases Int.lt_or_le i 0 with hneg | hpos
  ·have e1:decide (i<0)=true:=decide_eq_true hneg
   have HR:Hid (J.read D i=([],1,J.done)):=by
    show _=_
    unfold Jn.read
    rw[if_neg HMY.out,if_pos (.inl hneg)]
   clear hneg
   go_wp2_with fail
   go_ret2
   exact⟨by rw[HR.out];rfl,HU1.out⟩
  obtain⟨iN,rfl⟩:=Int.eq_ofNat_of_zero_le hpos
  have e1:decide ((iN:Int)<0)=false:=by simp
  obtain⟨hm,hhm⟩:∃hm,hm=J.homes D.n:=⟨_,rfl⟩
  rw[← hhm] at c5 c6 c7
  have HHM:=Lib.hid hhm
  rcases Nat.lt_or_ge iN hm with hlt | hge
  ·have e2:decide ((hm:Int)≤(iN:Int))=false:=decide_eq_false (by omega)
   have e3:decide (hm≤iN)=false:=decide_eq_false (by omega)
   have i0:(0:Int)≤(iN:Int):=by omega
   have i1:(iN:Int)<(hm:Int):=by omega
   have ka:=H1.out.away.cell (awayB_get (aw:=J.away) (h:=J.homes D.n) (i:=iN) (by rw[← hhm];exact hlt))
   obtain⟨nl,hn1,hn2⟩:=H1.out.now
   clear hhm
   cases haw:J.away iN with
   | some s=>
    rw[haw] at ka
    have kn:=hn1.cell (hn2.away iN s (by rw[← HHM.out];exact hlt) haw)
    have HR:Hid (J.read D (iN:Int)=(s,0,J.done)):=by
     show _=_
     unfold Jn.read
     rw[if_neg HMY.out,if_neg (by rw[← HHM.out];omega),show((iN:Int)).toNat=iN by omega,if_pos (by rw[haw];rfl)]
     unfold Jn.home
     rw[haw];rfl
    unfold strV at kn
    clear haw hn1 hn2
    go_wp2_with fail
    go_ret2
    exact⟨by rw[HR.out];rfl,HU1.out⟩
   | none=>
    rw[haw] at ka
    have hmy:D.may ((2+J.last.ring+iN:Nat):Int)=0:=by
     unfold Dk.may
     have ho:=H1.out.ok.fits
     have hl:iN<D.n-2-J.last.ring:=by have:=HHM.out;unfold Jn.homes at this;omega
     rw[HOFF.out,if_neg (by simp),if_neg (by omega)]
    have HR:Hid ((J.read D (iN:Int)).1=(D.read ((2+J.last.ring+iN:Nat):Int)).1∧(J.read D (iN:Int)).2.1=0):=by
     show _∧_
     have e:J.read D (iN:Int)=(J.home D iN,0,false):=by
      unfold Jn.read
      rw[if_neg HMY.out,if_neg (by rw[← HHM.out];omega),show((iN:Int)).toNat=iN by omega,if_neg (by rw[haw];simp),if_neg (by rw[HOFF.out];simp)]
     rw[e]
     refine⟨?_,rfl⟩
     unfold Jn.home Dk.read
     rw[haw,hmy,if_pos rfl];rfl
    obtain⟨A,hA⟩:∃A,A=2+J.last.ring+iN:=⟨_,rfl⟩
    have hro:=H1.out.ok.ring1
    have hib:iN<1000000:=by have:=HHM.out;unfold Jn.homes at this;have:=H1.out.disk.ok.n1;omega
    have HW1:Hid (IntKind.i64.wrap (2+(J.last.ring:Int))=((2+J.last.ring:Nat):Int)∧IntKind.i64.wrap (((2+J.last.ring:Nat):Int)+(iN:Int))=(A:Int)∧IntKind.i64.wrap (2+(J.last.ring:Int)+(iN:Int))=(A:Int)):=by
     show _∧_∧_
     rw[IntKind.wrap_i64,IntKind.wrap_i64,IntKind.wrap_i64,hA]
     refine⟨by omega,by omega,by omega⟩
    rw[← hA] at HR
    obtain⟨R1,hR1⟩:∃R1,R1=2+J.last.ring:=⟨_,rfl⟩
    rw[← hR1] at HW1
    have HRD:Hid (∀w',Upd [] w1 w'→Calls Tryz.prog 72 #[.pointer (some ⟨q.r.rb,0,none⟩),.int .i64 (A:Int)] w' fun e w''=>e=.returned (.tuple #[strV (D.read (A:Int)).1,.int .i64 (D.read (A:Int)).2])∧w'=w''):=by
     show ∀w',_
     intro w' hu
     exact rread_spec ((H1.out.below hu).disk) _
    have HCC:Hid (∀w',Upd [] w1 w'→w'.cell? ⟨q.jb,0,none⟩=some (.pointer (some ⟨q.r.rb,0,none⟩))∧w'.cell? ⟨q.jb,1,none⟩=some (.int .i64 (J.last.ring:Int))):=by
     show ∀w',_
     intro w' hu
     obtain⟨x0,x1,_⟩:=(H1.out.below hu).cells
     exact⟨x0,x1⟩
    clear haw hn1 hn2 hmy hA hro hib hR1
    go_wp2_with fail
    refine wp_region_x (fun w'=>Upd [] w1 w') [] (by kernel_rfl) (Upd.refl _ _).drew (fun hHeld=>?_)
    generalize w1.drew=w0 at hHeld ⊢
    refine wpAnyX_take (i:=0) (v:=?_) rfl (by kernel_rfl) (fun _ _ _ h=>h) hHeld (Or.inl ⟨by kernel_rfl,?_⟩) ?_
    rotate_left
    ·(intro w hSw;go_simp<;>with_reducible rfl)
    try simp only[Act.put,List.getElem_toArray,List.getElem_cons_zero,List.getElem_cons_succ,List.setIfInBounds_toArray,List.set_cons_zero,List.set_cons_succ]
    refine wpAnyX_take (i:=1) (v:=?_) rfl (by kernel_rfl) (fun _ _ _ h=>h) hHeld (Or.inl ⟨by kernel_rfl,?_⟩) ?_
    rotate_left
    ·(intro w hSw;go_simp<;>with_reducible rfl)
    try simp only[Act.put,List.getElem_toArray,List.getElem_cons_zero,List.getElem_cons_succ,List.setIfInBounds_toArray,List.set_cons_zero,List.set_cons_succ]
    refine wpAnyX_take (i:=2) (v:=?_) rfl (by kernel_rfl) (fun _ _ _ h=>h) hHeld (Or.inl ⟨by kernel_rfl,?_⟩) ?_
    rotate_left
    ·(intro w hSw;go_simp<;>with_reducible rfl)
    try simp only[Act.put,List.getElem_toArray,List.getElem_cons_zero,List.getElem_cons_succ,List.setIfInBounds_toArray,List.set_cons_zero,List.set_cons_succ]
    refine wpAnyX_take (i:=4) (v:=?_) rfl (by kernel_rfl) (fun _ _ _ h=>h) hHeld (Or.inl ⟨by kernel_rfl,?_⟩) ?_
    rotate_left
    ·(intro w hSw;go_simp<;>with_reducible rfl)
    try simp only[Act.put,List.getElem_toArray,List.getElem_cons_zero,List.getElem_cons_succ,List.setIfInBounds_toArray,List.set_cons_zero,List.set_cons_succ]
    refine wpAnyX_take (i:=5) (v:=?_) rfl (by kernel_rfl) (fun _ _ _ h=>h) hHeld (Or.inl ⟨by kernel_rfl,?_⟩) ?_
    rotate_left
    ·(intro w hSw;go_simp<;>with_reducible rfl)
    try simp only[Act.put,List.getElem_toArray,List.getElem_cons_zero,List.getElem_cons_succ,List.setIfInBounds_toArray,List.set_cons_zero,List.set_cons_succ]
    refine wpAnyX_take (i:=6) (v:=?_) rfl (by kernel_rfl) (fun _ _ _ h=>h) hHeld (Or.inl ⟨by kernel_rfl,?_⟩) ?_
    rotate_left
    ·(intro w hSw;go_simp<;>with_reducible rfl)
    try simp only[Act.put,List.getElem_toArray,List.getElem_cons_zero,List.getElem_cons_succ,List.setIfInBounds_toArray,List.set_cons_zero,List.set_cons_succ]
    refine wpAnyX_take (i:=9) (v:=?_) rfl (by kernel_rfl) (fun _ _ _ h=>h) hHeld (Or.inl ⟨by kernel_rfl,?_⟩) ?_
    rotate_left
    ·(intro w hSw;go_simp<;>with_reducible rfl)
    try simp only[Act.put,List.getElem_toArray,List.getElem_cons_zero,List.getElem_cons_succ,List.setIfInBounds_toArray,List.set_cons_zero,List.set_cons_succ]
    refine wpAnyX_take (i:=3) (v:=?_) rfl (by kernel_rfl) (fun _ _ _ h=>h) hHeld (Or.inl ⟨by kernel_rfl,?_⟩) ?_
    rotate_left
    ·(intro w hSw;obtain⟨x0,x1⟩:=HCC.out _ hSw;go_simp<;>with_reducible rfl)
    try simp only[Act.put,List.getElem_toArray,List.getElem_cons_zero,List.getElem_cons_succ,List.setIfInBounds_toArray,List.set_cons_zero,List.set_cons_succ]
    refine wpAnyX_take (i:=7) (v:=?_) rfl (by kernel_rfl) (fun _ _ _ h=>h) hHeld (Or.inl ⟨by kernel_rfl,?_⟩) ?_
    rotate_left
    ·(intro w hSw;obtain⟨x0,x1⟩:=HCC.out _ hSw;go_simp<;>with_reducible rfl)
    try simp only[Act.put,List.getElem_toArray,List.getElem_cons_zero,List.getElem_cons_succ,List.setIfInBounds_toArray,List.set_cons_zero,List.set_cons_succ]
    refine wpAnyX_take (i:=8) (v:=?_) rfl (by kernel_rfl) (fun _ _ _ h=>h) hHeld (Or.inl ⟨by kernel_rfl,?_⟩) ?_
    rotate_left
    ·(intro w hSw;have wq:=HW1.out.1;go_simp<;>with_reducible rfl)
    try simp only[Act.put,List.getElem_toArray,List.getElem_cons_zero,List.getElem_cons_succ,List.setIfInBounds_toArray,List.set_cons_zero,List.set_cons_succ]
    refine wpAnyX_take (i:=10) (v:=?_) rfl (by kernel_rfl) (fun _ _ _ h=>h) hHeld (Or.inl ⟨by kernel_rfl,?_⟩) ?_
    rotate_left
    ·(intro w hSw;have wq:=HW1.out.2.1;have wq2:=HW1.out.2.2;go_simp<;>with_reducible rfl)
    try simp only[Act.put,List.getElem_toArray,List.getElem_cons_zero,List.getElem_cons_succ,List.setIfInBounds_toArray,List.set_cons_zero,List.set_cons_succ]
    refine wpAnyX_ready (rs:=[11]) (by kernel_rfl) (by simp) (AllReadyX.one rfl (fun K hK=>?_))
    go_simp
    go_at_call 72
    (with_reducible refine(HRD.out _ hHeld).mono ?_)
    rintro e wl ⟨rfl,rfl⟩
    refine hK.out _ _ (fun _=>hHeld) ?_
    clear hK K
    try simp only[Act.put,List.getElem_toArray,List.getElem_cons_zero,List.getElem_cons_succ,List.setIfInBounds_toArray,List.set_cons_zero,List.set_cons_succ]
    refine wpAnyX_take (i:=12) (v:=?_) rfl (by kernel_rfl) (fun _ _ _ h=>h) hHeld (Or.inl ⟨by kernel_rfl,?_⟩) ?_
    rotate_left
    ·(intro w hSw;go_simp<;>with_reducible rfl)
    try simp only[Act.put,List.getElem_toArray,List.getElem_cons_zero,List.getElem_cons_succ,List.setIfInBounds_toArray,List.set_cons_zero,List.set_cons_succ]
    refine wpAnyX_take (i:=13) (v:=?_) rfl (by kernel_rfl) (fun _ _ _ h=>h) hHeld (Or.inl ⟨by kernel_rfl,?_⟩) ?_
    rotate_left
    ·(intro w hSw;go_simp<;>with_reducible rfl)
    try simp only[Act.put,List.getElem_toArray,List.getElem_cons_zero,List.getElem_cons_succ,List.setIfInBounds_toArray,List.set_cons_zero,List.set_cons_succ]
    refine wpAnyX_take (i:=15) (v:=?_) rfl (by kernel_rfl) (fun _ _ _ h=>h) hHeld (Or.inl ⟨by kernel_rfl,?_⟩) ?_
    rotate_left
    ·(intro w hSw;go_simp<;>with_reducible rfl)
    try simp only[Act.put,List.getElem_toArray,List.getElem_cons_zero,List.getElem_cons_succ,List.setIfInBounds_toArray,List.set_cons_zero,List.set_cons_succ]
    refine wpAnyX_take (i:=14) (v:=?_) rfl (by kernel_rfl) (fun _ _ _ h=>h) hHeld (Or.inl ⟨by kernel_rfl,?_⟩) ?_
    rotate_left
    ·(intro w hSw;go_simp<;>with_reducible rfl)
    try simp only[Act.put,List.getElem_toArray,List.getElem_cons_zero,List.getElem_cons_succ,List.setIfInBounds_toArray,List.set_cons_zero,List.set_cons_succ]
    refine wpAnyX_take (i:=16) (v:=?_) rfl (by kernel_rfl) (fun _ _ _ h=>h) hHeld (Or.inl ⟨by kernel_rfl,?_⟩) ?_
    rotate_left
    ·(intro w hSw;go_simp<;>with_reducible rfl)
    try simp only[Act.put,List.getElem_toArray,List.getElem_cons_zero,List.getElem_cons_succ,List.setIfInBounds_toArray,List.set_cons_zero,List.set_cons_succ]
    refine wpAnyX_done (by kernel_rfl) ?_ _
    have HU2:=Lib.hid (HU1.out.trans hHeld)
    clear hHeld
    go_wp2_with fail
    go_ret2
    exact⟨by rw[HR.out.1,HR.out.2];rfl,HU2.out⟩
  ·have e2:decide ((hm:Int)≤(iN:Int))=true:=decide_eq_true (by omega)
   have e3:decide (hm≤iN)=true:=decide_eq_true hge
   have HR:Hid (J.read D (iN:Int)=([],1,J.done)):=by
    show _=_
    unfold Jn.read
    rw[if_neg HMY.out,if_pos (.inr (by rw[← HHM.out];omega))]
   clear hhm
   go_wp2_with fail
   go_ret2
   exact⟨by rw[HR.out];rfl,HU1.out⟩
end
end Go.Proofs.YtplppdbdfhkljaaGreat
end
