/-
  TxnAllSaid: transactions are begun, written, read, committed, given up and cut off, and the document's answer alike. No conditions.
-/
import Derived.Test.YtplppdbdfhkljaaGreatA24
import Derived.Test.YtplppdbdfhkljaaGreatA10
set_option maxRecDepth 100000
set_option maxHeartbeats 16000000
namespace Go.Proofs.YtplppdbdfhkljaaGreat
open Go.ChangeShapes Go.WideShapes Go.ChangeAt Go.RowKit
set_option maxRecDepth 100000 in
theorem txnAll_lifted(os:Os)(started:os.Started)(H:Type)(enc:TypeId × Value→H) :
  ReturnsInHanded {} Tryz.checked os 4 .any (Rows.txnAllSpec.pre6 enc Tryz.prog Tryz.f4 Rows.txnAllRow.domain false) (Rows.txnAllSpec.post enc Tryz.prog Tryz.f4 false true false false):=by
 refine returnsInHanded_of_change (C:=Tryz.checked) own started (by kernel_rfl) Tryz.func4
  (ChangeSpec.witness6 (enc:=enc) (C:=Tryz.checked) false ⟨#[],#[.slice none 0 0],[]⟩ 8 (by kernel_rfl) (by kernel_rfl) (by kernel_rfl) (by kernel_rfl)) ?_
 intro W base args ds gs before hval0 hW hcnd _
 have hval:∀(j:Nat) t v,Tryz.f4.params[j]?=some t→args[j]?=some v→Value.okWide Tryz.prog W .any base t v:=hval0
 have hW':=hW
 obtain⟨p,q,hA0,hV,rfl,hfz,hnd⟩:=hW
 have hA:DataW.TrodAll enc Tryz.prog W 0 (fun _=>true) true Tryz.f4.params.toList args.toList ds p:=hA0
 rw[Tryz.params4] at hA hval
 obtain⟨v0,vs0,d0,ds0,p0,q0,hargs,rfl,rfl,h0,r0⟩:=trodAll_cons hA
 obtain⟨rfl,rfl,rfl⟩:=trodAll_nil r0
 obtain rfl:args=#[v0]:=by cases args;simp_all
 obtain⟨rfl,rfl⟩:=trodVars_none hV
 obtain⟨l0,hl0⟩:=rd_ops7 (hval 0 70 v0 rfl rfl) h0
 refine(all7_spec hl0).mono fun e W' ⟨he,hu⟩=>?_
 subst he
 exact⟨_,rfl,law_post hW' rfl (by kernel_rfl) rfl (by rw[Tryz.params4];decide +kernel) hu.toBelow⟩
theorem txnAll_named:Tryz.pinned.checked.prog.funcNamed Rows.txnAllRow.func=some 4:=by kernel_rfl
theorem txnAll_facts:joinedFacts Tryz.pinned.checked.prog 4 Tryz.f4 Rows.txnAllSpec Rows.txnAllRow=true:=by kernel_rfl
theorem txnAll_inst:Tryz.f4.isInstance Tryz.pinned.checked.prog Rows.txnAllRow.origin Rows.txnAllRow.targs:=of_decide_eq_true (by kernel_rfl)
theorem txnAll_wrap:Tryz.f4.isWrapper Tryz.pinned.checked.prog Rows.txnAllRow.wrapper Rows.txnAllRow.mainSum:=by
 unfold Func.isWrapper;first | (rw[if_pos (by decide +kernel)];kernel_rfl) | (rw[if_neg (by decide +kernel)];exact⟨rfl,rfl⟩)
theorem txnAll_over:Rows.txnAllRow.holds Tryz.pinned (OpenSpec.ofChange Rows.txnAllSpec):=
 OpenClaim.holds_of_wide 4 Tryz.f4 rfl rfl rfl rfl rfl rfl rfl ⟨rfl,rfl,rfl,rfl,rfl⟩ rfl rfl rfl rfl rfl txnAll_named Tryz.func4 txnAll_facts txnAll_inst txnAll_wrap
  (fun os started H enc _=>txnAll_lifted os started H enc)
theorem txnAll_holds:Rows.TxnAllSaid:=txnAll_over
#print axioms txnAll_holds
end Go.Proofs.YtplppdbdfhkljaaGreat
