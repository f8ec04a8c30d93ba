/-
  TreeAllSaid: a tree does in any run what a rising list of pairs does, through commits and aborts, and its nodes keep the rules. No conditions.
-/
import Derived.Test.YtgfbepakonjbnaaGreatZ29
import Derived.Test.YtgfbepakonjbnaaGreatZ22
set_option maxRecDepth 100000
set_option maxHeartbeats 16000000
namespace Go.Proofs.YtgfbepakonjbnaaGreat
open Go.ChangeShapes Go.WideShapes Go.ChangeAt Go.RowKit
theorem Ax7(os:Os)(started:os.Started)(H:Type)(enc:TypeId × Value->H) :
  ReturnsInHanded {} Tryz.checked os 13 .any (Rows.treeAllSpec.pre6 enc Tryz.prog Tryz.f13 Rows.treeAllRow.domain false) (Rows.treeAllSpec.post enc Tryz.prog Tryz.f13 false true false false):=by
 refine returnsInHanded_of_change (C:=Tryz.checked) own started (by kernel_rfl) Tryz.func13
  (ChangeSpec.witness6 (enc:=enc) (C:=Tryz.checked) false ⟨#[],#[.slice none 0 0],[]⟩ 8 (by kernel_rfl) (by kernel_rfl) (by kernel_rfl) (by kernel_rfl)) ?_
 intro W base args ds gs before hval0 hW hcnd _;have hval:∀(j:Nat) t v,Tryz.f13.params[j]?=some t->args[j]?=some v->Value.okWide Tryz.prog W .any base t v:=hval0;have hW':=hW;obtain⟨p,q,hA0,hV,rfl,hfz,hnd⟩:=hW;have hA:DataW.TrodAll enc Tryz.prog W 0 (λ _=>true) true Tryz.f13.params.toList args.toList ds p:=hA0;rw[Tryz.params13] at hA hval;obtain⟨v0,vs0,d0,ds0,p0,q0,hargs,rfl,rfl,h0,r0⟩:=trodAll_cons hA;obtain⟨rfl,rfl,rfl⟩:=trodAll_nil r0;obtain rfl:args=#[v0]:=by cases args;simp_all
 obtain⟨rfl,rfl⟩:=trodVars_none hV;obtain⟨l0,hl0⟩:=Cm8 (hval 0 113 v0 rfl rfl) h0;refine(Cc3 _ _ W hl0).mono λ e W' ⟨he,hu⟩=>?_;subst he;exact⟨_,rfl,Ce8 hW' rfl (by kernel_rfl) rfl (by rw[Tryz.params13];decide +kernel) hu.toBelow⟩
theorem Bc0:Tryz.pinned.checked.prog.funcNamed Rows.treeAllRow.func=some 13:=by kernel_rfl
theorem Bc1:joinedFacts Tryz.pinned.checked.prog 13 Tryz.f13 Rows.treeAllSpec Rows.treeAllRow=true:=by kernel_rfl
theorem Bh1:Tryz.f13.isInstance Tryz.pinned.checked.prog Rows.treeAllRow.origin Rows.treeAllRow.targs:=of_decide_eq_true (by kernel_rfl)
theorem Bh2:Tryz.f13.isWrapper Tryz.pinned.checked.prog Rows.treeAllRow.wrapper Rows.treeAllRow.mainSum:=by
 unfold Func.isWrapper;first | (rw[if_pos (by decide +kernel)];kernel_rfl) | (rw[if_neg (by decide +kernel)];exact⟨rfl,rfl⟩)
theorem Bh3:Rows.treeAllRow.holds Tryz.pinned (OpenSpec.ofChange Rows.treeAllSpec):=
 OpenClaim.holds_of_wide 13 Tryz.f13 rfl rfl rfl rfl rfl rfl rfl ⟨rfl,rfl,rfl,rfl,rfl⟩ rfl rfl rfl rfl rfl Bc0 Tryz.func13 Bc1 Bh1 Bh2
  (λ os started H enc _=>Ax7 os started H enc)
theorem treeAll_holds:Rows.TreeAllSaid:=Bh3
#print axioms treeAll_holds
end Go.Proofs.YtgfbepakonjbnaaGreat
