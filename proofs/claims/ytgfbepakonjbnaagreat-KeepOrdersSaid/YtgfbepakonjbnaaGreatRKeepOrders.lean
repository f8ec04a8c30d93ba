/-
  KeepOrders, from the walk. No conditions.
-/
import Derived.Test.YtgfbepakonjbnaaGreatW31
import Derived.Test.YtgfbepakonjbnaaGreatW21
set_option maxRecDepth 100000
set_option maxHeartbeats 16000000
namespace Go.Proofs.YtgfbepakonjbnaaGreat
open Go.ChangeShapes Go.WideShapes Go.ChangeAt Go.RowKit
theorem As4(os:Os)(started:os.Started)(H:Type)(enc:TypeId × Value->H) :
  ReturnsInHanded {} Tryz.checked os 5 .any (Rows.keepOrdersSpec.pre6 enc Tryz.prog Tryz.f5 Rows.keepOrdersRow.domain false) (Rows.keepOrdersSpec.post enc Tryz.prog Tryz.f5 false true false false):=by
 refine returnsInHanded_of_change (C:=Tryz.checked) own started (by kernel_rfl) Tryz.func5
  (ChangeSpec.witness6 (enc:=enc) (C:=Tryz.checked) false ⟨#[],#[.slice none 0 0,.slice none 0 0],[]⟩ 8 (by kernel_rfl) (by kernel_rfl) (by kernel_rfl) (by kernel_rfl)) ?_
 intro W base args ds gs before hval0 hW hcnd _;have hval:∀(j:Nat) t v,Tryz.f5.params[j]?=some t->args[j]?=some v->Value.okWide Tryz.prog W .any base t v:=hval0;have hW':=hW;obtain⟨p,q,hA0,hV,rfl,hfz,hnd⟩:=hW;have hA:DataW.TrodAll enc Tryz.prog W 0 (λ _=>true) true Tryz.f5.params.toList args.toList ds p:=hA0;rw[Tryz.params5] at hA hval;obtain⟨v0,vs0,d0,ds0,p0,q0,hargs,rfl,rfl,h0,r0⟩:=trodAll_cons hA;obtain⟨v1,vs1,d1,ds1,p1,q1,rfl,rfl,rfl,h1,r1⟩:=trodAll_cons r0;obtain⟨rfl,rfl,rfl⟩:=trodAll_nil r1;obtain rfl:args=#[v0,v1]:=by cases args;simp_all
 obtain⟨rfl,rfl⟩:=trodVars_none hV;obtain⟨l0,hl0⟩:=Ce8 (hval 0 43 v0 rfl rfl) h0;obtain⟨l1,hl1⟩:=Ce8 (hval 1 43 v1 rfl rfl) h1;refine(Bi7 _ _ _ _  W hl0 hl1).mono λ e W' ⟨he,hu⟩=>?_;subst he;exact⟨_,rfl,Cq2 hW' rfl (by kernel_rfl) rfl (by rw[Tryz.params5];decide +kernel) hu.toBelow⟩
theorem Aw3:Tryz.pinned.checked.prog.funcNamed Rows.keepOrdersRow.func=some 5:=by kernel_rfl
theorem Aw4:joinedFacts Tryz.pinned.checked.prog 5 Tryz.f5 Rows.keepOrdersSpec Rows.keepOrdersRow=true:=by kernel_rfl
theorem Ba6:Tryz.f5.isInstance Tryz.pinned.checked.prog Rows.keepOrdersRow.origin Rows.keepOrdersRow.targs:=of_decide_eq_true (by kernel_rfl)
theorem Ba7:Tryz.f5.isWrapper Tryz.pinned.checked.prog Rows.keepOrdersRow.wrapper Rows.keepOrdersRow.mainSum:=by
 unfold Func.isWrapper;first | (rw[if_pos (by decide +kernel)];kernel_rfl) | (rw[if_neg (by decide +kernel)];exact⟨rfl,rfl⟩)
theorem Ba8:Rows.keepOrdersRow.holds Tryz.pinned (OpenSpec.ofChange Rows.keepOrdersSpec):=
 OpenClaim.holds_of_wide 5 Tryz.f5 rfl rfl rfl rfl rfl rfl rfl ⟨rfl,rfl,rfl,rfl,rfl⟩ rfl rfl rfl rfl rfl Aw3 Tryz.func5 Aw4 Ba6 Ba7
  (λ os started H enc _=>As4 os started H enc)
theorem keepOrders_holds:Rows.KeepOrdersSaid:=Ba8
#print axioms keepOrders_holds
end Go.Proofs.YtgfbepakonjbnaaGreat
