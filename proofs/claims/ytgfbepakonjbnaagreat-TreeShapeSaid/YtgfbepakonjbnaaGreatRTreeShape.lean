/-
  TreeShapeSaid: a tree keeps its rules, node by node, in whatever order keys come and go, and gives back all its sectors. No conditions.
-/
import Derived.Test.YtgfbepakonjbnaaGreatY26
import Derived.Test.YtgfbepakonjbnaaGreatY23
set_option maxRecDepth 100000
set_option maxHeartbeats 16000000
namespace Go.Proofs.YtgfbepakonjbnaaGreat
open Go.ChangeShapes Go.WideShapes Go.ChangeAt Go.RowKit
theorem An7(os:Os)(started:os.Started)(H:Type)(enc:TypeId × Value->H) :
  ReturnsInHanded {} Tryz.checked os 12 .any (Rows.treeShapeSpec.pre6 enc Tryz.prog Tryz.f12 Rows.treeShapeRow.domain false) (Rows.treeShapeSpec.post enc Tryz.prog Tryz.f12 false true false false):=by
 refine returnsInHanded_of_change (C:=Tryz.checked) own started (by kernel_rfl) Tryz.func12
  (ChangeSpec.witness6 (enc:=enc) (C:=Tryz.checked) false ⟨#[],#[.slice none 0 0,.slice none 0 0],[]⟩ 8 (by kernel_rfl) (by kernel_rfl) (by kernel_rfl) (by kernel_rfl)) ?_
 intro W base args ds gs before hval0 hW hcnd _;have hval:∀(j:Nat) t v,Tryz.f12.params[j]?=some t->args[j]?=some v->Value.okWide Tryz.prog W .any base t v:=hval0;have hW':=hW;obtain⟨p,q,hA0,hV,rfl,hfz,hnd⟩:=hW;have hA:DataW.TrodAll enc Tryz.prog W 0 (λ _=>true) true Tryz.f12.params.toList args.toList ds p:=hA0;rw[Tryz.params12] at hA hval;obtain⟨v0,vs0,d0,ds0,p0,q0,hargs,rfl,rfl,h0,r0⟩:=trodAll_cons hA;obtain⟨v1,vs1,d1,ds1,p1,q1,rfl,rfl,rfl,h1,r1⟩:=trodAll_cons r0;obtain⟨rfl,rfl,rfl⟩:=trodAll_nil r1;obtain rfl:args=#[v0,v1]:=by cases args;simp_all
 obtain⟨rfl,rfl⟩:=trodVars_none hV;obtain⟨l0,hl0⟩:=Bq0 (hval 0 43 v0 rfl rfl) h0;obtain⟨l1,hl1⟩:=Bq0 (hval 1 43 v1 rfl rfl) h1;refine(Bl7 _ _ _ _ W hl0 hl1).mono λ e W' ⟨he,hu⟩=>?_;subst he;exact⟨_,rfl,By0 hW' rfl (by kernel_rfl) rfl (by rw[Tryz.params12];decide +kernel) hu.toBelow⟩
theorem Ar4:Tryz.pinned.checked.prog.funcNamed Rows.treeShapeRow.func=some 12:=by kernel_rfl
theorem Ar5:joinedFacts Tryz.pinned.checked.prog 12 Tryz.f12 Rows.treeShapeSpec Rows.treeShapeRow=true:=by kernel_rfl
theorem Au5:Tryz.f12.isInstance Tryz.pinned.checked.prog Rows.treeShapeRow.origin Rows.treeShapeRow.targs:=of_decide_eq_true (by kernel_rfl)
theorem Au6:Tryz.f12.isWrapper Tryz.pinned.checked.prog Rows.treeShapeRow.wrapper Rows.treeShapeRow.mainSum:=by
 unfold Func.isWrapper;first | (rw[if_pos (by decide +kernel)];kernel_rfl) | (rw[if_neg (by decide +kernel)];exact⟨rfl,rfl⟩)
theorem Au7:Rows.treeShapeRow.holds Tryz.pinned (OpenSpec.ofChange Rows.treeShapeSpec):=
 OpenClaim.holds_of_wide 12 Tryz.f12 rfl rfl rfl rfl rfl rfl rfl ⟨rfl,rfl,rfl,rfl,rfl⟩ rfl rfl rfl rfl rfl Ar4 Tryz.func12 Ar5 Au5 Au6
  (λ os started H enc _=>An7 os started H enc)
theorem treeShape_holds:Rows.TreeShapeSaid:=Au7
#print axioms treeShape_holds
end Go.Proofs.YtgfbepakonjbnaaGreat
