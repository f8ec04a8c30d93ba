/-
  KeepOwn, from the walk. No conditions.
-/
import Derived.Test.YtgfbepakonjbnaaGreatX30
import Derived.Test.YtgfbepakonjbnaaGreatX22
set_option maxRecDepth 100000
set_option maxHeartbeats 16000000
namespace Go.Proofs.YtgfbepakonjbnaaGreat
open Go.ChangeShapes Go.WideShapes Go.ChangeAt Go.RowKit
theorem Be4(os:Os)(started:os.Started)(H:Type)(enc:TypeId × Value->H) :
  ReturnsInHanded {} Tryz.checked os 6 .any (Rows.keepOwnSpec.pre6 enc Tryz.prog Tryz.f6 Rows.keepOwnRow.domain false) (Rows.keepOwnSpec.post enc Tryz.prog Tryz.f6 false true false false):=by
 refine returnsInHanded_of_change (C:=Tryz.checked) own started (by kernel_rfl) Tryz.func6
  (ChangeSpec.witness6 (enc:=enc) (C:=Tryz.checked) false ⟨#[],#[.slice none 0 0,.slice none 0 0],[]⟩ 8 (by kernel_rfl) (by kernel_rfl) (by kernel_rfl) (by kernel_rfl)) ?_
 intro W base args ds gs before hval0 hW hcnd _;have hval:∀(j:Nat) t v,Tryz.f6.params[j]?=some t->args[j]?=some v->Value.okWide Tryz.prog W .any base t v:=hval0;have hW':=hW;obtain⟨p,q,hA0,hV,rfl,hfz,hnd⟩:=hW;have hA:DataW.TrodAll enc Tryz.prog W 0 (λ _=>true) true Tryz.f6.params.toList args.toList ds p:=hA0;rw[Tryz.params6] at hA hval;obtain⟨v0,vs0,d0,ds0,p0,q0,hargs,rfl,rfl,h0,r0⟩:=trodAll_cons hA;obtain⟨v1,vs1,d1,ds1,p1,q1,rfl,rfl,rfl,h1,r1⟩:=trodAll_cons r0;obtain⟨rfl,rfl,rfl⟩:=trodAll_nil r1;obtain rfl:args=#[v0,v1]:=by cases args;simp_all
 obtain⟨rfl,rfl⟩:=trodVars_none hV;obtain⟨l0,hl0⟩:=Bs0 (hval 0 32 v0 rfl rfl) h0;obtain⟨l1,hl1⟩:=Bs0 (hval 1 32 v1 rfl rfl) h1;refine(Ca1 _ _ _ _  W hl0 hl1).mono λ e W' ⟨he,hu⟩=>?_;subst he;exact⟨_,rfl,Cp3 hW' rfl (by kernel_rfl) rfl (by rw[Tryz.params6];decide +kernel) hu.toBelow⟩
theorem Bh7:Tryz.pinned.checked.prog.funcNamed Rows.keepOwnRow.func=some 6:=by kernel_rfl
theorem Bh8:joinedFacts Tryz.pinned.checked.prog 6 Tryz.f6 Rows.keepOwnSpec Rows.keepOwnRow=true:=by kernel_rfl
theorem Bn9:Tryz.f6.isInstance Tryz.pinned.checked.prog Rows.keepOwnRow.origin Rows.keepOwnRow.targs:=of_decide_eq_true (by kernel_rfl)
theorem Bo0:Tryz.f6.isWrapper Tryz.pinned.checked.prog Rows.keepOwnRow.wrapper Rows.keepOwnRow.mainSum:=by
 unfold Func.isWrapper;first | (rw[if_pos (by decide +kernel)];kernel_rfl) | (rw[if_neg (by decide +kernel)];exact⟨rfl,rfl⟩)
theorem Bo1:Rows.keepOwnRow.holds Tryz.pinned (OpenSpec.ofChange Rows.keepOwnSpec):=
 OpenClaim.holds_of_wide 6 Tryz.f6 rfl rfl rfl rfl rfl rfl rfl ⟨rfl,rfl,rfl,rfl,rfl⟩ rfl rfl rfl rfl rfl Bh7 Tryz.func6 Bh8 Bn9 Bo0
  (λ os started H enc _=>Be4 os started H enc)
theorem keepOwn_holds:Rows.KeepOwnSaid:=Bo1
#print axioms keepOwn_holds
end Go.Proofs.YtgfbepakonjbnaaGreat
