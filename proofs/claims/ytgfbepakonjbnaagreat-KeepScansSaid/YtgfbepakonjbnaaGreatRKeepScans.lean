/-
  KeepScans, from the walk. No conditions.
-/
import Derived.Test.YtgfbepakonjbnaaGreatV31
import Derived.Test.YtgfbepakonjbnaaGreatV21
set_option maxRecDepth 100000
set_option maxHeartbeats 16000000
namespace Go.Proofs.YtgfbepakonjbnaaGreat
open Go.ChangeShapes Go.WideShapes Go.ChangeAt Go.RowKit
theorem Aw2(os:Os)(started:os.Started)(H:Type)(enc:TypeId × Value->H) :
  ReturnsInHanded {} Tryz.checked os 4 .any (Rows.keepScansSpec.pre6 enc Tryz.prog Tryz.f4 Rows.keepScansRow.domain false) (Rows.keepScansSpec.post enc Tryz.prog Tryz.f4 false true false false):=by
 refine returnsInHanded_of_change (C:=Tryz.checked) own started (by kernel_rfl) Tryz.func4
  (ChangeSpec.witness6 (enc:=enc) (C:=Tryz.checked) false ⟨#[],#[.slice none 0 0,.int .i64 0],[]⟩ 8 (by kernel_rfl) (by kernel_rfl) (by kernel_rfl) (by kernel_rfl)) ?_
 intro W base args ds gs before hval0 hW hcnd _;have hval:∀(j:Nat) t v,Tryz.f4.params[j]?=some t->args[j]?=some v->Value.okWide Tryz.prog W .any base t v:=hval0;have hW':=hW;obtain⟨p,q,hA0,hV,rfl,hfz,hnd⟩:=hW;have hA:DataW.TrodAll enc Tryz.prog W 0 (λ _=>true) true Tryz.f4.params.toList args.toList ds p:=hA0;rw[Tryz.params4] at hA hval;obtain⟨v0,vs0,d0,ds0,p0,q0,hargs,rfl,rfl,h0,r0⟩:=trodAll_cons hA;obtain⟨v1,vs1,d1,ds1,p1,q1,rfl,rfl,rfl,h1,r1⟩:=trodAll_cons r0;obtain⟨rfl,rfl,rfl⟩:=trodAll_nil r1;obtain rfl:args=#[v0,v1]:=by cases args;simp_all
 obtain⟨rfl,rfl⟩:=trodVars_none hV;obtain⟨l0,hl0⟩:=Cx4 (hval 0 43 v0 rfl rfl) h0;obtain⟨a1,rfl,rfl,rfl,w1⟩:=open_int Tryz.underlying3 (hval 1 3 v1 rfl rfl) h1;refine(Bp0 _ _ a1 W hl0).mono λ e W' ⟨he,hu⟩=>?_;subst he;exact⟨_,rfl,Cq5 hW' rfl (by kernel_rfl) rfl (by rw[Tryz.params4];decide +kernel) hu.toBelow⟩
theorem Ba3:Tryz.pinned.checked.prog.funcNamed Rows.keepScansRow.func=some 4:=by kernel_rfl
theorem Ba4:joinedFacts Tryz.pinned.checked.prog 4 Tryz.f4 Rows.keepScansSpec Rows.keepScansRow=true:=by kernel_rfl
theorem Bf6:Tryz.f4.isInstance Tryz.pinned.checked.prog Rows.keepScansRow.origin Rows.keepScansRow.targs:=of_decide_eq_true (by kernel_rfl)
theorem Bf7:Tryz.f4.isWrapper Tryz.pinned.checked.prog Rows.keepScansRow.wrapper Rows.keepScansRow.mainSum:=by
 unfold Func.isWrapper;first | (rw[if_pos (by decide +kernel)];kernel_rfl) | (rw[if_neg (by decide +kernel)];exact⟨rfl,rfl⟩)
theorem Bf8:Rows.keepScansRow.holds Tryz.pinned (OpenSpec.ofChange Rows.keepScansSpec):=
 OpenClaim.holds_of_wide 4 Tryz.f4 rfl rfl rfl rfl rfl rfl rfl ⟨rfl,rfl,rfl,rfl,rfl⟩ rfl rfl rfl rfl rfl Ba3 Tryz.func4 Ba4 Bf6 Bf7
  (λ os started H enc _=>Aw2 os started H enc)
theorem keepScans_holds:Rows.KeepScansSaid:=Bf8
#print axioms keepScans_holds
end Go.Proofs.YtgfbepakonjbnaaGreat
