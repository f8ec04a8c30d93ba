/-
  KeepMany, from the walk. No conditions.
-/
import Derived.Test.YtgfbepakonjbnaaGreatU32
import Derived.Test.YtgfbepakonjbnaaGreatU24
namespace Go.Proofs.YtgfbepakonjbnaaGreat
open Go.ChangeShapes Go.WideShapes Go.ChangeAt Go.RowKit
set_option maxRecDepth 100000 in
theorem keepMany_lifted(os:Os)(started:os.Started)(H:Type)(enc:TypeId × Value→H) :
  ReturnsInHanded {} Tryz.checked os 3 .any (Rows.keepManySpec.pre6 enc Tryz.prog Tryz.f3 Rows.keepManyRow.domain false) (Rows.keepManySpec.post enc Tryz.prog Tryz.f3 false true false false):=by
 refine returnsInHanded_of_change (C:=Tryz.checked) own started (by kernel_rfl) Tryz.func3
  (ChangeSpec.witness6 (enc:=enc) (C:=Tryz.checked) false ⟨#[],#[.int .i64 0,.int .i64 0],[]⟩ 8 (by kernel_rfl) (by kernel_rfl) (by kernel_rfl) (by kernel_rfl)) ?_
 intro W base args ds gs before hval0 hW hcnd _
 have hval:∀(j:Nat) t v,Tryz.f3.params[j]?=some t→args[j]?=some v→Value.okWide Tryz.prog W .any base t v:=hval0
 have hW':=hW
 obtain⟨p,q,hA0,hV,rfl,hfz,hnd⟩:=hW
 have hA:DataW.TrodAll enc Tryz.prog W 0 (fun _=>true) true Tryz.f3.params.toList args.toList ds p:=hA0
 rw[Tryz.params3] at hA hval
 obtain⟨v0,vs0,d0,ds0,p0,q0,hargs,rfl,rfl,h0,r0⟩:=trodAll_cons hA
 obtain⟨v1,vs1,d1,ds1,p1,q1,rfl,rfl,rfl,h1,r1⟩:=trodAll_cons r0
 obtain⟨rfl,rfl,rfl⟩:=trodAll_nil r1
 obtain rfl:args=#[v0,v1]:=by cases args;simp_all
 obtain⟨rfl,rfl⟩:=trodVars_none hV
 obtain⟨a0,rfl,rfl,rfl,w0⟩:=open_int Tryz.underlying3 (hval 0 3 v0 rfl rfl) h0
 obtain⟨a1,rfl,rfl,rfl,w1⟩:=open_int Tryz.underlying3 (hval 1 3 v1 rfl rfl) h1
 refine(many12_spec a0 a1 W ).mono fun e W' ⟨he,hu⟩=>?_
 subst he
 exact⟨_,rfl,law_post hW' rfl (by kernel_rfl) rfl (by rw[Tryz.params3];decide +kernel) hu.toBelow⟩
theorem keepMany_named:Tryz.pinned.checked.prog.funcNamed Rows.keepManyRow.func=some 3:=by kernel_rfl
theorem keepMany_facts:joinedFacts Tryz.pinned.checked.prog 3 Tryz.f3 Rows.keepManySpec Rows.keepManyRow=true:=by kernel_rfl
theorem keepMany_inst:Tryz.f3.isInstance Tryz.pinned.checked.prog Rows.keepManyRow.origin Rows.keepManyRow.targs:=of_decide_eq_true (by kernel_rfl)
theorem keepMany_wrap:Tryz.f3.isWrapper Tryz.pinned.checked.prog Rows.keepManyRow.wrapper Rows.keepManyRow.mainSum:=by
 unfold Func.isWrapper;first | (rw[if_pos (by decide +kernel)];kernel_rfl) | (rw[if_neg (by decide +kernel)];exact⟨rfl,rfl⟩)
theorem keepMany_over:Rows.keepManyRow.holds Tryz.pinned (OpenSpec.ofChange Rows.keepManySpec):=
 OpenClaim.holds_of_wide 3 Tryz.f3 rfl rfl rfl rfl rfl rfl rfl ⟨rfl,rfl,rfl,rfl,rfl⟩ rfl rfl rfl rfl rfl keepMany_named Tryz.func3 keepMany_facts keepMany_inst keepMany_wrap
  (fun os started H enc _=>keepMany_lifted os started H enc)
theorem keepMany_holds:Rows.KeepManySaid:=keepMany_over
#print axioms keepMany_holds
end Go.Proofs.YtgfbepakonjbnaaGreat
