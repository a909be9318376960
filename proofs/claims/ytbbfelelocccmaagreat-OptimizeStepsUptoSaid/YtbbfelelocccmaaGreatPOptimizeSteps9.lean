/-
  The law OptimizeSteps of the given program answers true for every input of the bulk that is named, and leaves its arguments as they were. Own work.
-/
import Derived.Test.YtbbfelelocccmaaGreatPOptimizeSteps4
import Derived.Test.YtbbfelelocccmaaGreatPOptimizeSteps5
import Derived.Deep.CondSized
import Derived.JoinedCond
import Derived.Test.YtbbfelelocccmaaGreatPOptimizeSteps8
set_option linter.unusedVariables false
set_option linter.unusedSimpArgs false
set_option maxRecDepth 100000
set_option maxHeartbeats 2000000
namespace Go.Proofs.YtbbfelelocccmaaGreat
open Go.ChangeShapes Go.WideShapes Go.ChangeAt Go.RowKit Sv
set_option linter.unusedVariables false

set_option maxRecDepth 100000 in
theorem optimizeSteps_lifted(os:Os)(started:os.Started)(H:Type)(enc:TypeId×Value->H)(F:Stop.Interp):
 ReturnsInHanded {} Tryz.checked os 7 .any ((Rows.OpenSpec.upto Rows.optimizeStepsSpec).pre6 enc Tryz.prog Tryz.f7 Rows.optimizeStepsUptoRow.domain false) (((Rows.OpenSpec.upto Rows.optimizeStepsSpec).at F).post enc Tryz.prog Tryz.f7 false true false false):=by
 refine returnsInHanded_of_cond_sized (C:=Tryz.checked) (s:=Rows.OpenSpec.upto Rows.optimizeStepsSpec) (k:=Rows.uptoSmall) rfl own' started (by kernel_rfl) Tryz.func7
  (OpenSpec.witness (enc:=enc) (C:=Tryz.checked) (s:=Rows.OpenSpec.upto Rows.optimizeStepsSpec) (k:=Rows.uptoSmall) rfl false ⟨#[],#[.agg #[.int .i64 0,.slice none 0 0],.slice none 0 0,.int .i64 0],[]⟩ 8 (by kernel_rfl) (by kernel_rfl) (by kernel_rfl) (x:=([.agg [.lit (.int .i64 0),.nil],.nil,.lit (.int .i64 0)],[],[])) (by kernel_rfl) rfl (by kernel_rfl)) ?_
 intro W base args ds gs before hval0 hW hcnd hk hwt0 hh;have hval:∀(j:Nat) t v,Tryz.f7.params[j]?=some t->args[j]?=some v->Value.okWide Tryz.prog W .any base t v:=hval0
 have hW':=hW;obtain⟨p,q,hA0,hV,rfl,hfz,hnd⟩:=hW;have hA:DataW.TrodAll enc Tryz.prog W 0 (fun _=>true) true Tryz.f7.params.toList args.toList ds p:=hA0;have hwt:(DataW.weightsEach Tryz.prog (Tryz.f7.params.toList++(Rows.OpenSpec.upto Rows.optimizeStepsSpec).bare.plain.varTypes Tryz.prog) (ds++gs)).all (· <=reachBytes)=true:=hwt0;rw[Tryz.params7]at hA hval hwt;obtain⟨v0,vs0,d0,ds0,p0,q0,hargs,rfl,rfl,h0,r0⟩:=trodAll_cons hA;obtain⟨v1,vs1,d1,ds1,p1,q1,rfl,rfl,rfl,h1,r1⟩:=trodAll_cons r0;obtain⟨v2,vs2,d2,ds2,p2,q2,rfl,rfl,rfl,h2,r2⟩:=trodAll_cons r1;obtain⟨rfl,rfl,rfl⟩:=trodAll_nil r2;obtain rfl:args= #[v0,v1,v2]:=by cases args;simp_all
 obtain⟨rfl,rfl⟩:=trodVars_none hV;obtain⟨x0,e0,g0⟩:=arg_oneR h0 (weightsEach_get hwt (i:=0) rfl rfl) decBlocksR;have u0:=upto_get hk (i:=0) rfl;obtain⟨x1,e1,g1⟩:=arg_oneR h1 (weightsEach_get hwt (i:=1) rfl rfl) decIntsR;have u1:=upto_get hk (i:=1) rfl;obtain⟨x2,rfl,rfl,rfl,w2⟩:=open_int Tryz.underlying3 (hval 2 3 v2 rfl rfl) h2;exact cp laidOut' rfl (by kernel_rfl) rfl bool' rfl rfl rfl hW' (.cons (e0.val (XU Ai rfl rfl (hval 0 24 v0 rfl rfl))) (.cons (e1.val1 (okWide_cell Ai rfl rfl (hval 1 _ v1 rfl rfl))) (.cons (.int _ _ _) .nil))) (LB x0 x1 x2 (blocksI_row g0 u0) (ints23_row g1 u1) (DC w2)) (fun g l h=>by cases h)

theorem optimizeSteps_holds:Rows.OptimizeStepsUptoSaid:=
 OpenClaim.holds_of_cond 7 Tryz.f7 rfl rfl rfl rfl rfl rfl rfl ⟨rfl,rfl,rfl,rfl,rfl⟩ rfl rfl rfl rfl rfl (by kernel_rfl) Tryz.func7 (by kernel_rfl)
  (q58 (by kernel_rfl)) (by unfold Func.isWrapper;first|(rw[qK0 (by decide+kernel)];kernel_rfl)|(rw[qZ9 (by decide+kernel)];exact⟨rfl,rfl⟩))
  (fun os started H enc _ F=>optimizeSteps_lifted os started H enc F)

end Go.Proofs.YtbbfelelocccmaaGreat
