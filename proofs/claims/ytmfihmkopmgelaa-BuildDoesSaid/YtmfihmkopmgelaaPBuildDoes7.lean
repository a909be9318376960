/-
  The law BuildDoes of the given program answers true for every input, and leaves its arguments as they were. There is no condition. Own work.
  WALKS: printed by a program of our own from the code's tree.
-/
import Derived.Test.YtmfihmkopmgelaaPBuildDoes4
import Derived.Test.YtmfihmkopmgelaaPBuildDoes5
import Derived.Test.YtmfihmkopmgelaaPBuildDoes6
import Derived.Test.YtmfihmkopmgelaaPBuildDoes2
import Derived.Test.YtmfihmkopmgelaaPBuildDoes3
namespace Go.Proofs.Ytmfihmkopmgelaa.Sv
open Go
set_option maxRecDepth 100000 in
theorem num25_ok (n : Int) : APure Try.prog 21 [.int .u32 n] (fun r => r = .agg (eNum n).cells) := by
 refine APure.of_body (n := 5) tok Try.func21 rfl rfl ?_
 refine asr ?_
 refine ax 2 (o_alloc tok 0 rfl rfl rfl rfl (Nat.zero_lt_succ _) rfl) ?_
 refine an ?_
 refine asr ?_
 refine am 3 ?_
 refine aq 4 (QLoc.weakN (y := .agg (eNum n).cells) (q_build tok rfl rfl rfl rfl rfl (by decide) rfl rfl rfl) (fun _ _ _ h => agg_fix h rfl)) ?_
 refine AOps.w rfl rfl (o_store tok rfl rfl rfl rfl rfl rfl rfl rfl rfl (by decide) rfl z37q) ?_
 refine an ?_
 refine AGo.ret ?_
 refine ⟨[_], ⟨⟨_, _, _, _, rfl, rfl, .ptr _ _ _ _ _ _ _ _ rfl rfl rfl, rfl⟩, trivial⟩, ?_, rfl⟩
 rfl
set_option maxRecDepth 100000 in
theorem put25_ok (e : CE) : APure Try.prog 22 [.agg e.cells] (fun r => r = .agg (sPut e).cells) := by
 obtain ⟨k_, o_, n_, s_, z_, l_⟩ := e
 refine APure.of_body (n := 6) tok Try.func22 rfl rfl ?_
 refine asr ?_
 refine ax 1 (o_box (sz := 6) 0 rfl rfl rfl rfl (Nat.zero_lt_succ _) rfl) ?_
 refine ax 2 (o_alloc tok 1 rfl rfl rfl rfl (Nat.zero_lt_succ _) rfl) ?_
 refine an ?_
 refine asr ?_
 refine al 3 tok ?_
 refine ax 4 (o_lit' tok rfl rfl rfl rfl rfl rfl (by decide) rfl rfl rfl rfl rfl rfl) ?_
 refine aq 5 (QLoc.weakN (y := .agg (sPut (.mk k_ o_ n_ s_ z_ l_)).cells) (q_build tok rfl rfl rfl rfl rfl (by decide) rfl rfl rfl) (fun _ _ _ h => agg_fix h rfl)) ?_
 refine AOps.w rfl rfl (o_store tok rfl rfl rfl rfl rfl rfl rfl rfl rfl (by decide) rfl z37q) ?_
 refine an ?_
 refine AGo.ret ?_
 refine ⟨[_], ⟨⟨_, _, _, _, rfl, rfl, .ptr _ _ _ _ _ _ _ _ rfl rfl rfl, rfl⟩, trivial⟩, ?_, rfl⟩
 rfl
set_option maxRecDepth 100000 in
theorem alive25_ok  : APure Try.prog 12 [] (fun r => r = .bool true) := by
 refine APure.of_body (n := 21) tok Try.func12 rfl rfl ?_
 refine asr ?_
 refine aa 0 ?_
 refine an ?_
 refine asr ?_
 refine ax 3 (o_pure rfl Try.func21 (by kernel_rfl) rfl rfl rfl (num25_ok 65)) ?_
 refine ax 4 (o_pure rfl Try.func22 (by kernel_rfl) rfl rfl rfl (put25_ok (eNum 65))) ?_
 refine ax 5 (o_lit' tok rfl rfl rfl rfl rfl rfl (by decide) rfl rfl rfl rfl rfl rfl) ?_
 refine aq 6 (q_build tok rfl rfl rfl rfl rfl (by decide) rfl rfl rfl) ?_
 refine ax 7 (o_lit' tok rfl rfl rfl rfl rfl rfl (by decide) rfl rfl rfl rfl rfl rfl) ?_
 refine aq 8 (q_build tok rfl rfl rfl rfl rfl (by decide) rfl rfl rfl) ?_
 refine ax 1 (o_alloc tok 0 rfl rfl rfl rfl (Nat.zero_lt_succ _) rfl) ?_
 refine AOps.w rfl rfl (o_store tok rfl rfl rfl rfl rfl rfl rfl rfl rfl (by decide) rfl z37q) ?_
 refine an ?_
 refine asr ?_
 refine al 9 tok ?_
 refine ax 10 (o_pure rfl Try.func14 (by kernel_rfl) rfl rfl rfl (buildOf_ok aliveC alive_bld.ok alive_bld.r alive_bld.okL alive_bld.partsL)) ?_
 refine ax 2 (o_alloc tok 1 rfl rfl rfl rfl (Nat.zero_lt_succ _) rfl) ?_
 refine AOps.w rfl rfl (o_store tok rfl rfl rfl rfl rfl rfl rfl rfl rfl (by decide) rfl z37q) ?_
 refine an ?_
 refine AGo.seq ?_
 refine AGo.draw mix ?_
 refine dl 11 tok ?_
 refine dx 12 (o_pure rfl Try.func15 (by kernel_rfl) rfl rfl rfl ((right_ok aliveC.build).mono (fun r h => by rw [h, alive_bld.right]))) ?_
 refine dm 13 ?_
 refine dl 14 tok ?_
 refine dl 15 tok ?_
 refine dx 16 (o_pure rfl Try.func19 (by kernel_rfl) rfl rfl rfl (fuel25_ok aliveC 0 alive_bld.ok (by have := alive_bld.parts; omega) alive_bld.r.w0 (by have := alive_bld.r.w1; omega) (by first | decide | omega) (by first | decide | omega))) ?_
 refine dx 17 (o_pure rfl Try.func18 (by kernel_rfl) rfl rfl rfl (run_ok aliveC.build ⟨#[]⟩ _ (fuel_le (n := 0) (by decide) alive_bld.kle) (by first | decide | omega) alive_bld.right alive_bld.w alive_bld.ins2)) ?_
 refine dq 18 (q_build tok rfl rfl rfl rfl rfl (by decide) rfl rfl rfl) ?_
 refine dx 19 (o_pure rfl Try.func17 (by kernel_rfl) rfl rfl rfl ((ends10_ok _ ⟨[], [65], 0, 0, 1⟩).mono (fun r h => h.trans (congrArg AV.bool (ends_true (alive_ends _).1 (alive_ends _).2))))) ?_
 refine dq 20 (q_pick_true true rfl rfl rfl rfl) ?_
 refine da 0 ?_
 refine DOps.nil (by kernel_rfl) ?_
 refine AGo.ret ?_
 refine ⟨[_], ⟨rfl, trivial⟩, ?_, rfl⟩
 rfl
set_option maxHeartbeats 2000000 in
set_option maxRecDepth 100000 in
theorem buildDoes_ok (C : Core) (s : ByteArray) (fuel : Int) (hC : C.Ok) (hf : isI fuel) : APure Try.prog 3 [.agg C.cells, .str s, .int .i64 fuel] (fun r => r = .bool true) := by
 refine APure.of_body (n := 44) tok Try.func3 rfl rfl ?_
 refine asr ?_
 refine ax 3 (o_box (sz := 2) 0 rfl rfl rfl rfl (Nat.zero_lt_succ _) rfl) ?_
 refine aa 6 ?_
 refine an ?_
 refine AGo.seq ?_
 refine asr ?_
 refine ax 9 (o_pure rfl Try.func12 (by kernel_rfl) rfl rfl rfl (alive25_ok)) ?_
 refine aq 10 (q_not rfl rfl) ?_
 refine an ?_
 refine acf ?_
 refine AGo.skip ?_
 refine AGo.seq ?_
 refine asr ?_
 refine al 11 tok ?_
 refine ax 12 (o_pure rfl Try.func13 (by kernel_rfl) rfl rfl rfl (few25_ok C hC)) ?_
 refine aq 13 (q_not rfl rfl) ?_
 refine am 14 ?_
 refine AOps.split 14 rfl (fun hb1 => ?_) (fun hb1 => ?_)
 ·
  iterate 3 refine ak _ ?_
  refine apt ?_
  refine am 19 ?_
  iterate 2 refine ak _ ?_
  refine apt ?_
  refine an ?_
  refine act ?_
  refine asr ?_
  refine aa 6 ?_
  refine an ?_
  refine AGo.ret ?_
  refine ⟨[_], ⟨rfl, trivial⟩, ?_, rfl⟩
  rfl
 ·
  refine am 15 ?_
  refine aq 16 (q_len tok rfl rfl rfl rfl rfl) ?_
  refine aqb ?_
  refine apf ?_
  refine am 19 ?_
  refine AOps.split 19 rfl (fun hb2 => ?_) (fun hb2 => ?_)
  ·
   iterate 2 refine ak _ ?_
   refine apt ?_
   refine an ?_
   refine act ?_
   refine asr ?_
   refine aa 6 ?_
   refine an ?_
   refine AGo.ret ?_
   refine ⟨[_], ⟨rfl, trivial⟩, ?_, rfl⟩
   rfl
  ·
   refine am 20 ?_
   refine aqb ?_
   refine apf ?_
   refine an ?_
   refine AGo.split 22 rfl (fun hb3 => ?_) (fun hb3 => ?_)
   ·
    refine act ?_
    refine asr ?_
    refine aa 6 ?_
    refine an ?_
    refine AGo.ret ?_
    refine ⟨[_], ⟨rfl, trivial⟩, ?_, rfl⟩
    rfl
   ·
    refine acf ?_
    have hL := little_lit hC (by simpa using hb1)
    have hB := hL.bld
    have hs60_s : s.size ≤ 60 := by have h := hb2; simp at h; omega
    have hf100 : fuel ≤ 100 := by have h := hb3; simp at h; omega
    have hst := crun_st C s fuel
    refine AGo.skip ?_
    refine asr ?_
    refine al 23 tok ?_
    refine ax 24 (o_pure rfl Try.func14 (by kernel_rfl) rfl rfl rfl (buildOf_ok C hB.ok hB.r hB.okL hB.partsL)) ?_
    refine ax 7 (o_alloc tok 1 rfl rfl rfl rfl (Nat.zero_lt_succ _) rfl) ?_
    refine AOps.w rfl rfl (o_store tok rfl rfl rfl rfl rfl rfl rfl rfl rfl (by decide) rfl z37q) ?_
    refine an ?_
    refine AGo.seq ?_
    refine asr ?_
    refine al 25 tok ?_
    refine ax 26 (o_pure rfl Try.func15 (by kernel_rfl) rfl rfl rfl ((right_ok C.build).mono (fun r h => by rw [h, hB.right]))) ?_
    refine aq 27 (q_not rfl rfl) ?_
    refine an ?_
    refine acf ?_
    refine AGo.skip ?_
    refine asr ?_
    refine al 28 tok ?_
    refine am 29 ?_
    refine am 30 ?_
    refine ax 31 (o_pure rfl Try.func16 (by kernel_rfl) rfl rfl rfl (run19_ok C s fuel (by first | decide | omega) (by omega) hL.r hL.ok)) ?_
    refine ax 8 (o_alloc tok 2 rfl rfl rfl rfl (Nat.zero_lt_succ _) rfl) ?_
    refine AOps.w rfl rfl (o_store tok rfl rfl rfl rfl rfl rfl rfl rfl rfl (by decide) rfl z37q) ?_
    refine an ?_
    refine AGo.seq ?_
    refine asr ?_
    refine af 32 tok ?_
    refine al 33 tok ?_
    refine aqb ?_
    refine an ?_
    refine AGo.split 34 rfl (fun hb4 => ?_) (fun hb4 => ?_)
    ·
     refine act ?_
     refine asr ?_
     refine aa 6 ?_
     refine an ?_
     refine AGo.ret ?_
     refine ⟨[_], ⟨rfl, trivial⟩, ?_, rfl⟩
     rfl
    ·
     refine acf ?_
     have h5 : (crun C s fuel).fin ≠ 5 := by have h := hb4; simpa using h
     have hend := hB.ends h5 (Nat.le_refl _)
     refine AGo.skip ?_
     refine AGo.seq ?_
     refine AGo.draw mix ?_
     refine dl 35 tok ?_
     refine dm 36 ?_
     refine dl 37 tok ?_
     refine df 38 tok ?_
     refine dl 39 tok ?_
     refine dx 40 (o_pure rfl Try.func19 (by kernel_rfl) rfl rfl rfl (fuel25_ok C ((crun C s fuel).steps : Int) hB.ok (by have := hB.parts; omega) hB.r.w0 (by have := hB.r.w1; omega) (by first | decide | omega) (by first | decide | omega))) ?_
     refine dx 41 (o_pure rfl Try.func18 (by kernel_rfl) rfl rfl rfl (run_ok C.build s _ (fuel_le (by omega) hB.kle) (by first | decide | omega) hB.right hB.w hB.ins2)) ?_
     refine dl 42 tok ?_
     refine dx 43 (o_pure rfl Try.func17 (by kernel_rfl) rfl rfl rfl ((ends10_ok _ (crun C s fuel)).mono (fun r h => h.trans (congrArg AV.bool (ends_true hend.1 hend.2))))) ?_
     refine da 6 ?_
     refine DOps.nil (by kernel_rfl) ?_
     refine AGo.ret ?_
     refine ⟨[_], ⟨rfl, trivial⟩, ?_, rfl⟩
     rfl
end Go.Proofs.Ytmfihmkopmgelaa.Sv

namespace Go.Proofs.Ytmfihmkopmgelaa
open Go.ChangeShapes Go.WideShapes Go.ChangeAt Go.RowKit Sv
set_option linter.unusedVariables false

set_option maxRecDepth 100000 in
theorem buildDoes_lifted (os : Os) (started : os.Started) (H : Type) (enc : TypeId × Value → H) :
    ReturnsInHanded {} Try.checked os 3 .any (Rows.buildDoesSpec.pre6 enc Try.prog Try.f3 Rows.buildDoesRow.domain false) (Rows.buildDoesSpec.post enc Try.prog Try.f3 false true false false) := by
  refine returnsInHanded_of_change_sized (C := Try.checked) own' started (by kernel_rfl) Try.func3
    (ChangeSpec.witness6 (enc := enc) (C := Try.checked) false ⟨#[], #[.agg #[.int .i64 0, .slice none 0 0], .string ⟨#[]⟩, .int .i64 0], []⟩ 8 (by kernel_rfl) (by kernel_rfl) (by kernel_rfl) (by kernel_rfl)) ?_
  intro W base args ds gs before hval0 hW hcnd hwt0 hh
  have hval : ∀ (j : Nat) t v, Try.f3.params[j]? = some t → args[j]? = some v → Value.okWide Try.prog W .any base t v := hval0
  have hW' := hW
  obtain ⟨p, q, hA0, hV, rfl, hfz, hnd⟩ := hW
  have hA : DataW.TrodAll enc Try.prog W 0 (fun _ => true) true Try.f3.params.toList args.toList ds p := hA0
  have hwt : (DataW.weightsEach Try.prog (Try.f3.params.toList ++ Rows.buildDoesSpec.plain.varTypes Try.prog) (ds ++ gs)).all (· ≤ reachBytes) = true := hwt0
  rw [Try.params3] at hA hval hwt
  obtain ⟨v0, vs0, d0, ds0, p0, q0, hargs, rfl, rfl, h0, r0⟩ := trodAll_cons hA
  obtain ⟨v1, vs1, d1, ds1, p1, q1, rfl, rfl, rfl, h1, r1⟩ := trodAll_cons r0
  obtain ⟨v2, vs2, d2, ds2, p2, q2, rfl, rfl, rfl, h2, r2⟩ := trodAll_cons r1
  obtain ⟨rfl, rfl, rfl⟩ := trodAll_nil r2
  obtain rfl : args = #[v0, v1, v2] := by cases args; simp_all
  obtain ⟨rfl, rfl⟩ := trodVars_none hV
  obtain ⟨x0, e0, g0⟩ := arg_one h0 (weightsEach_get hwt (i := 0) rfl rfl) decCore
  obtain ⟨x1, e1, g1⟩ := arg_one h1 (weightsEach_get hwt (i := 1) rfl rfl) decStr
  obtain ⟨x2, rfl, rfl, rfl, w2⟩ := open_int Try.underlying3 (hval 2 3 v2 rfl rfl) h2
  exact law_calls laidOut' rfl (by kernel_rfl) rfl bool' rfl rfl rfl hW' (.cons (e0.val (okWide_agg tok rfl rfl (hval 0 24 v0 rfl rfl))) (.cons (e1.val1 (okWide_cellS tok rfl rfl (hval 1 9 v1 rfl rfl))) (.cons (.int _ _ _) .nil))) (buildDoes_ok x0 x1 x2 g0 (wf_i64 w2)) (fun g l h => by cases h)

theorem buildDoes_holds : Rows.BuildDoesSaid :=
  OpenClaim.holds_of_wide 3 Try.f3 rfl rfl rfl rfl rfl rfl rfl ⟨rfl, rfl, rfl, rfl, rfl⟩ rfl rfl rfl rfl rfl (by kernel_rfl) Try.func3 (by kernel_rfl)
    (of_decide_eq_true (by kernel_rfl)) (by unfold Func.isWrapper; first | (rw [if_pos (by decide +kernel)]; kernel_rfl) | (rw [if_neg (by decide +kernel)]; exact ⟨rfl, rfl⟩))
    (fun os started H enc _ => buildDoes_lifted os started H enc)

end Go.Proofs.Ytmfihmkopmgelaa
