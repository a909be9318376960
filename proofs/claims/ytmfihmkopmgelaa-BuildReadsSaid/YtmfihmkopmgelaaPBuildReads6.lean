/-
  The law BuildReads of the given program answers true for every input, and leaves its arguments as they were. There is no condition. Own work.
  WALKS: printed by a program of our own from the code's tree.
-/
import Derived.Test.YtmfihmkopmgelaaPBuildReads2
import Derived.Test.YtmfihmkopmgelaaPBuildReads4
import Derived.Test.YtmfihmkopmgelaaPBuildReads5
import Derived.Test.YtmfihmkopmgelaaPBuildReads3
namespace Go.Proofs.Ytmfihmkopmgelaa.Sv
open Go
set_option maxRecDepth 100000 in
theorem sets_ok (t : Tac) : APure Try.prog 69 [.agg t.cells] (fun r => r = .int .i64 t.sets) := by
 refine APure.of_body (n := 14) tok Try.func69 rfl rfl ?_
 refine asr ?_
 refine ax 1 (o_box (sz := 8) 0 rfl rfl rfl rfl (Nat.zero_lt_succ _) rfl) ?_
 refine aa 2 ?_
 refine an ?_
 refine AGo.seq ?_
 refine asr ?_
 refine af 3 tok ?_
 refine al 4 tok ?_
 refine an ?_
 refine AGo.block ?_
 refine AGo.seq ?_
 refine asr ?_
 refine aqb ?_
 refine aa 5 ?_
 refine an ?_
 refine AGo.split 5 rfl (fun hb1 => ?_) (fun hb1 => ?_)
 ·
  refine act ?_
  refine AGo.skip ?_
  refine act ?_
  refine asr ?_
  refine af 12 tok ?_
  refine al 13 tok ?_
  refine aa 2 ?_
  refine an ?_
  refine AGo.ret ?_
  refine ⟨[_], ⟨rfl, trivial⟩, ?_, rfl⟩
  show AV.int .i64 _ = AV.int .i64 _
  congr 1
  simp [Tac.sets, setsOp, *]
 ·
  refine acf ?_
  refine asr ?_
  refine aqb ?_
  refine aa 5 ?_
  refine an ?_
  refine AGo.split 5 rfl (fun hb2 => ?_) (fun hb2 => ?_)
  ·
   refine act ?_
   refine AGo.skip ?_
   refine act ?_
   refine asr ?_
   refine af 12 tok ?_
   refine al 13 tok ?_
   refine aa 2 ?_
   refine an ?_
   refine AGo.ret ?_
   refine ⟨[_], ⟨rfl, trivial⟩, ?_, rfl⟩
   show AV.int .i64 _ = AV.int .i64 _
   congr 1
   simp [Tac.sets, setsOp, *]
  ·
   refine acf ?_
   refine asr ?_
   refine aqb ?_
   refine aa 5 ?_
   refine an ?_
   refine AGo.split 5 rfl (fun hb3 => ?_) (fun hb3 => ?_)
   ·
    refine act ?_
    refine AGo.skip ?_
    refine act ?_
    refine asr ?_
    refine af 12 tok ?_
    refine al 13 tok ?_
    refine aa 2 ?_
    refine an ?_
    refine AGo.ret ?_
    refine ⟨[_], ⟨rfl, trivial⟩, ?_, rfl⟩
    show AV.int .i64 _ = AV.int .i64 _
    congr 1
    simp [Tac.sets, setsOp, *]
   ·
    refine acf ?_
    refine asr ?_
    refine aqb ?_
    refine aa 5 ?_
    refine an ?_
    refine AGo.split 5 rfl (fun hb4 => ?_) (fun hb4 => ?_)
    ·
     refine act ?_
     refine AGo.skip ?_
     refine act ?_
     refine asr ?_
     refine af 12 tok ?_
     refine al 13 tok ?_
     refine aa 2 ?_
     refine an ?_
     refine AGo.ret ?_
     refine ⟨[_], ⟨rfl, trivial⟩, ?_, rfl⟩
     show AV.int .i64 _ = AV.int .i64 _
     congr 1
     simp [Tac.sets, setsOp, *]
    ·
     refine acf ?_
     refine asr ?_
     refine aqb ?_
     refine aa 5 ?_
     refine an ?_
     refine AGo.split 5 rfl (fun hb5 => ?_) (fun hb5 => ?_)
     ·
      refine act ?_
      refine AGo.skip ?_
      refine act ?_
      refine asr ?_
      refine af 12 tok ?_
      refine al 13 tok ?_
      refine aa 2 ?_
      refine an ?_
      refine AGo.ret ?_
      refine ⟨[_], ⟨rfl, trivial⟩, ?_, rfl⟩
      show AV.int .i64 _ = AV.int .i64 _
      congr 1
      simp [Tac.sets, setsOp, *]
     ·
      refine acf ?_
      refine AGo.region ?_
      refine aqb ?_
      refine aa 5 ?_
      refine an ?_
      refine AGo.split 5 rfl (fun hb6 => ?_) (fun hb6 => ?_)
      ·
       refine act ?_
       refine asr ?_
       refine af 12 tok ?_
       refine al 13 tok ?_
       refine aa 2 ?_
       refine an ?_
       refine AGo.ret ?_
       refine ⟨[_], ⟨rfl, trivial⟩, ?_, rfl⟩
       show AV.int .i64 _ = AV.int .i64 _
       congr 1
       simp [Tac.sets, setsOp, *]
      ·
       refine acf ?_
       refine AGo.skip ?_
       refine asr ?_
       refine aa 2 ?_
       refine an ?_
       refine AGo.ret ?_
       refine ⟨[_], ⟨rfl, trivial⟩, ?_, rfl⟩
       show AV.int .i64 _ = AV.int .i64 _
       congr 1
       simp [Tac.sets, setsOp, *]
set_option maxRecDepth 100000 in
theorem uses_ok (t : Tac) : APure Try.prog 70 [.agg t.cells] (fun r => r = intsAV t.uses) := by
 refine APure.of_body (n := 21) tok Try.func70 rfl rfl ?_
 refine asr ?_
 refine ax 1 (o_box (sz := 8) 0 rfl rfl rfl rfl (Nat.zero_lt_succ _) rfl) ?_
 refine aa 2 ?_
 refine an ?_
 refine AGo.seq ?_
 refine asr ?_
 refine af 3 tok ?_
 refine al 4 tok ?_
 refine an ?_
 refine AGo.block ?_
 refine AGo.seq ?_
 refine asr ?_
 refine aqb ?_
 refine aa 5 ?_
 refine an ?_
 refine AGo.split 5 rfl (fun hb1 => ?_) (fun hb1 => ?_)
 ·
  refine act ?_
  refine AGo.skip ?_
  refine act ?_
  refine asr ?_
  refine af 10 tok ?_
  refine al 11 tok ?_
  refine ax 12 (o_lit' tok rfl rfl rfl rfl rfl rfl (by decide) rfl rfl rfl rfl rfl rfl) ?_
  refine aa 2 ?_
  refine an ?_
  refine AGo.ret ?_
  refine ⟨[_], ⟨rfl, trivial⟩, ?_, rfl⟩
  show AV.lst false _ = _
  simp [Tac.uses, use1, use2, intsAV, partVals, AV.cells, *]
 ·
  refine acf ?_
  refine asr ?_
  refine aqb ?_
  refine aa 5 ?_
  refine an ?_
  refine AGo.split 5 rfl (fun hb2 => ?_) (fun hb2 => ?_)
  ·
   refine act ?_
   refine AGo.skip ?_
   refine act ?_
   refine asr ?_
   refine af 10 tok ?_
   refine al 11 tok ?_
   refine ax 12 (o_lit' tok rfl rfl rfl rfl rfl rfl (by decide) rfl rfl rfl rfl rfl rfl) ?_
   refine aa 2 ?_
   refine an ?_
   refine AGo.ret ?_
   refine ⟨[_], ⟨rfl, trivial⟩, ?_, rfl⟩
   show AV.lst false _ = _
   simp [Tac.uses, use1, use2, intsAV, partVals, AV.cells, *]
  ·
   refine acf ?_
   refine asr ?_
   refine aqb ?_
   refine aa 5 ?_
   refine an ?_
   refine AGo.split 5 rfl (fun hb3 => ?_) (fun hb3 => ?_)
   ·
    refine act ?_
    refine AGo.skip ?_
    refine act ?_
    refine asr ?_
    refine af 10 tok ?_
    refine al 11 tok ?_
    refine ax 12 (o_lit' tok rfl rfl rfl rfl rfl rfl (by decide) rfl rfl rfl rfl rfl rfl) ?_
    refine aa 2 ?_
    refine an ?_
    refine AGo.ret ?_
    refine ⟨[_], ⟨rfl, trivial⟩, ?_, rfl⟩
    show AV.lst false _ = _
    simp [Tac.uses, use1, use2, intsAV, partVals, AV.cells, *]
   ·
    refine acf ?_
    refine AGo.region ?_
    refine aqb ?_
    refine aa 5 ?_
    refine an ?_
    refine AGo.split 5 rfl (fun hb4 => ?_) (fun hb4 => ?_)
    ·
     refine act ?_
     refine asr ?_
     refine af 10 tok ?_
     refine al 11 tok ?_
     refine ax 12 (o_lit' tok rfl rfl rfl rfl rfl rfl (by decide) rfl rfl rfl rfl rfl rfl) ?_
     refine aa 2 ?_
     refine an ?_
     refine AGo.ret ?_
     refine ⟨[_], ⟨rfl, trivial⟩, ?_, rfl⟩
     show AV.lst false _ = _
     simp [Tac.uses, use1, use2, intsAV, partVals, AV.cells, *]
    ·
     refine acf ?_
     refine AGo.seq ?_
     refine asr ?_
     refine aqb ?_
     refine aa 13 ?_
     refine an ?_
     refine AGo.split 13 rfl (fun hb5 => ?_) (fun hb5 => ?_)
     ·
      refine act ?_
      refine AGo.skip ?_
      refine act ?_
      refine asr ?_
      refine af 16 tok ?_
      refine al 17 tok ?_
      refine af 18 tok ?_
      refine al 19 tok ?_
      refine ax 20 (o_lit' tok rfl rfl rfl rfl rfl rfl (by decide) rfl rfl rfl rfl rfl rfl) ?_
      refine aa 2 ?_
      refine an ?_
      refine AGo.ret ?_
      refine ⟨[_], ⟨rfl, trivial⟩, ?_, rfl⟩
      show AV.lst false _ = _
      simp [Tac.uses, use1, use2, intsAV, partVals, AV.cells, *]
     ·
      refine acf ?_
      refine AGo.region ?_
      refine aqb ?_
      refine aa 13 ?_
      refine an ?_
      refine AGo.split 13 rfl (fun hb6 => ?_) (fun hb6 => ?_)
      ·
       refine act ?_
       refine asr ?_
       refine af 16 tok ?_
       refine al 17 tok ?_
       refine af 18 tok ?_
       refine al 19 tok ?_
       refine ax 20 (o_lit' tok rfl rfl rfl rfl rfl rfl (by decide) rfl rfl rfl rfl rfl rfl) ?_
       refine aa 2 ?_
       refine an ?_
       refine AGo.ret ?_
       refine ⟨[_], ⟨rfl, trivial⟩, ?_, rfl⟩
       show AV.lst false _ = _
       simp [Tac.uses, use1, use2, intsAV, partVals, AV.cells, *]
      ·
       refine acf ?_
       refine AGo.skip ?_
       refine asr ?_
       refine aa 2 ?_
       refine an ?_
       refine AGo.ghost (.empty 2 rfl) ?_
       refine AGo.ret ?_
       refine ⟨[_], ⟨rfl, trivial⟩, ?_, rfl⟩
       show AV.lst false _ = _
       simp [Tac.uses, use1, use2, intsAV, partVals, AV.cells, *]
set_option maxRecDepth 100000 in
theorem within_ok (i j : Int) : APure Try.prog 68 [.int .i64 i, .int .i64 j] (fun r => r = .bool (within i j)) := by
 refine APure.of_body (n := 12) tok Try.func68 rfl rfl ?_
 refine asr ?_
 refine aa 4 ?_
 refine an ?_
 refine asr ?_
 refine am 5 ?_
 refine aqb ?_
 refine am 7 ?_
 refine AOps.split 7 rfl (fun hb1 => ?_) (fun hb1 => ?_)
 ·
  refine am 8 ?_
  refine am 9 ?_
  refine aqb ?_
  refine apt ?_
  refine aa 4 ?_
  refine an ?_
  refine AGo.ret ?_
  refine ⟨[_], ⟨rfl, trivial⟩, ?_, rfl⟩
  show AV.bool _ = AV.bool _
  congr 1
  simp_all [within] <;> omega
 ·
  iterate 3 refine ak _ ?_
  refine apf ?_
  refine aa 4 ?_
  refine an ?_
  refine AGo.ret ?_
  refine ⟨[_], ⟨rfl, trivial⟩, ?_, rfl⟩
  show AV.bool _ = AV.bool _
  congr 1
  simp_all [within] <;> omega
set_option maxRecDepth 100000 in
theorem ends_ok (b : Block) (blocks regs : Int) : APure Try.prog 51 [.agg b.cells, .int .i64 blocks, .int .i64 regs] (fun r => r = .bool (b.ends blocks regs)) := by
 refine APure.of_body (n := 61) tok Try.func51 rfl rfl ?_
 refine asr ?_
 refine ax 3 (o_box (sz := 5) 0 rfl rfl rfl rfl (Nat.zero_lt_succ _) rfl) ?_
 refine aa 6 ?_
 refine an ?_
 refine AGo.seq ?_
 refine asr ?_
 refine af 7 tok ?_
 refine al 8 tok ?_
 refine an ?_
 refine AGo.block ?_
 refine asr ?_
 refine aqb ?_
 refine aa 9 ?_
 refine an ?_
 refine AGo.split 9 rfl (fun hb1 => ?_) (fun hb1 => ?_)
 ·
  refine act ?_
  refine asr ?_
  refine af 11 tok ?_
  refine al 12 tok ?_
  refine am 13 ?_
  refine ax 14 (o_pure rfl Try.func68 (by kernel_rfl) rfl rfl rfl (within_ok _ _)) ?_
  refine am 15 ?_
  refine AOps.split 15 rfl (fun hb2 => ?_) (fun hb2 => ?_)
  ·
   refine af 16 tok ?_
   refine al 17 tok ?_
   refine aqb ?_
   refine apt ?_
   refine am 20 ?_
   refine AOps.split 20 rfl (fun hb3 => ?_) (fun hb3 => ?_)
   ·
    refine af 21 tok ?_
    refine al 22 tok ?_
    refine aqb ?_
    refine apt ?_
    refine aa 6 ?_
    refine an ?_
    refine AGo.ret ?_
    refine ⟨[_], ⟨rfl, trivial⟩, ?_, rfl⟩
    show AV.bool _ = AV.bool _
    congr 1
    simp_all [Block.ends]
   ·
    iterate 3 refine ak _ ?_
    refine apf ?_
    refine aa 6 ?_
    refine an ?_
    refine AGo.ret ?_
    refine ⟨[_], ⟨rfl, trivial⟩, ?_, rfl⟩
    show AV.bool _ = AV.bool _
    congr 1
    simp_all [Block.ends]
  ·
   iterate 3 refine ak _ ?_
   refine apf ?_
   refine am 20 ?_
   iterate 3 refine ak _ ?_
   refine apf ?_
   refine aa 6 ?_
   refine an ?_
   refine AGo.ret ?_
   refine ⟨[_], ⟨rfl, trivial⟩, ?_, rfl⟩
   show AV.bool _ = AV.bool _
   congr 1
   simp_all [Block.ends]
 ·
  refine acf ?_
  refine asr ?_
  refine aqb ?_
  refine aa 25 ?_
  refine an ?_
  refine AGo.split 25 rfl (fun hb4 => ?_) (fun hb4 => ?_)
  ·
   refine act ?_
   refine asr ?_
   refine af 27 tok ?_
   refine al 28 tok ?_
   refine am 29 ?_
   refine ax 30 (o_pure rfl Try.func68 (by kernel_rfl) rfl rfl rfl (within_ok _ _)) ?_
   refine am 31 ?_
   refine AOps.split 31 rfl (fun hb5 => ?_) (fun hb5 => ?_)
   ·
    refine af 32 tok ?_
    refine al 33 tok ?_
    refine am 34 ?_
    refine ax 35 (o_pure rfl Try.func68 (by kernel_rfl) rfl rfl rfl (within_ok _ _)) ?_
    refine apt ?_
    refine am 37 ?_
    refine AOps.split 37 rfl (fun hb6 => ?_) (fun hb6 => ?_)
    ·
     refine af 38 tok ?_
     refine al 39 tok ?_
     refine am 40 ?_
     refine ax 41 (o_pure rfl Try.func68 (by kernel_rfl) rfl rfl rfl (within_ok _ _)) ?_
     refine apt ?_
     refine aa 6 ?_
     refine an ?_
     refine AGo.ret ?_
     refine ⟨[_], ⟨rfl, trivial⟩, ?_, rfl⟩
     show AV.bool _ = AV.bool _
     congr 1
     simp_all [Block.ends]
    ·
     iterate 4 refine ak _ ?_
     refine apf ?_
     refine aa 6 ?_
     refine an ?_
     refine AGo.ret ?_
     refine ⟨[_], ⟨rfl, trivial⟩, ?_, rfl⟩
     show AV.bool _ = AV.bool _
     congr 1
     simp_all [Block.ends]
   ·
    iterate 4 refine ak _ ?_
    refine apf ?_
    refine am 37 ?_
    iterate 4 refine ak _ ?_
    refine apf ?_
    refine aa 6 ?_
    refine an ?_
    refine AGo.ret ?_
    refine ⟨[_], ⟨rfl, trivial⟩, ?_, rfl⟩
    show AV.bool _ = AV.bool _
    congr 1
    simp_all [Block.ends]
  ·
   refine acf ?_
   refine AGo.skip ?_
   refine asr ?_
   refine af 43 tok ?_
   refine al 44 tok ?_
   refine aqb ?_
   refine am 46 ?_
   refine AOps.split 46 rfl (fun hb7 => ?_) (fun hb7 => ?_)
   ·
    refine af 47 tok ?_
    refine al 48 tok ?_
    refine aqb ?_
    refine apt ?_
    refine am 51 ?_
    refine AOps.split 51 rfl (fun hb8 => ?_) (fun hb8 => ?_)
    ·
     refine af 52 tok ?_
     refine al 53 tok ?_
     refine aqb ?_
     refine apt ?_
     refine am 56 ?_
     refine AOps.split 56 rfl (fun hb9 => ?_) (fun hb9 => ?_)
     ·
      refine af 57 tok ?_
      refine al 58 tok ?_
      refine aqb ?_
      refine apt ?_
      refine aa 6 ?_
      refine an ?_
      refine AGo.ret ?_
      refine ⟨[_], ⟨rfl, trivial⟩, ?_, rfl⟩
      show AV.bool _ = AV.bool _
      congr 1
      simp_all [Block.ends]
     ·
      iterate 3 refine ak _ ?_
      refine apf ?_
      refine aa 6 ?_
      refine an ?_
      refine AGo.ret ?_
      refine ⟨[_], ⟨rfl, trivial⟩, ?_, rfl⟩
      show AV.bool _ = AV.bool _
      congr 1
      simp_all [Block.ends]
    ·
     iterate 3 refine ak _ ?_
     refine apf ?_
     refine am 56 ?_
     iterate 3 refine ak _ ?_
     refine apf ?_
     refine aa 6 ?_
     refine an ?_
     refine AGo.ret ?_
     refine ⟨[_], ⟨rfl, trivial⟩, ?_, rfl⟩
     show AV.bool _ = AV.bool _
     congr 1
     simp_all [Block.ends]
   ·
    iterate 3 refine ak _ ?_
    refine apf ?_
    refine am 51 ?_
    iterate 3 refine ak _ ?_
    refine apf ?_
    refine am 56 ?_
    iterate 3 refine ak _ ?_
    refine apf ?_
    refine aa 6 ?_
    refine an ?_
    refine AGo.ret ?_
    refine ⟨[_], ⟨rfl, trivial⟩, ?_, rfl⟩
    show AV.bool _ = AV.bool _
    congr 1
    simp_all [Block.ends]
set_option maxRecDepth 100000 in
theorem fits_ok (t : Tac) (f regs words : Int) (hw : 0 ≤ words) (hw2 : words ≤ 1048576) : APure Try.prog 52 [.agg t.cells, .int .i64 f, .int .i64 regs, .int .i64 words] (fun r => r = .bool (t.fits f regs words)) := by
 refine APure.of_body (n := 166) tok Try.func52 rfl rfl ?_
 refine asr ?_
 refine ax 4 (o_box (sz := 8) 0 rfl rfl rfl rfl (Nat.zero_lt_succ _) rfl) ?_
 refine aa 8 ?_
 refine an ?_
 refine AGo.seq ?_
 refine asr ?_
 refine af 12 tok ?_
 refine al 13 tok ?_
 refine aqb ?_
 refine am 15 ?_
 refine AOps.split 15 rfl (fun hb1 => ?_) (fun hb1 => ?_)
 ·
  iterate 3 refine ak _ ?_
  refine apt ?_
  refine an ?_
  refine act ?_
  refine asr ?_
  refine aa 8 ?_
  refine an ?_
  refine AGo.ret ?_
  refine ⟨[_], ⟨rfl, trivial⟩, ?_, rfl⟩
  show AV.bool _ = AV.bool _
  congr 1
  exact (fits_op (by simp_all <;> omega)).symm
 ·
  refine af 16 tok ?_
  refine al 17 tok ?_
  refine aqb ?_
  refine apf ?_
  refine an ?_
  refine AGo.split 19 rfl (fun hb2 => ?_) (fun hb2 => ?_)
  ·
   refine act ?_
   refine asr ?_
   refine aa 8 ?_
   refine an ?_
   refine AGo.ret ?_
   refine ⟨[_], ⟨rfl, trivial⟩, ?_, rfl⟩
   show AV.bool _ = AV.bool _
   congr 1
   exact (fits_op (by simp_all <;> omega)).symm
  ·
   refine acf ?_
   refine AGo.skip ?_
   refine asr ?_
   refine af 20 tok ?_
   refine al 21 tok ?_
   refine aq 22 (q_build tok rfl rfl rfl rfl rfl (by decide) rfl rfl rfl) ?_
   refine ax 9 (o_alloc tok 1 rfl rfl rfl rfl (Nat.zero_lt_succ _) rfl) ?_
   refine AOps.w rfl rfl (o_store tok rfl rfl rfl rfl rfl rfl rfl rfl rfl (by decide) rfl z37q) ?_
   refine an ?_
   refine AGo.seq ?_
   refine AGo.join (γ := Int) (fun d => ⟨166, (eput (eput (eput (eput (eput eNew 1 (.int .i64 f)) 2 (.int .i64 regs)) 3 (.int .i64 words)) 4 (.ptr 0 1 0 0)) 9 (.ptr 1 1 0 0)), (hput (hput (hFrom 2) 0 (.row false 8 [t.cells])) 1 (.row false 8 [[.int .i64 t.op, .int .i64 d, .int .i64 0, .int .i64 0, .int .i64 0, .int .i64 0, .int .i64 0, .int .u32 0]]))⟩) (fun d => (!setsOp t.op || within t.d regs) = true ∧ d = bif setsOp t.op then t.d else 0) ?_ ?_
   ·
    refine asr ?_
    refine al 23 tok ?_
    refine ax 24 (o_pure rfl Try.func69 (by kernel_rfl) rfl rfl rfl (sets_ok _)) ?_
    refine aqb ?_
    refine am 26 ?_
    refine AOps.split 26 rfl (fun hb3 => ?_) (fun hb3 => ?_)
    ·
     iterate 3 refine ak _ ?_
     refine apt ?_
     refine am 31 ?_
     iterate 3 refine ak _ ?_
     refine apt ?_
     refine am 36 ?_
     iterate 3 refine ak _ ?_
     refine apt ?_
     refine am 41 ?_
     iterate 3 refine ak _ ?_
     refine apt ?_
     refine am 46 ?_
     iterate 3 refine ak _ ?_
     refine apt ?_
     refine am 51 ?_
     iterate 3 refine ak _ ?_
     refine apt ?_
     refine an ?_
     refine act ?_
     refine asr ?_
     refine af 56 tok ?_
     refine al 57 tok ?_
     refine af 58 tok ?_
     refine AOps.w rfl rfl (o_store tok rfl rfl rfl rfl rfl rfl rfl rfl rfl (by decide) rfl z37q) ?_
     refine an ?_
     refine asr ?_
     refine af 59 tok ?_
     refine al 60 tok ?_
     refine am 61 ?_
     refine ax 62 (o_pure rfl Try.func68 (by kernel_rfl) rfl rfl rfl (within_ok _ _)) ?_
     refine aq 63 (q_not rfl rfl) ?_
     refine an ?_
     refine AGo.split 63 rfl (fun hb4 => ?_) (fun hb4 => ?_)
     ·
      refine act ?_
      refine asr ?_
      refine aa 8 ?_
      refine an ?_
      refine AGo.ret ?_
      refine ⟨[_], ⟨rfl, trivial⟩, ?_, rfl⟩
      show AV.bool _ = AV.bool _
      congr 1
      exact (fits_d z34q z40q).symm
     ·
      refine acf ?_
      refine AGo.skip ?_
      exact ⟨t.d, Sub.mk' z31q z12q, ⟨by have h := ‹(!within t.d regs) = false›; simp at h; simp [h], by first | (simp [setsOp, *]; done) | simp [sets_pos ‹_›]⟩⟩
    ·
     refine af 27 tok ?_
     refine al 28 tok ?_
     refine aqb ?_
     refine apf ?_
     refine am 31 ?_
     refine AOps.split 31 rfl (fun hb5 => ?_) (fun hb5 => ?_)
     ·
      iterate 3 refine ak _ ?_
      refine apt ?_
      refine am 36 ?_
      iterate 3 refine ak _ ?_
      refine apt ?_
      refine am 41 ?_
      iterate 3 refine ak _ ?_
      refine apt ?_
      refine am 46 ?_
      iterate 3 refine ak _ ?_
      refine apt ?_
      refine am 51 ?_
      iterate 3 refine ak _ ?_
      refine apt ?_
      refine an ?_
      refine act ?_
      refine asr ?_
      refine af 56 tok ?_
      refine al 57 tok ?_
      refine af 58 tok ?_
      refine AOps.w rfl rfl (o_store tok rfl rfl rfl rfl rfl rfl rfl rfl rfl (by decide) rfl z37q) ?_
      refine an ?_
      refine asr ?_
      refine af 59 tok ?_
      refine al 60 tok ?_
      refine am 61 ?_
      refine ax 62 (o_pure rfl Try.func68 (by kernel_rfl) rfl rfl rfl (within_ok _ _)) ?_
      refine aq 63 (q_not rfl rfl) ?_
      refine an ?_
      refine AGo.split 63 rfl (fun hb6 => ?_) (fun hb6 => ?_)
      ·
       refine act ?_
       refine asr ?_
       refine aa 8 ?_
       refine an ?_
       refine AGo.ret ?_
       refine ⟨[_], ⟨rfl, trivial⟩, ?_, rfl⟩
       show AV.bool _ = AV.bool _
       congr 1
       exact (fits_d z34q z40q).symm
      ·
       refine acf ?_
       refine AGo.skip ?_
       exact ⟨t.d, Sub.mk' z31q z12q, ⟨by have h := ‹(!within t.d regs) = false›; simp at h; simp [h], by first | (simp [setsOp, *]; done) | simp [sets_pos ‹_›]⟩⟩
     ·
      refine af 32 tok ?_
      refine al 33 tok ?_
      refine aqb ?_
      refine apf ?_
      refine am 36 ?_
      refine AOps.split 36 rfl (fun hb7 => ?_) (fun hb7 => ?_)
      ·
       iterate 3 refine ak _ ?_
       refine apt ?_
       refine am 41 ?_
       iterate 3 refine ak _ ?_
       refine apt ?_
       refine am 46 ?_
       iterate 3 refine ak _ ?_
       refine apt ?_
       refine am 51 ?_
       iterate 3 refine ak _ ?_
       refine apt ?_
       refine an ?_
       refine act ?_
       refine asr ?_
       refine af 56 tok ?_
       refine al 57 tok ?_
       refine af 58 tok ?_
       refine AOps.w rfl rfl (o_store tok rfl rfl rfl rfl rfl rfl rfl rfl rfl (by decide) rfl z37q) ?_
       refine an ?_
       refine asr ?_
       refine af 59 tok ?_
       refine al 60 tok ?_
       refine am 61 ?_
       refine ax 62 (o_pure rfl Try.func68 (by kernel_rfl) rfl rfl rfl (within_ok _ _)) ?_
       refine aq 63 (q_not rfl rfl) ?_
       refine an ?_
       refine AGo.split 63 rfl (fun hb8 => ?_) (fun hb8 => ?_)
       ·
        refine act ?_
        refine asr ?_
        refine aa 8 ?_
        refine an ?_
        refine AGo.ret ?_
        refine ⟨[_], ⟨rfl, trivial⟩, ?_, rfl⟩
        show AV.bool _ = AV.bool _
        congr 1
        exact (fits_d z34q z40q).symm
       ·
        refine acf ?_
        refine AGo.skip ?_
        exact ⟨t.d, Sub.mk' z31q z12q, ⟨by have h := ‹(!within t.d regs) = false›; simp at h; simp [h], by first | (simp [setsOp, *]; done) | simp [sets_pos ‹_›]⟩⟩
      ·
       refine af 37 tok ?_
       refine al 38 tok ?_
       refine aqb ?_
       refine apf ?_
       refine am 41 ?_
       refine AOps.split 41 rfl (fun hb9 => ?_) (fun hb9 => ?_)
       ·
        iterate 3 refine ak _ ?_
        refine apt ?_
        refine am 46 ?_
        iterate 3 refine ak _ ?_
        refine apt ?_
        refine am 51 ?_
        iterate 3 refine ak _ ?_
        refine apt ?_
        refine an ?_
        refine act ?_
        refine asr ?_
        refine af 56 tok ?_
        refine al 57 tok ?_
        refine af 58 tok ?_
        refine AOps.w rfl rfl (o_store tok rfl rfl rfl rfl rfl rfl rfl rfl rfl (by decide) rfl z37q) ?_
        refine an ?_
        refine asr ?_
        refine af 59 tok ?_
        refine al 60 tok ?_
        refine am 61 ?_
        refine ax 62 (o_pure rfl Try.func68 (by kernel_rfl) rfl rfl rfl (within_ok _ _)) ?_
        refine aq 63 (q_not rfl rfl) ?_
        refine an ?_
        refine AGo.split 63 rfl (fun hb10 => ?_) (fun hb10 => ?_)
        ·
         refine act ?_
         refine asr ?_
         refine aa 8 ?_
         refine an ?_
         refine AGo.ret ?_
         refine ⟨[_], ⟨rfl, trivial⟩, ?_, rfl⟩
         show AV.bool _ = AV.bool _
         congr 1
         exact (fits_d z34q z40q).symm
        ·
         refine acf ?_
         refine AGo.skip ?_
         exact ⟨t.d, Sub.mk' z31q z12q, ⟨by have h := ‹(!within t.d regs) = false›; simp at h; simp [h], by first | (simp [setsOp, *]; done) | simp [sets_pos ‹_›]⟩⟩
       ·
        refine af 42 tok ?_
        refine al 43 tok ?_
        refine aqb ?_
        refine apf ?_
        refine am 46 ?_
        refine AOps.split 46 rfl (fun hb11 => ?_) (fun hb11 => ?_)
        ·
         iterate 3 refine ak _ ?_
         refine apt ?_
         refine am 51 ?_
         iterate 3 refine ak _ ?_
         refine apt ?_
         refine an ?_
         refine act ?_
         refine asr ?_
         refine af 56 tok ?_
         refine al 57 tok ?_
         refine af 58 tok ?_
         refine AOps.w rfl rfl (o_store tok rfl rfl rfl rfl rfl rfl rfl rfl rfl (by decide) rfl z37q) ?_
         refine an ?_
         refine asr ?_
         refine af 59 tok ?_
         refine al 60 tok ?_
         refine am 61 ?_
         refine ax 62 (o_pure rfl Try.func68 (by kernel_rfl) rfl rfl rfl (within_ok _ _)) ?_
         refine aq 63 (q_not rfl rfl) ?_
         refine an ?_
         refine AGo.split 63 rfl (fun hb12 => ?_) (fun hb12 => ?_)
         ·
          refine act ?_
          refine asr ?_
          refine aa 8 ?_
          refine an ?_
          refine AGo.ret ?_
          refine ⟨[_], ⟨rfl, trivial⟩, ?_, rfl⟩
          show AV.bool _ = AV.bool _
          congr 1
          exact (fits_d z34q z40q).symm
         ·
          refine acf ?_
          refine AGo.skip ?_
          exact ⟨t.d, Sub.mk' z31q z12q, ⟨by have h := ‹(!within t.d regs) = false›; simp at h; simp [h], by first | (simp [setsOp, *]; done) | simp [sets_pos ‹_›]⟩⟩
        ·
         refine af 47 tok ?_
         refine al 48 tok ?_
         refine aqb ?_
         refine apf ?_
         refine am 51 ?_
         refine AOps.split 51 rfl (fun hb13 => ?_) (fun hb13 => ?_)
         ·
          iterate 3 refine ak _ ?_
          refine apt ?_
          refine an ?_
          refine act ?_
          refine asr ?_
          refine af 56 tok ?_
          refine al 57 tok ?_
          refine af 58 tok ?_
          refine AOps.w rfl rfl (o_store tok rfl rfl rfl rfl rfl rfl rfl rfl rfl (by decide) rfl z37q) ?_
          refine an ?_
          refine asr ?_
          refine af 59 tok ?_
          refine al 60 tok ?_
          refine am 61 ?_
          refine ax 62 (o_pure rfl Try.func68 (by kernel_rfl) rfl rfl rfl (within_ok _ _)) ?_
          refine aq 63 (q_not rfl rfl) ?_
          refine an ?_
          refine AGo.split 63 rfl (fun hb14 => ?_) (fun hb14 => ?_)
          ·
           refine act ?_
           refine asr ?_
           refine aa 8 ?_
           refine an ?_
           refine AGo.ret ?_
           refine ⟨[_], ⟨rfl, trivial⟩, ?_, rfl⟩
           show AV.bool _ = AV.bool _
           congr 1
           exact (fits_d z34q z40q).symm
          ·
           refine acf ?_
           refine AGo.skip ?_
           exact ⟨t.d, Sub.mk' z31q z12q, ⟨by have h := ‹(!within t.d regs) = false›; simp at h; simp [h], by first | (simp [setsOp, *]; done) | simp [sets_pos ‹_›]⟩⟩
         ·
          refine af 52 tok ?_
          refine al 53 tok ?_
          refine aqb ?_
          refine apf ?_
          refine an ?_
          refine AGo.split 55 rfl (fun hb15 => ?_) (fun hb15 => ?_)
          ·
           refine act ?_
           refine asr ?_
           refine af 56 tok ?_
           refine al 57 tok ?_
           refine af 58 tok ?_
           refine AOps.w rfl rfl (o_store tok rfl rfl rfl rfl rfl rfl rfl rfl rfl (by decide) rfl z37q) ?_
           refine an ?_
           refine asr ?_
           refine af 59 tok ?_
           refine al 60 tok ?_
           refine am 61 ?_
           refine ax 62 (o_pure rfl Try.func68 (by kernel_rfl) rfl rfl rfl (within_ok _ _)) ?_
           refine aq 63 (q_not rfl rfl) ?_
           refine an ?_
           refine AGo.split 63 rfl (fun hb16 => ?_) (fun hb16 => ?_)
           ·
            refine act ?_
            refine asr ?_
            refine aa 8 ?_
            refine an ?_
            refine AGo.ret ?_
            refine ⟨[_], ⟨rfl, trivial⟩, ?_, rfl⟩
            show AV.bool _ = AV.bool _
            congr 1
            exact (fits_d z34q z40q).symm
           ·
            refine acf ?_
            refine AGo.skip ?_
            exact ⟨t.d, Sub.mk' z31q z12q, ⟨by have h := ‹(!within t.d regs) = false›; simp at h; simp [h], by first | (simp [setsOp, *]; done) | simp [sets_pos ‹_›]⟩⟩
          ·
           refine acf ?_
           refine AGo.skip ?_
           exact ⟨0, Sub.mk' z31q z12q, ⟨by simp [setsOp, *], by simp [setsOp, *]⟩⟩
   intro d ⟨hd, hdd⟩
   refine asr ?_
   refine al 64 tok ?_
   refine ax 65 (o_pure rfl Try.func70 (by kernel_rfl) rfl rfl rfl (uses_ok _)) ?_
   refine aa 10 ?_
   refine an ?_
   refine AGo.seq ?_
   refine asr ?_
   refine aa 11 ?_
   refine an ?_
   refine AGo.block ?_
   refine AGo.loopD (γ := Nat) 2 (fun j => ⟨166, (eput (eput (eput (eput (eput (eput (eput eNew 1 (.int .i64 f)) 2 (.int .i64 regs)) 3 (.int .i64 words)) 4 (.ptr 0 1 0 0)) 9 (.ptr 1 1 0 0)) 10 (intsAV t.uses)) 11 (.int .i64 (j : Int))), (hput (hput (hFrom 2) 0 (.row false 8 [t.cells])) 1 (.row false 8 [[.int .i64 t.op, .int .i64 d, .int .i64 0, .int .i64 0, .int .i64 0, .int .i64 0, .int .i64 0, .int .u32 0]]))⟩) (fun j => (t.uses.take j).all (fun r => within r regs) = true) (fun j => t.uses.length - j) 0 (Sub.mk' z31q z12q) rfl (fun _ => hput_free (hput_free (fun b hb => hFrom_free hb) rfl) rfl) ?_
   intro j hj
   refine AGo.seq ?_
   refine asr ?_
   refine am 66 ?_
   refine am 67 ?_
   refine aq 68 (q_len tok rfl rfl rfl rfl rfl) ?_
   refine aqb ?_
   refine an ?_
   refine AGo.split 69 rfl (fun hb17 => ?_) (fun hb17 => ?_)
   ·
    refine act ?_
    have hjl : j < t.uses.length := lt_of_idx hb17
    obtain ⟨u, hu⟩ := get_of_lt hjl
    refine AGo.skip ?_
    refine AGo.seq ?_
    refine AGo.block ?_
    refine asr ?_
    refine am 72 ?_
    refine am 73 ?_
    refine aq 74 (q_index_lst tok rfl rfl rfl rfl rfl rfl (Int.natCast_nonneg _) (idx_map (by assumption)) rfl) ?_
    refine al 75 tok ?_
    refine am 76 ?_
    refine ax 77 (o_pure rfl Try.func68 (by kernel_rfl) rfl rfl rfl (within_ok _ _)) ?_
    refine aq 78 (q_not rfl rfl) ?_
    refine an ?_
    refine AGo.split 78 rfl (fun hb18 => ?_) (fun hb18 => ?_)
    ·
     refine act ?_
     have hbw := hb18
     refine asr ?_
     refine aa 8 ?_
     refine an ?_
     refine AGo.ret ?_
     refine ⟨[_], ⟨rfl, trivial⟩, ?_, rfl⟩
     show AV.bool _ = AV.bool _
     congr 1
     exact (fits_use (all_bad hu (by simpa using hbw))).symm
    ·
     refine acf ?_
     have hbw := hb18
     refine AGo.skip ?_
     refine AGo.region ?_
     refine am 70 ?_
     refine aq 71 (q_inc rfl rfl hjl (Nat.le_trans (uses_len t) (by decide))) ?_
     refine aa 11 ?_
     refine an ?_
     exact ⟨j+1, Drop.mk' z21q z16q, all_succ hu hj (by simpa using hbw), by omega⟩
   ·
    refine acf ?_
    have hall := all_end hj (ge_of_idx hb17)
    refine AGo.exit ?_
    refine AGo.seq ?_
    refine AGo.join (γ := Int) (fun a => ⟨166, (eput (eput (eput (eput (eput (eput eNew 1 (.int .i64 f)) 2 (.int .i64 regs)) 3 (.int .i64 words)) 4 (.ptr 0 1 0 0)) 9 (.ptr 1 1 0 0)) 10 (intsAV t.uses)), (hput (hput (hFrom 2) 0 (.row false 8 [t.cells])) 1 (.row false 8 [[.int .i64 t.op, .int .i64 d, .int .i64 a, .int .i64 0, .int .i64 0, .int .i64 0, .int .i64 0, .int .u32 0]]))⟩) (fun a => a = bif use1 t.op || use2 t.op then t.a else 0) ?_ ?_
    ·
     refine asr ?_
     refine am 79 ?_
     refine aq 80 (q_len tok rfl rfl rfl rfl rfl) ?_
     refine aqb ?_
     refine an ?_
     refine AGo.split 81 rfl (fun hb19 => ?_) (fun hb19 => ?_)
     ·
      refine act ?_
      refine AGo.region ?_
      refine af 82 tok ?_
      refine al 83 tok ?_
      refine af 84 tok ?_
      refine AOps.w rfl rfl (o_store tok rfl rfl rfl rfl rfl rfl rfl rfl rfl (by decide) rfl z37q) ?_
      refine an ?_
      exact ⟨t.a, Sub.mk' z31q z12q, by have h3 := use12 t.op; cases h1 : use1 t.op <;> cases h2 : use2 t.op <;> simp_all [Tac.uses]⟩
     ·
      refine acf ?_
      refine AGo.skip ?_
      exact ⟨0, Sub.mk' z31q z12q, by have h3 := use12 t.op; cases h1 : use1 t.op <;> cases h2 : use2 t.op <;> simp_all [Tac.uses]⟩
    intro a haa
    refine AGo.seq ?_
    refine AGo.join (γ := Int) (fun b => ⟨166, (eput (eput (eput (eput (eput eNew 1 (.int .i64 f)) 2 (.int .i64 regs)) 3 (.int .i64 words)) 4 (.ptr 0 1 0 0)) 9 (.ptr 1 1 0 0)), (hput (hput (hFrom 2) 0 (.row false 8 [t.cells])) 1 (.row false 8 [[.int .i64 t.op, .int .i64 d, .int .i64 a, .int .i64 b, .int .i64 0, .int .i64 0, .int .i64 0, .int .u32 0]]))⟩) (fun b => b = bif use2 t.op then t.b else 0) ?_ ?_
    ·
     refine asr ?_
     refine am 85 ?_
     refine aq 86 (q_len tok rfl rfl rfl rfl rfl) ?_
     refine aqb ?_
     refine an ?_
     refine AGo.split 87 rfl (fun hb20 => ?_) (fun hb20 => ?_)
     ·
      refine act ?_
      refine AGo.region ?_
      refine af 88 tok ?_
      refine al 89 tok ?_
      refine af 90 tok ?_
      refine AOps.w rfl rfl (o_store tok rfl rfl rfl rfl rfl rfl rfl rfl rfl (by decide) rfl z37q) ?_
      refine an ?_
      exact ⟨t.b, Sub.mk' z31q z12q, by have h3 := use12 t.op; cases h1 : use1 t.op <;> cases h2 : use2 t.op <;> simp_all [Tac.uses]⟩
     ·
      refine acf ?_
      refine AGo.skip ?_
      exact ⟨0, Sub.mk' z31q z12q, by have h3 := use12 t.op; cases h1 : use1 t.op <;> cases h2 : use2 t.op <;> simp_all [Tac.uses]⟩
    intro b hbb
    refine AGo.seq ?_
    refine asr ?_
    refine af 91 tok ?_
    refine al 92 tok ?_
    refine an ?_
    refine AGo.block ?_
    refine asr ?_
    refine aqb ?_
    refine aa 93 ?_
    refine an ?_
    refine AGo.split 93 rfl (fun hb21 => ?_) (fun hb21 => ?_)
    ·
     refine act ?_
     refine AGo.region ?_
     refine af 95 tok ?_
     refine al 96 tok ?_
     refine af 97 tok ?_
     refine AOps.w rfl rfl (o_store tok rfl rfl rfl rfl rfl rfl rfl rfl rfl (by decide) rfl z37q) ?_
     refine an ?_
     refine asr ?_
     refine al 163 tok ?_
     refine al 164 tok ?_
     refine aq 165 (q_eqStruct tok false rfl rfl rfl (by kernel_rfl) rfl rfl rfl rfl rfl) ?_
     refine aa 8 ?_
     refine an ?_
     refine AGo.ret ?_
     refine ⟨[_], ⟨rfl, trivial⟩, ?_, rfl⟩
     show AV.bool _ = AV.bool _
     congr 1
     have hwr : 1 ≤ t.size → t.size ≤ 4096 → IntKind.i64.wrap (words - t.size) = words - t.size := fun h1 h2 => wrap_i64 (by omega) (by omega)
     rw [fits_same hb1 hb2 hd hall z38q]
     subst hdd haa hbb
     clear hd hj hall hwr hw hw2 hb1 hb2
     first | (simp_all [Tac.same, Tac.want, baseOp, arrOp, setsOp, use1, use2]; done) | simp [Tac.same, Tac.want, baseOp, arrOp, *]
    ·
     refine acf ?_
     refine asr ?_
     refine aqb ?_
     refine aa 98 ?_
     refine an ?_
     refine AGo.split 98 rfl (fun hb22 => ?_) (fun hb22 => ?_)
     ·
      refine act ?_
      refine asr ?_
      refine af 100 tok ?_
      refine al 101 tok ?_
      refine af 102 tok ?_
      refine AOps.w rfl rfl (o_store tok rfl rfl rfl rfl rfl rfl rfl rfl rfl (by decide) rfl z37q) ?_
      refine an ?_
      refine asr ?_
      refine af 103 tok ?_
      refine al 104 tok ?_
      refine aqb ?_
      refine am 106 ?_
      refine AOps.split 106 rfl (fun hb23 => ?_) (fun hb23 => ?_)
      ·
       iterate 3 refine ak _ ?_
       refine apt ?_
       refine an ?_
       refine act ?_
       refine asr ?_
       refine aa 8 ?_
       refine an ?_
       refine AGo.ret ?_
       refine ⟨[_], ⟨rfl, trivial⟩, ?_, rfl⟩
       show AV.bool _ = AV.bool _
       congr 1
       exact (fits_rest z38q).symm
      ·
       refine af 107 tok ?_
       refine al 108 tok ?_
       refine aqb ?_
       refine apf ?_
       refine an ?_
       refine AGo.split 110 rfl (fun hb24 => ?_) (fun hb24 => ?_)
       ·
        refine act ?_
        refine asr ?_
        refine aa 8 ?_
        refine an ?_
        refine AGo.ret ?_
        refine ⟨[_], ⟨rfl, trivial⟩, ?_, rfl⟩
        show AV.bool _ = AV.bool _
        congr 1
        exact (fits_rest z38q).symm
       ·
        refine acf ?_
        refine AGo.skip ?_
        refine asr ?_
        refine al 163 tok ?_
        refine al 164 tok ?_
        refine aq 165 (q_eqStruct tok false rfl rfl rfl (by kernel_rfl) rfl rfl rfl rfl rfl) ?_
        refine aa 8 ?_
        refine an ?_
        refine AGo.ret ?_
        refine ⟨[_], ⟨rfl, trivial⟩, ?_, rfl⟩
        show AV.bool _ = AV.bool _
        congr 1
        have hwr : 1 ≤ t.size → t.size ≤ 4096 → IntKind.i64.wrap (words - t.size) = words - t.size := fun h1 h2 => wrap_i64 (by omega) (by omega)
        rw [fits_same hb1 hb2 hd hall z38q]
        subst hdd haa hbb
        clear hd hj hall hwr hw hw2 hb1 hb2
        first | (simp_all [Tac.same, Tac.want, baseOp, arrOp, setsOp, use1, use2]; done) | simp [Tac.same, Tac.want, baseOp, arrOp, *]
     ·
      refine acf ?_
      refine AGo.seq ?_
      refine asr ?_
      refine aqb ?_
      refine aa 111 ?_
      refine an ?_
      refine AGo.split 111 rfl (fun hb25 => ?_) (fun hb25 => ?_)
      ·
       refine act ?_
       refine AGo.skip ?_
       refine act ?_
       refine asr ?_
       refine af 114 tok ?_
       refine al 115 tok ?_
       refine af 116 tok ?_
       refine AOps.w rfl rfl (o_store tok rfl rfl rfl rfl rfl rfl rfl rfl rfl (by decide) rfl z37q) ?_
       refine an ?_
       refine asr ?_
       refine af 117 tok ?_
       refine al 118 tok ?_
       refine am 119 ?_
       refine ax 120 (o_pure rfl Try.func68 (by kernel_rfl) rfl rfl rfl (within_ok _ _)) ?_
       refine aq 121 (q_not rfl rfl) ?_
       refine an ?_
       refine AGo.split 121 rfl (fun hb26 => ?_) (fun hb26 => ?_)
       ·
        refine act ?_
        refine asr ?_
        refine aa 8 ?_
        refine an ?_
        refine AGo.ret ?_
        refine ⟨[_], ⟨rfl, trivial⟩, ?_, rfl⟩
        show AV.bool _ = AV.bool _
        congr 1
        exact (fits_rest z38q).symm
       ·
        refine acf ?_
        refine AGo.skip ?_
        refine asr ?_
        refine al 163 tok ?_
        refine al 164 tok ?_
        refine aq 165 (q_eqStruct tok false rfl rfl rfl (by kernel_rfl) rfl rfl rfl rfl rfl) ?_
        refine aa 8 ?_
        refine an ?_
        refine AGo.ret ?_
        refine ⟨[_], ⟨rfl, trivial⟩, ?_, rfl⟩
        show AV.bool _ = AV.bool _
        congr 1
        have hwr : 1 ≤ t.size → t.size ≤ 4096 → IntKind.i64.wrap (words - t.size) = words - t.size := fun h1 h2 => wrap_i64 (by omega) (by omega)
        rw [fits_same hb1 hb2 hd hall z38q]
        subst hdd haa hbb
        clear hd hj hall hwr hw hw2 hb1 hb2
        first | (simp_all [Tac.same, Tac.want, baseOp, arrOp, setsOp, use1, use2]; done) | simp [Tac.same, Tac.want, baseOp, arrOp, *]
      ·
       refine acf ?_
       refine AGo.region ?_
       refine aqb ?_
       refine aa 111 ?_
       refine an ?_
       refine AGo.split 111 rfl (fun hb27 => ?_) (fun hb27 => ?_)
       ·
        refine act ?_
        refine asr ?_
        refine af 114 tok ?_
        refine al 115 tok ?_
        refine af 116 tok ?_
        refine AOps.w rfl rfl (o_store tok rfl rfl rfl rfl rfl rfl rfl rfl rfl (by decide) rfl z37q) ?_
        refine an ?_
        refine asr ?_
        refine af 117 tok ?_
        refine al 118 tok ?_
        refine am 119 ?_
        refine ax 120 (o_pure rfl Try.func68 (by kernel_rfl) rfl rfl rfl (within_ok _ _)) ?_
        refine aq 121 (q_not rfl rfl) ?_
        refine an ?_
        refine AGo.split 121 rfl (fun hb28 => ?_) (fun hb28 => ?_)
        ·
         refine act ?_
         refine asr ?_
         refine aa 8 ?_
         refine an ?_
         refine AGo.ret ?_
         refine ⟨[_], ⟨rfl, trivial⟩, ?_, rfl⟩
         show AV.bool _ = AV.bool _
         congr 1
         exact (fits_rest z38q).symm
        ·
         refine acf ?_
         refine AGo.skip ?_
         refine asr ?_
         refine al 163 tok ?_
         refine al 164 tok ?_
         refine aq 165 (q_eqStruct tok false rfl rfl rfl (by kernel_rfl) rfl rfl rfl rfl rfl) ?_
         refine aa 8 ?_
         refine an ?_
         refine AGo.ret ?_
         refine ⟨[_], ⟨rfl, trivial⟩, ?_, rfl⟩
         show AV.bool _ = AV.bool _
         congr 1
         have hwr : 1 ≤ t.size → t.size ≤ 4096 → IntKind.i64.wrap (words - t.size) = words - t.size := fun h1 h2 => wrap_i64 (by omega) (by omega)
         rw [fits_same hb1 hb2 hd hall z38q]
         subst hdd haa hbb
         clear hd hj hall hwr hw hw2 hb1 hb2
         first | (simp_all [Tac.same, Tac.want, baseOp, arrOp, setsOp, use1, use2]; done) | simp [Tac.same, Tac.want, baseOp, arrOp, *]
       ·
        refine acf ?_
        refine AGo.seq ?_
        refine asr ?_
        refine aqb ?_
        refine aa 122 ?_
        refine an ?_
        refine AGo.split 122 rfl (fun hb29 => ?_) (fun hb29 => ?_)
        ·
         refine act ?_
         refine AGo.skip ?_
         refine act ?_
         refine AGo.seq ?_
         refine AGo.draw mix ?_
         refine df 125 tok ?_
         refine dl 126 tok ?_
         refine df 127 tok ?_
         refine dl 128 tok ?_
         refine df 129 tok ?_
         refine DOps.w rfl rfl (o_store tok rfl rfl rfl rfl rfl rfl rfl rfl rfl (by decide) rfl z37q) ?_
         refine df 130 tok ?_
         refine DOps.w rfl rfl (o_store tok rfl rfl rfl rfl rfl rfl rfl rfl rfl (by decide) rfl z37q) ?_
         refine DOps.nil (by kernel_rfl) ?_
         refine asr ?_
         refine af 131 tok ?_
         refine al 132 tok ?_
         refine aqb ?_
         refine am 134 ?_
         refine AOps.split 134 rfl (fun hb30 => ?_) (fun hb30 => ?_)
         ·
          iterate 3 refine ak _ ?_
          refine apt ?_
          refine am 139 ?_
          iterate 3 refine ak _ ?_
          refine apt ?_
          refine am 144 ?_
          iterate 7 refine ak _ ?_
          refine apt ?_
          refine an ?_
          refine act ?_
          refine asr ?_
          refine aa 8 ?_
          refine an ?_
          refine AGo.ret ?_
          refine ⟨[_], ⟨rfl, trivial⟩, ?_, rfl⟩
          show AV.bool _ = AV.bool _
          congr 1
          have hwr : 1 ≤ t.size → t.size ≤ 4096 → IntKind.i64.wrap (words - t.size) = words - t.size := fun h1 h2 => wrap_i64 (by omega) (by omega)
          exact (fits_rest z38q).symm
         ·
          refine af 135 tok ?_
          refine al 136 tok ?_
          refine aqb ?_
          refine apf ?_
          refine am 139 ?_
          refine AOps.split 139 rfl (fun hb31 => ?_) (fun hb31 => ?_)
          ·
           iterate 3 refine ak _ ?_
           refine apt ?_
           refine am 144 ?_
           iterate 7 refine ak _ ?_
           refine apt ?_
           refine an ?_
           refine act ?_
           refine asr ?_
           refine aa 8 ?_
           refine an ?_
           refine AGo.ret ?_
           refine ⟨[_], ⟨rfl, trivial⟩, ?_, rfl⟩
           show AV.bool _ = AV.bool _
           congr 1
           have hwr : 1 ≤ t.size → t.size ≤ 4096 → IntKind.i64.wrap (words - t.size) = words - t.size := fun h1 h2 => wrap_i64 (by omega) (by omega)
           exact (fits_rest z38q).symm
          ·
           refine af 140 tok ?_
           refine al 141 tok ?_
           refine aqb ?_
           refine apf ?_
           refine am 144 ?_
           refine AOps.split 144 rfl (fun hb32 => ?_) (fun hb32 => ?_)
           ·
            iterate 7 refine ak _ ?_
            refine apt ?_
            refine an ?_
            refine act ?_
            refine asr ?_
            refine aa 8 ?_
            refine an ?_
            refine AGo.ret ?_
            refine ⟨[_], ⟨rfl, trivial⟩, ?_, rfl⟩
            show AV.bool _ = AV.bool _
            congr 1
            have hwr : 1 ≤ t.size → t.size ≤ 4096 → IntKind.i64.wrap (words - t.size) = words - t.size := fun h1 h2 => wrap_i64 (by omega) (by omega)
            exact (fits_rest z38q).symm
           ·
            refine af 145 tok ?_
            refine al 146 tok ?_
            refine am 147 ?_
            refine af 148 tok ?_
            refine al 149 tok ?_
            refine aqb ?_
            refine aqb ?_
            refine apf ?_
            refine an ?_
            refine AGo.split 152 rfl (fun hb33 => ?_) (fun hb33 => ?_)
            ·
             refine act ?_
             refine asr ?_
             refine aa 8 ?_
             refine an ?_
             refine AGo.ret ?_
             refine ⟨[_], ⟨rfl, trivial⟩, ?_, rfl⟩
             show AV.bool _ = AV.bool _
             congr 1
             have hwr : 1 ≤ t.size → t.size ≤ 4096 → IntKind.i64.wrap (words - t.size) = words - t.size := fun h1 h2 => wrap_i64 (by omega) (by omega)
             exact (fits_rest z38q).symm
            ·
             refine acf ?_
             refine AGo.skip ?_
             refine asr ?_
             refine al 163 tok ?_
             refine al 164 tok ?_
             refine aq 165 (q_eqStruct tok false rfl rfl rfl (by kernel_rfl) rfl rfl rfl rfl rfl) ?_
             refine aa 8 ?_
             refine an ?_
             refine AGo.ret ?_
             refine ⟨[_], ⟨rfl, trivial⟩, ?_, rfl⟩
             show AV.bool _ = AV.bool _
             congr 1
             have hwr : 1 ≤ t.size → t.size ≤ 4096 → IntKind.i64.wrap (words - t.size) = words - t.size := fun h1 h2 => wrap_i64 (by omega) (by omega)
             rw [fits_same hb1 hb2 hd hall z38q]
             subst hdd haa hbb
             clear hd hj hall hwr hw hw2 hb1 hb2
             first | (simp_all [Tac.same, Tac.want, baseOp, arrOp, setsOp, use1, use2]; done) | simp [Tac.same, Tac.want, baseOp, arrOp, *]
        ·
         refine acf ?_
         refine AGo.region ?_
         refine aqb ?_
         refine aa 122 ?_
         refine an ?_
         refine AGo.split 122 rfl (fun hb34 => ?_) (fun hb34 => ?_)
         ·
          refine act ?_
          refine AGo.seq ?_
          refine AGo.draw mix ?_
          refine df 125 tok ?_
          refine dl 126 tok ?_
          refine df 127 tok ?_
          refine dl 128 tok ?_
          refine df 129 tok ?_
          refine DOps.w rfl rfl (o_store tok rfl rfl rfl rfl rfl rfl rfl rfl rfl (by decide) rfl z37q) ?_
          refine df 130 tok ?_
          refine DOps.w rfl rfl (o_store tok rfl rfl rfl rfl rfl rfl rfl rfl rfl (by decide) rfl z37q) ?_
          refine DOps.nil (by kernel_rfl) ?_
          refine asr ?_
          refine af 131 tok ?_
          refine al 132 tok ?_
          refine aqb ?_
          refine am 134 ?_
          refine AOps.split 134 rfl (fun hb35 => ?_) (fun hb35 => ?_)
          ·
           iterate 3 refine ak _ ?_
           refine apt ?_
           refine am 139 ?_
           iterate 3 refine ak _ ?_
           refine apt ?_
           refine am 144 ?_
           iterate 7 refine ak _ ?_
           refine apt ?_
           refine an ?_
           refine act ?_
           refine asr ?_
           refine aa 8 ?_
           refine an ?_
           refine AGo.ret ?_
           refine ⟨[_], ⟨rfl, trivial⟩, ?_, rfl⟩
           show AV.bool _ = AV.bool _
           congr 1
           have hwr : 1 ≤ t.size → t.size ≤ 4096 → IntKind.i64.wrap (words - t.size) = words - t.size := fun h1 h2 => wrap_i64 (by omega) (by omega)
           exact (fits_rest z38q).symm
          ·
           refine af 135 tok ?_
           refine al 136 tok ?_
           refine aqb ?_
           refine apf ?_
           refine am 139 ?_
           refine AOps.split 139 rfl (fun hb36 => ?_) (fun hb36 => ?_)
           ·
            iterate 3 refine ak _ ?_
            refine apt ?_
            refine am 144 ?_
            iterate 7 refine ak _ ?_
            refine apt ?_
            refine an ?_
            refine act ?_
            refine asr ?_
            refine aa 8 ?_
            refine an ?_
            refine AGo.ret ?_
            refine ⟨[_], ⟨rfl, trivial⟩, ?_, rfl⟩
            show AV.bool _ = AV.bool _
            congr 1
            have hwr : 1 ≤ t.size → t.size ≤ 4096 → IntKind.i64.wrap (words - t.size) = words - t.size := fun h1 h2 => wrap_i64 (by omega) (by omega)
            exact (fits_rest z38q).symm
           ·
            refine af 140 tok ?_
            refine al 141 tok ?_
            refine aqb ?_
            refine apf ?_
            refine am 144 ?_
            refine AOps.split 144 rfl (fun hb37 => ?_) (fun hb37 => ?_)
            ·
             iterate 7 refine ak _ ?_
             refine apt ?_
             refine an ?_
             refine act ?_
             refine asr ?_
             refine aa 8 ?_
             refine an ?_
             refine AGo.ret ?_
             refine ⟨[_], ⟨rfl, trivial⟩, ?_, rfl⟩
             show AV.bool _ = AV.bool _
             congr 1
             have hwr : 1 ≤ t.size → t.size ≤ 4096 → IntKind.i64.wrap (words - t.size) = words - t.size := fun h1 h2 => wrap_i64 (by omega) (by omega)
             exact (fits_rest z38q).symm
            ·
             refine af 145 tok ?_
             refine al 146 tok ?_
             refine am 147 ?_
             refine af 148 tok ?_
             refine al 149 tok ?_
             refine aqb ?_
             refine aqb ?_
             refine apf ?_
             refine an ?_
             refine AGo.split 152 rfl (fun hb38 => ?_) (fun hb38 => ?_)
             ·
              refine act ?_
              refine asr ?_
              refine aa 8 ?_
              refine an ?_
              refine AGo.ret ?_
              refine ⟨[_], ⟨rfl, trivial⟩, ?_, rfl⟩
              show AV.bool _ = AV.bool _
              congr 1
              have hwr : 1 ≤ t.size → t.size ≤ 4096 → IntKind.i64.wrap (words - t.size) = words - t.size := fun h1 h2 => wrap_i64 (by omega) (by omega)
              exact (fits_rest z38q).symm
             ·
              refine acf ?_
              refine AGo.skip ?_
              refine asr ?_
              refine al 163 tok ?_
              refine al 164 tok ?_
              refine aq 165 (q_eqStruct tok false rfl rfl rfl (by kernel_rfl) rfl rfl rfl rfl rfl) ?_
              refine aa 8 ?_
              refine an ?_
              refine AGo.ret ?_
              refine ⟨[_], ⟨rfl, trivial⟩, ?_, rfl⟩
              show AV.bool _ = AV.bool _
              congr 1
              have hwr : 1 ≤ t.size → t.size ≤ 4096 → IntKind.i64.wrap (words - t.size) = words - t.size := fun h1 h2 => wrap_i64 (by omega) (by omega)
              rw [fits_same hb1 hb2 hd hall z38q]
              subst hdd haa hbb
              clear hd hj hall hwr hw hw2 hb1 hb2
              first | (simp_all [Tac.same, Tac.want, baseOp, arrOp, setsOp, use1, use2]; done) | simp [Tac.same, Tac.want, baseOp, arrOp, *]
         ·
          refine acf ?_
          refine asr ?_
          refine aqb ?_
          refine aa 153 ?_
          refine an ?_
          refine AGo.split 153 rfl (fun hb39 => ?_) (fun hb39 => ?_)
          ·
           refine act ?_
           refine asr ?_
           refine af 155 tok ?_
           refine al 156 tok ?_
           refine af 157 tok ?_
           refine AOps.w rfl rfl (o_store tok rfl rfl rfl rfl rfl rfl rfl rfl rfl (by decide) rfl z37q) ?_
           refine an ?_
           refine asr ?_
           refine af 158 tok ?_
           refine al 159 tok ?_
           refine am 160 ?_
           refine ax 161 (o_pure rfl Try.func68 (by kernel_rfl) rfl rfl rfl (within_ok _ _)) ?_
           refine aq 162 (q_not rfl rfl) ?_
           refine an ?_
           refine AGo.split 162 rfl (fun hb40 => ?_) (fun hb40 => ?_)
           ·
            refine act ?_
            refine asr ?_
            refine aa 8 ?_
            refine an ?_
            refine AGo.ret ?_
            refine ⟨[_], ⟨rfl, trivial⟩, ?_, rfl⟩
            show AV.bool _ = AV.bool _
            congr 1
            exact (fits_rest z38q).symm
           ·
            refine acf ?_
            refine AGo.skip ?_
            refine asr ?_
            refine al 163 tok ?_
            refine al 164 tok ?_
            refine aq 165 (q_eqStruct tok false rfl rfl rfl (by kernel_rfl) rfl rfl rfl rfl rfl) ?_
            refine aa 8 ?_
            refine an ?_
            refine AGo.ret ?_
            refine ⟨[_], ⟨rfl, trivial⟩, ?_, rfl⟩
            show AV.bool _ = AV.bool _
            congr 1
            have hwr : 1 ≤ t.size → t.size ≤ 4096 → IntKind.i64.wrap (words - t.size) = words - t.size := fun h1 h2 => wrap_i64 (by omega) (by omega)
            rw [fits_same hb1 hb2 hd hall z38q]
            subst hdd haa hbb
            clear hd hj hall hwr hw hw2 hb1 hb2
            first | (simp_all [Tac.same, Tac.want, baseOp, arrOp, setsOp, use1, use2]; done) | simp [Tac.same, Tac.want, baseOp, arrOp, *]
          ·
           refine acf ?_
           refine AGo.skip ?_
           refine asr ?_
           refine al 163 tok ?_
           refine al 164 tok ?_
           refine aq 165 (q_eqStruct tok false rfl rfl rfl (by kernel_rfl) rfl rfl rfl rfl rfl) ?_
           refine aa 8 ?_
           refine an ?_
           refine AGo.ret ?_
           refine ⟨[_], ⟨rfl, trivial⟩, ?_, rfl⟩
           show AV.bool _ = AV.bool _
           congr 1
           have hwr : 1 ≤ t.size → t.size ≤ 4096 → IntKind.i64.wrap (words - t.size) = words - t.size := fun h1 h2 => wrap_i64 (by omega) (by omega)
           rw [fits_same hb1 hb2 hd hall z38q]
           subst hdd haa hbb
           clear hd hj hall hwr hw hw2 hb1 hb2
           first | (simp_all [Tac.same, Tac.want, baseOp, arrOp, setsOp, use1, use2]; done) | simp [Tac.same, Tac.want, baseOp, arrOp, *]
set_option maxRecDepth 100000 in
theorem one_ok (f : BFunc) (number words : Int) (hw : 0 ≤ words) (hw2 : words ≤ 1048576) : APure Try.prog 32 [.agg f.cells, .int .i64 number, .int .i64 words] (fun r => r = .bool (f.one number words)) := by
 refine APure.of_body (n := 68) tok Try.func32 rfl rfl ?_
 refine AGo.seq ?_
 refine AGo.slot 0 rfl (fun H ι v => rel_bfunc) (fun hfit => ?_)
 refine AGo.region ?_
 refine ax 3 (o_box (sz := 2) 0 rfl rfl rfl rfl (Nat.zero_lt_succ _) rfl) ?_
 refine aa 6 ?_
 refine an ?_
 refine AGo.seq ?_
 refine asr ?_
 refine af 9 tok ?_
 refine al 10 tok ?_
 refine aqb ?_
 refine am 12 ?_
 refine AOps.split 12 rfl (fun hb1 => ?_) (fun hb1 => ?_)
 ·
  iterate 3 refine ak _ ?_
  refine apt ?_
  refine am 17 ?_
  iterate 4 refine ak _ ?_
  refine apt ?_
  refine an ?_
  refine act ?_
  refine asr ?_
  refine aa 6 ?_
  refine an ?_
  refine AGo.ret ?_
  refine ⟨[_], ⟨rfl, trivial⟩, ?_, rfl⟩
  show AV.bool _ = AV.bool _
  congr 1
  exact (one_bad (by simp_all <;> omega)).symm
 ·
  refine af 13 tok ?_
  refine al 14 tok ?_
  refine aqb ?_
  refine apf ?_
  refine am 17 ?_
  refine AOps.split 17 rfl (fun hb2 => ?_) (fun hb2 => ?_)
  ·
   iterate 4 refine ak _ ?_
   refine apt ?_
   refine an ?_
   refine act ?_
   refine asr ?_
   refine aa 6 ?_
   refine an ?_
   refine AGo.ret ?_
   refine ⟨[_], ⟨rfl, trivial⟩, ?_, rfl⟩
   show AV.bool _ = AV.bool _
   congr 1
   exact (one_bad (by simp_all <;> omega)).symm
  ·
   refine af 18 tok ?_
   refine al 19 tok ?_
   refine aq 20 (q_len tok rfl rfl rfl rfl rfl) ?_
   refine aqb ?_
   refine apf ?_
   refine an ?_
   refine AGo.split 22 rfl (fun hb3 => ?_) (fun hb3 => ?_)
   ·
    refine act ?_
    refine asr ?_
    refine aa 6 ?_
    refine an ?_
    refine AGo.ret ?_
    refine ⟨[_], ⟨rfl, trivial⟩, ?_, rfl⟩
    show AV.bool _ = AV.bool _
    congr 1
    exact (one_bad (by simp_all <;> omega)).symm
   ·
    refine acf ?_
    have h0 : 0 ≤ f.regs ∧ f.regs ≤ 4000 ∧ f.blocks.length ≠ 0 := by simp_all <;> omega
    refine AGo.skip ?_
    refine AGo.seq ?_
    refine asr ?_
    refine aa 7 ?_
    refine an ?_
    refine AGo.block ?_
    refine AGo.loopD (γ := Nat) 1 (fun k => ⟨68, (eput (eput (eput (eput eNew 1 (.int .i64 number)) 2 (.int .i64 words)) 3 (.ptr 0 1 0 0)) 7 (.int .i64 (k : Int))), (hput (hFrom 1) 0 (.row false 2 [f.cells]))⟩) (fun k => (f.blocks.take k).all (fun x => x.ok f.blocks.length f.regs number words) = true) (fun k => f.blocks.length - k) 0 (Sub.mk' z31q z12q) rfl (fun _ => hput_free (fun b hb => hFrom_free hb) rfl) ?_
    intro k hk
    refine AGo.seq ?_
    refine asr ?_
    refine am 23 ?_
    refine af 24 tok ?_
    refine al 25 tok ?_
    refine aq 26 (q_len tok rfl rfl rfl rfl rfl) ?_
    refine aqb ?_
    refine an ?_
    refine AGo.split 27 rfl (fun hb4 => ?_) (fun hb4 => ?_)
    ·
     refine act ?_
     have hkl : k < f.blocks.length := lt_of_idx hb4
     obtain ⟨x, hx⟩ := get_of_lt hkl
     refine AGo.skip ?_
     refine AGo.seq ?_
     refine AGo.block ?_
     refine AGo.seq ?_
     refine AGo.seq ?_
     refine AGo.draw mix ?_
     refine df 30 tok ?_
     refine dl 31 tok ?_
     refine dm 32 ?_
     refine dq 33 (q_index_lst tok rfl rfl rfl rfl rfl rfl (Int.natCast_nonneg _) (idx_map (by assumption)) rfl) ?_
     refine dl 34 tok ?_
     refine df 35 tok ?_
     refine dl 36 tok ?_
     refine dq 37 (q_len tok rfl rfl rfl rfl rfl) ?_
     refine df 38 tok ?_
     refine dl 39 tok ?_
     refine dx 40 (o_pure rfl Try.func51 (by kernel_rfl) rfl rfl rfl (ends_ok x _ _)) ?_
     refine dq 41 (q_not rfl rfl) ?_
     refine DOps.nil (by kernel_rfl) ?_
     refine AGo.split 41 rfl (fun hb5 => ?_) (fun hb5 => ?_)
     ·
      refine act ?_
      have hends : x.ends f.blocks.length f.regs = false := by simpa using hb5
      refine asr ?_
      refine aa 6 ?_
      refine an ?_
      refine AGo.ret ?_
      refine ⟨[_], ⟨rfl, trivial⟩, ?_, rfl⟩
      show AV.bool _ = AV.bool _
      congr 1
      rw [one_all h0.1 h0.2.1 h0.2.2, all_bad hx (by simp [Block.ok, hends])]
     ·
      refine acf ?_
      have hends : x.ends f.blocks.length f.regs = true := by simpa using hb5
      refine AGo.skip ?_
      refine asr ?_
      refine aa 8 ?_
      refine an ?_
      refine AGo.block ?_
      refine AGo.loopD (γ := Nat) 1 (fun j => ⟨68, (eput (eput (eput (eput (eput eNew 1 (.int .i64 number)) 2 (.int .i64 words)) 3 (.ptr 0 1 0 0)) 7 (.int .i64 (k : Int))) 8 (.int .i64 (j : Int))), (hput (hFrom 1) 0 (.row false 2 [f.cells]))⟩) (fun j => (x.ins.take j).all (fun t => t.fits number f.regs words) = true) (fun j => x.ins.length - j) 0 (Sub.mk' z31q z12q) rfl (fun _ => hput_free (fun b hb => hFrom_free hb) rfl) ?_
      intro j hj
      refine AGo.seq ?_
      refine asr ?_
      refine am 42 ?_
      refine af 43 tok ?_
      refine al 44 tok ?_
      refine am 45 ?_
      refine aq 46 (q_index_lst tok rfl rfl rfl rfl rfl rfl (Int.natCast_nonneg _) (idx_map (by assumption)) rfl) ?_
      refine af 47 tok ?_
      refine al 48 tok ?_
      refine aq 49 (q_len tok rfl rfl rfl rfl rfl) ?_
      refine aqb ?_
      refine an ?_
      refine AGo.split 50 rfl (fun hb6 => ?_) (fun hb6 => ?_)
      ·
       refine act ?_
       have hjl : j < x.ins.length := lt_of_idx hb6
       obtain ⟨u, hu⟩ := get_of_lt hjl
       refine AGo.skip ?_
       refine AGo.seq ?_
       refine AGo.block ?_
       refine AGo.seq ?_
       refine AGo.draw mix ?_
       refine df 53 tok ?_
       refine dl 54 tok ?_
       refine dm 55 ?_
       refine dq 56 (q_index_lst tok rfl rfl rfl rfl rfl rfl (Int.natCast_nonneg _) (idx_map (by assumption)) rfl) ?_
       refine df 57 tok ?_
       refine dl 58 tok ?_
       refine dm 59 ?_
       refine dq 60 (q_index_lst tok rfl rfl rfl rfl rfl rfl (Int.natCast_nonneg _) (idx_map (by assumption)) rfl) ?_
       refine dl 61 tok ?_
       refine dm 62 ?_
       refine df 63 tok ?_
       refine dl 64 tok ?_
       refine dm 65 ?_
       refine dx 66 (o_pure rfl Try.func52 (by kernel_rfl) rfl rfl rfl (fits_ok u _ _ _ hw hw2)) ?_
       refine dq 67 (q_not rfl rfl) ?_
       refine DOps.nil (by kernel_rfl) ?_
       refine AGo.split 67 rfl (fun hb7 => ?_) (fun hb7 => ?_)
       ·
        refine act ?_
        have hbw := hb7
        refine asr ?_
        refine aa 6 ?_
        refine an ?_
        refine AGo.ret ?_
        refine ⟨[_], ⟨rfl, trivial⟩, ?_, rfl⟩
        show AV.bool _ = AV.bool _
        congr 1
        rw [one_all h0.1 h0.2.1 h0.2.2, all_bad hx (by simp only [Block.ok, all_bad (p := fun t => Tac.fits t number f.regs words) hu (by simpa using hbw), Bool.and_false])]
       ·
        refine acf ?_
        have hbw := hb7
        refine AGo.skip ?_
        refine AGo.region ?_
        refine am 51 ?_
        refine aq 52 (q_inc rfl rfl hjl (hfit.2 x (List.mem_of_getElem? hx))) ?_
        refine aa 8 ?_
        refine an ?_
        exact ⟨j+1, Drop.mk' z21q z16q, all_succ hu hj (by simpa using hbw), by omega⟩
      ·
       refine acf ?_
       have hins := all_end hj (ge_of_idx hb6)
       refine AGo.exit ?_
       refine AGo.region ?_
       refine am 28 ?_
       refine aq 29 (q_inc rfl rfl hkl hfit.1) ?_
       refine aa 7 ?_
       refine an ?_
       exact ⟨k+1, Drop.mk' z21q z16q, all_succ hx hk (by simp [Block.ok, hends, hins]), by omega⟩
    ·
     refine acf ?_
     have hall := all_end hk (ge_of_idx hb4)
     refine AGo.exit ?_
     refine asr ?_
     refine aa 6 ?_
     refine an ?_
     refine AGo.ret ?_
     refine ⟨[_], ⟨rfl, trivial⟩, ?_, rfl⟩
     show AV.bool _ = AV.bool _
     congr 1
     rw [one_all h0.1 h0.2.1 h0.2.2, hall]
set_option maxRecDepth 100000 in
theorem right_ok (b : Blocks) : APure Try.prog 15 [.agg b.cells] (fun r => r = .bool b.right) := by
 refine APure.of_body (n := 35) tok Try.func15 rfl rfl ?_
 refine AGo.seq ?_
 refine AGo.slot 0 rfl (fun H ι v => rel_prog) (fun hfit => ?_)
 refine AGo.region ?_
 refine ax 1 (o_box (sz := 2) 0 rfl rfl rfl rfl (Nat.zero_lt_succ _) rfl) ?_
 refine aa 2 ?_
 refine an ?_
 refine AGo.seq ?_
 refine asr ?_
 refine af 4 tok ?_
 refine al 5 tok ?_
 refine aqb ?_
 refine am 7 ?_
 refine AOps.split 7 rfl (fun hb1 => ?_) (fun hb1 => ?_)
 ·
  iterate 3 refine ak _ ?_
  refine apt ?_
  refine am 12 ?_
  iterate 4 refine ak _ ?_
  refine apt ?_
  refine an ?_
  refine act ?_
  refine asr ?_
  refine aa 2 ?_
  refine an ?_
  refine AGo.ret ?_
  refine ⟨[_], ⟨rfl, trivial⟩, ?_, rfl⟩
  show AV.bool _ = AV.bool _
  congr 1
  exact (right_bad (by simp_all <;> omega)).symm
 ·
  refine af 8 tok ?_
  refine al 9 tok ?_
  refine aqb ?_
  refine apf ?_
  refine am 12 ?_
  refine AOps.split 12 rfl (fun hb2 => ?_) (fun hb2 => ?_)
  ·
   iterate 4 refine ak _ ?_
   refine apt ?_
   refine an ?_
   refine act ?_
   refine asr ?_
   refine aa 2 ?_
   refine an ?_
   refine AGo.ret ?_
   refine ⟨[_], ⟨rfl, trivial⟩, ?_, rfl⟩
   show AV.bool _ = AV.bool _
   congr 1
   exact (right_bad (by simp_all <;> omega)).symm
  ·
   refine af 13 tok ?_
   refine al 14 tok ?_
   refine aq 15 (q_len tok rfl rfl rfl rfl rfl) ?_
   refine aqb ?_
   refine apf ?_
   refine an ?_
   refine AGo.split 17 rfl (fun hb3 => ?_) (fun hb3 => ?_)
   ·
    refine act ?_
    refine asr ?_
    refine aa 2 ?_
    refine an ?_
    refine AGo.ret ?_
    refine ⟨[_], ⟨rfl, trivial⟩, ?_, rfl⟩
    show AV.bool _ = AV.bool _
    congr 1
    exact (right_bad (by simp_all <;> omega)).symm
   ·
    refine acf ?_
    have h0 : 0 ≤ b.words ∧ b.words ≤ 1048576 ∧ b.funcs.length ≠ 0 := by simp_all <;> omega
    refine AGo.skip ?_
    refine AGo.seq ?_
    refine asr ?_
    refine aa 3 ?_
    refine an ?_
    refine AGo.block ?_
    refine AGo.loopD (γ := Nat) 1 (fun k => ⟨35, (eput (eput eNew 1 (.ptr 0 1 0 0)) 3 (.int .i64 (k : Int))), (hput (hFrom 1) 0 (.row false 2 [b.cells]))⟩) (fun k => (b.funcs.zipIdx.take k).all (fun p => p.1.one (p.2 : Int) b.words) = true) (fun k => b.funcs.length - k) 0 (Sub.mk' z31q z12q) rfl (fun _ => hput_free (fun b hb => hFrom_free hb) rfl) ?_
    intro k hk
    refine AGo.seq ?_
    refine asr ?_
    refine am 18 ?_
    refine af 19 tok ?_
    refine al 20 tok ?_
    refine aq 21 (q_len tok rfl rfl rfl rfl rfl) ?_
    refine aqb ?_
    refine an ?_
    refine AGo.split 22 rfl (fun hb4 => ?_) (fun hb4 => ?_)
    ·
     refine act ?_
     have hkl : k < b.funcs.length := lt_of_idx hb4
     obtain ⟨x, hx⟩ := get_of_lt hkl
     refine AGo.skip ?_
     refine AGo.seq ?_
     refine AGo.block ?_
     refine AGo.seq ?_
     refine AGo.draw mix ?_
     refine df 25 tok ?_
     refine dl 26 tok ?_
     refine dm 27 ?_
     refine dq 28 (q_index_lst tok rfl rfl rfl rfl rfl rfl (Int.natCast_nonneg _) (idx_map (by assumption)) rfl) ?_
     refine dl 29 tok ?_
     refine dm 30 ?_
     refine df 31 tok ?_
     refine dl 32 tok ?_
     refine dx 33 (o_pure rfl Try.func32 (by kernel_rfl) rfl rfl rfl (one_ok x _ _ h0.1 h0.2.1)) ?_
     refine dq 34 (q_not rfl rfl) ?_
     refine DOps.nil (by kernel_rfl) ?_
     refine AGo.split 34 rfl (fun hb5 => ?_) (fun hb5 => ?_)
     ·
      refine act ?_
      have hone := hb5
      refine asr ?_
      refine aa 2 ?_
      refine an ?_
      refine AGo.ret ?_
      refine ⟨[_], ⟨rfl, trivial⟩, ?_, rfl⟩
      show AV.bool _ = AV.bool _
      congr 1
      rw [right_all h0.1 h0.2.1 h0.2.2, all_bad (zipIdx_get hx) (by simpa using hone)]
     ·
      refine acf ?_
      have hone := hb5
      refine AGo.skip ?_
      refine AGo.region ?_
      refine am 23 ?_
      refine aq 24 (q_inc rfl rfl hkl hfit.1) ?_
      refine aa 3 ?_
      refine an ?_
      exact ⟨k+1, Drop.mk' z21q z16q, all_succ (zipIdx_get hx) hk (by simpa using hone), by omega⟩
    ·
     refine acf ?_
     have hall := all_end hk (by rw [List.length_zipIdx]; exact ge_of_idx hb4)
     refine AGo.exit ?_
     refine asr ?_
     refine aa 2 ?_
     refine an ?_
     refine AGo.ret ?_
     refine ⟨[_], ⟨rfl, trivial⟩, ?_, rfl⟩
     show AV.bool _ = AV.bool _
     congr 1
     rw [right_all h0.1 h0.2.1 h0.2.2, hall]
set_option maxRecDepth 100000 in
theorem step_ok (b : Blocks) (s : ByteArray) (fuel : Int) (m : Mach) (hfu : fuel ≤ 9223372036854775807) : ACall Try.prog 54 [.ptr 0 1 0 0] (mheap hNew b s fuel m) (fun r h' => r = .bool (mstep fuel m).1 ∧ HSub (mheap hNone b s fuel (mstep fuel m).2) h') := by
 refine ACall.of_body (n := 22) tok Try.func54 rfl rfl ?_
 refine asr ?_
 refine aa 2 ?_
 refine an ?_
 refine AGo.seq ?_
 refine AGo.seq ?_
 refine AGo.draw mix ?_
 refine dm 3 ?_
 refine dq 4 (q_nilCheck rfl rfl rfl) ?_
 refine df 5 tok ?_
 refine dl 6 tok ?_
 refine dm 7 ?_
 refine dq 8 (q_nilCheck rfl rfl rfl) ?_
 refine df 9 tok ?_
 refine dl 10 tok ?_
 refine dq 11 (q_bin rfl rfl rfl rfl) ?_
 refine DOps.nil (by kernel_rfl) ?_
 refine AGo.split 11 rfl (fun hb1 => ?_) (fun hb1 => ?_)
 ·
  refine act ?_
  refine asr ?_
  refine am 12 ?_
  refine aq 13 (q_nilCheck rfl rfl rfl) ?_
  refine af 14 tok ?_
  refine AOps.w rfl rfl (o_store tok rfl rfl rfl rfl rfl rfl rfl rfl rfl (by decide) rfl z37q) ?_
  refine an ?_
  refine asr ?_
  refine aa 2 ?_
  refine an ?_
  refine AGo.ret ?_
  rw [mstep_no hb1]
  exact ⟨[_], ⟨rfl, trivial⟩, rfl, HSub.put (HSub.put (HSub.put (HSub.none _) rfl) rfl) rfl⟩
 ·
  refine acf ?_
  refine AGo.skip ?_
  refine asr ?_
  refine am 15 ?_
  refine aq 16 (q_nilCheck rfl rfl rfl) ?_
  refine af 17 tok ?_
  refine al 18 tok ?_
  refine aq 19 (q_inc rfl rfl (show m.steps < fuel.toNat by have h := hb1; simp at h; omega) (by simp only [maxLen]; omega)) ?_
  refine aq 20 (q_nilCheck rfl rfl rfl) ?_
  refine af 21 tok ?_
  refine AOps.w rfl rfl (o_store tok rfl rfl rfl rfl rfl rfl rfl rfl rfl (by decide) rfl z37q) ?_
  refine an ?_
  refine asr ?_
  refine aa 2 ?_
  refine an ?_
  refine AGo.ret ?_
  rw [mstep_yes hb1]
  exact ⟨[_], ⟨rfl, trivial⟩, rfl, HSub.put (HSub.put (HSub.put (HSub.none _) rfl) rfl) rfl⟩
set_option maxRecDepth 100000 in
theorem one_okR (b : Blocks) (s : ByteArray) (fuel : Int) (call : Int → Mach → Mach) (t : Tac) (regs : List Int) (m : Mach) (n R : Nat) (ht : TacIn t n R b.words.toNat) (hr : allR regs) (hlen : regs.length = R) (hm : m.good b.words.toNat) (h0 : m.fin = 0) (hbw : b.words ≤ 1048576) (hs : s.size ≤ 9223372036854775807) (hwn : isW t.n)
    (hcall : ∀ (i : Int), 0 ≤ i → i < n → ACall Try.prog 34 [.ptr 0 1 0 0, .int .i64 i] (mheap hNew b s fuel m) (fun r h' => r = .tup [] ∧ HSub (mheap hNone b s fuel (call i m)) h')) : ACall Try.prog 55 [.ptr 0 1 0 0, .agg t.cells, .ref 4 R 0 R] (hput (mheap hNew b s fuel m) 4 (.row true 1 (regCells regs))) (fun r h' => r = .tup [] ∧ HSub (hput (mheap hNone b s fuel (mone call s t regs m).2) 4 (.row true 1 (regCells (mone call s t regs m).1))) h') := by
 refine ACall.of_body (n := 211) tok Try.func55 rfl rfl ?_
 refine asr ?_
 refine ax 4 (o_box (sz := 8) 5 rfl rfl rfl rfl (Nat.zero_lt_succ _) rfl) ?_
 refine an ?_
 refine asr ?_
 refine af 8 tok ?_
 refine al 9 tok ?_
 refine an ?_
 refine AGo.block ?_
 refine asr ?_
 refine aqb ?_
 refine aa 10 ?_
 refine an ?_
 refine AGo.split 10 rfl (fun hb1 => ?_) (fun hb1 => ?_)
 ·
  refine act ?_
  have ho : t.op = 1 := by simpa using hb1
  have hd := ht.d (by simp [setsOp, ho])
  refine AGo.region ?_
  refine am 12 ?_
  refine af 13 tok ?_
  refine al 14 tok ?_
  refine af 15 tok ?_
  refine al 16 tok ?_
  refine aq 17 (q_index_ref tok rfl rfl rfl rfl rfl rfl rfl (by rw [regCells_len, hlen]) rfl hd.1 (by have := hd.2; omega)) ?_
  refine AOps.w rfl rfl (o_store tok rfl rfl rfl rfl rfl rfl (by rw [regCells_len, hlen]) (rcell (by have := hd; omega)) rfl (by decide) rfl z37q) ?_
  refine an ?_
  refine ⟨[], trivial, rfl, ?_⟩
  rw [mone1 ho]
  exact HSub.put (HSub.put (HSub.put (HSub.put (HSub.none _) rfl) rfl) rfl) z19q
 ·
  refine acf ?_
  refine asr ?_
  refine aqb ?_
  refine aa 18 ?_
  refine an ?_
  refine AGo.split 18 rfl (fun hb2 => ?_) (fun hb2 => ?_)
  ·
   refine act ?_
   have ho : t.op = 2 := by simpa using hb2
   have hd := ht.d (by simp [setsOp, ho])
   have ha := ht.a (by simp [use1, use2, ho])
   refine AGo.draw mix ?_
   refine dm 20 ?_
   refine df 21 tok ?_
   refine dl 22 tok ?_
   refine dm 23 ?_
   refine df 24 tok ?_
   refine dl 25 tok ?_
   refine dq 26 (q_index_ref tok rfl rfl rfl rfl rfl rfl rfl (by rw [regCells_len, hlen]) rfl ha.1 (by have := ha.2; omega)) ?_
   refine dq 27 (q_load tok rfl rfl rfl (.ptr _ _ _ _ _ _ _ _ rfl (by rw [regCells_len, hlen]) (rcell (by have := ha; omega))) rfl) ?_
   refine dq 28 (q_index_ref tok rfl rfl rfl rfl rfl rfl rfl (by rw [regCells_len, hlen]) rfl hd.1 (by have := hd.2; omega)) ?_
   refine DOps.w rfl rfl (o_store tok rfl rfl rfl rfl rfl rfl (by rw [regCells_len, hlen]) (rcell (by have := hd; omega)) rfl (by decide) rfl z37q) ?_
   refine DOps.nil (by kernel_rfl) ?_
   refine ⟨[], trivial, rfl, ?_⟩
   rw [mone2 ho]
   exact HSub.put (HSub.put (HSub.put (HSub.put (HSub.none _) rfl) rfl) rfl) z19q
  ·
   refine acf ?_
   refine asr ?_
   refine aqb ?_
   refine aa 29 ?_
   refine an ?_
   refine AGo.split 29 rfl (fun hb3 => ?_) (fun hb3 => ?_)
   ·
    refine act ?_
    have ho : t.op = 3 := by simpa using hb3
    have hd := ht.d (by simp [setsOp, ho])
    have ha := ht.a (by simp [use1, use2, ho])
    have hb := ht.b (by simp [use2, ho])
    refine AGo.seq ?_
    refine AGo.draw mix ?_
    refine df 32 tok ?_
    refine dl 33 tok ?_
    refine dm 34 ?_
    refine df 35 tok ?_
    refine dl 36 tok ?_
    refine dq 37 (q_index_ref tok rfl rfl rfl rfl rfl rfl rfl (by rw [regCells_len, hlen]) rfl ha.1 (by have := ha.2; omega)) ?_
    refine dq 38 (q_load tok rfl rfl rfl (.ptr _ _ _ _ _ _ _ _ rfl (by rw [regCells_len, hlen]) (rcell (by have := ha; omega))) rfl) ?_
    refine dm 39 ?_
    refine df 40 tok ?_
    refine dl 41 tok ?_
    refine dq 42 (q_index_ref tok rfl rfl rfl rfl rfl rfl rfl (by rw [regCells_len, hlen]) rfl hb.1 (by have := hb.2; omega)) ?_
    refine dq 43 (q_load tok rfl rfl rfl (.ptr _ _ _ _ _ _ _ _ rfl (by rw [regCells_len, hlen]) (rcell (by have := hb; omega))) rfl) ?_
    refine dx 44 (o_pure rfl Try.func74 (by kernel_rfl) rfl rfl rfl (rapply_ok t.k (rget regs t.a) (rget regs t.b) (rget_w hr _) (rget_w hr _))) ?_
    refine dm 31 ?_
    refine dq 45 (q_extract rfl rfl rfl) ?_
    refine dq 46 (q_extract rfl rfl rfl) ?_
    refine da 6 ?_
    refine da 7 ?_
    refine DOps.nil (by kernel_rfl) ?_
    refine AGo.seq ?_
    refine asr ?_
    refine am 47 ?_
    refine aqb ?_
    refine an ?_
    refine AGo.split 48 rfl (fun hb4 => ?_) (fun hb4 => ?_)
    ·
     refine act ?_
     refine asr ?_
     refine am 49 ?_
     refine aq 50 (q_nilCheck rfl rfl rfl) ?_
     refine af 51 tok ?_
     refine AOps.w rfl rfl (o_store tok rfl rfl rfl rfl rfl rfl rfl rfl rfl (by decide) rfl z37q) ?_
     refine an ?_
     refine AGo.ret ?_
     refine ⟨[], trivial, rfl, ?_⟩
     rw [mone3z ho hb4]
     exact HSub.put (HSub.put (HSub.put (HSub.put (HSub.none _) rfl) rfl) rfl) rfl
    ·
     refine acf ?_
     refine AGo.skip ?_
     refine AGo.region ?_
     refine am 52 ?_
     refine af 53 tok ?_
     refine al 54 tok ?_
     refine am 55 ?_
     refine aq 56 (q_index_ref tok rfl rfl rfl rfl rfl rfl rfl (by rw [regCells_len, hlen]) rfl hd.1 (by have := hd.2; omega)) ?_
     refine AOps.w rfl rfl (o_store tok rfl rfl rfl rfl rfl rfl (by rw [regCells_len, hlen]) (rcell (by have := hd; omega)) rfl (by decide) rfl z37q) ?_
     refine an ?_
     refine ⟨[], trivial, rfl, ?_⟩
     rw [mone3 ho hb4]
     exact HSub.put (HSub.put (HSub.put (HSub.put (HSub.none _) rfl) rfl) rfl) z19q
   ·
    refine acf ?_
    refine asr ?_
    refine aqb ?_
    refine aa 57 ?_
    refine an ?_
    refine AGo.split 57 rfl (fun hb5 => ?_) (fun hb5 => ?_)
    ·
     refine act ?_
     have ho : t.op = 4 := by simpa using hb5
     have hd := ht.d (by simp [setsOp, ho])
     have hbs := ht.base (by simp [ho])
     refine AGo.draw mix ?_
     refine dm 59 ?_
     refine df 60 tok ?_
     refine dl 61 tok ?_
     refine dm 62 ?_
     refine dq 63 (q_nilCheck rfl rfl rfl) ?_
     refine df 64 tok ?_
     refine dl 65 tok ?_
     refine df 66 tok ?_
     refine dl 67 tok ?_
     refine dq 68 (q_index_ref tok rfl rfl rfl rfl rfl rfl rfl (by rw [regCells_len, hm.len]) rfl hbs.1 (by have := hbs.2; omega)) ?_
     refine dq 69 (q_load tok rfl rfl rfl (.ptr _ _ _ _ _ _ _ _ rfl (by rw [regCells_len, hm.len]) (rcell (by have := hbs; have := hm.len; omega))) rfl) ?_
     refine dq 70 (q_index_ref tok rfl rfl rfl rfl rfl rfl rfl (by rw [regCells_len, hlen]) rfl hd.1 (by have := hd.2; omega)) ?_
     refine DOps.w rfl rfl (o_store tok rfl rfl rfl rfl rfl rfl (by rw [regCells_len, hlen]) (rcell (by have := hd; omega)) rfl (by decide) rfl z37q) ?_
     refine DOps.nil (by kernel_rfl) ?_
     refine ⟨[], trivial, rfl, ?_⟩
     rw [mone4 ho]
     exact HSub.put (HSub.put (HSub.put (HSub.put (HSub.none _) rfl) rfl) rfl) z19q
    ·
     refine acf ?_
     refine asr ?_
     refine aqb ?_
     refine aa 71 ?_
     refine an ?_
     refine AGo.split 71 rfl (fun hb6 => ?_) (fun hb6 => ?_)
     ·
      refine act ?_
      have ho : t.op = 5 := by simpa using hb6
      have ha := ht.a (by simp [use1, use2, ho])
      have hbs := ht.base (by simp [ho])
      refine AGo.draw mix ?_
      refine dm 73 ?_
      refine dq 74 (q_nilCheck rfl rfl rfl) ?_
      refine df 75 tok ?_
      refine dl 76 tok ?_
      refine df 77 tok ?_
      refine dl 78 tok ?_
      refine dm 79 ?_
      refine df 80 tok ?_
      refine dl 81 tok ?_
      refine dq 82 (q_index_ref tok rfl rfl rfl rfl rfl rfl rfl (by rw [regCells_len, hlen]) rfl ha.1 (by have := ha.2; omega)) ?_
      refine dq 83 (q_load tok rfl rfl rfl (.ptr _ _ _ _ _ _ _ _ rfl (by rw [regCells_len, hlen]) (rcell (by have := ha; omega))) rfl) ?_
      refine dq 84 (q_index_ref tok rfl rfl rfl rfl rfl rfl rfl (by rw [regCells_len, hm.len]) rfl hbs.1 (by have := hbs.2; omega)) ?_
      refine DOps.w rfl rfl (o_store tok rfl rfl rfl rfl rfl rfl (by rw [regCells_len, hm.len]) (rcell (by have := hbs; have := hm.len; omega)) rfl (by decide) rfl z37q) ?_
      refine DOps.nil (by kernel_rfl) ?_
      refine ⟨[], trivial, rfl, ?_⟩
      rw [mone5 ho]
      exact HSub.put (HSub.put (HSub.put (HSub.put (HSub.none _) rfl) z19q) rfl) rfl
     ·
      refine acf ?_
      refine AGo.seq ?_
      refine asr ?_
      refine aqb ?_
      refine aa 85 ?_
      refine an ?_
      refine AGo.split 85 rfl (fun hb7 => ?_) (fun hb7 => ?_)
      ·
       refine act ?_
       refine AGo.skip ?_
       refine act ?_
       refine AGo.seq ?_
       refine AGo.seq ?_
       refine AGo.draw mix ?_
       have ho : t.op = 6 ∨ t.op = 7 := by simp_all
       have har := ht.arr ho
       have ha := ht.a (by rcases ho with ho | ho <;> simp [use1, use2, ho])
       have hwa := rget_w hr t.a
       have hwa1 := hwa.1
       have hwa2 := hwa.2
       refine dm 88 ?_
       refine df 89 tok ?_
       refine dl 90 tok ?_
       refine dq 91 (q_index_ref tok rfl rfl rfl rfl rfl rfl rfl (by rw [regCells_len, hlen]) rfl ha.1 (by have := ha.2; omega)) ?_
       refine dq 92 (q_load tok rfl rfl rfl (.ptr _ _ _ _ _ _ _ _ rfl (by rw [regCells_len, hlen]) (rcell (by have := ha; omega))) rfl) ?_
       refine dq 93 (q_convTo tok rfl rfl rfl rfl rfl (r := rget regs t.a) (by rw [IntKind.wrap_u64]; omega)) ?_
       refine df 94 tok ?_
       refine dl 95 tok ?_
       refine dq 96 (q_convTo tok rfl rfl rfl rfl rfl (r := t.size) (by rw [IntKind.wrap_u64]; omega)) ?_
       refine dq 97 (q_bin rfl rfl rfl rfl) ?_
       refine DOps.nil (by kernel_rfl) ?_
       refine AGo.split 97 rfl (fun hb8 => ?_) (fun hb8 => ?_)
       ·
        refine act ?_
        have hsz := hb8
        refine asr ?_
        refine am 98 ?_
        refine aq 99 (q_nilCheck rfl rfl rfl) ?_
        refine af 100 tok ?_
        refine AOps.w rfl rfl (o_store tok rfl rfl rfl rfl rfl rfl rfl rfl rfl (by decide) rfl z37q) ?_
        refine an ?_
        refine AGo.ret ?_
        refine ⟨[], trivial, rfl, ?_⟩
        rw [mone67z ho hsz]
        exact HSub.put (HSub.put (HSub.put (HSub.put (HSub.none _) rfl) rfl) rfl) rfl
       ·
        refine acf ?_
        have hsz := hb8
        have hsz2 : rget regs t.a < t.size := by simpa using hb8
        have hidx : 0 ≤ t.base + rget regs t.a ∧ t.base + rget regs t.a < b.words.toNat := by omega
        refine AGo.skip ?_
        refine asr ?_
        refine af 101 tok ?_
        refine al 102 tok ?_
        refine aqb ?_
        refine an ?_
        refine AGo.split 103 rfl (fun hb9 => ?_) (fun hb9 => ?_)
        ·
         refine act ?_
         have ho6 : t.op = 6 := by simpa using hb9
         have hd := ht.d (by simp [setsOp, ho6])
         refine AGo.draw mix ?_
         refine dm 104 ?_
         refine df 105 tok ?_
         refine dl 106 tok ?_
         refine dm 107 ?_
         refine dq 108 (q_nilCheck rfl rfl rfl) ?_
         refine df 109 tok ?_
         refine dl 110 tok ?_
         refine df 111 tok ?_
         refine dl 112 tok ?_
         refine dm 113 ?_
         refine df 114 tok ?_
         refine dl 115 tok ?_
         refine dq 116 (q_index_ref tok rfl rfl rfl rfl rfl rfl rfl (by rw [regCells_len, hlen]) rfl ha.1 (by have := ha.2; omega)) ?_
         refine dq 117 (q_load tok rfl rfl rfl (.ptr _ _ _ _ _ _ _ _ rfl (by rw [regCells_len, hlen]) (rcell (by have := ha; omega))) rfl) ?_
         refine dq 118 (q_convTo tok rfl rfl rfl rfl rfl (r := rget regs t.a) (by exact wrap_i64 (by omega) (by omega))) ?_
         refine dq 119 (q_bin (r := .int .i64 (t.base + rget regs t.a)) rfl rfl rfl z28q) ?_
         refine dq 120 (q_index_ref tok rfl rfl rfl rfl rfl rfl rfl (by rw [regCells_len, hm.len]) rfl hidx.1 (by have := hidx.2; omega)) ?_
         refine dq 121 (q_load tok rfl rfl rfl (.ptr _ _ _ _ _ _ _ _ rfl (by rw [regCells_len, hm.len]) (rcell (by have := hidx; have := hm.len; omega))) rfl) ?_
         refine dq 122 (q_index_ref tok rfl rfl rfl rfl rfl rfl rfl (by rw [regCells_len, hlen]) rfl hd.1 (by have := hd.2; omega)) ?_
         refine DOps.w rfl rfl (o_store tok rfl rfl rfl rfl rfl rfl (by rw [regCells_len, hlen]) (rcell (by have := hd; omega)) rfl (by decide) rfl z37q) ?_
         refine DOps.nil (by kernel_rfl) ?_
         refine ⟨[], trivial, rfl, ?_⟩
         rw [mone6 ho6 hsz]
         exact HSub.put (HSub.put (HSub.put (HSub.put (HSub.none _) rfl) rfl) rfl) z19q
        ·
         refine acf ?_
         have ho7 : t.op = 7 := by have h := hb9; simp at h; omega
         have hb := ht.b (by simp [use2, ho7])
         refine AGo.draw mix ?_
         refine dm 123 ?_
         refine dq 124 (q_nilCheck rfl rfl rfl) ?_
         refine df 125 tok ?_
         refine dl 126 tok ?_
         refine df 127 tok ?_
         refine dl 128 tok ?_
         refine dm 129 ?_
         refine df 130 tok ?_
         refine dl 131 tok ?_
         refine dq 132 (q_index_ref tok rfl rfl rfl rfl rfl rfl rfl (by rw [regCells_len, hlen]) rfl ha.1 (by have := ha.2; omega)) ?_
         refine dq 133 (q_load tok rfl rfl rfl (.ptr _ _ _ _ _ _ _ _ rfl (by rw [regCells_len, hlen]) (rcell (by have := ha; omega))) rfl) ?_
         refine dq 134 (q_convTo tok rfl rfl rfl rfl rfl (r := rget regs t.a) (by exact wrap_i64 (by omega) (by omega))) ?_
         refine dq 135 (q_bin (r := .int .i64 (t.base + rget regs t.a)) rfl rfl rfl z28q) ?_
         refine dm 136 ?_
         refine df 137 tok ?_
         refine dl 138 tok ?_
         refine dq 139 (q_index_ref tok rfl rfl rfl rfl rfl rfl rfl (by rw [regCells_len, hlen]) rfl hb.1 (by have := hb.2; omega)) ?_
         refine dq 140 (q_load tok rfl rfl rfl (.ptr _ _ _ _ _ _ _ _ rfl (by rw [regCells_len, hlen]) (rcell (by have := hb; omega))) rfl) ?_
         refine dq 141 (q_index_ref tok rfl rfl rfl rfl rfl rfl rfl (by rw [regCells_len, hm.len]) rfl hidx.1 (by have := hidx.2; omega)) ?_
         refine DOps.w rfl rfl (o_store tok rfl rfl rfl rfl rfl rfl (by rw [regCells_len, hm.len]) (rcell (by have := hidx; have := hm.len; omega)) rfl (by decide) rfl z37q) ?_
         refine DOps.nil (by kernel_rfl) ?_
         refine ⟨[], trivial, rfl, ?_⟩
         rw [mone7 ho7 hsz]
         exact HSub.put (HSub.put (HSub.put (HSub.put (HSub.none _) rfl) z19q) rfl) rfl
      ·
       refine acf ?_
       refine AGo.region ?_
       refine aqb ?_
       refine aa 85 ?_
       refine an ?_
       refine AGo.split 85 rfl (fun hb10 => ?_) (fun hb10 => ?_)
       ·
        refine act ?_
        refine AGo.seq ?_
        refine AGo.seq ?_
        refine AGo.draw mix ?_
        have ho : t.op = 6 ∨ t.op = 7 := by simp_all
        have har := ht.arr ho
        have ha := ht.a (by rcases ho with ho | ho <;> simp [use1, use2, ho])
        have hwa := rget_w hr t.a
        have hwa1 := hwa.1
        have hwa2 := hwa.2
        refine dm 88 ?_
        refine df 89 tok ?_
        refine dl 90 tok ?_
        refine dq 91 (q_index_ref tok rfl rfl rfl rfl rfl rfl rfl (by rw [regCells_len, hlen]) rfl ha.1 (by have := ha.2; omega)) ?_
        refine dq 92 (q_load tok rfl rfl rfl (.ptr _ _ _ _ _ _ _ _ rfl (by rw [regCells_len, hlen]) (rcell (by have := ha; omega))) rfl) ?_
        refine dq 93 (q_convTo tok rfl rfl rfl rfl rfl (r := rget regs t.a) (by rw [IntKind.wrap_u64]; omega)) ?_
        refine df 94 tok ?_
        refine dl 95 tok ?_
        refine dq 96 (q_convTo tok rfl rfl rfl rfl rfl (r := t.size) (by rw [IntKind.wrap_u64]; omega)) ?_
        refine dq 97 (q_bin rfl rfl rfl rfl) ?_
        refine DOps.nil (by kernel_rfl) ?_
        refine AGo.split 97 rfl (fun hb11 => ?_) (fun hb11 => ?_)
        ·
         refine act ?_
         have hsz := hb11
         refine asr ?_
         refine am 98 ?_
         refine aq 99 (q_nilCheck rfl rfl rfl) ?_
         refine af 100 tok ?_
         refine AOps.w rfl rfl (o_store tok rfl rfl rfl rfl rfl rfl rfl rfl rfl (by decide) rfl z37q) ?_
         refine an ?_
         refine AGo.ret ?_
         refine ⟨[], trivial, rfl, ?_⟩
         rw [mone67z ho hsz]
         exact HSub.put (HSub.put (HSub.put (HSub.put (HSub.none _) rfl) rfl) rfl) rfl
        ·
         refine acf ?_
         have hsz := hb11
         have hsz2 : rget regs t.a < t.size := by simpa using hb11
         have hidx : 0 ≤ t.base + rget regs t.a ∧ t.base + rget regs t.a < b.words.toNat := by omega
         refine AGo.skip ?_
         refine asr ?_
         refine af 101 tok ?_
         refine al 102 tok ?_
         refine aqb ?_
         refine an ?_
         refine AGo.split 103 rfl (fun hb12 => ?_) (fun hb12 => ?_)
         ·
          refine act ?_
          have ho6 : t.op = 6 := by simpa using hb12
          have hd := ht.d (by simp [setsOp, ho6])
          refine AGo.draw mix ?_
          refine dm 104 ?_
          refine df 105 tok ?_
          refine dl 106 tok ?_
          refine dm 107 ?_
          refine dq 108 (q_nilCheck rfl rfl rfl) ?_
          refine df 109 tok ?_
          refine dl 110 tok ?_
          refine df 111 tok ?_
          refine dl 112 tok ?_
          refine dm 113 ?_
          refine df 114 tok ?_
          refine dl 115 tok ?_
          refine dq 116 (q_index_ref tok rfl rfl rfl rfl rfl rfl rfl (by rw [regCells_len, hlen]) rfl ha.1 (by have := ha.2; omega)) ?_
          refine dq 117 (q_load tok rfl rfl rfl (.ptr _ _ _ _ _ _ _ _ rfl (by rw [regCells_len, hlen]) (rcell (by have := ha; omega))) rfl) ?_
          refine dq 118 (q_convTo tok rfl rfl rfl rfl rfl (r := rget regs t.a) (by exact wrap_i64 (by omega) (by omega))) ?_
          refine dq 119 (q_bin (r := .int .i64 (t.base + rget regs t.a)) rfl rfl rfl z28q) ?_
          refine dq 120 (q_index_ref tok rfl rfl rfl rfl rfl rfl rfl (by rw [regCells_len, hm.len]) rfl hidx.1 (by have := hidx.2; omega)) ?_
          refine dq 121 (q_load tok rfl rfl rfl (.ptr _ _ _ _ _ _ _ _ rfl (by rw [regCells_len, hm.len]) (rcell (by have := hidx; have := hm.len; omega))) rfl) ?_
          refine dq 122 (q_index_ref tok rfl rfl rfl rfl rfl rfl rfl (by rw [regCells_len, hlen]) rfl hd.1 (by have := hd.2; omega)) ?_
          refine DOps.w rfl rfl (o_store tok rfl rfl rfl rfl rfl rfl (by rw [regCells_len, hlen]) (rcell (by have := hd; omega)) rfl (by decide) rfl z37q) ?_
          refine DOps.nil (by kernel_rfl) ?_
          refine ⟨[], trivial, rfl, ?_⟩
          rw [mone6 ho6 hsz]
          exact HSub.put (HSub.put (HSub.put (HSub.put (HSub.none _) rfl) rfl) rfl) z19q
         ·
          refine acf ?_
          have ho7 : t.op = 7 := by have h := hb12; simp at h; omega
          have hb := ht.b (by simp [use2, ho7])
          refine AGo.draw mix ?_
          refine dm 123 ?_
          refine dq 124 (q_nilCheck rfl rfl rfl) ?_
          refine df 125 tok ?_
          refine dl 126 tok ?_
          refine df 127 tok ?_
          refine dl 128 tok ?_
          refine dm 129 ?_
          refine df 130 tok ?_
          refine dl 131 tok ?_
          refine dq 132 (q_index_ref tok rfl rfl rfl rfl rfl rfl rfl (by rw [regCells_len, hlen]) rfl ha.1 (by have := ha.2; omega)) ?_
          refine dq 133 (q_load tok rfl rfl rfl (.ptr _ _ _ _ _ _ _ _ rfl (by rw [regCells_len, hlen]) (rcell (by have := ha; omega))) rfl) ?_
          refine dq 134 (q_convTo tok rfl rfl rfl rfl rfl (r := rget regs t.a) (by exact wrap_i64 (by omega) (by omega))) ?_
          refine dq 135 (q_bin (r := .int .i64 (t.base + rget regs t.a)) rfl rfl rfl z28q) ?_
          refine dm 136 ?_
          refine df 137 tok ?_
          refine dl 138 tok ?_
          refine dq 139 (q_index_ref tok rfl rfl rfl rfl rfl rfl rfl (by rw [regCells_len, hlen]) rfl hb.1 (by have := hb.2; omega)) ?_
          refine dq 140 (q_load tok rfl rfl rfl (.ptr _ _ _ _ _ _ _ _ rfl (by rw [regCells_len, hlen]) (rcell (by have := hb; omega))) rfl) ?_
          refine dq 141 (q_index_ref tok rfl rfl rfl rfl rfl rfl rfl (by rw [regCells_len, hm.len]) rfl hidx.1 (by have := hidx.2; omega)) ?_
          refine DOps.w rfl rfl (o_store tok rfl rfl rfl rfl rfl rfl (by rw [regCells_len, hm.len]) (rcell (by have := hidx; have := hm.len; omega)) rfl (by decide) rfl z37q) ?_
          refine DOps.nil (by kernel_rfl) ?_
          refine ⟨[], trivial, rfl, ?_⟩
          rw [mone7 ho7 hsz]
          exact HSub.put (HSub.put (HSub.put (HSub.put (HSub.none _) rfl) z19q) rfl) rfl
       ·
        refine acf ?_
        refine asr ?_
        refine aqb ?_
        refine aa 142 ?_
        refine an ?_
        refine AGo.split 142 rfl (fun hb13 => ?_) (fun hb13 => ?_)
        ·
         refine act ?_
         have ho : t.op = 8 := by simpa using hb13
         have hd := ht.d (by simp [setsOp, ho])
         refine asr ?_
         refine am 144 ?_
         refine af 145 tok ?_
         refine al 146 tok ?_
         refine aq 147 (q_index_ref tok rfl rfl rfl rfl rfl rfl rfl (by rw [regCells_len, hlen]) rfl hd.1 (by have := hd.2; omega)) ?_
         refine AOps.w rfl rfl (o_store tok rfl rfl rfl rfl rfl rfl (by rw [regCells_len, hlen]) (rcell (by have := hd; omega)) rfl (by decide) rfl z37q) ?_
         refine an ?_
         refine AGo.seq ?_
         refine AGo.draw mix ?_
         refine dm 148 ?_
         refine dq 149 (q_nilCheck rfl rfl rfl) ?_
         refine df 150 tok ?_
         refine dl 151 tok ?_
         refine dm 152 ?_
         refine dq 153 (q_nilCheck rfl rfl rfl) ?_
         refine df 154 tok ?_
         refine dl 155 tok ?_
         refine dq 156 (q_len tok rfl rfl rfl rfl rfl) ?_
         refine dq 157 (q_bin rfl rfl rfl rfl) ?_
         refine DOps.nil (by kernel_rfl) ?_
         refine AGo.split 157 rfl (fun hb14 => ?_) (fun hb14 => ?_)
         ·
          refine act ?_
          have hrd : m.read < s.size := by have h := hb14; simp at h; omega
          refine AGo.seq ?_
          refine AGo.draw mix ?_
          refine dm 158 ?_
          refine df 159 tok ?_
          refine dl 160 tok ?_
          refine dm 161 ?_
          refine dq 162 (q_nilCheck rfl rfl rfl) ?_
          refine df 163 tok ?_
          refine dl 164 tok ?_
          refine dm 165 ?_
          refine dq 166 (q_nilCheck rfl rfl rfl) ?_
          refine df 167 tok ?_
          refine dl 168 tok ?_
          refine dq 169 (q_index_str (c := inAt s m.read) tok rfl rfl rfl rfl rfl (Int.natCast_nonneg _) (inAt_get hrd)) ?_
          refine dq 170 (q_convTo tok rfl rfl rfl rfl rfl (r := ((inAt s m.read).toNat : Int)) (by rw [IntKind.wrap_u32]; have := (byte_w (inAt s m.read)).2; omega)) ?_
          refine dq 171 (q_index_ref tok rfl rfl rfl rfl rfl rfl rfl (by rw [List.length_set, regCells_len, hlen]) rfl hd.1 (by have := hd.2; omega)) ?_
          refine DOps.w rfl rfl (o_store tok rfl rfl rfl rfl rfl rfl (by rw [List.length_set, regCells_len, hlen]) (get_set_self (rcell (by have := hd; omega))) rfl (by decide) rfl z37q) ?_
          refine DOps.nil (by kernel_rfl) ?_
          refine AGo.region ?_
          refine am 172 ?_
          refine aq 173 (q_nilCheck rfl rfl rfl) ?_
          refine af 174 tok ?_
          refine al 175 tok ?_
          refine aq 176 (q_inc rfl rfl hrd (by simp only [maxLen]; omega)) ?_
          refine aq 177 (q_nilCheck rfl rfl rfl) ?_
          refine af 178 tok ?_
          refine AOps.w rfl rfl (o_store tok rfl rfl rfl rfl rfl rfl rfl rfl rfl (by decide) rfl z37q) ?_
          refine an ?_
          refine ⟨[], trivial, rfl, ?_⟩
          rw [mone8 ho hrd]
          exact HSub.put (HSub.put (HSub.put (HSub.put (HSub.none _) rfl) rfl) rfl) z19q
         ·
          refine acf ?_
          have hrd : ¬ m.read < s.size := by have h := hb14; simp at h; omega
          refine AGo.skip ?_
          refine ⟨[], trivial, rfl, ?_⟩
          rw [mone8z ho hrd]
          exact HSub.put (HSub.put (HSub.put (HSub.put (HSub.none _) rfl) rfl) rfl) z19q
        ·
         refine acf ?_
         refine asr ?_
         refine aqb ?_
         refine aa 179 ?_
         refine an ?_
         refine AGo.split 179 rfl (fun hb15 => ?_) (fun hb15 => ?_)
         ·
          refine act ?_
          have ho : t.op = 9 := by simpa using hb15
          have ha := ht.a (by simp [use1, use2, ho])
          have hwa := rget_w hr t.a
          have hwa1 := hwa.1
          have hwa2 := hwa.2
          refine AGo.seq ?_
          refine asr ?_
          refine am 181 ?_
          refine aq 182 (q_nilCheck rfl rfl rfl) ?_
          refine af 183 tok ?_
          refine al 184 tok ?_
          refine aq 185 (q_len tok rfl rfl rfl rfl rfl) ?_
          refine aqb ?_
          refine an ?_
          refine AGo.split 186 rfl (fun hb16 => ?_) (fun hb16 => ?_)
          ·
           refine act ?_
           have hou : m.out.length ≥ 65536 := by have h := hb16; simp [byteCells] at h; omega
           refine asr ?_
           refine am 187 ?_
           refine aq 188 (q_nilCheck rfl rfl rfl) ?_
           refine af 189 tok ?_
           refine AOps.w rfl rfl (o_store tok rfl rfl rfl rfl rfl rfl rfl rfl rfl (by decide) rfl z37q) ?_
           refine an ?_
           refine AGo.ret ?_
           refine ⟨[], trivial, rfl, ?_⟩
           rw [mone9z ho hou]
           exact HSub.put (HSub.put (HSub.put (HSub.put (HSub.none _) rfl) rfl) rfl) rfl
          ·
           refine acf ?_
           have hou : ¬ m.out.length ≥ 65536 := by have h := hb16; simp [byteCells] at h; omega
           refine AGo.skip ?_
           refine AGo.draw mix ?_
           refine dm 190 ?_
           refine dm 191 ?_
           refine dq 192 (q_nilCheck rfl rfl rfl) ?_
           refine df 193 tok ?_
           refine dl 194 tok ?_
           refine dm 195 ?_
           refine df 196 tok ?_
           refine dl 197 tok ?_
           refine dq 198 (q_index_ref tok rfl rfl rfl rfl rfl rfl rfl (by rw [regCells_len, hlen]) rfl ha.1 (by have := ha.2; omega)) ?_
           refine dq 199 (q_load tok rfl rfl rfl (.ptr _ _ _ _ _ _ _ _ rfl (by rw [regCells_len, hlen]) (rcell (by have := ha; omega))) rfl) ?_
           refine dq 200 (q_convTo tok rfl rfl rfl rfl rfl (wrap_byte hwa)) ?_
           refine dx 201 (o_lit' tok rfl rfl rfl rfl rfl rfl (by decide) rfl rfl rfl rfl rfl rfl) ?_
           refine dx 202 (o_append tok (n := m.out.length) (m := 1) rfl rfl rfl rfl rfl rfl rfl rfl rfl (by simp [byteCells]) rfl rfl (Nat.zero_lt_succ _) (.lst _ _) (by intro cs h; simp [partVals] at h; subst h; rfl) (fun _ cs h => by simp [partVals] at h; subst h; rfl) rfl (by simp [byteCells, partVals]; have := hm.out; omega) (by simp [byteCells, partVals]; simp only [maxLen]; have := hm.out; omega)) ?_
           refine dq 203 (q_nilCheck rfl rfl rfl) ?_
           refine df 204 tok ?_
           refine DOps.w rfl rfl (o_store tok rfl rfl rfl rfl rfl rfl rfl rfl rfl (by decide) rfl z37q) ?_
           refine DOps.nil (by kernel_rfl) ?_
           refine ⟨[], trivial, rfl, ?_⟩
           rw [mone9 ho hou]
           exact HSub.put (HSub.put (HSub.put (HSub.put (HSub.none _) (by first | rfl | exact congrArg (fun n => some (AObj.row false 9 [[.int .i64 b.words, funcsAV b.funcs, .str s, .int .i64 fuel, .ref 1 b.words.toNat 0 b.words.toNat, .ref 2 n 0 n, .int .i64 (m.read : Int), .int .i64 (m.steps : Int), .int .i64 m.fin]])) (by simp))) rfl) (by first | rfl | exact congrArg (fun es => some (AObj.row true 1 es)) (by simp [byteCells, partVals]; rfl))) rfl
         ·
          refine acf ?_
          refine asr ?_
          refine aqb ?_
          refine aa 205 ?_
          refine an ?_
          refine AGo.split 205 rfl (fun hb17 => ?_) (fun hb17 => ?_)
          ·
           refine act ?_
           have ho : t.op = 10 := by simpa using hb17
           have hcl := ht.call ho
           refine AGo.region ?_
           refine am 207 ?_
           refine af 208 tok ?_
           refine al 209 tok ?_
           refine ax 210 (o_call (hc := (mheap hNew b s fuel m)) (hw := (mheap hNone b s fuel (call t.base m))) [2, 1, 0] [(0, (.row false 9 [runCells b s fuel (call t.base m)])), (1, (.row true 1 (regCells ((call t.base m)).words))), (2, (.row true 1 (byteCells ((call t.base m)).out)))] rfl Try.func34 (by kernel_rfl) rfl rfl rfl ⟨⟨_, rfl, rfl⟩, ⟨_, rfl, rfl⟩, ⟨_, rfl, rfl⟩, trivial⟩ rfl (hres_cons rfl (hres_cons rfl (hres_cons rfl (hres_nil _)))) ⟨⟨_, rfl, rfl, rfl⟩, ⟨_, rfl, rfl, rfl⟩, ⟨_, rfl, rfl, rfl⟩, trivial⟩ rfl (hcall t.base hcl.1 hcl.2)) ?_
           refine an ?_
           refine ⟨[], trivial, rfl, ?_⟩
           rw [mone10 ho]
           exact HSub.put (HSub.put (HSub.put (HSub.put (HSub.none _) rfl) rfl) rfl) rfl
          ·
           refine acf ?_
           refine AGo.skip ?_
           exact absurd ht.op (by simp_all; omega)
set_option maxRecDepth 100000 in
theorem fun_step (b : Blocks) (s : ByteArray) (fuel : Int) (call : Int → Mach → Mach) (i : Int) (f : BFunc) (m : Mach) (hfu : fuel ≤ 9223372036854775807) (hs : s.size ≤ 9223372036854775807) (hbw : b.words ≤ 1048576) (hf : b.funcs[i.toNat]? = some f) (hi : 0 ≤ i) (hone : f.one i b.words = true)
    (hfw : ∀ x ∈ f.blocks, insW x.ins) (hfl : ∀ x ∈ f.blocks, x.ins.length ≤ maxLen)
    (hcall : ∀ (j : Int) (m : Mach), 0 ≤ j → j < i → m.fin = 0 → m.good b.words.toNat → ACall Try.prog 34 [.ptr 0 1 0 0, .int .i64 j] (mheap hNew b s fuel m) (fun r h' => r = .tup [] ∧ HSub (mheap hNone b s fuel (call j m)) h'))
    (hcg : ∀ i m, m.good b.words.toNat → (call i m).good b.words.toNat) (hcs : ∀ i m, m.steps ≤ (call i m).steps) (hm : m.good b.words.toNat) (h0 : m.fin = 0) : ACall Try.prog 34 [.ptr 0 1 0 0, .int .i64 i] (mheap hNew b s fuel m) (fun r h' => r = .tup [] ∧ HSub (mheap hNone b s fuel (mblk call s fuel f (fuel.toNat + 1) 0 (List.replicate f.regs.toNat 0) m)) h') := by
 have hsp := one_spec hone
 refine ACall.of_body (n := 76) tok Try.func34 rfl rfl ?_
 refine asr ?_
 refine am 9 ?_
 refine aq 10 (q_nilCheck rfl rfl rfl) ?_
 refine af 11 tok ?_
 refine af 12 tok ?_
 refine al 13 tok ?_
 refine am 14 ?_
 refine aq 15 (q_index_lst tok rfl rfl rfl rfl rfl rfl hi (idx_map2 hf) rfl) ?_
 refine al 16 tok ?_
 refine ax 4 (o_alloc tok 3 rfl rfl rfl rfl (Nat.zero_lt_succ _) rfl) ?_
 refine AOps.w rfl rfl (o_store tok rfl rfl rfl rfl rfl rfl rfl rfl rfl (by decide) rfl z37q) ?_
 refine an ?_
 refine asr ?_
 refine af 17 tok ?_
 refine al 18 tok ?_
 refine ax 19 (o_makeSlice tok (n := f.regs.toNat) (m := f.regs.toNat) 4 true rfl rfl rfl (by have := hsp.1; omega) (by have := hsp.1; omega) rfl rfl rfl rfl rfl (Nat.zero_lt_succ _) rfl (Nat.le_refl _) (by show 4 * f.regs.toNat ≤ _; have := hsp.2.1; omega) (by simp only [maxLen]; have := hsp.2.1; omega)) ?_
 refine aa 5 ?_
 refine an ?_
 refine asr ?_
 refine aa 6 ?_
 refine an ?_
 refine AGo.block ?_
 refine AGo.loopD (γ := FG) 5 (fun q => ⟨76, (eput (eput (eput (eput eNew 0 (.ptr 0 1 0 0)) 4 (.ptr 3 1 0 0)) 5 (.ref 4 f.regs.toNat 0 f.regs.toNat)) 6 (.int .i64 q.i)), (hput (hput (hput (hput (hput (hFrom 5) 0 (.row false 9 [runCells b s fuel q.m])) 1 (.row true 1 (regCells (q.m).words))) 2 (.row true 1 (byteCells (q.m).out))) 3 (.row false 2 [f.cells])) 4 (.row true 1 (regCells q.regs)))⟩) (fun q => FInv call s fuel f b.words.toNat f.regs.toNat (mblk call s fuel f (fuel.toNat + 1) 0 (List.replicate f.regs.toNat 0) m) q) (fun q => q.g) ⟨0, List.replicate f.regs.toNat 0, m, fuel.toNat + 1⟩ (Sub.mk' z31q z6q) (FInv.first hm h0 hsp.2.2.1) (fun _ => hput_free (hput_free (hput_free (hput_free (hput_free (fun b hb => hFrom_free hb) rfl) rfl) rfl) rfl) rfl) ?_
 intro q hF
 refine AGo.seq ?_
 refine asr ?_
 refine am 20 ?_
 refine aq 21 (q_nilCheck rfl rfl rfl) ?_
 refine af 22 tok ?_
 refine al 23 tok ?_
 refine aqb ?_
 refine an ?_
 refine AGo.split 24 rfl (fun hb1 => ?_) (fun hb1 => ?_)
 ·
  refine act ?_
  obtain ⟨k, hk⟩ := get_of_lt (l := f.blocks) (k := q.i.toNat) (by have := hF.i; omega)
  have hkm := List.mem_of_getElem? hk
  have hks := hsp.2.2.2 k hkm
  refine AGo.skip ?_
  refine AGo.block ?_
  refine asr ?_
  refine af 25 tok ?_
  refine al 26 tok ?_
  refine am 27 ?_
  refine aq 28 (q_index_lst tok rfl rfl rfl rfl rfl rfl hF.i.1 (idx_map2 hk) rfl) ?_
  refine al 29 tok ?_
  refine ax 7 (o_alloc tok 5 rfl rfl rfl rfl (Nat.zero_lt_succ _) rfl) ?_
  refine AOps.w rfl rfl (o_store tok rfl rfl rfl rfl rfl rfl rfl rfl rfl (by decide) rfl z37q) ?_
  refine an ?_
  refine AGo.seq ?_
  refine asr ?_
  refine aa 8 ?_
  refine an ?_
  refine AGo.block ?_
  refine AGo.loopD (γ := IG) 6 (fun r => ⟨76, (eput (eput (eput (eput (eput (eput eNew 0 (.ptr 0 1 0 0)) 4 (.ptr 3 1 0 0)) 5 (.ref 4 f.regs.toNat 0 f.regs.toNat)) 6 (.int .i64 q.i)) 7 (.ptr 5 1 0 0)) 8 (.int .i64 (r.j : Int))), (hput (hput (hput (hput (hput (hput (hFrom 6) 0 (.row false 9 [runCells b s fuel r.m])) 1 (.row true 1 (regCells (r.m).words))) 2 (.row true 1 (byteCells (r.m).out))) 3 (.row false 2 [f.cells])) 4 (.row true 1 (regCells r.regs))) 5 (.row false 5 [k.cells]))⟩) (fun r => IInv call s fuel k q b.words.toNat f.regs.toNat r) (fun r => k.ins.length - r.j) ⟨0, q.regs, q.m⟩ (Sub.mk' z31q z12q) hF.start (fun _ => hput_free (hput_free (hput_free (hput_free (hput_free (hput_free (fun b hb => hFrom_free hb) rfl) rfl) rfl) rfl) rfl) rfl) ?_
  intro r hI
  refine AGo.seq ?_
  refine asr ?_
  refine am 30 ?_
  refine af 31 tok ?_
  refine al 32 tok ?_
  refine aq 33 (q_len tok rfl rfl rfl rfl rfl) ?_
  refine aqb ?_
  refine an ?_
  refine AGo.split 34 rfl (fun hb2 => ?_) (fun hb2 => ?_)
  ·
   refine act ?_
   have hjl : r.j < k.ins.length := lt_of_idx hb2
   obtain ⟨u, hu⟩ := get_of_lt hjl
   have hum := List.mem_of_getElem? hu
   have hut := tacIn_of (hks.2 u hum)
   have huw := hfw k hkm u hum
   refine AGo.skip ?_
   refine AGo.seq ?_
   refine AGo.block ?_
   refine AGo.seq ?_
   refine asr ?_
   refine am 37 ?_
   refine ax 38 (o_call (hc := (mheap hNew b s fuel r.m)) (hw := (mheap hNone b s fuel (mstep fuel r.m).2)) [2, 1, 0] [(0, (.row false 9 [runCells b s fuel (mstep fuel r.m).2])), (1, (.row true 1 (regCells ((mstep fuel r.m).2).words))), (2, (.row true 1 (byteCells ((mstep fuel r.m).2).out)))] rfl Try.func54 (by kernel_rfl) rfl rfl rfl ⟨⟨_, rfl, rfl⟩, ⟨_, rfl, rfl⟩, ⟨_, rfl, rfl⟩, trivial⟩ rfl (hres_cons rfl (hres_cons rfl (hres_cons rfl (hres_nil _)))) ⟨⟨_, rfl, rfl, rfl⟩, ⟨_, rfl, rfl, rfl⟩, ⟨_, rfl, rfl, rfl⟩, trivial⟩ rfl (step_ok b s fuel r.m hfu)) ?_
   refine aq 39 (q_not rfl rfl) ?_
   refine an ?_
   refine AGo.split 39 rfl (fun hb3 => ?_) (fun hb3 => ?_)
   ·
    refine act ?_
    have hst : (mstep fuel r.m).1 = false := by simpa using hb3
    refine AGo.ret ?_
    refine ⟨[], trivial, rfl, ?_⟩
    rw [show (mblk call s fuel f (fuel.toNat + 1) 0 (List.replicate f.regs.toNat 0) m) = _ from fin_A hF hk hI hu hst]
    exact HSub.put (HSub.put (HSub.put (HSub.none _) rfl) rfl) rfl
   ·
    refine acf ?_
    have hst : (mstep fuel r.m).1 = true := by simpa using hb3
    have hsf : (mstep fuel r.m).2.fin = 0 := by rw [(mstep_true hst).2]; exact hI.fin
    refine AGo.skip ?_
    refine asr ?_
    refine am 40 ?_
    refine af 41 tok ?_
    refine al 42 tok ?_
    refine am 43 ?_
    refine aq 44 (q_index_lst tok rfl rfl rfl rfl rfl rfl (Int.natCast_nonneg _) (idx_map (by assumption)) rfl) ?_
    refine al 45 tok ?_
    refine am 46 ?_
    refine ax 47 (o_call (hc := (hput (mheap hNew b s fuel (mstep fuel r.m).2) 4 (.row true 1 (regCells r.regs)))) (hw := (hput (mheap hNone b s fuel (mone call s u r.regs (mstep fuel r.m).2).2) 4 (.row true 1 (regCells (mone call s u r.regs (mstep fuel r.m).2).1)))) [4, 2, 1, 0] [(0, (.row false 9 [runCells b s fuel (mone call s u r.regs (mstep fuel r.m).2).2])), (1, (.row true 1 (regCells ((mone call s u r.regs (mstep fuel r.m).2).2).words))), (2, (.row true 1 (byteCells ((mone call s u r.regs (mstep fuel r.m).2).2).out))), (4, (.row true 1 (regCells (mone call s u r.regs (mstep fuel r.m).2).1)))] rfl Try.func55 (by kernel_rfl) rfl rfl rfl ⟨⟨_, rfl, rfl⟩, ⟨_, rfl, rfl⟩, ⟨_, rfl, rfl⟩, ⟨_, rfl, rfl⟩, trivial⟩ rfl (hres_cons rfl (hres_cons rfl (hres_cons rfl (hres_cons rfl (hres_nil _))))) ⟨⟨_, rfl, rfl, rfl⟩, ⟨_, rfl, rfl, rfl⟩, ⟨_, rfl, rfl, rfl⟩, ⟨_, rfl, rfl, rfl⟩, trivial⟩ rfl (one_okR b s fuel call u r.regs (mstep fuel r.m).2 i.toNat f.regs.toNat hut hI.regs hI.len (mstep_good hI.good) hsf hbw hs huw (fun j h1 h2 => hcall j _ h1 (by omega) hsf (mstep_good hI.good)))) ?_
    refine an ?_
    refine asr ?_
    refine am 48 ?_
    refine aq 49 (q_nilCheck rfl rfl rfl) ?_
    refine af 50 tok ?_
    refine al 51 tok ?_
    refine aqb ?_
    refine an ?_
    refine AGo.split 52 rfl (fun hb4 => ?_) (fun hb4 => ?_)
    ·
     refine act ?_
     have hnz := hb4
     refine AGo.ret ?_
     refine ⟨[], trivial, rfl, ?_⟩
     rw [show (mblk call s fuel f (fuel.toNat + 1) 0 (List.replicate f.regs.toNat 0) m) = _ from fin_B hF hk hI hu hst hnz]
     exact HSub.put (HSub.put (HSub.put (HSub.none _) rfl) rfl) rfl
    ·
     refine acf ?_
     have hnz := hb4
     refine AGo.skip ?_
     refine AGo.region ?_
     refine am 35 ?_
     refine aq 36 (q_inc rfl rfl hjl (hfl k hkm)) ?_
     refine aa 8 ?_
     refine an ?_
     exact ⟨⟨r.j + 1, (mone call s u r.regs (mstep fuel r.m).2).1, (mone call s u r.regs (mstep fuel r.m).2).2⟩, Drop.mk' z21q z16q, (hI.next hcg hcs hu huw hst hnz), (by show k.ins.length - (r.j + 1) < k.ins.length - r.j; omega)⟩
  ·
   refine acf ?_
   have hge := ge_of_idx hb2
   refine AGo.exit ?_
   refine AGo.seq ?_
   refine asr ?_
   refine am 53 ?_
   refine ax 54 (o_call (hc := (mheap hNew b s fuel r.m)) (hw := (mheap hNone b s fuel (mstep fuel r.m).2)) [2, 1, 0] [(0, (.row false 9 [runCells b s fuel (mstep fuel r.m).2])), (1, (.row true 1 (regCells ((mstep fuel r.m).2).words))), (2, (.row true 1 (byteCells ((mstep fuel r.m).2).out)))] rfl Try.func54 (by kernel_rfl) rfl rfl rfl ⟨⟨_, rfl, rfl⟩, ⟨_, rfl, rfl⟩, ⟨_, rfl, rfl⟩, trivial⟩ rfl (hres_cons rfl (hres_cons rfl (hres_cons rfl (hres_nil _)))) ⟨⟨_, rfl, rfl, rfl⟩, ⟨_, rfl, rfl, rfl⟩, ⟨_, rfl, rfl, rfl⟩, trivial⟩ rfl (step_ok b s fuel r.m hfu)) ?_
   refine aq 55 (q_not rfl rfl) ?_
   refine am 56 ?_
   refine AOps.split 56 rfl (fun hb5 => ?_) (fun hb5 => ?_)
   ·
    iterate 3 refine ak _ ?_
    refine apt ?_
    refine an ?_
    refine act ?_
    refine AGo.ret ?_
    refine ⟨[], trivial, rfl, ?_⟩
    rw [show (mblk call s fuel f (fuel.toNat + 1) 0 (List.replicate f.regs.toNat 0) m) = _ from fin_C hF hk hI hge (by first | exact .inl (by simpa using ‹(!(mstep fuel r.m).1) = true›) | exact .inr ‹_›)]
    exact HSub.put (HSub.put (HSub.put (HSub.none _) rfl) rfl) rfl
   ·
    have hst : (mstep fuel r.m).1 = true := by simpa using hb5
    refine af 57 tok ?_
    refine al 58 tok ?_
    refine aqb ?_
    refine apf ?_
    refine an ?_
    refine AGo.split 60 rfl (fun hb6 => ?_) (fun hb6 => ?_)
    ·
     refine act ?_
     refine AGo.ret ?_
     refine ⟨[], trivial, rfl, ?_⟩
     rw [show (mblk call s fuel f (fuel.toNat + 1) 0 (List.replicate f.regs.toNat 0) m) = _ from fin_C hF hk hI hge (by first | exact .inl (by simpa using ‹(!(mstep fuel r.m).1) = true›) | exact .inr ‹_›)]
     exact HSub.put (HSub.put (HSub.put (HSub.none _) rfl) rfl) rfl
    ·
     refine acf ?_
     refine AGo.skip ?_
     refine asr ?_
     refine af 61 tok ?_
     refine al 62 tok ?_
     refine aa 6 ?_
     refine an ?_
     refine asr ?_
     refine af 63 tok ?_
     refine al 64 tok ?_
     refine aqb ?_
     refine am 66 ?_
     refine AOps.split 66 rfl (fun hb7 => ?_) (fun hb7 => ?_)
     ·
      have hv := ends_v hks.1 hb7
      refine am 67 ?_
      refine af 68 tok ?_
      refine al 69 tok ?_
      refine aq 70 (q_index_ref tok rfl rfl rfl rfl rfl rfl rfl (by rw [regCells_len, hI.len]) rfl hv.1 (by have := hv.2; omega)) ?_
      refine aq 71 (q_load tok rfl rfl rfl (.ptr _ _ _ _ _ _ _ _ rfl (by rw [regCells_len, hI.len]) (rcell (by have := hv; have := hI.len; omega))) rfl) ?_
      refine aqb ?_
      refine apt ?_
      refine an ?_
      refine AGo.split 73 rfl (fun hb8 => ?_) (fun hb8 => ?_)
      ·
       refine act ?_
       refine AGo.region ?_
       refine af 74 tok ?_
       refine al 75 tok ?_
       refine aa 6 ?_
       refine an ?_
       have hft : (k.fin == 3) = false := by simp_all
       have hnx := hF.next hk hI hge hst hft (ends_next hks.1 hft r.regs)
       exact ⟨⟨k.next r.regs, r.regs, (mstep fuel r.m).2, q.g - 1⟩, Drop.mk' z15q z16q, hnx.1, hnx.2⟩
      ·
       refine acf ?_
       refine AGo.skip ?_
       have hft : (k.fin == 3) = false := by simp_all
       have hnx := hF.next hk hI hge hst hft (ends_next hks.1 hft r.regs)
       exact ⟨⟨k.next r.regs, r.regs, (mstep fuel r.m).2, q.g - 1⟩, Drop.mk' z15q z16q, hnx.1, hnx.2⟩
     ·
      iterate 6 refine ak _ ?_
      refine apf ?_
      refine an ?_
      refine acf ?_
      refine AGo.skip ?_
      have hft : (k.fin == 3) = false := by simp_all
      have hnx := hF.next hk hI hge hst hft (ends_next hks.1 hft r.regs)
      exact ⟨⟨k.next r.regs, r.regs, (mstep fuel r.m).2, q.g - 1⟩, Drop.mk' z15q z16q, hnx.1, hnx.2⟩
 ·
  refine acf ?_
  have hbad := hb1
  refine AGo.exit ?_
  exact absurd hF.fin (by simpa using hbad)
theorem fun_ok (b : Blocks) (s : ByteArray) (fuel : Int) (hfu : fuel ≤ 9223372036854775807) (hs : s.size ≤ 9223372036854775807) (hb : b.right = true) (hbw : b.insW) (hbl : ∀ f ∈ b.funcs, ∀ x ∈ f.blocks, x.ins.length ≤ maxLen) :
    ∀ (n : Nat) (i : Int) (m : Mach), 0 ≤ i → i < n → i < b.funcs.length → m.fin = 0 → m.good b.words.toNat → ACall Try.prog 34 [.ptr 0 1 0 0, .int .i64 i] (mheap hNew b s fuel m) (fun r h' => r = .tup [] ∧ HSub (mheap hNone b s fuel (mfun b s fuel n i m)) h')
  | 0, i, m, h1, h2, _, _, _ => absurd h2 (by omega)
  | n + 1, i, m, h1, h2, h3, h4, h5 => by
    obtain ⟨f, hf⟩ := get_of_lt (l := b.funcs) (k := i.toNat) (by omega)
    have hr := right_spec hb
    have hfm := List.mem_of_getElem? hf
    have hone : f.one i b.words = true := by
      have := hr.2.2.2 i.toNat f hf
      rwa [Int.toNat_of_nonneg h1] at this
    have key := fun_step b s fuel (mfun b s fuel n) i f m hfu hs hr.2.1 hf h1 hone (hbw f hfm) (hbl f hfm)
      (fun j m' j1 j2 j3 j4 => fun_ok b s fuel hfu hs hb hbw hbl n j m' j1 (by omega) (by omega) j3 j4) (fun j m' hg => mfun_good hbw n j m' hg) (fun j m' => mfun_steps n j m') h5 h4
    have e : mfun b s fuel (n + 1) i m = mblk (mfun b s fuel n) s fuel f (fuel.toNat + 1) 0 (List.replicate f.regs.toNat 0) m := by
      rw [mfun, hf]
    rw [e]; exact key
set_option maxRecDepth 100000 in
theorem run_ok (b : Blocks) (s : ByteArray) (fuel : Int) (hfu : fuel ≤ 9223372036854775807) (hs : s.size ≤ 9223372036854775807) (hb : b.right = true) (hbw : b.insW) (hbl : ∀ f ∈ b.funcs, ∀ x ∈ f.blocks, x.ins.length ≤ maxLen) : APure Try.prog 18 [.agg b.cells, .str s, .int .i64 fuel] (fun r => r = .agg (resCells (mrun b s fuel))) := by
 have hr := right_spec hb
 have hne : 0 < b.funcs.length := List.length_pos_iff.2 hr.2.2.1
 refine APure.of_body (n := 51) tok Try.func18 rfl rfl ?_
 refine AGo.seq ?_
 refine AGo.slot 0 rfl (fun H ι v => rel_prog) (fun hfit => ?_)
 refine AGo.region ?_
 refine ax 3 (o_box (sz := 2) 3 rfl rfl rfl rfl (Nat.zero_lt_succ _) rfl) ?_
 refine ax 6 (o_alloc tok 4 rfl rfl rfl rfl (Nat.zero_lt_succ _) rfl) ?_
 refine an ?_
 refine AGo.seq ?_
 refine asr ?_
 refine af 8 tok ?_
 refine al 9 tok ?_
 refine aq 10 (q_len tok rfl rfl rfl rfl rfl) ?_
 refine aqb ?_
 refine an ?_
 refine AGo.split 11 rfl (fun hb1 => ?_) (fun hb1 => ?_)
 ·
  refine act ?_
  refine asr ?_
  refine aq 12 (q_build tok rfl rfl rfl rfl rfl (by decide) rfl rfl rfl) ?_
  refine AOps.w rfl rfl (o_store tok rfl rfl rfl rfl rfl rfl rfl rfl rfl (by decide) rfl z37q) ?_
  refine an ?_
  refine AGo.ret ?_
  exact absurd hne (by have h := hb1; simp [funcsAV] at h; simp [h])
 ·
  refine acf ?_
  refine AGo.skip ?_
  refine AGo.seq ?_
  refine AGo.join (γ := Unit) (fun _u => ⟨51, (eput (eput (eput (eput (eput eNew 0 (.agg b.cells)) 1 (.str s)) 3 (.ptr 3 1 0 0)) 6 (.ptr 4 1 0 0)) 2 (.int .i64 (fuel0 fuel))), (hput (hput (hput (hput (hput (hFrom 5) 3 (.row false 2 [b.cells])) 4 (.row false 3 [[.int .i64 0, .str .empty, .int .i64 0]])) 0 .free) 1 .free) 2 .free)⟩) (fun _u => True) ?_ ?_
  ·
   refine asr ?_
   refine am 13 ?_
   refine aqb ?_
   refine an ?_
   refine AGo.split 14 rfl (fun hb2 => ?_) (fun hb2 => ?_)
   ·
    refine act ?_
    refine AGo.region ?_
    refine aa 2 ?_
    refine an ?_
    exact ⟨(), Sub.mk' (by repeat (first | exact ESub.new _ | refine ESub.put ?_ (by first | rfl | exact congrArg (fun (n : Int) => some (AV.int .i64 n)) (by simp [fuel0, *])))) z12q, trivial⟩
   ·
    refine acf ?_
    refine AGo.skip ?_
    exact ⟨(), Sub.mk' (by repeat (first | exact ESub.new _ | refine ESub.put ?_ (by first | rfl | exact congrArg (fun (n : Int) => some (AV.int .i64 n)) (by simp [fuel0, *])))) z12q, trivial⟩
  intro _u _
  refine AGo.seq ?_
  have hfu0 : fuel0 fuel ≤ 9223372036854775807 := by unfold fuel0; cases decide (fuel < 0) <;> simp <;> omega
  have m0_good : (m0 b).good b.words.toNat := ⟨by simp [m0], allR_rep _, by simp [m0]⟩
  refine AGo.draw mix ?_
  refine dl 15 tok ?_
  refine dm 16 ?_
  refine dm 17 ?_
  refine df 18 tok ?_
  refine dl 19 tok ?_
  refine dx 20 (o_makeSlice tok (n := b.words.toNat) (m := b.words.toNat) 1 true rfl rfl rfl (by have := hr.1; omega) (by have := hr.1; omega) rfl rfl rfl rfl rfl (Nat.zero_lt_succ _) rfl (Nat.le_refl _) (by show 4 * b.words.toNat ≤ _; have := hr.2.1; omega) (by simp only [maxLen]; have := hr.2.1; omega)) ?_
  refine dq 21 (q_build tok rfl rfl rfl rfl rfl (by decide) rfl rfl rfl) ?_
  refine dx 22 (o_box (sz := 9) 0 rfl rfl rfl rfl (Nat.zero_lt_succ _) rfl) ?_
  refine da 7 ?_
  refine DOps.nil (by kernel_rfl) ?_
  refine AGo.seq ?_
  refine AGo.ghost (.dryCell 0 0 5 2 1 true rfl rfl rfl rfl rfl (by decide)) ?_
  refine AGo.sub (s' := ⟨51, (eput (eput (eput (eput (eput eNew 0 (.agg b.cells)) 1 (.str s)) 3 (.ptr 3 1 0 0)) 6 (.ptr 4 1 0 0)) 7 (.ptr 0 1 0 0)), (hput (hput (hput (hput (hput hNone 0 (.row false 9 [runCells b s (fuel0 fuel) (m0 b)])) 1 (.row true 1 (regCells ((m0 b)).words))) 2 (.row true 1 (byteCells ((m0 b)).out))) 3 (.row false 2 [b.cells])) 4 (.row false 3 [[.int .i64 0, .str .empty, .int .i64 0]]))⟩) (Sub.mk' z31q z6q) ?_
  refine AGo.region ?_
  have hmx := hfit.1
  refine am 23 ?_
  refine af 24 tok ?_
  refine al 25 tok ?_
  refine aq 26 (q_len tok rfl rfl rfl rfl rfl) ?_
  refine aq 27 (q_bin (r := .int .i64 ((b.funcs.length : Int) - 1)) rfl rfl rfl (by simp only [evalBin, evalInt, isShift, cond_false, if_true]; rw [List.length_map, wrap_i64 (by omega) (by simp only [maxLen] at hmx; omega)])) ?_
  refine ax 28 (o_call (hc := (mheap hNew b s (fuel0 fuel) (m0 b))) (hw := (mheap hNone b s (fuel0 fuel) (mfun b s (fuel0 fuel) b.funcs.length ((b.funcs.length : Int) - 1) (m0 b)))) [2, 1, 0] [(0, (.row false 9 [runCells b s (fuel0 fuel) (mfun b s (fuel0 fuel) b.funcs.length ((b.funcs.length : Int) - 1) (m0 b))])), (1, (.row true 1 (regCells ((mfun b s (fuel0 fuel) b.funcs.length ((b.funcs.length : Int) - 1) (m0 b))).words))), (2, (.row true 1 (byteCells ((mfun b s (fuel0 fuel) b.funcs.length ((b.funcs.length : Int) - 1) (m0 b))).out)))] rfl Try.func34 (by kernel_rfl) rfl rfl rfl ⟨⟨_, rfl, rfl⟩, ⟨_, rfl, rfl⟩, ⟨_, rfl, rfl⟩, trivial⟩ rfl (hres_cons rfl (hres_cons rfl (hres_cons rfl (hres_nil _)))) ⟨⟨_, rfl, rfl, rfl⟩, ⟨_, rfl, rfl, rfl⟩, ⟨_, rfl, rfl, rfl⟩, trivial⟩ rfl (fun_ok b s (fuel0 fuel) hfu0 hs hb hbw hbl b.funcs.length ((b.funcs.length : Int) - 1) (m0 b) (by omega) (by omega) (by omega) rfl m0_good)) ?_
  refine an ?_
  refine AGo.seq ?_
  refine AGo.join (γ := Mach) (fun m => ⟨51, (eput (eput (eput (eput (eput eNew 0 (.agg b.cells)) 1 (.str s)) 3 (.ptr 3 1 0 0)) 6 (.ptr 4 1 0 0)) 7 (.ptr 0 1 0 0)), (hput (hput (hput (hput (hput hNone 0 (.row false 9 [runCells b s (fuel0 fuel) m])) 1 (.row true 1 (regCells (m).words))) 2 (.row true 1 (byteCells (m).out))) 3 (.row false 2 [b.cells])) 4 (.row false 3 [[.int .i64 0, .str .empty, .int .i64 0]]))⟩) (fun m => m = mrun b s fuel) ?_ ?_
  ·
   refine asr ?_
   refine am 29 ?_
   refine aq 30 (q_nilCheck rfl rfl rfl) ?_
   refine af 31 tok ?_
   refine al 32 tok ?_
   refine aqb ?_
   refine an ?_
   refine AGo.split 33 rfl (fun hb3 => ?_) (fun hb3 => ?_)
   ·
    refine act ?_
    refine AGo.region ?_
    refine am 34 ?_
    refine aq 35 (q_nilCheck rfl rfl rfl) ?_
    refine af 36 tok ?_
    refine AOps.w rfl rfl (o_store tok rfl rfl rfl rfl rfl rfl rfl rfl rfl (by decide) rfl z37q) ?_
    refine an ?_
    exact ⟨{ (mfun b s (fuel0 fuel) b.funcs.length ((b.funcs.length : Int) - 1) (m0 b)) with fin := 1 }, Sub.mk' z31q z12q, (by simp [mrun, *])⟩
   ·
    refine acf ?_
    refine AGo.skip ?_
    exact ⟨(mfun b s (fuel0 fuel) b.funcs.length ((b.funcs.length : Int) - 1) (m0 b)), Sub.mk' z31q z12q, (by simp [mrun, *])⟩
  intro m hm
  refine AGo.seq ?_
  refine AGo.ghost (.freezeCell 0 0 5 2 rfl rfl rfl rfl (by simp [byteCells]) (by decide)) ?_
  refine AGo.draw mix ?_
  refine dm 37 ?_
  refine dq 38 (q_nilCheck rfl rfl rfl) ?_
  refine df 39 tok ?_
  refine dl 40 tok ?_
  refine dm 41 ?_
  refine dq 42 (q_nilCheck rfl rfl rfl) ?_
  refine df 43 tok ?_
  refine dl 44 tok ?_
  refine dq 45 (q_bytesStr (l := m.out) tok rfl (by show some (AV.lst false _) = _; rw [List.drop_zero, List.take_of_length_le (by simp [byteCells])]) rfl rfl rfl rfl rfl rfl) ?_
  refine dm 46 ?_
  refine dq 47 (q_nilCheck rfl rfl rfl) ?_
  refine df 48 tok ?_
  refine dl 49 tok ?_
  refine dq 50 (q_build tok rfl rfl rfl rfl rfl (by decide) rfl rfl rfl) ?_
  refine DOps.w rfl rfl (o_store tok rfl rfl rfl rfl rfl rfl rfl rfl rfl (by decide) rfl z37q) ?_
  refine DOps.nil (by kernel_rfl) ?_
  refine AGo.ret ?_
  refine ⟨[_], ⟨⟨_, _, _, _, rfl, rfl, .ptr _ _ _ _ _ _ _ _ rfl rfl rfl, rfl⟩, trivial⟩, ?_, rfl⟩
  subst hm
  rfl
set_option maxRecDepth 100000 in
theorem num25_ok (n : Int) : APure Try.prog 21 [.int .u32 n] (fun r => r = .agg (eNum n).cells) := by
 refine APure.of_body (n := 5) tok Try.func21 rfl rfl ?_
 refine asr ?_
 refine ax 2 (o_alloc tok 0 rfl rfl rfl rfl (Nat.zero_lt_succ _) rfl) ?_
 refine an ?_
 refine asr ?_
 refine am 3 ?_
 refine aq 4 (QLoc.weakN (y := .agg (eNum n).cells) (q_build tok rfl rfl rfl rfl rfl (by decide) rfl rfl rfl) (fun _ _ _ h => agg_fix h rfl)) ?_
 refine AOps.w rfl rfl (o_store tok rfl rfl rfl rfl rfl rfl rfl rfl rfl (by decide) rfl z37q) ?_
 refine an ?_
 refine AGo.ret ?_
 refine ⟨[_], ⟨⟨_, _, _, _, rfl, rfl, .ptr _ _ _ _ _ _ _ _ rfl rfl rfl, rfl⟩, trivial⟩, ?_, rfl⟩
 rfl
set_option maxRecDepth 100000 in
theorem put25_ok (e : CE) : APure Try.prog 22 [.agg e.cells] (fun r => r = .agg (sPut e).cells) := by
 obtain ⟨k_, o_, n_, s_, z_, l_⟩ := e
 refine APure.of_body (n := 6) tok Try.func22 rfl rfl ?_
 refine asr ?_
 refine ax 1 (o_box (sz := 6) 0 rfl rfl rfl rfl (Nat.zero_lt_succ _) rfl) ?_
 refine ax 2 (o_alloc tok 1 rfl rfl rfl rfl (Nat.zero_lt_succ _) rfl) ?_
 refine an ?_
 refine asr ?_
 refine al 3 tok ?_
 refine ax 4 (o_lit' tok rfl rfl rfl rfl rfl rfl (by decide) rfl rfl rfl rfl rfl rfl) ?_
 refine aq 5 (QLoc.weakN (y := .agg (sPut (.mk k_ o_ n_ s_ z_ l_)).cells) (q_build tok rfl rfl rfl rfl rfl (by decide) rfl rfl rfl) (fun _ _ _ h => agg_fix h rfl)) ?_
 refine AOps.w rfl rfl (o_store tok rfl rfl rfl rfl rfl rfl rfl rfl rfl (by decide) rfl z37q) ?_
 refine an ?_
 refine AGo.ret ?_
 refine ⟨[_], ⟨⟨_, _, _, _, rfl, rfl, .ptr _ _ _ _ _ _ _ _ rfl rfl rfl, rfl⟩, trivial⟩, ?_, rfl⟩
 rfl
set_option maxRecDepth 100000 in
theorem alive25_ok  : APure Try.prog 12 [] (fun r => r = .bool true) := by
 refine APure.of_body (n := 21) tok Try.func12 rfl rfl ?_
 refine asr ?_
 refine aa 0 ?_
 refine an ?_
 refine asr ?_
 refine ax 3 (o_pure rfl Try.func21 (by kernel_rfl) rfl rfl rfl (num25_ok 65)) ?_
 refine ax 4 (o_pure rfl Try.func22 (by kernel_rfl) rfl rfl rfl (put25_ok (eNum 65))) ?_
 refine ax 5 (o_lit' tok rfl rfl rfl rfl rfl rfl (by decide) rfl rfl rfl rfl rfl rfl) ?_
 refine aq 6 (q_build tok rfl rfl rfl rfl rfl (by decide) rfl rfl rfl) ?_
 refine ax 7 (o_lit' tok rfl rfl rfl rfl rfl rfl (by decide) rfl rfl rfl rfl rfl rfl) ?_
 refine aq 8 (q_build tok rfl rfl rfl rfl rfl (by decide) rfl rfl rfl) ?_
 refine ax 1 (o_alloc tok 0 rfl rfl rfl rfl (Nat.zero_lt_succ _) rfl) ?_
 refine AOps.w rfl rfl (o_store tok rfl rfl rfl rfl rfl rfl rfl rfl rfl (by decide) rfl z37q) ?_
 refine an ?_
 refine asr ?_
 refine al 9 tok ?_
 refine ax 10 (o_pure rfl Try.func14 (by kernel_rfl) rfl rfl rfl (buildOf_ok aliveC alive_bld.ok alive_bld.r alive_bld.okL alive_bld.partsL)) ?_
 refine ax 2 (o_alloc tok 1 rfl rfl rfl rfl (Nat.zero_lt_succ _) rfl) ?_
 refine AOps.w rfl rfl (o_store tok rfl rfl rfl rfl rfl rfl rfl rfl rfl (by decide) rfl z37q) ?_
 refine an ?_
 refine AGo.seq ?_
 refine AGo.draw mix ?_
 refine dl 11 tok ?_
 refine dx 12 (o_pure rfl Try.func15 (by kernel_rfl) rfl rfl rfl ((right_ok aliveC.build).mono (fun r h => by rw [h, alive_bld.right]))) ?_
 refine dm 13 ?_
 refine dl 14 tok ?_
 refine dl 15 tok ?_
 refine dx 16 (o_pure rfl Try.func19 (by kernel_rfl) rfl rfl rfl (fuel25_ok aliveC 0 alive_bld.ok (by have := alive_bld.parts; omega) alive_bld.r.w0 (by have := alive_bld.r.w1; omega) (by first | decide | omega) (by first | decide | omega))) ?_
 refine dx 17 (o_pure rfl Try.func18 (by kernel_rfl) rfl rfl rfl (run_ok aliveC.build ⟨#[]⟩ _ (fuel_le (n := 0) (by decide) alive_bld.kle) (by first | decide | omega) alive_bld.right alive_bld.w alive_bld.ins2)) ?_
 refine dq 18 (q_build tok rfl rfl rfl rfl rfl (by decide) rfl rfl rfl) ?_
 refine dx 19 (o_pure rfl Try.func17 (by kernel_rfl) rfl rfl rfl ((ends10_ok _ ⟨[], [65], 0, 0, 1⟩).mono (fun r h => h.trans (congrArg AV.bool (ends_true (alive_ends _).1 (alive_ends _).2))))) ?_
 refine dq 20 (q_pick_true true rfl rfl rfl rfl) ?_
 refine da 0 ?_
 refine DOps.nil (by kernel_rfl) ?_
 refine AGo.ret ?_
 refine ⟨[_], ⟨rfl, trivial⟩, ?_, rfl⟩
 rfl
set_option maxRecDepth 100000 in
theorem walksE_step (l : List CE) (hlen : l.length ≤ maxLen) (hp : CE.partsL l ≤ 1000000) (hrec : ∀ x ∈ l, APure Try.prog 37 [(.lst false (x.kids.map CE.cells))] (fun r => r = (.tup [.int .i64 ((CE.loopsL x.kids : Nat) : Int), .int .i64 ((CE.getsL x.kids : Nat) : Int)]))) : APure Try.prog 37 [(.lst false (l.map CE.cells))] (fun r => r = (.tup [.int .i64 ((CE.loopsL l : Nat) : Int), .int .i64 ((CE.getsL l : Nat) : Int)])) := by
 refine APure.of_body (n := 45) tok Try.func37 rfl rfl ?_
 refine asr ?_
 refine aa 2 ?_
 refine aa 3 ?_
 refine an ?_
 refine asr ?_
 refine aa 4 ?_
 refine aa 5 ?_
 refine an ?_
 refine AGo.seq ?_
 refine asr ?_
 refine aa 6 ?_
 refine an ?_
 refine AGo.block ?_
 refine AGo.loopD (γ := Nat) 0 (fun k => ⟨45, (eput (eput (eput (eput eNew 0 (.lst false (l.map CE.cells))) 4 (.int .i64 ((CE.loopsL (l.take k) : Nat) : Int))) 5 (.int .i64 ((CE.getsL (l.take k) : Nat) : Int))) 6 (.int .i64 (k : Int))), (hFrom 0)⟩) (fun k => k ≤ l.length) (fun k => l.length - k) 0 (Sub.mk' (by repeat (first | exact ESub.new _ | refine ESub.put ?_ (by first | rfl | exact congrArg (fun n => some (AV.int .i64 n)) (by simp [CE.loopsL, CE.getsL])))) z12q) (Nat.zero_le _) (fun _ => fun b hb => hFrom_free hb) ?_
 intro k hk
 refine AGo.seq ?_
 refine asr ?_
 refine am 9 ?_
 refine am 10 ?_
 refine aq 11 (q_len tok rfl rfl rfl rfl rfl) ?_
 refine aqb ?_
 refine an ?_
 refine AGo.split 12 rfl (fun hb1 => ?_) (fun hb1 => ?_)
 ·
  refine act ?_
  have hkl : k < l.length := lt_of_idx hb1
  obtain ⟨x, hx⟩ := get_of_lt hkl
  have hxm := List.mem_of_getElem? hx
  have htl := eloopsL_take hx
  have htg := egetsL_take hx
  have hle := ewalk_take hx
  rw [htl, htg, eloops_eq, egets_eq] at hle
  refine AGo.skip ?_
  refine AGo.seq ?_
  refine AGo.block ?_
  refine AGo.seq ?_
  refine asr ?_
  refine am 15 ?_
  refine am 16 ?_
  refine aq 17 (q_index_lst tok rfl rfl rfl rfl rfl rfl (Int.natCast_nonneg _) (idxE hx) rfl) ?_
  refine af 18 tok ?_
  refine al 19 tok ?_
  refine an ?_
  refine AGo.join (γ := Unit) (fun _u => ⟨45, (eput (eput (eput (eput eNew 0 (.lst false (l.map CE.cells))) 4 (.int .i64 ((CE.loopsL (l.take k) + (if x.kind = 4 then 1 else 0) : Nat) : Int))) 5 (.int .i64 ((CE.getsL (l.take k) + (if x.kind = 5 then 1 else 0) : Nat) : Int))) 6 (.int .i64 (k : Int))), hNone⟩) (fun _u => True) ?_ ?_
  ·
   refine AGo.block ?_
   refine asr ?_
   refine aqb ?_
   refine aa 20 ?_
   refine an ?_
   refine AGo.split 20 rfl (fun hb2 => ?_) (fun hb2 => ?_)
   ·
    refine act ?_
    have h4 : x.kind = 4 := by simpa using hb2
    have hx4 : (if x.kind = 4 then 1 else 0) = 1 := if_pos h4
    have hx5 : (if x.kind = 5 then 1 else 0) = 0 := if_neg (by omega)
    refine AGo.region ?_
    refine am 22 ?_
    refine aq 23 (q_bin (r := .int .i64 (((CE.loopsL (l.take k) + 1 : Nat) : Int))) rfl rfl rfl z27q) ?_
    refine aa 4 ?_
    refine an ?_
    exact ⟨(), Sub.mk' z17q z12q, trivial⟩
   ·
    refine acf ?_
    have h4 : x.kind ≠ 4 := by simpa using hb2
    have hx4 : (if x.kind = 4 then 1 else 0) = 0 := if_neg h4
    refine asr ?_
    refine aqb ?_
    refine aa 24 ?_
    refine an ?_
    refine AGo.split 24 rfl (fun hb3 => ?_) (fun hb3 => ?_)
    ·
     refine act ?_
     have h5 : x.kind = 5 := by simpa using hb3
     have hx5 : (if x.kind = 5 then 1 else 0) = 1 := if_pos h5
     refine AGo.region ?_
     refine am 26 ?_
     refine aq 27 (q_bin (r := .int .i64 (((CE.getsL (l.take k) + 1 : Nat) : Int))) rfl rfl rfl z27q) ?_
     refine aa 5 ?_
     refine an ?_
     exact ⟨(), Sub.mk' z17q z12q, trivial⟩
    ·
     refine acf ?_
     have h5 : x.kind ≠ 5 := by simpa using hb3
     have hx5 : (if x.kind = 5 then 1 else 0) = 0 := if_neg h5
     refine AGo.skip ?_
     exact ⟨(), Sub.mk' z17q z12q, trivial⟩
  intro _u _
  refine asr ?_
  refine am 29 ?_
  refine am 30 ?_
  refine aq 31 (q_index_lst tok rfl rfl rfl rfl rfl rfl (Int.natCast_nonneg _) (idxE hx) rfl) ?_
  refine af 32 tok ?_
  refine al 33 tok ?_
  refine ax 34 (o_pure rfl Try.func37 (by kernel_rfl) rfl rfl rfl (hrec x hxm)) ?_
  refine am 28 ?_
  refine aq 35 (q_extract rfl rfl rfl) ?_
  refine aq 36 (q_extract rfl rfl rfl) ?_
  refine aa 7 ?_
  refine aa 8 ?_
  refine an ?_
  refine AGo.region ?_
  refine am 37 ?_
  refine am 38 ?_
  refine aq 39 (q_bin (r := .int .i64 (((CE.loopsL (l.take k) + (if x.kind = 4 then 1 else 0) + CE.loopsL x.kids : Nat) : Int))) rfl rfl rfl z27q) ?_
  refine am 40 ?_
  refine am 41 ?_
  refine aq 42 (q_bin (r := .int .i64 (((CE.getsL (l.take k) + (if x.kind = 5 then 1 else 0) + CE.getsL x.kids : Nat) : Int))) rfl rfl rfl z27q) ?_
  refine aa 4 ?_
  refine aa 5 ?_
  refine an ?_
  refine AGo.region ?_
  refine am 13 ?_
  refine aq 14 (q_inc rfl rfl hkl hlen) ?_
  refine aa 6 ?_
  refine an ?_
  exact ⟨k+1, Drop.mk' (by repeat (first | exact EDrop.new _ _ | refine EDrop.put ?_ (by first | rfl | exact congrArg (fun n => some (AV.int .i64 n)) (by rw [htl, eloops_eq]; omega) | exact congrArg (fun n => some (AV.int .i64 n)) (by rw [htg, egets_eq]; omega)) z32q)) z16q, hkl, by omega⟩
 ·
  refine acf ?_
  have hke : k = l.length := Nat.le_antisymm hk (ge_of_idx hb1)
  refine AGo.exit ?_
  refine asr ?_
  refine am 43 ?_
  refine am 44 ?_
  refine aa 2 ?_
  refine aa 3 ?_
  refine an ?_
  refine AGo.ret ?_
  refine ⟨[_, _], ⟨rfl, rfl, trivial⟩, ?_, rfl⟩
  subst hke
  rw [List.take_length]
  rfl
theorem walksE_ok : ∀ (n : Nat) (l : List CE), CE.partsL l ≤ n → (∀ e ∈ l, e.Ok) → l.length * 64 ≤ reachBytes → CE.partsL l ≤ 1000000 → APure Try.prog 37 [(.lst false (l.map CE.cells))] (fun r => r = (.tup [.int .i64 ((CE.loopsL l : Nat) : Int), .int .i64 ((CE.getsL l : Nat) : Int)]))
  | 0, l, hn, hk, hl, h1 => walksE_step l (len64 hl) h1 fun x hx => absurd (parts_mem hx) (by have := parts_kids x; omega)
  | n + 1, l, hn, hk, hl, h1 => walksE_step l (len64 hl) h1 fun x hx => walksE_ok n x.kids (by have := parts_mem hx; have := parts_kids x; omega) (hk x hx).kidsOk.1 (hk x hx).kidsOk.2 (by have := parts_mem hx; have := parts_kids x; omega)
set_option maxRecDepth 100000 in
theorem walksS_step (l : List CS) (hk : ∀ e ∈ l, e.Ok) (hlen : l.length ≤ maxLen) (hp : CS.partsL l ≤ 1000000) (hrec : ∀ x ∈ l, APure Try.prog 24 [(.lst false (x.thn.map CS.cells))] (fun r => r = (.tup [.int .i64 ((CS.loopsL x.thn : Nat) : Int), .int .i64 ((CS.getsL x.thn : Nat) : Int)])) ∧ APure Try.prog 24 [(.lst false (x.els.map CS.cells))] (fun r => r = (.tup [.int .i64 ((CS.loopsL x.els : Nat) : Int), .int .i64 ((CS.getsL x.els : Nat) : Int)]))) : APure Try.prog 24 [(.lst false (l.map CS.cells))] (fun r => r = (.tup [.int .i64 ((CS.loopsL l : Nat) : Int), .int .i64 ((CS.getsL l : Nat) : Int)])) := by
 refine APure.of_body (n := 78) tok Try.func24 rfl rfl ?_
 refine asr ?_
 refine aa 2 ?_
 refine aa 3 ?_
 refine an ?_
 refine asr ?_
 refine aa 4 ?_
 refine aa 5 ?_
 refine an ?_
 refine AGo.seq ?_
 refine asr ?_
 refine aa 6 ?_
 refine an ?_
 refine AGo.block ?_
 refine AGo.loopD (γ := Nat) 0 (fun k => ⟨78, (eput (eput (eput (eput eNew 0 (.lst false (l.map CS.cells))) 4 (.int .i64 ((CS.loopsL (l.take k) : Nat) : Int))) 5 (.int .i64 ((CS.getsL (l.take k) : Nat) : Int))) 6 (.int .i64 (k : Int))), (hFrom 0)⟩) (fun k => k ≤ l.length) (fun k => l.length - k) 0 (Sub.mk' (by repeat (first | exact ESub.new _ | refine ESub.put ?_ (by first | rfl | exact congrArg (fun n => some (AV.int .i64 n)) (by simp [CS.loopsL, CS.getsL])))) z12q) (Nat.zero_le _) (fun _ => fun b hb => hFrom_free hb) ?_
 intro k hkk
 refine AGo.seq ?_
 refine asr ?_
 refine am 13 ?_
 refine am 14 ?_
 refine aq 15 (q_len tok rfl rfl rfl rfl rfl) ?_
 refine aqb ?_
 refine an ?_
 refine AGo.split 16 rfl (fun hb1 => ?_) (fun hb1 => ?_)
 ·
  refine act ?_
  have hkl : k < l.length := lt_of_idx hb1
  obtain ⟨x, hx⟩ := get_of_lt hkl
  have hxm := List.mem_of_getElem? hx
  have hxk := hk x hxm
  have htl := sloopsL_take hx
  have htg := sgetsL_take hx
  have hle := swalk_take hx
  have hpm := sparts_mem hxm
  have hpx := sparts_es x
  rw [htl, htg, sloops_eq, sgets_eq] at hle
  refine AGo.skip ?_
  refine AGo.seq ?_
  refine AGo.block ?_
  refine AGo.seq ?_
  refine asr ?_
  refine am 19 ?_
  refine am 20 ?_
  refine aq 21 (q_index_lst tok rfl rfl rfl rfl rfl rfl (Int.natCast_nonneg _) (idxS hx) rfl) ?_
  refine af 22 tok ?_
  refine al 23 tok ?_
  refine aqb ?_
  refine am 25 ?_
  refine AOps.split 25 rfl (fun hb2 => ?_) (fun hb2 => ?_)
  ·
   iterate 6 refine ak _ ?_
   refine apt ?_
   refine an ?_
   refine AGo.join (γ := Unit) (fun _u => ⟨78, (eput (eput (eput (eput eNew 0 (.lst false (l.map CS.cells))) 4 (.int .i64 ((CS.loopsL (l.take k) + (if x.kind = 5 ∨ x.kind = 6 then 1 else 0) : Nat) : Int))) 5 (.int .i64 ((CS.getsL (l.take k) : Nat) : Int))) 6 (.int .i64 (k : Int))), hNone⟩) (fun _u => True) ?_ ?_
   ·
    refine act ?_
    have hx4 : (if x.kind = 5 ∨ x.kind = 6 then 1 else 0) = 1 := if_pos (by simp_all)
    refine AGo.region ?_
    refine am 33 ?_
    refine aq 34 (q_bin (r := .int .i64 (((CS.loopsL (l.take k) + 1 : Nat) : Int))) rfl rfl rfl z27q) ?_
    refine aa 4 ?_
    refine an ?_
    exact ⟨(), Sub.mk' z17q z12q, trivial⟩
   intro _u _
   refine asr ?_
   refine am 36 ?_
   refine am 37 ?_
   refine aq 38 (q_index_lst tok rfl rfl rfl rfl rfl rfl (Int.natCast_nonneg _) (idxS hx) rfl) ?_
   refine af 39 tok ?_
   refine al 40 tok ?_
   refine ax 41 (o_pure rfl Try.func37 (by kernel_rfl) rfl rfl rfl (walksE_ok _ x.es (Nat.le_refl _) hxk.esOk.1 hxk.esOk.2 (by omega))) ?_
   refine am 35 ?_
   refine aq 42 (q_extract rfl rfl rfl) ?_
   refine aq 43 (q_extract rfl rfl rfl) ?_
   refine aa 7 ?_
   refine aa 8 ?_
   refine an ?_
   refine asr ?_
   refine am 45 ?_
   refine am 46 ?_
   refine aq 47 (q_index_lst tok rfl rfl rfl rfl rfl rfl (Int.natCast_nonneg _) (idxS hx) rfl) ?_
   refine af 48 tok ?_
   refine al 49 tok ?_
   refine ax 50 (o_pure rfl Try.func24 (by kernel_rfl) rfl rfl rfl ((hrec x hxm).1)) ?_
   refine am 44 ?_
   refine aq 51 (q_extract rfl rfl rfl) ?_
   refine aq 52 (q_extract rfl rfl rfl) ?_
   refine aa 9 ?_
   refine aa 10 ?_
   refine an ?_
   refine asr ?_
   refine am 54 ?_
   refine am 55 ?_
   refine aq 56 (q_index_lst tok rfl rfl rfl rfl rfl rfl (Int.natCast_nonneg _) (idxS hx) rfl) ?_
   refine af 57 tok ?_
   refine al 58 tok ?_
   refine ax 59 (o_pure rfl Try.func24 (by kernel_rfl) rfl rfl rfl ((hrec x hxm).2)) ?_
   refine am 53 ?_
   refine aq 60 (q_extract rfl rfl rfl) ?_
   refine aq 61 (q_extract rfl rfl rfl) ?_
   refine aa 11 ?_
   refine aa 12 ?_
   refine an ?_
   refine AGo.region ?_
   refine am 62 ?_
   refine am 63 ?_
   refine aq 64 (q_bin (r := .int .i64 (((CS.loopsL (l.take k) + (if x.kind = 5 ∨ x.kind = 6 then 1 else 0) + CE.loopsL x.es : Nat) : Int))) rfl rfl rfl z27q) ?_
   refine am 65 ?_
   refine aq 66 (q_bin (r := .int .i64 (((CS.loopsL (l.take k) + (if x.kind = 5 ∨ x.kind = 6 then 1 else 0) + CE.loopsL x.es + CS.loopsL x.thn : Nat) : Int))) rfl rfl rfl z27q) ?_
   refine am 67 ?_
   refine aq 68 (q_bin (r := .int .i64 (((CS.loopsL (l.take k) + (if x.kind = 5 ∨ x.kind = 6 then 1 else 0) + CE.loopsL x.es + CS.loopsL x.thn + CS.loopsL x.els : Nat) : Int))) rfl rfl rfl z27q) ?_
   refine am 69 ?_
   refine am 70 ?_
   refine aq 71 (q_bin (r := .int .i64 (((CS.getsL (l.take k) + CE.getsL x.es : Nat) : Int))) rfl rfl rfl z27q) ?_
   refine am 72 ?_
   refine aq 73 (q_bin (r := .int .i64 (((CS.getsL (l.take k) + CE.getsL x.es + CS.getsL x.thn : Nat) : Int))) rfl rfl rfl z27q) ?_
   refine am 74 ?_
   refine aq 75 (q_bin (r := .int .i64 (((CS.getsL (l.take k) + CE.getsL x.es + CS.getsL x.thn + CS.getsL x.els : Nat) : Int))) rfl rfl rfl z27q) ?_
   refine aa 4 ?_
   refine aa 5 ?_
   refine an ?_
   refine AGo.region ?_
   refine am 17 ?_
   refine aq 18 (q_inc rfl rfl hkl hlen) ?_
   refine aa 6 ?_
   refine an ?_
   exact ⟨k+1, Drop.mk' z10q z16q, hkl, by omega⟩
  ·
   refine am 26 ?_
   refine am 27 ?_
   refine aq 28 (q_index_lst tok rfl rfl rfl rfl rfl rfl (Int.natCast_nonneg _) (idxS hx) rfl) ?_
   refine af 29 tok ?_
   refine al 30 tok ?_
   refine aqb ?_
   refine apf ?_
   refine an ?_
   refine AGo.join (γ := Unit) (fun _u => ⟨78, (eput (eput (eput (eput eNew 0 (.lst false (l.map CS.cells))) 4 (.int .i64 ((CS.loopsL (l.take k) + (if x.kind = 5 ∨ x.kind = 6 then 1 else 0) : Nat) : Int))) 5 (.int .i64 ((CS.getsL (l.take k) : Nat) : Int))) 6 (.int .i64 (k : Int))), hNone⟩) (fun _u => True) ?_ ?_
   ·
    refine AGo.split 32 rfl (fun hb3 => ?_) (fun hb3 => ?_)
    ·
     refine act ?_
     have hx4 : (if x.kind = 5 ∨ x.kind = 6 then 1 else 0) = 1 := if_pos (by simp_all)
     refine AGo.region ?_
     refine am 33 ?_
     refine aq 34 (q_bin (r := .int .i64 (((CS.loopsL (l.take k) + 1 : Nat) : Int))) rfl rfl rfl z27q) ?_
     refine aa 4 ?_
     refine an ?_
     exact ⟨(), Sub.mk' z17q z12q, trivial⟩
    ·
     refine acf ?_
     have hx4 : (if x.kind = 5 ∨ x.kind = 6 then 1 else 0) = 0 := if_neg (by simp_all)
     refine AGo.skip ?_
     exact ⟨(), Sub.mk' z17q z12q, trivial⟩
   intro _u _
   refine asr ?_
   refine am 36 ?_
   refine am 37 ?_
   refine aq 38 (q_index_lst tok rfl rfl rfl rfl rfl rfl (Int.natCast_nonneg _) (idxS hx) rfl) ?_
   refine af 39 tok ?_
   refine al 40 tok ?_
   refine ax 41 (o_pure rfl Try.func37 (by kernel_rfl) rfl rfl rfl (walksE_ok _ x.es (Nat.le_refl _) hxk.esOk.1 hxk.esOk.2 (by omega))) ?_
   refine am 35 ?_
   refine aq 42 (q_extract rfl rfl rfl) ?_
   refine aq 43 (q_extract rfl rfl rfl) ?_
   refine aa 7 ?_
   refine aa 8 ?_
   refine an ?_
   refine asr ?_
   refine am 45 ?_
   refine am 46 ?_
   refine aq 47 (q_index_lst tok rfl rfl rfl rfl rfl rfl (Int.natCast_nonneg _) (idxS hx) rfl) ?_
   refine af 48 tok ?_
   refine al 49 tok ?_
   refine ax 50 (o_pure rfl Try.func24 (by kernel_rfl) rfl rfl rfl ((hrec x hxm).1)) ?_
   refine am 44 ?_
   refine aq 51 (q_extract rfl rfl rfl) ?_
   refine aq 52 (q_extract rfl rfl rfl) ?_
   refine aa 9 ?_
   refine aa 10 ?_
   refine an ?_
   refine asr ?_
   refine am 54 ?_
   refine am 55 ?_
   refine aq 56 (q_index_lst tok rfl rfl rfl rfl rfl rfl (Int.natCast_nonneg _) (idxS hx) rfl) ?_
   refine af 57 tok ?_
   refine al 58 tok ?_
   refine ax 59 (o_pure rfl Try.func24 (by kernel_rfl) rfl rfl rfl ((hrec x hxm).2)) ?_
   refine am 53 ?_
   refine aq 60 (q_extract rfl rfl rfl) ?_
   refine aq 61 (q_extract rfl rfl rfl) ?_
   refine aa 11 ?_
   refine aa 12 ?_
   refine an ?_
   refine AGo.region ?_
   refine am 62 ?_
   refine am 63 ?_
   refine aq 64 (q_bin (r := .int .i64 (((CS.loopsL (l.take k) + (if x.kind = 5 ∨ x.kind = 6 then 1 else 0) + CE.loopsL x.es : Nat) : Int))) rfl rfl rfl z27q) ?_
   refine am 65 ?_
   refine aq 66 (q_bin (r := .int .i64 (((CS.loopsL (l.take k) + (if x.kind = 5 ∨ x.kind = 6 then 1 else 0) + CE.loopsL x.es + CS.loopsL x.thn : Nat) : Int))) rfl rfl rfl z27q) ?_
   refine am 67 ?_
   refine aq 68 (q_bin (r := .int .i64 (((CS.loopsL (l.take k) + (if x.kind = 5 ∨ x.kind = 6 then 1 else 0) + CE.loopsL x.es + CS.loopsL x.thn + CS.loopsL x.els : Nat) : Int))) rfl rfl rfl z27q) ?_
   refine am 69 ?_
   refine am 70 ?_
   refine aq 71 (q_bin (r := .int .i64 (((CS.getsL (l.take k) + CE.getsL x.es : Nat) : Int))) rfl rfl rfl z27q) ?_
   refine am 72 ?_
   refine aq 73 (q_bin (r := .int .i64 (((CS.getsL (l.take k) + CE.getsL x.es + CS.getsL x.thn : Nat) : Int))) rfl rfl rfl z27q) ?_
   refine am 74 ?_
   refine aq 75 (q_bin (r := .int .i64 (((CS.getsL (l.take k) + CE.getsL x.es + CS.getsL x.thn + CS.getsL x.els : Nat) : Int))) rfl rfl rfl z27q) ?_
   refine aa 4 ?_
   refine aa 5 ?_
   refine an ?_
   refine AGo.region ?_
   refine am 17 ?_
   refine aq 18 (q_inc rfl rfl hkl hlen) ?_
   refine aa 6 ?_
   refine an ?_
   exact ⟨k+1, Drop.mk' z10q z16q, hkl, by omega⟩
 ·
  refine acf ?_
  have hke : k = l.length := Nat.le_antisymm hkk (ge_of_idx hb1)
  refine AGo.exit ?_
  refine asr ?_
  refine am 76 ?_
  refine am 77 ?_
  refine aa 2 ?_
  refine aa 3 ?_
  refine an ?_
  refine AGo.ret ?_
  refine ⟨[_, _], ⟨rfl, rfl, trivial⟩, ?_, rfl⟩
  subst hke
  rw [List.take_length]
  rfl
theorem walksS_ok : ∀ (n : Nat) (l : List CS), CS.partsL l ≤ n → (∀ e ∈ l, e.Ok) → l.length * 96 ≤ reachBytes → CS.partsL l ≤ 1000000 → APure Try.prog 24 [(.lst false (l.map CS.cells))] (fun r => r = (.tup [.int .i64 ((CS.loopsL l : Nat) : Int), .int .i64 ((CS.getsL l : Nat) : Int)]))
  | 0, l, hn, hk, hl, h1 => walksS_step l hk (len96 hl) h1 fun x hx => absurd (sparts_mem hx) (by have := sparts_es x; omega)
  | n + 1, l, hn, hk, hl, h1 => walksS_step l hk (len96 hl) h1 fun x hx => ⟨walksS_ok n x.thn z36q (hk x hx).thnOk.1 (hk x hx).thnOk.2 z36q, walksS_ok n x.els z36q (hk x hx).elsOk.1 (hk x hx).elsOk.2 z36q⟩
set_option maxHeartbeats 2000000 in
set_option maxRecDepth 100000 in
theorem buildReads_ok (C : Core) (s m : ByteArray) (hC : C.Ok) : APure Try.prog 9 [.agg C.cells, .str s, .str m] (fun r => r = .bool true) := by
 refine APure.of_body (n := 66) tok Try.func9 rfl rfl ?_
 refine asr ?_
 refine ax 3 (o_box (sz := 2) 0 rfl rfl rfl rfl (Nat.zero_lt_succ _) rfl) ?_
 refine aa 6 ?_
 refine an ?_
 refine AGo.seq ?_
 refine asr ?_
 refine ax 11 (o_pure rfl Try.func12 (by kernel_rfl) rfl rfl rfl (alive25_ok)) ?_
 refine aq 12 (q_not rfl rfl) ?_
 refine an ?_
 refine acf ?_
 refine AGo.skip ?_
 refine AGo.seq ?_
 refine asr ?_
 refine al 13 tok ?_
 refine ax 14 (o_pure rfl Try.func13 (by kernel_rfl) rfl rfl rfl (few25_ok C hC)) ?_
 refine aq 15 (q_not rfl rfl) ?_
 refine am 16 ?_
 refine AOps.split 16 rfl (fun hb1 => ?_) (fun hb1 => ?_)
 ·
  iterate 3 refine ak _ ?_
  refine apt ?_
  refine am 21 ?_
  iterate 3 refine ak _ ?_
  refine apt ?_
  refine an ?_
  refine act ?_
  refine asr ?_
  refine aa 6 ?_
  refine an ?_
  refine AGo.ret ?_
  refine ⟨[_], ⟨rfl, trivial⟩, ?_, rfl⟩
  rfl
 ·
  refine am 17 ?_
  refine aq 18 (q_len tok rfl rfl rfl rfl rfl) ?_
  refine aqb ?_
  refine apf ?_
  refine am 21 ?_
  refine AOps.split 21 rfl (fun hb2 => ?_) (fun hb2 => ?_)
  ·
   iterate 3 refine ak _ ?_
   refine apt ?_
   refine an ?_
   refine act ?_
   refine asr ?_
   refine aa 6 ?_
   refine an ?_
   refine AGo.ret ?_
   refine ⟨[_], ⟨rfl, trivial⟩, ?_, rfl⟩
   rfl
  ·
   refine am 22 ?_
   refine aq 23 (q_len tok rfl rfl rfl rfl rfl) ?_
   refine aqb ?_
   refine apf ?_
   refine an ?_
   refine AGo.split 25 rfl (fun hb3 => ?_) (fun hb3 => ?_)
   ·
    refine act ?_
    refine asr ?_
    refine aa 6 ?_
    refine an ?_
    refine AGo.ret ?_
    refine ⟨[_], ⟨rfl, trivial⟩, ?_, rfl⟩
    rfl
   ·
    refine acf ?_
    have hL := little_lit hC (by simpa using hb1)
    have hB := hL.bld
    have hs60_s : s.size ≤ 60 := by have h := hb2; simp at h; omega
    have hs60_m : m.size ≤ 60 := by have h := hb3; simp at h; omega
    obtain ⟨g, hg⟩ := last_of hB.r
    have hgm := List.mem_of_getElem? hg
    have hgk := hC.funcs g hgm
    have hgp := parts_body hgm
    have hwl := swalks_le _ g.body (Nat.le_refl _)
    have hlp := hL.parts
    refine AGo.skip ?_
    refine asr ?_
    refine af 27 tok ?_
    refine al 28 tok ?_
    refine af 29 tok ?_
    refine al 30 tok ?_
    refine aq 31 (q_len tok rfl rfl rfl rfl rfl) ?_
    refine aq 32 (q_bin (r := .int .i64 ((C.funcs.length - 1 : Nat) : Int)) rfl rfl rfl (by have := hB.r.n0; have := hB.r.n1; simp only [evalBin, evalInt, isShift, cond_false, if_true]; rw [List.length_map, wrap_i64 (by omega) (by omega)]; congr 2; omega)) ?_
    refine aq 33 (q_index_lst tok rfl rfl rfl rfl rfl rfl (Int.natCast_nonneg _) (idx_map (by assumption)) rfl) ?_
    refine af 34 tok ?_
    refine al 35 tok ?_
    refine ax 36 (o_pure rfl Try.func24 (by kernel_rfl) rfl rfl rfl (walksS_ok _ g.body (Nat.le_refl _) hgk.body hgk.len (by omega))) ?_
    refine am 26 ?_
    refine aq 37 (q_extract rfl rfl rfl) ?_
    refine aq 38 (q_extract rfl rfl rfl) ?_
    refine aa 7 ?_
    refine aa 8 ?_
    refine an ?_
    refine AGo.seq ?_
    refine asr ?_
    refine am 39 ?_
    refine aqb ?_
    refine am 41 ?_
    refine AOps.split 41 rfl (fun hb4 => ?_) (fun hb4 => ?_)
    ·
     iterate 4 refine ak _ ?_
     refine apt ?_
     refine an ?_
     refine act ?_
     refine asr ?_
     refine aa 6 ?_
     refine an ?_
     refine AGo.ret ?_
     refine ⟨[_], ⟨rfl, trivial⟩, ?_, rfl⟩
     rfl
    ·
     refine am 42 ?_
     refine aq 43 (q_len tok rfl rfl rfl rfl rfl) ?_
     refine am 44 ?_
     refine aqb ?_
     refine apf ?_
     refine an ?_
     refine AGo.split 46 rfl (fun hb5 => ?_) (fun hb5 => ?_)
     ·
      refine act ?_
      refine asr ?_
      refine aa 6 ?_
      refine an ?_
      refine AGo.ret ?_
      refine ⟨[_], ⟨rfl, trivial⟩, ?_, rfl⟩
      rfl
     ·
      refine acf ?_
      have h0 : CS.loopsL g.body = 0 := by have h := hb4; simp at h; omega
      have hgs : CS.getsL g.body ≤ s.size := by have h := hb5; simp at h; omega
      have hcs := cut_size hgs
      have hend := reads_two hB hg h0 hgs m
      refine AGo.skip ?_
      refine asr ?_
      refine al 47 tok ?_
      refine ax 48 (o_pure rfl Try.func14 (by kernel_rfl) rfl rfl rfl (buildOf_ok C hB.ok hB.r hB.okL hB.partsL)) ?_
      refine ax 9 (o_alloc tok 1 rfl rfl rfl rfl (Nat.zero_lt_succ _) rfl) ?_
      refine AOps.w rfl rfl (o_store tok rfl rfl rfl rfl rfl rfl rfl rfl rfl (by decide) rfl z37q) ?_
      refine an ?_
      refine asr ?_
      refine al 49 tok ?_
      refine ax 50 (o_pure rfl Try.func19 (by kernel_rfl) rfl rfl rfl (fuel25_ok C 0 hB.ok (by have := hB.parts; omega) hB.r.w0 (by have := hB.r.w1; omega) (by first | decide | omega) (by first | decide | omega))) ?_
      refine aa 10 ?_
      refine an ?_
      refine AGo.seq ?_
      refine AGo.draw mix ?_
      refine dl 51 tok ?_
      refine dm 52 ?_
      refine dm 53 ?_
      refine dq 54 (q_sliceStr (m := CS.getsL g.body) tok rfl rfl rfl rfl rfl rfl hgs) ?_
      refine dm 55 ?_
      refine dx 56 (o_pure rfl Try.func18 (by kernel_rfl) rfl rfl rfl (run_ok C.build _ _ (fuel_le (n := 0) (by decide) hB.kle) (by rw [hcs]; omega) hB.right hB.w hB.ins2)) ?_
      refine dl 57 tok ?_
      refine dm 58 ?_
      refine dm 59 ?_
      refine dq 60 (q_sliceStr (m := CS.getsL g.body) tok rfl rfl rfl rfl rfl rfl hgs) ?_
      refine dm 61 ?_
      refine dq 62 (q_cat rfl rfl rfl (by rw [hcs]; simp only [maxLen]; omega)) ?_
      refine dm 63 ?_
      refine dx 64 (o_pure rfl Try.func18 (by kernel_rfl) rfl rfl rfl (run_ok C.build _ _ (fuel_le (n := 0) (by decide) hB.kle) (by rw [ByteArray.size_append, hcs]; omega) hB.right hB.w hB.ins2)) ?_
      refine dx 65 (o_pure rfl Try.func17 (by kernel_rfl) rfl rfl rfl ((ends10_ok _ _).mono (fun r h => h.trans (congrArg AV.bool (ends_true hend.1 hend.2))))) ?_
      refine da 6 ?_
      refine DOps.nil (by kernel_rfl) ?_
      refine AGo.ret ?_
      refine ⟨[_], ⟨rfl, trivial⟩, ?_, rfl⟩
      rfl
end Go.Proofs.Ytmfihmkopmgelaa.Sv

namespace Go.Proofs.Ytmfihmkopmgelaa
open Go.ChangeShapes Go.WideShapes Go.ChangeAt Go.RowKit Sv
set_option linter.unusedVariables false

set_option maxRecDepth 100000 in
theorem buildReads_lifted (os : Os) (started : os.Started) (H : Type) (enc : TypeId × Value → H) :
    ReturnsInHanded {} Try.checked os 9 .any (Rows.buildReadsSpec.pre6 enc Try.prog Try.f9 Rows.buildReadsRow.domain false) (Rows.buildReadsSpec.post enc Try.prog Try.f9 false true false false) := by
  refine returnsInHanded_of_change_sized (C := Try.checked) own' started (by kernel_rfl) Try.func9
    (ChangeSpec.witness6 (enc := enc) (C := Try.checked) false ⟨#[], #[.agg #[.int .i64 0, .slice none 0 0], .string ⟨#[]⟩, .string ⟨#[]⟩], []⟩ 8 (by kernel_rfl) (by kernel_rfl) (by kernel_rfl) (by kernel_rfl)) ?_
  intro W base args ds gs before hval0 hW hcnd hwt0 hh
  have hval : ∀ (j : Nat) t v, Try.f9.params[j]? = some t → args[j]? = some v → Value.okWide Try.prog W .any base t v := hval0
  have hW' := hW
  obtain ⟨p, q, hA0, hV, rfl, hfz, hnd⟩ := hW
  have hA : DataW.TrodAll enc Try.prog W 0 (fun _ => true) true Try.f9.params.toList args.toList ds p := hA0
  have hwt : (DataW.weightsEach Try.prog (Try.f9.params.toList ++ Rows.buildReadsSpec.plain.varTypes Try.prog) (ds ++ gs)).all (· ≤ reachBytes) = true := hwt0
  rw [Try.params9] at hA hval hwt
  obtain ⟨v0, vs0, d0, ds0, p0, q0, hargs, rfl, rfl, h0, r0⟩ := trodAll_cons hA
  obtain ⟨v1, vs1, d1, ds1, p1, q1, rfl, rfl, rfl, h1, r1⟩ := trodAll_cons r0
  obtain ⟨v2, vs2, d2, ds2, p2, q2, rfl, rfl, rfl, h2, r2⟩ := trodAll_cons r1
  obtain ⟨rfl, rfl, rfl⟩ := trodAll_nil r2
  obtain rfl : args = #[v0, v1, v2] := by cases args; simp_all
  obtain ⟨rfl, rfl⟩ := trodVars_none hV
  obtain ⟨x0, e0, g0⟩ := arg_one h0 (weightsEach_get hwt (i := 0) rfl rfl) decCore
  obtain ⟨x1, e1, g1⟩ := arg_one h1 (weightsEach_get hwt (i := 1) rfl rfl) decStr
  obtain ⟨x2, e2, g2⟩ := arg_one h2 (weightsEach_get hwt (i := 2) rfl rfl) decStr
  exact law_calls laidOut' rfl (by kernel_rfl) rfl bool' rfl rfl rfl hW' (.cons (e0.val (okWide_agg tok rfl rfl (hval 0 24 v0 rfl rfl))) (.cons (e1.val1 (okWide_cellS tok rfl rfl (hval 1 9 v1 rfl rfl))) (.cons (e2.val1 (okWide_cellS tok rfl rfl (hval 2 9 v2 rfl rfl))) .nil))) (buildReads_ok x0 x1 x2 g0) (fun g l h => by cases h)

theorem buildReads_holds : Rows.BuildReadsSaid :=
  OpenClaim.holds_of_wide 9 Try.f9 rfl rfl rfl rfl rfl rfl rfl ⟨rfl, rfl, rfl, rfl, rfl⟩ rfl rfl rfl rfl rfl (by kernel_rfl) Try.func9 (by kernel_rfl)
    (of_decide_eq_true (by kernel_rfl)) (by unfold Func.isWrapper; first | (rw [if_pos (by decide +kernel)]; kernel_rfl) | (rw [if_neg (by decide +kernel)]; exact ⟨rfl, rfl⟩))
    (fun os started H enc _ => buildReads_lifted os started H enc)

end Go.Proofs.Ytmfihmkopmgelaa
