/-
  The law BlockSplits of the given program answers true for every input, and leaves its arguments as they were. There is no condition. Own work.
  WALKS: printed by a program of our own from the code's tree.
  WALKS: printed by a program of our own from the code's tree.
  WALKS: printed by a program of our own from the code's tree.
  WALKS: printed by a program of our own from the code's tree.
  WALKS: printed by a program of our own from the code's tree.
  RUNS STEP BY STEP, IN PLAIN LEAN: own work, over no program.
  PROGRAMS THAT DO THE SAME, ONE STEP BESIDE ANOTHER, IN PLAIN LEAN: own work, over no program.
  WHAT ONE STEP BESIDE ANOTHER COMES TO, IN PLAIN LEAN: own work, over no program.
  PROGRAMS WITH IDLE INSTRUCTIONS, WITH OTHER NAMES, AND CUT ONES, IN PLAIN LEAN: own work, over no program.
  BEGINNINGS OF STRINGS; RUNS WITH MORE FUEL: own work.
  WHAT THE RENAMING MAKES, PIECE BY PIECE: own work.
  WALKS: printed by a program of our own from the code's tree.
  BlockSplits, with its pair of bytes: own work.
-/
import Derived.Test.YtophfphgcbnafaaPBlockSplits2
import Derived.Test.YtophfphgcbnafaaPBlockSplits5
namespace Go.Proofs.Ytophfphgcbnafaa.Sv
open Go
set_option linter.unusedVariables false
set_option linter.unusedSimpArgs false

set_option maxRecDepth 100000 in
theorem sets_ok (t : Tac) : APure Try.prog 20 [.agg t.cells] (fun r => r = .int .i64 t.sets) := by
  refine APure.of_body (n := 14) tok Try.func20 rfl rfl ?_
  refine AGo.seq ?_
  refine AGo.region ?_
  refine AOps.x 1 rfl rfl rfl (o_box (sz := 8) 0 rfl rfl rfl rfl (Nat.zero_lt_succ _) rfl) ?_
  refine AOps.s 2 rfl rfl rfl (q_move (.inr rfl) rfl) ?_
  refine AOps.nil ?_
  refine AGo.seq ?_
  refine AGo.seq ?_
  refine AGo.region ?_
  refine AOps.s 3 rfl rfl rfl (q_fieldAddr tok rfl rfl rfl rfl rfl rfl) ?_
  refine AOps.s 4 rfl rfl rfl (q_load tok rfl rfl rfl (by first | exact .loc _ | exact .ptr _ _ _ _ _ _ _ _ rfl rfl rfl) rfl) ?_
  refine AOps.nil ?_
  refine AGo.block ?_
  refine AGo.seq ?_
  refine AGo.seq ?_
  refine AGo.region ?_
  refine AOps.s 6 rfl rfl rfl (q_bin rfl rfl rfl rfl) ?_
  refine AOps.s 5 rfl rfl rfl (q_move (.inr rfl) rfl) ?_
  refine AOps.nil ?_
  refine AGo.split 5 rfl (fun hb1 => ?_) (fun hb1 => ?_)
  · -- True
    refine AGo.cond_true true rfl rfl ?_
    refine AGo.skip ?_
    refine AGo.cond_true true rfl rfl ?_
    refine AGo.seq ?_
    refine AGo.region ?_
    refine AOps.s 12 rfl rfl rfl (q_fieldAddr tok rfl rfl rfl rfl rfl rfl) ?_
    refine AOps.s 13 rfl rfl rfl (q_load tok rfl rfl rfl (by first | exact .loc _ | exact .ptr _ _ _ _ _ _ _ _ rfl rfl rfl) rfl) ?_
    refine AOps.s 2 rfl rfl rfl (q_move (.inr rfl) rfl) ?_
    refine AOps.nil ?_
    refine AGo.ret ?_
    refine ⟨[_], ⟨rfl, trivial⟩, ?_, rfl⟩
    show AV.int .i64 _ = AV.int .i64 _
    congr 1
    simp [Tac.sets, setsOp, *]
  · -- False
    refine AGo.cond_false false rfl rfl ?_
    refine AGo.seq ?_
    refine AGo.region ?_
    refine AOps.s 7 rfl rfl rfl (q_bin rfl rfl rfl rfl) ?_
    refine AOps.s 5 rfl rfl rfl (q_move (.inr rfl) rfl) ?_
    refine AOps.nil ?_
    refine AGo.split 5 rfl (fun hb2 => ?_) (fun hb2 => ?_)
    · -- True
      refine AGo.cond_true true rfl rfl ?_
      refine AGo.skip ?_
      refine AGo.cond_true true rfl rfl ?_
      refine AGo.seq ?_
      refine AGo.region ?_
      refine AOps.s 12 rfl rfl rfl (q_fieldAddr tok rfl rfl rfl rfl rfl rfl) ?_
      refine AOps.s 13 rfl rfl rfl (q_load tok rfl rfl rfl (by first | exact .loc _ | exact .ptr _ _ _ _ _ _ _ _ rfl rfl rfl) rfl) ?_
      refine AOps.s 2 rfl rfl rfl (q_move (.inr rfl) rfl) ?_
      refine AOps.nil ?_
      refine AGo.ret ?_
      refine ⟨[_], ⟨rfl, trivial⟩, ?_, rfl⟩
      show AV.int .i64 _ = AV.int .i64 _
      congr 1
      simp [Tac.sets, setsOp, *]
    · -- False
      refine AGo.cond_false false rfl rfl ?_
      refine AGo.seq ?_
      refine AGo.region ?_
      refine AOps.s 8 rfl rfl rfl (q_bin rfl rfl rfl rfl) ?_
      refine AOps.s 5 rfl rfl rfl (q_move (.inr rfl) rfl) ?_
      refine AOps.nil ?_
      refine AGo.split 5 rfl (fun hb3 => ?_) (fun hb3 => ?_)
      · -- True
        refine AGo.cond_true true rfl rfl ?_
        refine AGo.skip ?_
        refine AGo.cond_true true rfl rfl ?_
        refine AGo.seq ?_
        refine AGo.region ?_
        refine AOps.s 12 rfl rfl rfl (q_fieldAddr tok rfl rfl rfl rfl rfl rfl) ?_
        refine AOps.s 13 rfl rfl rfl (q_load tok rfl rfl rfl (by first | exact .loc _ | exact .ptr _ _ _ _ _ _ _ _ rfl rfl rfl) rfl) ?_
        refine AOps.s 2 rfl rfl rfl (q_move (.inr rfl) rfl) ?_
        refine AOps.nil ?_
        refine AGo.ret ?_
        refine ⟨[_], ⟨rfl, trivial⟩, ?_, rfl⟩
        show AV.int .i64 _ = AV.int .i64 _
        congr 1
        simp [Tac.sets, setsOp, *]
      · -- False
        refine AGo.cond_false false rfl rfl ?_
        refine AGo.seq ?_
        refine AGo.region ?_
        refine AOps.s 9 rfl rfl rfl (q_bin rfl rfl rfl rfl) ?_
        refine AOps.s 5 rfl rfl rfl (q_move (.inr rfl) rfl) ?_
        refine AOps.nil ?_
        refine AGo.split 5 rfl (fun hb4 => ?_) (fun hb4 => ?_)
        · -- True
          refine AGo.cond_true true rfl rfl ?_
          refine AGo.skip ?_
          refine AGo.cond_true true rfl rfl ?_
          refine AGo.seq ?_
          refine AGo.region ?_
          refine AOps.s 12 rfl rfl rfl (q_fieldAddr tok rfl rfl rfl rfl rfl rfl) ?_
          refine AOps.s 13 rfl rfl rfl (q_load tok rfl rfl rfl (by first | exact .loc _ | exact .ptr _ _ _ _ _ _ _ _ rfl rfl rfl) rfl) ?_
          refine AOps.s 2 rfl rfl rfl (q_move (.inr rfl) rfl) ?_
          refine AOps.nil ?_
          refine AGo.ret ?_
          refine ⟨[_], ⟨rfl, trivial⟩, ?_, rfl⟩
          show AV.int .i64 _ = AV.int .i64 _
          congr 1
          simp [Tac.sets, setsOp, *]
        · -- False
          refine AGo.cond_false false rfl rfl ?_
          refine AGo.seq ?_
          refine AGo.region ?_
          refine AOps.s 10 rfl rfl rfl (q_bin rfl rfl rfl rfl) ?_
          refine AOps.s 5 rfl rfl rfl (q_move (.inr rfl) rfl) ?_
          refine AOps.nil ?_
          refine AGo.split 5 rfl (fun hb5 => ?_) (fun hb5 => ?_)
          · -- True
            refine AGo.cond_true true rfl rfl ?_
            refine AGo.skip ?_
            refine AGo.cond_true true rfl rfl ?_
            refine AGo.seq ?_
            refine AGo.region ?_
            refine AOps.s 12 rfl rfl rfl (q_fieldAddr tok rfl rfl rfl rfl rfl rfl) ?_
            refine AOps.s 13 rfl rfl rfl (q_load tok rfl rfl rfl (by first | exact .loc _ | exact .ptr _ _ _ _ _ _ _ _ rfl rfl rfl) rfl) ?_
            refine AOps.s 2 rfl rfl rfl (q_move (.inr rfl) rfl) ?_
            refine AOps.nil ?_
            refine AGo.ret ?_
            refine ⟨[_], ⟨rfl, trivial⟩, ?_, rfl⟩
            show AV.int .i64 _ = AV.int .i64 _
            congr 1
            simp [Tac.sets, setsOp, *]
          · -- False
            refine AGo.cond_false false rfl rfl ?_
            refine AGo.region ?_
            refine AOps.s 11 rfl rfl rfl (q_bin rfl rfl rfl rfl) ?_
            refine AOps.s 5 rfl rfl rfl (q_move (.inr rfl) rfl) ?_
            refine AOps.nil ?_
            refine AGo.split 5 rfl (fun hb6 => ?_) (fun hb6 => ?_)
            · -- True
              refine AGo.cond_true true rfl rfl ?_
              refine AGo.seq ?_
              refine AGo.region ?_
              refine AOps.s 12 rfl rfl rfl (q_fieldAddr tok rfl rfl rfl rfl rfl rfl) ?_
              refine AOps.s 13 rfl rfl rfl (q_load tok rfl rfl rfl (by first | exact .loc _ | exact .ptr _ _ _ _ _ _ _ _ rfl rfl rfl) rfl) ?_
              refine AOps.s 2 rfl rfl rfl (q_move (.inr rfl) rfl) ?_
              refine AOps.nil ?_
              refine AGo.ret ?_
              refine ⟨[_], ⟨rfl, trivial⟩, ?_, rfl⟩
              show AV.int .i64 _ = AV.int .i64 _
              congr 1
              simp [Tac.sets, setsOp, *]
            · -- False
              refine AGo.cond_false false rfl rfl ?_
              refine AGo.skip ?_
              refine AGo.seq ?_
              refine AGo.region ?_
              refine AOps.s 2 rfl rfl rfl (q_move (.inr rfl) rfl) ?_
              refine AOps.nil ?_
              refine AGo.ret ?_
              refine ⟨[_], ⟨rfl, trivial⟩, ?_, rfl⟩
              show AV.int .i64 _ = AV.int .i64 _
              congr 1
              simp [Tac.sets, setsOp, *]

set_option maxRecDepth 100000 in
theorem uses_ok (t : Tac) : APure Try.prog 18 [.agg t.cells] (fun r => r = intsAV t.uses) := by
  refine APure.of_body (n := 21) tok Try.func18 rfl rfl ?_
  refine AGo.seq ?_
  refine AGo.region ?_
  refine AOps.x 1 rfl rfl rfl (o_box (sz := 8) 0 rfl rfl rfl rfl (Nat.zero_lt_succ _) rfl) ?_
  refine AOps.s 2 rfl rfl rfl (q_move (.inr rfl) rfl) ?_
  refine AOps.nil ?_
  refine AGo.seq ?_
  refine AGo.seq ?_
  refine AGo.region ?_
  refine AOps.s 3 rfl rfl rfl (q_fieldAddr tok rfl rfl rfl rfl rfl rfl) ?_
  refine AOps.s 4 rfl rfl rfl (q_load tok rfl rfl rfl (by first | exact .loc _ | exact .ptr _ _ _ _ _ _ _ _ rfl rfl rfl) rfl) ?_
  refine AOps.nil ?_
  refine AGo.block ?_
  refine AGo.seq ?_
  refine AGo.seq ?_
  refine AGo.region ?_
  refine AOps.s 6 rfl rfl rfl (q_bin rfl rfl rfl rfl) ?_
  refine AOps.s 5 rfl rfl rfl (q_move (.inr rfl) rfl) ?_
  refine AOps.nil ?_
  refine AGo.split 5 rfl (fun hb1 => ?_) (fun hb1 => ?_)
  · -- True
    refine AGo.cond_true true rfl rfl ?_
    refine AGo.skip ?_
    refine AGo.cond_true true rfl rfl ?_
    refine AGo.seq ?_
    refine AGo.region ?_
    refine AOps.s 10 rfl rfl rfl (q_fieldAddr tok rfl rfl rfl rfl rfl rfl) ?_
    refine AOps.s 11 rfl rfl rfl (q_load tok rfl rfl rfl (by first | exact .loc _ | exact .ptr _ _ _ _ _ _ _ _ rfl rfl rfl) rfl) ?_
    refine AOps.x 12 rfl rfl rfl (o_lit' tok rfl rfl rfl rfl rfl rfl (by decide) rfl rfl rfl rfl rfl rfl) ?_
    refine AOps.s 2 rfl rfl rfl (q_move (.inr rfl) rfl) ?_
    refine AOps.nil ?_
    refine AGo.ret ?_
    refine ⟨[_], ⟨rfl, trivial⟩, ?_, rfl⟩
    show AV.lst false _ = _
    simp [Tac.uses, use1, use2, intsAV, partVals, AV.cells, *]
  · -- False
    refine AGo.cond_false false rfl rfl ?_
    refine AGo.seq ?_
    refine AGo.region ?_
    refine AOps.s 7 rfl rfl rfl (q_bin rfl rfl rfl rfl) ?_
    refine AOps.s 5 rfl rfl rfl (q_move (.inr rfl) rfl) ?_
    refine AOps.nil ?_
    refine AGo.split 5 rfl (fun hb2 => ?_) (fun hb2 => ?_)
    · -- True
      refine AGo.cond_true true rfl rfl ?_
      refine AGo.skip ?_
      refine AGo.cond_true true rfl rfl ?_
      refine AGo.seq ?_
      refine AGo.region ?_
      refine AOps.s 10 rfl rfl rfl (q_fieldAddr tok rfl rfl rfl rfl rfl rfl) ?_
      refine AOps.s 11 rfl rfl rfl (q_load tok rfl rfl rfl (by first | exact .loc _ | exact .ptr _ _ _ _ _ _ _ _ rfl rfl rfl) rfl) ?_
      refine AOps.x 12 rfl rfl rfl (o_lit' tok rfl rfl rfl rfl rfl rfl (by decide) rfl rfl rfl rfl rfl rfl) ?_
      refine AOps.s 2 rfl rfl rfl (q_move (.inr rfl) rfl) ?_
      refine AOps.nil ?_
      refine AGo.ret ?_
      refine ⟨[_], ⟨rfl, trivial⟩, ?_, rfl⟩
      show AV.lst false _ = _
      simp [Tac.uses, use1, use2, intsAV, partVals, AV.cells, *]
    · -- False
      refine AGo.cond_false false rfl rfl ?_
      refine AGo.seq ?_
      refine AGo.region ?_
      refine AOps.s 8 rfl rfl rfl (q_bin rfl rfl rfl rfl) ?_
      refine AOps.s 5 rfl rfl rfl (q_move (.inr rfl) rfl) ?_
      refine AOps.nil ?_
      refine AGo.split 5 rfl (fun hb3 => ?_) (fun hb3 => ?_)
      · -- True
        refine AGo.cond_true true rfl rfl ?_
        refine AGo.skip ?_
        refine AGo.cond_true true rfl rfl ?_
        refine AGo.seq ?_
        refine AGo.region ?_
        refine AOps.s 10 rfl rfl rfl (q_fieldAddr tok rfl rfl rfl rfl rfl rfl) ?_
        refine AOps.s 11 rfl rfl rfl (q_load tok rfl rfl rfl (by first | exact .loc _ | exact .ptr _ _ _ _ _ _ _ _ rfl rfl rfl) rfl) ?_
        refine AOps.x 12 rfl rfl rfl (o_lit' tok rfl rfl rfl rfl rfl rfl (by decide) rfl rfl rfl rfl rfl rfl) ?_
        refine AOps.s 2 rfl rfl rfl (q_move (.inr rfl) rfl) ?_
        refine AOps.nil ?_
        refine AGo.ret ?_
        refine ⟨[_], ⟨rfl, trivial⟩, ?_, rfl⟩
        show AV.lst false _ = _
        simp [Tac.uses, use1, use2, intsAV, partVals, AV.cells, *]
      · -- False
        refine AGo.cond_false false rfl rfl ?_
        refine AGo.region ?_
        refine AOps.s 9 rfl rfl rfl (q_bin rfl rfl rfl rfl) ?_
        refine AOps.s 5 rfl rfl rfl (q_move (.inr rfl) rfl) ?_
        refine AOps.nil ?_
        refine AGo.split 5 rfl (fun hb4 => ?_) (fun hb4 => ?_)
        · -- True
          refine AGo.cond_true true rfl rfl ?_
          refine AGo.seq ?_
          refine AGo.region ?_
          refine AOps.s 10 rfl rfl rfl (q_fieldAddr tok rfl rfl rfl rfl rfl rfl) ?_
          refine AOps.s 11 rfl rfl rfl (q_load tok rfl rfl rfl (by first | exact .loc _ | exact .ptr _ _ _ _ _ _ _ _ rfl rfl rfl) rfl) ?_
          refine AOps.x 12 rfl rfl rfl (o_lit' tok rfl rfl rfl rfl rfl rfl (by decide) rfl rfl rfl rfl rfl rfl) ?_
          refine AOps.s 2 rfl rfl rfl (q_move (.inr rfl) rfl) ?_
          refine AOps.nil ?_
          refine AGo.ret ?_
          refine ⟨[_], ⟨rfl, trivial⟩, ?_, rfl⟩
          show AV.lst false _ = _
          simp [Tac.uses, use1, use2, intsAV, partVals, AV.cells, *]
        · -- False
          refine AGo.cond_false false rfl rfl ?_
          refine AGo.seq ?_
          refine AGo.seq ?_
          refine AGo.region ?_
          refine AOps.s 14 rfl rfl rfl (q_bin rfl rfl rfl rfl) ?_
          refine AOps.s 13 rfl rfl rfl (q_move (.inr rfl) rfl) ?_
          refine AOps.nil ?_
          refine AGo.split 13 rfl (fun hb5 => ?_) (fun hb5 => ?_)
          · -- True
            refine AGo.cond_true true rfl rfl ?_
            refine AGo.skip ?_
            refine AGo.cond_true true rfl rfl ?_
            refine AGo.seq ?_
            refine AGo.region ?_
            refine AOps.s 16 rfl rfl rfl (q_fieldAddr tok rfl rfl rfl rfl rfl rfl) ?_
            refine AOps.s 17 rfl rfl rfl (q_load tok rfl rfl rfl (by first | exact .loc _ | exact .ptr _ _ _ _ _ _ _ _ rfl rfl rfl) rfl) ?_
            refine AOps.s 18 rfl rfl rfl (q_fieldAddr tok rfl rfl rfl rfl rfl rfl) ?_
            refine AOps.s 19 rfl rfl rfl (q_load tok rfl rfl rfl (by first | exact .loc _ | exact .ptr _ _ _ _ _ _ _ _ rfl rfl rfl) rfl) ?_
            refine AOps.x 20 rfl rfl rfl (o_lit' tok rfl rfl rfl rfl rfl rfl (by decide) rfl rfl rfl rfl rfl rfl) ?_
            refine AOps.s 2 rfl rfl rfl (q_move (.inr rfl) rfl) ?_
            refine AOps.nil ?_
            refine AGo.ret ?_
            refine ⟨[_], ⟨rfl, trivial⟩, ?_, rfl⟩
            show AV.lst false _ = _
            simp [Tac.uses, use1, use2, intsAV, partVals, AV.cells, *]
          · -- False
            refine AGo.cond_false false rfl rfl ?_
            refine AGo.region ?_
            refine AOps.s 15 rfl rfl rfl (q_bin rfl rfl rfl rfl) ?_
            refine AOps.s 13 rfl rfl rfl (q_move (.inr rfl) rfl) ?_
            refine AOps.nil ?_
            refine AGo.split 13 rfl (fun hb6 => ?_) (fun hb6 => ?_)
            · -- True
              refine AGo.cond_true true rfl rfl ?_
              refine AGo.seq ?_
              refine AGo.region ?_
              refine AOps.s 16 rfl rfl rfl (q_fieldAddr tok rfl rfl rfl rfl rfl rfl) ?_
              refine AOps.s 17 rfl rfl rfl (q_load tok rfl rfl rfl (by first | exact .loc _ | exact .ptr _ _ _ _ _ _ _ _ rfl rfl rfl) rfl) ?_
              refine AOps.s 18 rfl rfl rfl (q_fieldAddr tok rfl rfl rfl rfl rfl rfl) ?_
              refine AOps.s 19 rfl rfl rfl (q_load tok rfl rfl rfl (by first | exact .loc _ | exact .ptr _ _ _ _ _ _ _ _ rfl rfl rfl) rfl) ?_
              refine AOps.x 20 rfl rfl rfl (o_lit' tok rfl rfl rfl rfl rfl rfl (by decide) rfl rfl rfl rfl rfl rfl) ?_
              refine AOps.s 2 rfl rfl rfl (q_move (.inr rfl) rfl) ?_
              refine AOps.nil ?_
              refine AGo.ret ?_
              refine ⟨[_], ⟨rfl, trivial⟩, ?_, rfl⟩
              show AV.lst false _ = _
              simp [Tac.uses, use1, use2, intsAV, partVals, AV.cells, *]
            · -- False
              refine AGo.cond_false false rfl rfl ?_
              refine AGo.skip ?_
              refine AGo.seq ?_
              refine AGo.region ?_
              refine AOps.s 2 rfl rfl rfl (q_move (.inr rfl) rfl) ?_
              refine AOps.nil ?_
              refine AGo.ghost (.empty 2 rfl) ?_
              refine AGo.ret ?_
              refine ⟨[_], ⟨rfl, trivial⟩, ?_, rfl⟩
              show AV.lst false _ = _
              simp [Tac.uses, use1, use2, intsAV, partVals, AV.cells, *]

set_option maxRecDepth 100000 in
theorem within_ok (i j : Int) : APure Try.prog 52 [.int .i64 i, .int .i64 j] (fun r => r = .bool (within i j)) := by
  refine APure.of_body (n := 12) tok Try.func52 rfl rfl ?_
  refine AGo.seq ?_
  refine AGo.region ?_
  refine AOps.s 4 rfl rfl rfl (q_move (.inr rfl) rfl) ?_
  refine AOps.nil ?_
  refine AGo.seq ?_
  refine AGo.region ?_
  refine AOps.s 5 rfl rfl rfl (q_move (.inl rfl) rfl) ?_
  refine AOps.s 6 rfl rfl rfl (q_bin rfl rfl rfl rfl) ?_
  refine AOps.s 7 rfl rfl rfl (q_move (.inl rfl) rfl) ?_
  refine AOps.split 7 rfl (fun hb1 => ?_) (fun hb1 => ?_)
  · -- True
    refine AOps.s 8 rfl rfl rfl (q_move (.inl rfl) rfl) ?_
    refine AOps.s 9 rfl rfl rfl (q_move (.inl rfl) rfl) ?_
    refine AOps.s 10 rfl rfl rfl (q_bin rfl rfl rfl rfl) ?_
    refine AOps.s 11 rfl rfl rfl (q_pick_true true rfl rfl rfl rfl) ?_
    refine AOps.s 4 rfl rfl rfl (q_move (.inr rfl) rfl) ?_
    refine AOps.nil ?_
    refine AGo.ret ?_
    refine ⟨[_], ⟨rfl, trivial⟩, ?_, rfl⟩
    show AV.bool _ = AV.bool _
    congr 1
    simp_all [within] <;> omega
  · -- False
    refine AOps.k 8 rfl rfl rfl ?_
    refine AOps.k 9 rfl rfl rfl ?_
    refine AOps.k 10 rfl rfl rfl ?_
    refine AOps.s 11 rfl rfl rfl (q_pick_false false rfl rfl rfl rfl) ?_
    refine AOps.s 4 rfl rfl rfl (q_move (.inr rfl) rfl) ?_
    refine AOps.nil ?_
    refine AGo.ret ?_
    refine ⟨[_], ⟨rfl, trivial⟩, ?_, rfl⟩
    show AV.bool _ = AV.bool _
    congr 1
    simp_all [within] <;> omega

set_option maxRecDepth 100000 in
theorem ends_ok (b : Block) (blocks regs : Int) : APure Try.prog 45 [.agg b.cells, .int .i64 blocks, .int .i64 regs] (fun r => r = .bool (b.ends blocks regs)) := by
  refine APure.of_body (n := 61) tok Try.func45 rfl rfl ?_
  refine AGo.seq ?_
  refine AGo.region ?_
  refine AOps.x 3 rfl rfl rfl (o_box (sz := 5) 0 rfl rfl rfl rfl (Nat.zero_lt_succ _) rfl) ?_
  refine AOps.s 6 rfl rfl rfl (q_move (.inr rfl) rfl) ?_
  refine AOps.nil ?_
  refine AGo.seq ?_
  refine AGo.seq ?_
  refine AGo.region ?_
  refine AOps.s 7 rfl rfl rfl (q_fieldAddr tok rfl rfl rfl rfl rfl rfl) ?_
  refine AOps.s 8 rfl rfl rfl (q_load tok rfl rfl rfl (by first | exact .loc _ | exact .ptr _ _ _ _ _ _ _ _ rfl rfl rfl) rfl) ?_
  refine AOps.nil ?_
  refine AGo.block ?_
  refine AGo.seq ?_
  refine AGo.region ?_
  refine AOps.s 10 rfl rfl rfl (q_bin rfl rfl rfl rfl) ?_
  refine AOps.s 9 rfl rfl rfl (q_move (.inr rfl) rfl) ?_
  refine AOps.nil ?_
  refine AGo.split 9 rfl (fun hb1 => ?_) (fun hb1 => ?_)
  · -- True
    refine AGo.cond_true true rfl rfl ?_
    refine AGo.seq ?_
    refine AGo.region ?_
    refine AOps.s 11 rfl rfl rfl (q_fieldAddr tok rfl rfl rfl rfl rfl rfl) ?_
    refine AOps.s 12 rfl rfl rfl (q_load tok rfl rfl rfl (by first | exact .loc _ | exact .ptr _ _ _ _ _ _ _ _ rfl rfl rfl) rfl) ?_
    refine AOps.s 13 rfl rfl rfl (q_move (.inl rfl) rfl) ?_
    refine AOps.x 14 rfl rfl rfl (o_pure rfl Try.func52 (by kernel_rfl) rfl rfl rfl (within_ok _ _)) ?_
    refine AOps.s 15 rfl rfl rfl (q_move (.inl rfl) rfl) ?_
    refine AOps.split 15 rfl (fun hb2 => ?_) (fun hb2 => ?_)
    · -- True
      refine AOps.s 16 rfl rfl rfl (q_fieldAddr tok rfl rfl rfl rfl rfl rfl) ?_
      refine AOps.s 17 rfl rfl rfl (q_load tok rfl rfl rfl (by first | exact .loc _ | exact .ptr _ _ _ _ _ _ _ _ rfl rfl rfl) rfl) ?_
      refine AOps.s 18 rfl rfl rfl (q_bin rfl rfl rfl rfl) ?_
      refine AOps.s 19 rfl rfl rfl (q_pick_true true rfl rfl rfl rfl) ?_
      refine AOps.s 20 rfl rfl rfl (q_move (.inl rfl) rfl) ?_
      refine AOps.split 20 rfl (fun hb3 => ?_) (fun hb3 => ?_)
      · -- True
        refine AOps.s 21 rfl rfl rfl (q_fieldAddr tok rfl rfl rfl rfl rfl rfl) ?_
        refine AOps.s 22 rfl rfl rfl (q_load tok rfl rfl rfl (by first | exact .loc _ | exact .ptr _ _ _ _ _ _ _ _ rfl rfl rfl) rfl) ?_
        refine AOps.s 23 rfl rfl rfl (q_bin rfl rfl rfl rfl) ?_
        refine AOps.s 24 rfl rfl rfl (q_pick_true true rfl rfl rfl rfl) ?_
        refine AOps.s 6 rfl rfl rfl (q_move (.inr rfl) rfl) ?_
        refine AOps.nil ?_
        refine AGo.ret ?_
        refine ⟨[_], ⟨rfl, trivial⟩, ?_, rfl⟩
        show AV.bool _ = AV.bool _
        congr 1
        simp_all [Block.ends]
      · -- False
        refine AOps.k 21 rfl rfl rfl ?_
        refine AOps.k 22 rfl rfl rfl ?_
        refine AOps.k 23 rfl rfl rfl ?_
        refine AOps.s 24 rfl rfl rfl (q_pick_false false rfl rfl rfl rfl) ?_
        refine AOps.s 6 rfl rfl rfl (q_move (.inr rfl) rfl) ?_
        refine AOps.nil ?_
        refine AGo.ret ?_
        refine ⟨[_], ⟨rfl, trivial⟩, ?_, rfl⟩
        show AV.bool _ = AV.bool _
        congr 1
        simp_all [Block.ends]
    · -- False
      refine AOps.k 16 rfl rfl rfl ?_
      refine AOps.k 17 rfl rfl rfl ?_
      refine AOps.k 18 rfl rfl rfl ?_
      refine AOps.s 19 rfl rfl rfl (q_pick_false false rfl rfl rfl rfl) ?_
      refine AOps.s 20 rfl rfl rfl (q_move (.inl rfl) rfl) ?_
      refine AOps.k 21 rfl rfl rfl ?_
      refine AOps.k 22 rfl rfl rfl ?_
      refine AOps.k 23 rfl rfl rfl ?_
      refine AOps.s 24 rfl rfl rfl (q_pick_false false rfl rfl rfl rfl) ?_
      refine AOps.s 6 rfl rfl rfl (q_move (.inr rfl) rfl) ?_
      refine AOps.nil ?_
      refine AGo.ret ?_
      refine ⟨[_], ⟨rfl, trivial⟩, ?_, rfl⟩
      show AV.bool _ = AV.bool _
      congr 1
      simp_all [Block.ends]
  · -- False
    refine AGo.cond_false false rfl rfl ?_
    refine AGo.seq ?_
    refine AGo.region ?_
    refine AOps.s 26 rfl rfl rfl (q_bin rfl rfl rfl rfl) ?_
    refine AOps.s 25 rfl rfl rfl (q_move (.inr rfl) rfl) ?_
    refine AOps.nil ?_
    refine AGo.split 25 rfl (fun hb4 => ?_) (fun hb4 => ?_)
    · -- True
      refine AGo.cond_true true rfl rfl ?_
      refine AGo.seq ?_
      refine AGo.region ?_
      refine AOps.s 27 rfl rfl rfl (q_fieldAddr tok rfl rfl rfl rfl rfl rfl) ?_
      refine AOps.s 28 rfl rfl rfl (q_load tok rfl rfl rfl (by first | exact .loc _ | exact .ptr _ _ _ _ _ _ _ _ rfl rfl rfl) rfl) ?_
      refine AOps.s 29 rfl rfl rfl (q_move (.inl rfl) rfl) ?_
      refine AOps.x 30 rfl rfl rfl (o_pure rfl Try.func52 (by kernel_rfl) rfl rfl rfl (within_ok _ _)) ?_
      refine AOps.s 31 rfl rfl rfl (q_move (.inl rfl) rfl) ?_
      refine AOps.split 31 rfl (fun hb5 => ?_) (fun hb5 => ?_)
      · -- True
        refine AOps.s 32 rfl rfl rfl (q_fieldAddr tok rfl rfl rfl rfl rfl rfl) ?_
        refine AOps.s 33 rfl rfl rfl (q_load tok rfl rfl rfl (by first | exact .loc _ | exact .ptr _ _ _ _ _ _ _ _ rfl rfl rfl) rfl) ?_
        refine AOps.s 34 rfl rfl rfl (q_move (.inl rfl) rfl) ?_
        refine AOps.x 35 rfl rfl rfl (o_pure rfl Try.func52 (by kernel_rfl) rfl rfl rfl (within_ok _ _)) ?_
        refine AOps.s 36 rfl rfl rfl (q_pick_true true rfl rfl rfl rfl) ?_
        refine AOps.s 37 rfl rfl rfl (q_move (.inl rfl) rfl) ?_
        refine AOps.split 37 rfl (fun hb6 => ?_) (fun hb6 => ?_)
        · -- True
          refine AOps.s 38 rfl rfl rfl (q_fieldAddr tok rfl rfl rfl rfl rfl rfl) ?_
          refine AOps.s 39 rfl rfl rfl (q_load tok rfl rfl rfl (by first | exact .loc _ | exact .ptr _ _ _ _ _ _ _ _ rfl rfl rfl) rfl) ?_
          refine AOps.s 40 rfl rfl rfl (q_move (.inl rfl) rfl) ?_
          refine AOps.x 41 rfl rfl rfl (o_pure rfl Try.func52 (by kernel_rfl) rfl rfl rfl (within_ok _ _)) ?_
          refine AOps.s 42 rfl rfl rfl (q_pick_true true rfl rfl rfl rfl) ?_
          refine AOps.s 6 rfl rfl rfl (q_move (.inr rfl) rfl) ?_
          refine AOps.nil ?_
          refine AGo.ret ?_
          refine ⟨[_], ⟨rfl, trivial⟩, ?_, rfl⟩
          show AV.bool _ = AV.bool _
          congr 1
          simp_all [Block.ends]
        · -- False
          refine AOps.k 38 rfl rfl rfl ?_
          refine AOps.k 39 rfl rfl rfl ?_
          refine AOps.k 40 rfl rfl rfl ?_
          refine AOps.k 41 rfl rfl rfl ?_
          refine AOps.s 42 rfl rfl rfl (q_pick_false false rfl rfl rfl rfl) ?_
          refine AOps.s 6 rfl rfl rfl (q_move (.inr rfl) rfl) ?_
          refine AOps.nil ?_
          refine AGo.ret ?_
          refine ⟨[_], ⟨rfl, trivial⟩, ?_, rfl⟩
          show AV.bool _ = AV.bool _
          congr 1
          simp_all [Block.ends]
      · -- False
        refine AOps.k 32 rfl rfl rfl ?_
        refine AOps.k 33 rfl rfl rfl ?_
        refine AOps.k 34 rfl rfl rfl ?_
        refine AOps.k 35 rfl rfl rfl ?_
        refine AOps.s 36 rfl rfl rfl (q_pick_false false rfl rfl rfl rfl) ?_
        refine AOps.s 37 rfl rfl rfl (q_move (.inl rfl) rfl) ?_
        refine AOps.k 38 rfl rfl rfl ?_
        refine AOps.k 39 rfl rfl rfl ?_
        refine AOps.k 40 rfl rfl rfl ?_
        refine AOps.k 41 rfl rfl rfl ?_
        refine AOps.s 42 rfl rfl rfl (q_pick_false false rfl rfl rfl rfl) ?_
        refine AOps.s 6 rfl rfl rfl (q_move (.inr rfl) rfl) ?_
        refine AOps.nil ?_
        refine AGo.ret ?_
        refine ⟨[_], ⟨rfl, trivial⟩, ?_, rfl⟩
        show AV.bool _ = AV.bool _
        congr 1
        simp_all [Block.ends]
    · -- False
      refine AGo.cond_false false rfl rfl ?_
      refine AGo.skip ?_
      refine AGo.seq ?_
      refine AGo.region ?_
      refine AOps.s 43 rfl rfl rfl (q_fieldAddr tok rfl rfl rfl rfl rfl rfl) ?_
      refine AOps.s 44 rfl rfl rfl (q_load tok rfl rfl rfl (by first | exact .loc _ | exact .ptr _ _ _ _ _ _ _ _ rfl rfl rfl) rfl) ?_
      refine AOps.s 45 rfl rfl rfl (q_bin rfl rfl rfl rfl) ?_
      refine AOps.s 46 rfl rfl rfl (q_move (.inl rfl) rfl) ?_
      refine AOps.split 46 rfl (fun hb7 => ?_) (fun hb7 => ?_)
      · -- True
        refine AOps.s 47 rfl rfl rfl (q_fieldAddr tok rfl rfl rfl rfl rfl rfl) ?_
        refine AOps.s 48 rfl rfl rfl (q_load tok rfl rfl rfl (by first | exact .loc _ | exact .ptr _ _ _ _ _ _ _ _ rfl rfl rfl) rfl) ?_
        refine AOps.s 49 rfl rfl rfl (q_bin rfl rfl rfl rfl) ?_
        refine AOps.s 50 rfl rfl rfl (q_pick_true true rfl rfl rfl rfl) ?_
        refine AOps.s 51 rfl rfl rfl (q_move (.inl rfl) rfl) ?_
        refine AOps.split 51 rfl (fun hb8 => ?_) (fun hb8 => ?_)
        · -- True
          refine AOps.s 52 rfl rfl rfl (q_fieldAddr tok rfl rfl rfl rfl rfl rfl) ?_
          refine AOps.s 53 rfl rfl rfl (q_load tok rfl rfl rfl (by first | exact .loc _ | exact .ptr _ _ _ _ _ _ _ _ rfl rfl rfl) rfl) ?_
          refine AOps.s 54 rfl rfl rfl (q_bin rfl rfl rfl rfl) ?_
          refine AOps.s 55 rfl rfl rfl (q_pick_true true rfl rfl rfl rfl) ?_
          refine AOps.s 56 rfl rfl rfl (q_move (.inl rfl) rfl) ?_
          refine AOps.split 56 rfl (fun hb9 => ?_) (fun hb9 => ?_)
          · -- True
            refine AOps.s 57 rfl rfl rfl (q_fieldAddr tok rfl rfl rfl rfl rfl rfl) ?_
            refine AOps.s 58 rfl rfl rfl (q_load tok rfl rfl rfl (by first | exact .loc _ | exact .ptr _ _ _ _ _ _ _ _ rfl rfl rfl) rfl) ?_
            refine AOps.s 59 rfl rfl rfl (q_bin rfl rfl rfl rfl) ?_
            refine AOps.s 60 rfl rfl rfl (q_pick_true true rfl rfl rfl rfl) ?_
            refine AOps.s 6 rfl rfl rfl (q_move (.inr rfl) rfl) ?_
            refine AOps.nil ?_
            refine AGo.ret ?_
            refine ⟨[_], ⟨rfl, trivial⟩, ?_, rfl⟩
            show AV.bool _ = AV.bool _
            congr 1
            simp_all [Block.ends]
          · -- False
            refine AOps.k 57 rfl rfl rfl ?_
            refine AOps.k 58 rfl rfl rfl ?_
            refine AOps.k 59 rfl rfl rfl ?_
            refine AOps.s 60 rfl rfl rfl (q_pick_false false rfl rfl rfl rfl) ?_
            refine AOps.s 6 rfl rfl rfl (q_move (.inr rfl) rfl) ?_
            refine AOps.nil ?_
            refine AGo.ret ?_
            refine ⟨[_], ⟨rfl, trivial⟩, ?_, rfl⟩
            show AV.bool _ = AV.bool _
            congr 1
            simp_all [Block.ends]
        · -- False
          refine AOps.k 52 rfl rfl rfl ?_
          refine AOps.k 53 rfl rfl rfl ?_
          refine AOps.k 54 rfl rfl rfl ?_
          refine AOps.s 55 rfl rfl rfl (q_pick_false false rfl rfl rfl rfl) ?_
          refine AOps.s 56 rfl rfl rfl (q_move (.inl rfl) rfl) ?_
          refine AOps.k 57 rfl rfl rfl ?_
          refine AOps.k 58 rfl rfl rfl ?_
          refine AOps.k 59 rfl rfl rfl ?_
          refine AOps.s 60 rfl rfl rfl (q_pick_false false rfl rfl rfl rfl) ?_
          refine AOps.s 6 rfl rfl rfl (q_move (.inr rfl) rfl) ?_
          refine AOps.nil ?_
          refine AGo.ret ?_
          refine ⟨[_], ⟨rfl, trivial⟩, ?_, rfl⟩
          show AV.bool _ = AV.bool _
          congr 1
          simp_all [Block.ends]
      · -- False
        refine AOps.k 47 rfl rfl rfl ?_
        refine AOps.k 48 rfl rfl rfl ?_
        refine AOps.k 49 rfl rfl rfl ?_
        refine AOps.s 50 rfl rfl rfl (q_pick_false false rfl rfl rfl rfl) ?_
        refine AOps.s 51 rfl rfl rfl (q_move (.inl rfl) rfl) ?_
        refine AOps.k 52 rfl rfl rfl ?_
        refine AOps.k 53 rfl rfl rfl ?_
        refine AOps.k 54 rfl rfl rfl ?_
        refine AOps.s 55 rfl rfl rfl (q_pick_false false rfl rfl rfl rfl) ?_
        refine AOps.s 56 rfl rfl rfl (q_move (.inl rfl) rfl) ?_
        refine AOps.k 57 rfl rfl rfl ?_
        refine AOps.k 58 rfl rfl rfl ?_
        refine AOps.k 59 rfl rfl rfl ?_
        refine AOps.s 60 rfl rfl rfl (q_pick_false false rfl rfl rfl rfl) ?_
        refine AOps.s 6 rfl rfl rfl (q_move (.inr rfl) rfl) ?_
        refine AOps.nil ?_
        refine AGo.ret ?_
        refine ⟨[_], ⟨rfl, trivial⟩, ?_, rfl⟩
        show AV.bool _ = AV.bool _
        congr 1
        simp_all [Block.ends]

set_option maxRecDepth 100000 in
theorem fits_ok (t : Tac) (f regs words : Int) (hw : 0 ≤ words) (hw2 : words ≤ 1048576) : APure Try.prog 46 [.agg t.cells, .int .i64 f, .int .i64 regs, .int .i64 words] (fun r => r = .bool (t.fits f regs words)) := by
  refine APure.of_body (n := 166) tok Try.func46 rfl rfl ?_
  refine AGo.seq ?_
  refine AGo.region ?_
  refine AOps.x 4 rfl rfl rfl (o_box (sz := 8) 0 rfl rfl rfl rfl (Nat.zero_lt_succ _) rfl) ?_
  refine AOps.s 8 rfl rfl rfl (q_move (.inr rfl) rfl) ?_
  refine AOps.nil ?_
  refine AGo.seq ?_
  refine AGo.seq ?_
  refine AGo.region ?_
  refine AOps.s 12 rfl rfl rfl (q_fieldAddr tok rfl rfl rfl rfl rfl rfl) ?_
  refine AOps.s 13 rfl rfl rfl (q_load tok rfl rfl rfl (by first | exact .loc _ | exact .ptr _ _ _ _ _ _ _ _ rfl rfl rfl) rfl) ?_
  refine AOps.s 14 rfl rfl rfl (q_bin rfl rfl rfl rfl) ?_
  refine AOps.s 15 rfl rfl rfl (q_move (.inl rfl) rfl) ?_
  refine AOps.split 15 rfl (fun hb1 => ?_) (fun hb1 => ?_)
  · -- True
    refine AOps.k 16 rfl rfl rfl ?_
    refine AOps.k 17 rfl rfl rfl ?_
    refine AOps.k 18 rfl rfl rfl ?_
    refine AOps.s 19 rfl rfl rfl (q_pick_true true rfl rfl rfl rfl) ?_
    refine AOps.nil ?_
    refine AGo.cond_true true rfl rfl ?_
    refine AGo.seq ?_
    refine AGo.region ?_
    refine AOps.s 8 rfl rfl rfl (q_move (.inr rfl) rfl) ?_
    refine AOps.nil ?_
    refine AGo.ret ?_
    refine ⟨[_], ⟨rfl, trivial⟩, ?_, rfl⟩
    show AV.bool _ = AV.bool _
    congr 1
    exact (fits_op (by simp_all <;> omega)).symm
  · -- False
    refine AOps.s 16 rfl rfl rfl (q_fieldAddr tok rfl rfl rfl rfl rfl rfl) ?_
    refine AOps.s 17 rfl rfl rfl (q_load tok rfl rfl rfl (by first | exact .loc _ | exact .ptr _ _ _ _ _ _ _ _ rfl rfl rfl) rfl) ?_
    refine AOps.s 18 rfl rfl rfl (q_bin rfl rfl rfl rfl) ?_
    refine AOps.s 19 rfl rfl rfl (q_pick_false false rfl rfl rfl rfl) ?_
    refine AOps.nil ?_
    refine AGo.split 19 rfl (fun hb2 => ?_) (fun hb2 => ?_)
    · -- True
      refine AGo.cond_true true rfl rfl ?_
      refine AGo.seq ?_
      refine AGo.region ?_
      refine AOps.s 8 rfl rfl rfl (q_move (.inr rfl) rfl) ?_
      refine AOps.nil ?_
      refine AGo.ret ?_
      refine ⟨[_], ⟨rfl, trivial⟩, ?_, rfl⟩
      show AV.bool _ = AV.bool _
      congr 1
      exact (fits_op (by simp_all <;> omega)).symm
    · -- False
      refine AGo.cond_false false rfl rfl ?_
      refine AGo.skip ?_
      refine AGo.seq ?_
      refine AGo.region ?_
      refine AOps.s 20 rfl rfl rfl (q_fieldAddr tok rfl rfl rfl rfl rfl rfl) ?_
      refine AOps.s 21 rfl rfl rfl (q_load tok rfl rfl rfl (by first | exact .loc _ | exact .ptr _ _ _ _ _ _ _ _ rfl rfl rfl) rfl) ?_
      refine AOps.s 22 rfl rfl rfl (q_build tok rfl rfl rfl rfl rfl (by decide) rfl rfl rfl) ?_
      refine AOps.x 9 rfl rfl rfl (o_alloc tok 1 rfl rfl rfl rfl (Nat.zero_lt_succ _) rfl) ?_
      refine AOps.w rfl rfl (o_store tok rfl rfl rfl rfl rfl rfl rfl rfl rfl (by decide) rfl (by first | exact fun _ => rfl | (intro h; cases h))) ?_
      refine AOps.nil ?_
      refine AGo.seq ?_
      refine AGo.join (γ := Int) (fun d => ⟨166, (eput (eput (eput (eput (eput eNew 1 (.int .i64 f)) 2 (.int .i64 regs)) 3 (.int .i64 words)) 4 (.ptr 0 1 0 0)) 9 (.ptr 1 1 0 0)), (hput (hput (hFrom 2) 0 (.row false 8 [t.cells])) 1 (.row false 8 [[.int .i64 t.op, .int .i64 d, .int .i64 0, .int .i64 0, .int .i64 0, .int .i64 0, .int .i64 0, .int .u32 0]]))⟩) (fun d => (!setsOp t.op || within t.d regs) = true ∧ d = bif setsOp t.op then t.d else 0) ?_ ?_
      · -- to the join
        refine AGo.seq ?_
        refine AGo.region ?_
        refine AOps.s 23 rfl rfl rfl (q_load tok rfl rfl rfl (by first | exact .loc _ | exact .ptr _ _ _ _ _ _ _ _ rfl rfl rfl) rfl) ?_
        refine AOps.x 24 rfl rfl rfl (o_pure rfl Try.func20 (by kernel_rfl) rfl rfl rfl (sets_ok _)) ?_
        refine AOps.s 25 rfl rfl rfl (q_bin rfl rfl rfl rfl) ?_
        refine AOps.s 26 rfl rfl rfl (q_move (.inl rfl) rfl) ?_
        refine AOps.split 26 rfl (fun hb3 => ?_) (fun hb3 => ?_)
        · -- True
          refine AOps.k 27 rfl rfl rfl ?_
          refine AOps.k 28 rfl rfl rfl ?_
          refine AOps.k 29 rfl rfl rfl ?_
          refine AOps.s 30 rfl rfl rfl (q_pick_true true rfl rfl rfl rfl) ?_
          refine AOps.s 31 rfl rfl rfl (q_move (.inl rfl) rfl) ?_
          refine AOps.k 32 rfl rfl rfl ?_
          refine AOps.k 33 rfl rfl rfl ?_
          refine AOps.k 34 rfl rfl rfl ?_
          refine AOps.s 35 rfl rfl rfl (q_pick_true true rfl rfl rfl rfl) ?_
          refine AOps.s 36 rfl rfl rfl (q_move (.inl rfl) rfl) ?_
          refine AOps.k 37 rfl rfl rfl ?_
          refine AOps.k 38 rfl rfl rfl ?_
          refine AOps.k 39 rfl rfl rfl ?_
          refine AOps.s 40 rfl rfl rfl (q_pick_true true rfl rfl rfl rfl) ?_
          refine AOps.s 41 rfl rfl rfl (q_move (.inl rfl) rfl) ?_
          refine AOps.k 42 rfl rfl rfl ?_
          refine AOps.k 43 rfl rfl rfl ?_
          refine AOps.k 44 rfl rfl rfl ?_
          refine AOps.s 45 rfl rfl rfl (q_pick_true true rfl rfl rfl rfl) ?_
          refine AOps.s 46 rfl rfl rfl (q_move (.inl rfl) rfl) ?_
          refine AOps.k 47 rfl rfl rfl ?_
          refine AOps.k 48 rfl rfl rfl ?_
          refine AOps.k 49 rfl rfl rfl ?_
          refine AOps.s 50 rfl rfl rfl (q_pick_true true rfl rfl rfl rfl) ?_
          refine AOps.s 51 rfl rfl rfl (q_move (.inl rfl) rfl) ?_
          refine AOps.k 52 rfl rfl rfl ?_
          refine AOps.k 53 rfl rfl rfl ?_
          refine AOps.k 54 rfl rfl rfl ?_
          refine AOps.s 55 rfl rfl rfl (q_pick_true true rfl rfl rfl rfl) ?_
          refine AOps.nil ?_
          refine AGo.cond_true true rfl rfl ?_
          refine AGo.seq ?_
          refine AGo.region ?_
          refine AOps.s 56 rfl rfl rfl (q_fieldAddr tok rfl rfl rfl rfl rfl rfl) ?_
          refine AOps.s 57 rfl rfl rfl (q_load tok rfl rfl rfl (by first | exact .loc _ | exact .ptr _ _ _ _ _ _ _ _ rfl rfl rfl) rfl) ?_
          refine AOps.s 58 rfl rfl rfl (q_fieldAddr tok rfl rfl rfl rfl rfl rfl) ?_
          refine AOps.w rfl rfl (o_store tok rfl rfl rfl rfl rfl rfl rfl rfl rfl (by decide) rfl (by first | exact fun _ => rfl | (intro h; cases h))) ?_
          refine AOps.nil ?_
          refine AGo.seq ?_
          refine AGo.region ?_
          refine AOps.s 59 rfl rfl rfl (q_fieldAddr tok rfl rfl rfl rfl rfl rfl) ?_
          refine AOps.s 60 rfl rfl rfl (q_load tok rfl rfl rfl (by first | exact .loc _ | exact .ptr _ _ _ _ _ _ _ _ rfl rfl rfl) rfl) ?_
          refine AOps.s 61 rfl rfl rfl (q_move (.inl rfl) rfl) ?_
          refine AOps.x 62 rfl rfl rfl (o_pure rfl Try.func52 (by kernel_rfl) rfl rfl rfl (within_ok _ _)) ?_
          refine AOps.s 63 rfl rfl rfl (q_not rfl rfl) ?_
          refine AOps.nil ?_
          refine AGo.split 63 rfl (fun hb4 => ?_) (fun hb4 => ?_)
          · -- True
            refine AGo.cond_true true rfl rfl ?_
            refine AGo.seq ?_
            refine AGo.region ?_
            refine AOps.s 8 rfl rfl rfl (q_move (.inr rfl) rfl) ?_
            refine AOps.nil ?_
            refine AGo.ret ?_
            refine ⟨[_], ⟨rfl, trivial⟩, ?_, rfl⟩
            show AV.bool _ = AV.bool _
            congr 1
            exact (fits_d (by first | (simp [setsOp, *]; done) | exact sets_pos ‹_›) (by simpa using ‹(!within t.d regs) = true›)).symm
          · -- False
            refine AGo.cond_false false rfl rfl ?_
            refine AGo.skip ?_
            exact ⟨t.d, Sub.mk' (by repeat (first | exact ESub.new _ | refine ESub.put ?_ (by rfl))) (by repeat (first | exact HSub.none _ | exact HSub.from_new _ | exact HSub.from_from (by decide) | refine HSub.put ?_ (by rfl) | refine HSub.from_put ?_ (by decide) | refine HSub.from_rm ?_ (by decide))), ⟨by have h := ‹(!within t.d regs) = false›; simp at h; simp [h], by first | (simp [setsOp, *]; done) | simp [sets_pos ‹_›]⟩⟩
        · -- False
          refine AOps.s 27 rfl rfl rfl (q_fieldAddr tok rfl rfl rfl rfl rfl rfl) ?_
          refine AOps.s 28 rfl rfl rfl (q_load tok rfl rfl rfl (by first | exact .loc _ | exact .ptr _ _ _ _ _ _ _ _ rfl rfl rfl) rfl) ?_
          refine AOps.s 29 rfl rfl rfl (q_bin rfl rfl rfl rfl) ?_
          refine AOps.s 30 rfl rfl rfl (q_pick_false false rfl rfl rfl rfl) ?_
          refine AOps.s 31 rfl rfl rfl (q_move (.inl rfl) rfl) ?_
          refine AOps.split 31 rfl (fun hb5 => ?_) (fun hb5 => ?_)
          · -- True
            refine AOps.k 32 rfl rfl rfl ?_
            refine AOps.k 33 rfl rfl rfl ?_
            refine AOps.k 34 rfl rfl rfl ?_
            refine AOps.s 35 rfl rfl rfl (q_pick_true true rfl rfl rfl rfl) ?_
            refine AOps.s 36 rfl rfl rfl (q_move (.inl rfl) rfl) ?_
            refine AOps.k 37 rfl rfl rfl ?_
            refine AOps.k 38 rfl rfl rfl ?_
            refine AOps.k 39 rfl rfl rfl ?_
            refine AOps.s 40 rfl rfl rfl (q_pick_true true rfl rfl rfl rfl) ?_
            refine AOps.s 41 rfl rfl rfl (q_move (.inl rfl) rfl) ?_
            refine AOps.k 42 rfl rfl rfl ?_
            refine AOps.k 43 rfl rfl rfl ?_
            refine AOps.k 44 rfl rfl rfl ?_
            refine AOps.s 45 rfl rfl rfl (q_pick_true true rfl rfl rfl rfl) ?_
            refine AOps.s 46 rfl rfl rfl (q_move (.inl rfl) rfl) ?_
            refine AOps.k 47 rfl rfl rfl ?_
            refine AOps.k 48 rfl rfl rfl ?_
            refine AOps.k 49 rfl rfl rfl ?_
            refine AOps.s 50 rfl rfl rfl (q_pick_true true rfl rfl rfl rfl) ?_
            refine AOps.s 51 rfl rfl rfl (q_move (.inl rfl) rfl) ?_
            refine AOps.k 52 rfl rfl rfl ?_
            refine AOps.k 53 rfl rfl rfl ?_
            refine AOps.k 54 rfl rfl rfl ?_
            refine AOps.s 55 rfl rfl rfl (q_pick_true true rfl rfl rfl rfl) ?_
            refine AOps.nil ?_
            refine AGo.cond_true true rfl rfl ?_
            refine AGo.seq ?_
            refine AGo.region ?_
            refine AOps.s 56 rfl rfl rfl (q_fieldAddr tok rfl rfl rfl rfl rfl rfl) ?_
            refine AOps.s 57 rfl rfl rfl (q_load tok rfl rfl rfl (by first | exact .loc _ | exact .ptr _ _ _ _ _ _ _ _ rfl rfl rfl) rfl) ?_
            refine AOps.s 58 rfl rfl rfl (q_fieldAddr tok rfl rfl rfl rfl rfl rfl) ?_
            refine AOps.w rfl rfl (o_store tok rfl rfl rfl rfl rfl rfl rfl rfl rfl (by decide) rfl (by first | exact fun _ => rfl | (intro h; cases h))) ?_
            refine AOps.nil ?_
            refine AGo.seq ?_
            refine AGo.region ?_
            refine AOps.s 59 rfl rfl rfl (q_fieldAddr tok rfl rfl rfl rfl rfl rfl) ?_
            refine AOps.s 60 rfl rfl rfl (q_load tok rfl rfl rfl (by first | exact .loc _ | exact .ptr _ _ _ _ _ _ _ _ rfl rfl rfl) rfl) ?_
            refine AOps.s 61 rfl rfl rfl (q_move (.inl rfl) rfl) ?_
            refine AOps.x 62 rfl rfl rfl (o_pure rfl Try.func52 (by kernel_rfl) rfl rfl rfl (within_ok _ _)) ?_
            refine AOps.s 63 rfl rfl rfl (q_not rfl rfl) ?_
            refine AOps.nil ?_
            refine AGo.split 63 rfl (fun hb6 => ?_) (fun hb6 => ?_)
            · -- True
              refine AGo.cond_true true rfl rfl ?_
              refine AGo.seq ?_
              refine AGo.region ?_
              refine AOps.s 8 rfl rfl rfl (q_move (.inr rfl) rfl) ?_
              refine AOps.nil ?_
              refine AGo.ret ?_
              refine ⟨[_], ⟨rfl, trivial⟩, ?_, rfl⟩
              show AV.bool _ = AV.bool _
              congr 1
              exact (fits_d (by first | (simp [setsOp, *]; done) | exact sets_pos ‹_›) (by simpa using ‹(!within t.d regs) = true›)).symm
            · -- False
              refine AGo.cond_false false rfl rfl ?_
              refine AGo.skip ?_
              exact ⟨t.d, Sub.mk' (by repeat (first | exact ESub.new _ | refine ESub.put ?_ (by rfl))) (by repeat (first | exact HSub.none _ | exact HSub.from_new _ | exact HSub.from_from (by decide) | refine HSub.put ?_ (by rfl) | refine HSub.from_put ?_ (by decide) | refine HSub.from_rm ?_ (by decide))), ⟨by have h := ‹(!within t.d regs) = false›; simp at h; simp [h], by first | (simp [setsOp, *]; done) | simp [sets_pos ‹_›]⟩⟩
          · -- False
            refine AOps.s 32 rfl rfl rfl (q_fieldAddr tok rfl rfl rfl rfl rfl rfl) ?_
            refine AOps.s 33 rfl rfl rfl (q_load tok rfl rfl rfl (by first | exact .loc _ | exact .ptr _ _ _ _ _ _ _ _ rfl rfl rfl) rfl) ?_
            refine AOps.s 34 rfl rfl rfl (q_bin rfl rfl rfl rfl) ?_
            refine AOps.s 35 rfl rfl rfl (q_pick_false false rfl rfl rfl rfl) ?_
            refine AOps.s 36 rfl rfl rfl (q_move (.inl rfl) rfl) ?_
            refine AOps.split 36 rfl (fun hb7 => ?_) (fun hb7 => ?_)
            · -- True
              refine AOps.k 37 rfl rfl rfl ?_
              refine AOps.k 38 rfl rfl rfl ?_
              refine AOps.k 39 rfl rfl rfl ?_
              refine AOps.s 40 rfl rfl rfl (q_pick_true true rfl rfl rfl rfl) ?_
              refine AOps.s 41 rfl rfl rfl (q_move (.inl rfl) rfl) ?_
              refine AOps.k 42 rfl rfl rfl ?_
              refine AOps.k 43 rfl rfl rfl ?_
              refine AOps.k 44 rfl rfl rfl ?_
              refine AOps.s 45 rfl rfl rfl (q_pick_true true rfl rfl rfl rfl) ?_
              refine AOps.s 46 rfl rfl rfl (q_move (.inl rfl) rfl) ?_
              refine AOps.k 47 rfl rfl rfl ?_
              refine AOps.k 48 rfl rfl rfl ?_
              refine AOps.k 49 rfl rfl rfl ?_
              refine AOps.s 50 rfl rfl rfl (q_pick_true true rfl rfl rfl rfl) ?_
              refine AOps.s 51 rfl rfl rfl (q_move (.inl rfl) rfl) ?_
              refine AOps.k 52 rfl rfl rfl ?_
              refine AOps.k 53 rfl rfl rfl ?_
              refine AOps.k 54 rfl rfl rfl ?_
              refine AOps.s 55 rfl rfl rfl (q_pick_true true rfl rfl rfl rfl) ?_
              refine AOps.nil ?_
              refine AGo.cond_true true rfl rfl ?_
              refine AGo.seq ?_
              refine AGo.region ?_
              refine AOps.s 56 rfl rfl rfl (q_fieldAddr tok rfl rfl rfl rfl rfl rfl) ?_
              refine AOps.s 57 rfl rfl rfl (q_load tok rfl rfl rfl (by first | exact .loc _ | exact .ptr _ _ _ _ _ _ _ _ rfl rfl rfl) rfl) ?_
              refine AOps.s 58 rfl rfl rfl (q_fieldAddr tok rfl rfl rfl rfl rfl rfl) ?_
              refine AOps.w rfl rfl (o_store tok rfl rfl rfl rfl rfl rfl rfl rfl rfl (by decide) rfl (by first | exact fun _ => rfl | (intro h; cases h))) ?_
              refine AOps.nil ?_
              refine AGo.seq ?_
              refine AGo.region ?_
              refine AOps.s 59 rfl rfl rfl (q_fieldAddr tok rfl rfl rfl rfl rfl rfl) ?_
              refine AOps.s 60 rfl rfl rfl (q_load tok rfl rfl rfl (by first | exact .loc _ | exact .ptr _ _ _ _ _ _ _ _ rfl rfl rfl) rfl) ?_
              refine AOps.s 61 rfl rfl rfl (q_move (.inl rfl) rfl) ?_
              refine AOps.x 62 rfl rfl rfl (o_pure rfl Try.func52 (by kernel_rfl) rfl rfl rfl (within_ok _ _)) ?_
              refine AOps.s 63 rfl rfl rfl (q_not rfl rfl) ?_
              refine AOps.nil ?_
              refine AGo.split 63 rfl (fun hb8 => ?_) (fun hb8 => ?_)
              · -- True
                refine AGo.cond_true true rfl rfl ?_
                refine AGo.seq ?_
                refine AGo.region ?_
                refine AOps.s 8 rfl rfl rfl (q_move (.inr rfl) rfl) ?_
                refine AOps.nil ?_
                refine AGo.ret ?_
                refine ⟨[_], ⟨rfl, trivial⟩, ?_, rfl⟩
                show AV.bool _ = AV.bool _
                congr 1
                exact (fits_d (by first | (simp [setsOp, *]; done) | exact sets_pos ‹_›) (by simpa using ‹(!within t.d regs) = true›)).symm
              · -- False
                refine AGo.cond_false false rfl rfl ?_
                refine AGo.skip ?_
                exact ⟨t.d, Sub.mk' (by repeat (first | exact ESub.new _ | refine ESub.put ?_ (by rfl))) (by repeat (first | exact HSub.none _ | exact HSub.from_new _ | exact HSub.from_from (by decide) | refine HSub.put ?_ (by rfl) | refine HSub.from_put ?_ (by decide) | refine HSub.from_rm ?_ (by decide))), ⟨by have h := ‹(!within t.d regs) = false›; simp at h; simp [h], by first | (simp [setsOp, *]; done) | simp [sets_pos ‹_›]⟩⟩
            · -- False
              refine AOps.s 37 rfl rfl rfl (q_fieldAddr tok rfl rfl rfl rfl rfl rfl) ?_
              refine AOps.s 38 rfl rfl rfl (q_load tok rfl rfl rfl (by first | exact .loc _ | exact .ptr _ _ _ _ _ _ _ _ rfl rfl rfl) rfl) ?_
              refine AOps.s 39 rfl rfl rfl (q_bin rfl rfl rfl rfl) ?_
              refine AOps.s 40 rfl rfl rfl (q_pick_false false rfl rfl rfl rfl) ?_
              refine AOps.s 41 rfl rfl rfl (q_move (.inl rfl) rfl) ?_
              refine AOps.split 41 rfl (fun hb9 => ?_) (fun hb9 => ?_)
              · -- True
                refine AOps.k 42 rfl rfl rfl ?_
                refine AOps.k 43 rfl rfl rfl ?_
                refine AOps.k 44 rfl rfl rfl ?_
                refine AOps.s 45 rfl rfl rfl (q_pick_true true rfl rfl rfl rfl) ?_
                refine AOps.s 46 rfl rfl rfl (q_move (.inl rfl) rfl) ?_
                refine AOps.k 47 rfl rfl rfl ?_
                refine AOps.k 48 rfl rfl rfl ?_
                refine AOps.k 49 rfl rfl rfl ?_
                refine AOps.s 50 rfl rfl rfl (q_pick_true true rfl rfl rfl rfl) ?_
                refine AOps.s 51 rfl rfl rfl (q_move (.inl rfl) rfl) ?_
                refine AOps.k 52 rfl rfl rfl ?_
                refine AOps.k 53 rfl rfl rfl ?_
                refine AOps.k 54 rfl rfl rfl ?_
                refine AOps.s 55 rfl rfl rfl (q_pick_true true rfl rfl rfl rfl) ?_
                refine AOps.nil ?_
                refine AGo.cond_true true rfl rfl ?_
                refine AGo.seq ?_
                refine AGo.region ?_
                refine AOps.s 56 rfl rfl rfl (q_fieldAddr tok rfl rfl rfl rfl rfl rfl) ?_
                refine AOps.s 57 rfl rfl rfl (q_load tok rfl rfl rfl (by first | exact .loc _ | exact .ptr _ _ _ _ _ _ _ _ rfl rfl rfl) rfl) ?_
                refine AOps.s 58 rfl rfl rfl (q_fieldAddr tok rfl rfl rfl rfl rfl rfl) ?_
                refine AOps.w rfl rfl (o_store tok rfl rfl rfl rfl rfl rfl rfl rfl rfl (by decide) rfl (by first | exact fun _ => rfl | (intro h; cases h))) ?_
                refine AOps.nil ?_
                refine AGo.seq ?_
                refine AGo.region ?_
                refine AOps.s 59 rfl rfl rfl (q_fieldAddr tok rfl rfl rfl rfl rfl rfl) ?_
                refine AOps.s 60 rfl rfl rfl (q_load tok rfl rfl rfl (by first | exact .loc _ | exact .ptr _ _ _ _ _ _ _ _ rfl rfl rfl) rfl) ?_
                refine AOps.s 61 rfl rfl rfl (q_move (.inl rfl) rfl) ?_
                refine AOps.x 62 rfl rfl rfl (o_pure rfl Try.func52 (by kernel_rfl) rfl rfl rfl (within_ok _ _)) ?_
                refine AOps.s 63 rfl rfl rfl (q_not rfl rfl) ?_
                refine AOps.nil ?_
                refine AGo.split 63 rfl (fun hb10 => ?_) (fun hb10 => ?_)
                · -- True
                  refine AGo.cond_true true rfl rfl ?_
                  refine AGo.seq ?_
                  refine AGo.region ?_
                  refine AOps.s 8 rfl rfl rfl (q_move (.inr rfl) rfl) ?_
                  refine AOps.nil ?_
                  refine AGo.ret ?_
                  refine ⟨[_], ⟨rfl, trivial⟩, ?_, rfl⟩
                  show AV.bool _ = AV.bool _
                  congr 1
                  exact (fits_d (by first | (simp [setsOp, *]; done) | exact sets_pos ‹_›) (by simpa using ‹(!within t.d regs) = true›)).symm
                · -- False
                  refine AGo.cond_false false rfl rfl ?_
                  refine AGo.skip ?_
                  exact ⟨t.d, Sub.mk' (by repeat (first | exact ESub.new _ | refine ESub.put ?_ (by rfl))) (by repeat (first | exact HSub.none _ | exact HSub.from_new _ | exact HSub.from_from (by decide) | refine HSub.put ?_ (by rfl) | refine HSub.from_put ?_ (by decide) | refine HSub.from_rm ?_ (by decide))), ⟨by have h := ‹(!within t.d regs) = false›; simp at h; simp [h], by first | (simp [setsOp, *]; done) | simp [sets_pos ‹_›]⟩⟩
              · -- False
                refine AOps.s 42 rfl rfl rfl (q_fieldAddr tok rfl rfl rfl rfl rfl rfl) ?_
                refine AOps.s 43 rfl rfl rfl (q_load tok rfl rfl rfl (by first | exact .loc _ | exact .ptr _ _ _ _ _ _ _ _ rfl rfl rfl) rfl) ?_
                refine AOps.s 44 rfl rfl rfl (q_bin rfl rfl rfl rfl) ?_
                refine AOps.s 45 rfl rfl rfl (q_pick_false false rfl rfl rfl rfl) ?_
                refine AOps.s 46 rfl rfl rfl (q_move (.inl rfl) rfl) ?_
                refine AOps.split 46 rfl (fun hb11 => ?_) (fun hb11 => ?_)
                · -- True
                  refine AOps.k 47 rfl rfl rfl ?_
                  refine AOps.k 48 rfl rfl rfl ?_
                  refine AOps.k 49 rfl rfl rfl ?_
                  refine AOps.s 50 rfl rfl rfl (q_pick_true true rfl rfl rfl rfl) ?_
                  refine AOps.s 51 rfl rfl rfl (q_move (.inl rfl) rfl) ?_
                  refine AOps.k 52 rfl rfl rfl ?_
                  refine AOps.k 53 rfl rfl rfl ?_
                  refine AOps.k 54 rfl rfl rfl ?_
                  refine AOps.s 55 rfl rfl rfl (q_pick_true true rfl rfl rfl rfl) ?_
                  refine AOps.nil ?_
                  refine AGo.cond_true true rfl rfl ?_
                  refine AGo.seq ?_
                  refine AGo.region ?_
                  refine AOps.s 56 rfl rfl rfl (q_fieldAddr tok rfl rfl rfl rfl rfl rfl) ?_
                  refine AOps.s 57 rfl rfl rfl (q_load tok rfl rfl rfl (by first | exact .loc _ | exact .ptr _ _ _ _ _ _ _ _ rfl rfl rfl) rfl) ?_
                  refine AOps.s 58 rfl rfl rfl (q_fieldAddr tok rfl rfl rfl rfl rfl rfl) ?_
                  refine AOps.w rfl rfl (o_store tok rfl rfl rfl rfl rfl rfl rfl rfl rfl (by decide) rfl (by first | exact fun _ => rfl | (intro h; cases h))) ?_
                  refine AOps.nil ?_
                  refine AGo.seq ?_
                  refine AGo.region ?_
                  refine AOps.s 59 rfl rfl rfl (q_fieldAddr tok rfl rfl rfl rfl rfl rfl) ?_
                  refine AOps.s 60 rfl rfl rfl (q_load tok rfl rfl rfl (by first | exact .loc _ | exact .ptr _ _ _ _ _ _ _ _ rfl rfl rfl) rfl) ?_
                  refine AOps.s 61 rfl rfl rfl (q_move (.inl rfl) rfl) ?_
                  refine AOps.x 62 rfl rfl rfl (o_pure rfl Try.func52 (by kernel_rfl) rfl rfl rfl (within_ok _ _)) ?_
                  refine AOps.s 63 rfl rfl rfl (q_not rfl rfl) ?_
                  refine AOps.nil ?_
                  refine AGo.split 63 rfl (fun hb12 => ?_) (fun hb12 => ?_)
                  · -- True
                    refine AGo.cond_true true rfl rfl ?_
                    refine AGo.seq ?_
                    refine AGo.region ?_
                    refine AOps.s 8 rfl rfl rfl (q_move (.inr rfl) rfl) ?_
                    refine AOps.nil ?_
                    refine AGo.ret ?_
                    refine ⟨[_], ⟨rfl, trivial⟩, ?_, rfl⟩
                    show AV.bool _ = AV.bool _
                    congr 1
                    exact (fits_d (by first | (simp [setsOp, *]; done) | exact sets_pos ‹_›) (by simpa using ‹(!within t.d regs) = true›)).symm
                  · -- False
                    refine AGo.cond_false false rfl rfl ?_
                    refine AGo.skip ?_
                    exact ⟨t.d, Sub.mk' (by repeat (first | exact ESub.new _ | refine ESub.put ?_ (by rfl))) (by repeat (first | exact HSub.none _ | exact HSub.from_new _ | exact HSub.from_from (by decide) | refine HSub.put ?_ (by rfl) | refine HSub.from_put ?_ (by decide) | refine HSub.from_rm ?_ (by decide))), ⟨by have h := ‹(!within t.d regs) = false›; simp at h; simp [h], by first | (simp [setsOp, *]; done) | simp [sets_pos ‹_›]⟩⟩
                · -- False
                  refine AOps.s 47 rfl rfl rfl (q_fieldAddr tok rfl rfl rfl rfl rfl rfl) ?_
                  refine AOps.s 48 rfl rfl rfl (q_load tok rfl rfl rfl (by first | exact .loc _ | exact .ptr _ _ _ _ _ _ _ _ rfl rfl rfl) rfl) ?_
                  refine AOps.s 49 rfl rfl rfl (q_bin rfl rfl rfl rfl) ?_
                  refine AOps.s 50 rfl rfl rfl (q_pick_false false rfl rfl rfl rfl) ?_
                  refine AOps.s 51 rfl rfl rfl (q_move (.inl rfl) rfl) ?_
                  refine AOps.split 51 rfl (fun hb13 => ?_) (fun hb13 => ?_)
                  · -- True
                    refine AOps.k 52 rfl rfl rfl ?_
                    refine AOps.k 53 rfl rfl rfl ?_
                    refine AOps.k 54 rfl rfl rfl ?_
                    refine AOps.s 55 rfl rfl rfl (q_pick_true true rfl rfl rfl rfl) ?_
                    refine AOps.nil ?_
                    refine AGo.cond_true true rfl rfl ?_
                    refine AGo.seq ?_
                    refine AGo.region ?_
                    refine AOps.s 56 rfl rfl rfl (q_fieldAddr tok rfl rfl rfl rfl rfl rfl) ?_
                    refine AOps.s 57 rfl rfl rfl (q_load tok rfl rfl rfl (by first | exact .loc _ | exact .ptr _ _ _ _ _ _ _ _ rfl rfl rfl) rfl) ?_
                    refine AOps.s 58 rfl rfl rfl (q_fieldAddr tok rfl rfl rfl rfl rfl rfl) ?_
                    refine AOps.w rfl rfl (o_store tok rfl rfl rfl rfl rfl rfl rfl rfl rfl (by decide) rfl (by first | exact fun _ => rfl | (intro h; cases h))) ?_
                    refine AOps.nil ?_
                    refine AGo.seq ?_
                    refine AGo.region ?_
                    refine AOps.s 59 rfl rfl rfl (q_fieldAddr tok rfl rfl rfl rfl rfl rfl) ?_
                    refine AOps.s 60 rfl rfl rfl (q_load tok rfl rfl rfl (by first | exact .loc _ | exact .ptr _ _ _ _ _ _ _ _ rfl rfl rfl) rfl) ?_
                    refine AOps.s 61 rfl rfl rfl (q_move (.inl rfl) rfl) ?_
                    refine AOps.x 62 rfl rfl rfl (o_pure rfl Try.func52 (by kernel_rfl) rfl rfl rfl (within_ok _ _)) ?_
                    refine AOps.s 63 rfl rfl rfl (q_not rfl rfl) ?_
                    refine AOps.nil ?_
                    refine AGo.split 63 rfl (fun hb14 => ?_) (fun hb14 => ?_)
                    · -- True
                      refine AGo.cond_true true rfl rfl ?_
                      refine AGo.seq ?_
                      refine AGo.region ?_
                      refine AOps.s 8 rfl rfl rfl (q_move (.inr rfl) rfl) ?_
                      refine AOps.nil ?_
                      refine AGo.ret ?_
                      refine ⟨[_], ⟨rfl, trivial⟩, ?_, rfl⟩
                      show AV.bool _ = AV.bool _
                      congr 1
                      exact (fits_d (by first | (simp [setsOp, *]; done) | exact sets_pos ‹_›) (by simpa using ‹(!within t.d regs) = true›)).symm
                    · -- False
                      refine AGo.cond_false false rfl rfl ?_
                      refine AGo.skip ?_
                      exact ⟨t.d, Sub.mk' (by repeat (first | exact ESub.new _ | refine ESub.put ?_ (by rfl))) (by repeat (first | exact HSub.none _ | exact HSub.from_new _ | exact HSub.from_from (by decide) | refine HSub.put ?_ (by rfl) | refine HSub.from_put ?_ (by decide) | refine HSub.from_rm ?_ (by decide))), ⟨by have h := ‹(!within t.d regs) = false›; simp at h; simp [h], by first | (simp [setsOp, *]; done) | simp [sets_pos ‹_›]⟩⟩
                  · -- False
                    refine AOps.s 52 rfl rfl rfl (q_fieldAddr tok rfl rfl rfl rfl rfl rfl) ?_
                    refine AOps.s 53 rfl rfl rfl (q_load tok rfl rfl rfl (by first | exact .loc _ | exact .ptr _ _ _ _ _ _ _ _ rfl rfl rfl) rfl) ?_
                    refine AOps.s 54 rfl rfl rfl (q_bin rfl rfl rfl rfl) ?_
                    refine AOps.s 55 rfl rfl rfl (q_pick_false false rfl rfl rfl rfl) ?_
                    refine AOps.nil ?_
                    refine AGo.split 55 rfl (fun hb15 => ?_) (fun hb15 => ?_)
                    · -- True
                      refine AGo.cond_true true rfl rfl ?_
                      refine AGo.seq ?_
                      refine AGo.region ?_
                      refine AOps.s 56 rfl rfl rfl (q_fieldAddr tok rfl rfl rfl rfl rfl rfl) ?_
                      refine AOps.s 57 rfl rfl rfl (q_load tok rfl rfl rfl (by first | exact .loc _ | exact .ptr _ _ _ _ _ _ _ _ rfl rfl rfl) rfl) ?_
                      refine AOps.s 58 rfl rfl rfl (q_fieldAddr tok rfl rfl rfl rfl rfl rfl) ?_
                      refine AOps.w rfl rfl (o_store tok rfl rfl rfl rfl rfl rfl rfl rfl rfl (by decide) rfl (by first | exact fun _ => rfl | (intro h; cases h))) ?_
                      refine AOps.nil ?_
                      refine AGo.seq ?_
                      refine AGo.region ?_
                      refine AOps.s 59 rfl rfl rfl (q_fieldAddr tok rfl rfl rfl rfl rfl rfl) ?_
                      refine AOps.s 60 rfl rfl rfl (q_load tok rfl rfl rfl (by first | exact .loc _ | exact .ptr _ _ _ _ _ _ _ _ rfl rfl rfl) rfl) ?_
                      refine AOps.s 61 rfl rfl rfl (q_move (.inl rfl) rfl) ?_
                      refine AOps.x 62 rfl rfl rfl (o_pure rfl Try.func52 (by kernel_rfl) rfl rfl rfl (within_ok _ _)) ?_
                      refine AOps.s 63 rfl rfl rfl (q_not rfl rfl) ?_
                      refine AOps.nil ?_
                      refine AGo.split 63 rfl (fun hb16 => ?_) (fun hb16 => ?_)
                      · -- True
                        refine AGo.cond_true true rfl rfl ?_
                        refine AGo.seq ?_
                        refine AGo.region ?_
                        refine AOps.s 8 rfl rfl rfl (q_move (.inr rfl) rfl) ?_
                        refine AOps.nil ?_
                        refine AGo.ret ?_
                        refine ⟨[_], ⟨rfl, trivial⟩, ?_, rfl⟩
                        show AV.bool _ = AV.bool _
                        congr 1
                        exact (fits_d (by first | (simp [setsOp, *]; done) | exact sets_pos ‹_›) (by simpa using ‹(!within t.d regs) = true›)).symm
                      · -- False
                        refine AGo.cond_false false rfl rfl ?_
                        refine AGo.skip ?_
                        exact ⟨t.d, Sub.mk' (by repeat (first | exact ESub.new _ | refine ESub.put ?_ (by rfl))) (by repeat (first | exact HSub.none _ | exact HSub.from_new _ | exact HSub.from_from (by decide) | refine HSub.put ?_ (by rfl) | refine HSub.from_put ?_ (by decide) | refine HSub.from_rm ?_ (by decide))), ⟨by have h := ‹(!within t.d regs) = false›; simp at h; simp [h], by first | (simp [setsOp, *]; done) | simp [sets_pos ‹_›]⟩⟩
                    · -- False
                      refine AGo.cond_false false rfl rfl ?_
                      refine AGo.skip ?_
                      exact ⟨0, Sub.mk' (by repeat (first | exact ESub.new _ | refine ESub.put ?_ (by rfl))) (by repeat (first | exact HSub.none _ | exact HSub.from_new _ | exact HSub.from_from (by decide) | refine HSub.put ?_ (by rfl) | refine HSub.from_put ?_ (by decide) | refine HSub.from_rm ?_ (by decide))), ⟨by simp [setsOp, *], by simp [setsOp, *]⟩⟩
      intro d ⟨hd, hdd⟩
      refine AGo.seq ?_
      refine AGo.region ?_
      refine AOps.s 64 rfl rfl rfl (q_load tok rfl rfl rfl (by first | exact .loc _ | exact .ptr _ _ _ _ _ _ _ _ rfl rfl rfl) rfl) ?_
      refine AOps.x 65 rfl rfl rfl (o_pure rfl Try.func18 (by kernel_rfl) rfl rfl rfl (uses_ok _)) ?_
      refine AOps.s 10 rfl rfl rfl (q_move (.inr rfl) rfl) ?_
      refine AOps.nil ?_
      refine AGo.seq ?_
      refine AGo.seq ?_
      refine AGo.region ?_
      refine AOps.s 11 rfl rfl rfl (q_move (.inr rfl) rfl) ?_
      refine AOps.nil ?_
      refine AGo.block ?_
      refine AGo.loopD (γ := Nat) 2 (fun j => ⟨166, (eput (eput (eput (eput (eput (eput (eput eNew 1 (.int .i64 f)) 2 (.int .i64 regs)) 3 (.int .i64 words)) 4 (.ptr 0 1 0 0)) 9 (.ptr 1 1 0 0)) 10 (intsAV t.uses)) 11 (.int .i64 (j : Int))), (hput (hput (hFrom 2) 0 (.row false 8 [t.cells])) 1 (.row false 8 [[.int .i64 t.op, .int .i64 d, .int .i64 0, .int .i64 0, .int .i64 0, .int .i64 0, .int .i64 0, .int .u32 0]]))⟩) (fun j => (t.uses.take j).all (fun r => within r regs) = true) (fun j => t.uses.length - j) 0 (Sub.mk' (by repeat (first | exact ESub.new _ | refine ESub.put ?_ (by rfl))) (by repeat (first | exact HSub.none _ | exact HSub.from_new _ | exact HSub.from_from (by decide) | refine HSub.put ?_ (by rfl) | refine HSub.from_put ?_ (by decide) | refine HSub.from_rm ?_ (by decide)))) rfl (fun _ => hput_free (hput_free (fun b hb => hFrom_free hb) rfl) rfl) ?_
      intro j hj
      refine AGo.seq ?_
      refine AGo.seq ?_
      refine AGo.region ?_
      refine AOps.s 66 rfl rfl rfl (q_move (.inl rfl) rfl) ?_
      refine AOps.s 67 rfl rfl rfl (q_move (.inl rfl) rfl) ?_
      refine AOps.s 68 rfl rfl rfl (q_len tok rfl rfl rfl rfl rfl) ?_
      refine AOps.s 69 rfl rfl rfl (q_bin rfl rfl rfl rfl) ?_
      refine AOps.nil ?_
      refine AGo.split 69 rfl (fun hb17 => ?_) (fun hb17 => ?_)
      · -- True
        refine AGo.cond_true true rfl rfl ?_
        have hjl : j < t.uses.length := lt_of_idx hb17
        obtain ⟨u, hu⟩ := get_of_lt hjl
        refine AGo.skip ?_
        refine AGo.seq ?_
        refine AGo.block ?_
        refine AGo.seq ?_
        refine AGo.region ?_
        refine AOps.s 72 rfl rfl rfl (q_move (.inl rfl) rfl) ?_
        refine AOps.s 73 rfl rfl rfl (q_move (.inl rfl) rfl) ?_
        refine AOps.s 74 rfl rfl rfl (q_index_lst tok rfl rfl rfl rfl rfl rfl (Int.natCast_nonneg _) (idx_map (by assumption)) rfl) ?_
        refine AOps.s 75 rfl rfl rfl (q_load tok rfl rfl rfl (by first | exact .loc _ | exact .ptr _ _ _ _ _ _ _ _ rfl rfl rfl) rfl) ?_
        refine AOps.s 76 rfl rfl rfl (q_move (.inl rfl) rfl) ?_
        refine AOps.x 77 rfl rfl rfl (o_pure rfl Try.func52 (by kernel_rfl) rfl rfl rfl (within_ok _ _)) ?_
        refine AOps.s 78 rfl rfl rfl (q_not rfl rfl) ?_
        refine AOps.nil ?_
        refine AGo.split 78 rfl (fun hb18 => ?_) (fun hb18 => ?_)
        · -- True
          refine AGo.cond_true true rfl rfl ?_
          have hbw := hb18
          refine AGo.seq ?_
          refine AGo.region ?_
          refine AOps.s 8 rfl rfl rfl (q_move (.inr rfl) rfl) ?_
          refine AOps.nil ?_
          refine AGo.ret ?_
          refine ⟨[_], ⟨rfl, trivial⟩, ?_, rfl⟩
          show AV.bool _ = AV.bool _
          congr 1
          exact (fits_use (all_bad hu (by simpa using hbw))).symm
        · -- False
          refine AGo.cond_false false rfl rfl ?_
          have hbw := hb18
          refine AGo.skip ?_
          refine AGo.region ?_
          refine AOps.s 70 rfl rfl rfl (q_move (.inl rfl) rfl) ?_
          refine AOps.s 71 rfl rfl rfl (q_inc rfl rfl hjl (Nat.le_trans (uses_len t) (by decide))) ?_
          refine AOps.s 11 rfl rfl rfl (q_move (.inr rfl) rfl) ?_
          refine AOps.nil ?_
          exact ⟨j+1, Drop.mk' (by repeat (first | exact EDrop.new _ _ | refine EDrop.put ?_ (by rfl) rfl)) (by repeat (first | exact HDrop.none _ _ | exact HDrop.tail _ _ | refine HDrop.put ?_ (by rfl) rfl rfl)), all_succ hu hj (by simpa using hbw), by omega⟩
      · -- False
        refine AGo.cond_false false rfl rfl ?_
        have hall := all_end hj (ge_of_idx hb17)
        refine AGo.exit ?_
        refine AGo.seq ?_
        refine AGo.join (γ := Int) (fun a => ⟨166, (eput (eput (eput (eput (eput (eput eNew 1 (.int .i64 f)) 2 (.int .i64 regs)) 3 (.int .i64 words)) 4 (.ptr 0 1 0 0)) 9 (.ptr 1 1 0 0)) 10 (intsAV t.uses)), (hput (hput (hFrom 2) 0 (.row false 8 [t.cells])) 1 (.row false 8 [[.int .i64 t.op, .int .i64 d, .int .i64 a, .int .i64 0, .int .i64 0, .int .i64 0, .int .i64 0, .int .u32 0]]))⟩) (fun a => a = bif use1 t.op || use2 t.op then t.a else 0) ?_ ?_
        · -- to the join
          refine AGo.seq ?_
          refine AGo.region ?_
          refine AOps.s 79 rfl rfl rfl (q_move (.inl rfl) rfl) ?_
          refine AOps.s 80 rfl rfl rfl (q_len tok rfl rfl rfl rfl rfl) ?_
          refine AOps.s 81 rfl rfl rfl (q_bin rfl rfl rfl rfl) ?_
          refine AOps.nil ?_
          refine AGo.split 81 rfl (fun hb19 => ?_) (fun hb19 => ?_)
          · -- True
            refine AGo.cond_true true rfl rfl ?_
            refine AGo.region ?_
            refine AOps.s 82 rfl rfl rfl (q_fieldAddr tok rfl rfl rfl rfl rfl rfl) ?_
            refine AOps.s 83 rfl rfl rfl (q_load tok rfl rfl rfl (by first | exact .loc _ | exact .ptr _ _ _ _ _ _ _ _ rfl rfl rfl) rfl) ?_
            refine AOps.s 84 rfl rfl rfl (q_fieldAddr tok rfl rfl rfl rfl rfl rfl) ?_
            refine AOps.w rfl rfl (o_store tok rfl rfl rfl rfl rfl rfl rfl rfl rfl (by decide) rfl (by first | exact fun _ => rfl | (intro h; cases h))) ?_
            refine AOps.nil ?_
            exact ⟨t.a, Sub.mk' (by repeat (first | exact ESub.new _ | refine ESub.put ?_ (by rfl))) (by repeat (first | exact HSub.none _ | exact HSub.from_new _ | exact HSub.from_from (by decide) | refine HSub.put ?_ (by rfl) | refine HSub.from_put ?_ (by decide) | refine HSub.from_rm ?_ (by decide))), by have h3 := use12 t.op; cases h1 : use1 t.op <;> cases h2 : use2 t.op <;> simp_all [Tac.uses]⟩
          · -- False
            refine AGo.cond_false false rfl rfl ?_
            refine AGo.skip ?_
            exact ⟨0, Sub.mk' (by repeat (first | exact ESub.new _ | refine ESub.put ?_ (by rfl))) (by repeat (first | exact HSub.none _ | exact HSub.from_new _ | exact HSub.from_from (by decide) | refine HSub.put ?_ (by rfl) | refine HSub.from_put ?_ (by decide) | refine HSub.from_rm ?_ (by decide))), by have h3 := use12 t.op; cases h1 : use1 t.op <;> cases h2 : use2 t.op <;> simp_all [Tac.uses]⟩
        intro a haa
        refine AGo.seq ?_
        refine AGo.join (γ := Int) (fun b => ⟨166, (eput (eput (eput (eput (eput eNew 1 (.int .i64 f)) 2 (.int .i64 regs)) 3 (.int .i64 words)) 4 (.ptr 0 1 0 0)) 9 (.ptr 1 1 0 0)), (hput (hput (hFrom 2) 0 (.row false 8 [t.cells])) 1 (.row false 8 [[.int .i64 t.op, .int .i64 d, .int .i64 a, .int .i64 b, .int .i64 0, .int .i64 0, .int .i64 0, .int .u32 0]]))⟩) (fun b => b = bif use2 t.op then t.b else 0) ?_ ?_
        · -- to the join
          refine AGo.seq ?_
          refine AGo.region ?_
          refine AOps.s 85 rfl rfl rfl (q_move (.inl rfl) rfl) ?_
          refine AOps.s 86 rfl rfl rfl (q_len tok rfl rfl rfl rfl rfl) ?_
          refine AOps.s 87 rfl rfl rfl (q_bin rfl rfl rfl rfl) ?_
          refine AOps.nil ?_
          refine AGo.split 87 rfl (fun hb20 => ?_) (fun hb20 => ?_)
          · -- True
            refine AGo.cond_true true rfl rfl ?_
            refine AGo.region ?_
            refine AOps.s 88 rfl rfl rfl (q_fieldAddr tok rfl rfl rfl rfl rfl rfl) ?_
            refine AOps.s 89 rfl rfl rfl (q_load tok rfl rfl rfl (by first | exact .loc _ | exact .ptr _ _ _ _ _ _ _ _ rfl rfl rfl) rfl) ?_
            refine AOps.s 90 rfl rfl rfl (q_fieldAddr tok rfl rfl rfl rfl rfl rfl) ?_
            refine AOps.w rfl rfl (o_store tok rfl rfl rfl rfl rfl rfl rfl rfl rfl (by decide) rfl (by first | exact fun _ => rfl | (intro h; cases h))) ?_
            refine AOps.nil ?_
            exact ⟨t.b, Sub.mk' (by repeat (first | exact ESub.new _ | refine ESub.put ?_ (by rfl))) (by repeat (first | exact HSub.none _ | exact HSub.from_new _ | exact HSub.from_from (by decide) | refine HSub.put ?_ (by rfl) | refine HSub.from_put ?_ (by decide) | refine HSub.from_rm ?_ (by decide))), by have h3 := use12 t.op; cases h1 : use1 t.op <;> cases h2 : use2 t.op <;> simp_all [Tac.uses]⟩
          · -- False
            refine AGo.cond_false false rfl rfl ?_
            refine AGo.skip ?_
            exact ⟨0, Sub.mk' (by repeat (first | exact ESub.new _ | refine ESub.put ?_ (by rfl))) (by repeat (first | exact HSub.none _ | exact HSub.from_new _ | exact HSub.from_from (by decide) | refine HSub.put ?_ (by rfl) | refine HSub.from_put ?_ (by decide) | refine HSub.from_rm ?_ (by decide))), by have h3 := use12 t.op; cases h1 : use1 t.op <;> cases h2 : use2 t.op <;> simp_all [Tac.uses]⟩
        intro b hbb
        refine AGo.seq ?_
        refine AGo.seq ?_
        refine AGo.region ?_
        refine AOps.s 91 rfl rfl rfl (q_fieldAddr tok rfl rfl rfl rfl rfl rfl) ?_
        refine AOps.s 92 rfl rfl rfl (q_load tok rfl rfl rfl (by first | exact .loc _ | exact .ptr _ _ _ _ _ _ _ _ rfl rfl rfl) rfl) ?_
        refine AOps.nil ?_
        refine AGo.block ?_
        refine AGo.seq ?_
        refine AGo.region ?_
        refine AOps.s 94 rfl rfl rfl (q_bin rfl rfl rfl rfl) ?_
        refine AOps.s 93 rfl rfl rfl (q_move (.inr rfl) rfl) ?_
        refine AOps.nil ?_
        refine AGo.split 93 rfl (fun hb21 => ?_) (fun hb21 => ?_)
        · -- True
          refine AGo.cond_true true rfl rfl ?_
          refine AGo.region ?_
          refine AOps.s 95 rfl rfl rfl (q_fieldAddr tok rfl rfl rfl rfl rfl rfl) ?_
          refine AOps.s 96 rfl rfl rfl (q_load tok rfl rfl rfl (by first | exact .loc _ | exact .ptr _ _ _ _ _ _ _ _ rfl rfl rfl) rfl) ?_
          refine AOps.s 97 rfl rfl rfl (q_fieldAddr tok rfl rfl rfl rfl rfl rfl) ?_
          refine AOps.w rfl rfl (o_store tok rfl rfl rfl rfl rfl rfl rfl rfl rfl (by decide) rfl (by first | exact fun _ => rfl | (intro h; cases h))) ?_
          refine AOps.nil ?_
          refine AGo.seq ?_
          refine AGo.region ?_
          refine AOps.s 163 rfl rfl rfl (q_load tok rfl rfl rfl (by first | exact .loc _ | exact .ptr _ _ _ _ _ _ _ _ rfl rfl rfl) rfl) ?_
          refine AOps.s 164 rfl rfl rfl (q_load tok rfl rfl rfl (by first | exact .loc _ | exact .ptr _ _ _ _ _ _ _ _ rfl rfl rfl) rfl) ?_
          refine AOps.s 165 rfl rfl rfl (q_eqStruct tok false rfl rfl rfl (by kernel_rfl) rfl rfl rfl rfl rfl) ?_
          refine AOps.s 8 rfl rfl rfl (q_move (.inr rfl) rfl) ?_
          refine AOps.nil ?_
          refine AGo.ret ?_
          refine ⟨[_], ⟨rfl, trivial⟩, ?_, rfl⟩
          show AV.bool _ = AV.bool _
          congr 1
          have hwr : 1 ≤ t.size → t.size ≤ 4096 → IntKind.i64.wrap (words - t.size) = words - t.size := fun h1 h2 => wrap_i64 (by omega) (by omega)
          rw [fits_same hb1 hb2 hd hall (by simp_all [Tac.rest, baseOp, arrOp] <;> omega)]
          subst hdd haa hbb
          clear hd hj hall hwr hw hw2 hb1 hb2
          first | (simp_all [Tac.same, Tac.want, baseOp, arrOp, setsOp, use1, use2]; done) | simp [Tac.same, Tac.want, baseOp, arrOp, *]
        · -- False
          refine AGo.cond_false false rfl rfl ?_
          refine AGo.seq ?_
          refine AGo.region ?_
          refine AOps.s 99 rfl rfl rfl (q_bin rfl rfl rfl rfl) ?_
          refine AOps.s 98 rfl rfl rfl (q_move (.inr rfl) rfl) ?_
          refine AOps.nil ?_
          refine AGo.split 98 rfl (fun hb22 => ?_) (fun hb22 => ?_)
          · -- True
            refine AGo.cond_true true rfl rfl ?_
            refine AGo.seq ?_
            refine AGo.region ?_
            refine AOps.s 100 rfl rfl rfl (q_fieldAddr tok rfl rfl rfl rfl rfl rfl) ?_
            refine AOps.s 101 rfl rfl rfl (q_load tok rfl rfl rfl (by first | exact .loc _ | exact .ptr _ _ _ _ _ _ _ _ rfl rfl rfl) rfl) ?_
            refine AOps.s 102 rfl rfl rfl (q_fieldAddr tok rfl rfl rfl rfl rfl rfl) ?_
            refine AOps.w rfl rfl (o_store tok rfl rfl rfl rfl rfl rfl rfl rfl rfl (by decide) rfl (by first | exact fun _ => rfl | (intro h; cases h))) ?_
            refine AOps.nil ?_
            refine AGo.seq ?_
            refine AGo.region ?_
            refine AOps.s 103 rfl rfl rfl (q_fieldAddr tok rfl rfl rfl rfl rfl rfl) ?_
            refine AOps.s 104 rfl rfl rfl (q_load tok rfl rfl rfl (by first | exact .loc _ | exact .ptr _ _ _ _ _ _ _ _ rfl rfl rfl) rfl) ?_
            refine AOps.s 105 rfl rfl rfl (q_bin rfl rfl rfl rfl) ?_
            refine AOps.s 106 rfl rfl rfl (q_move (.inl rfl) rfl) ?_
            refine AOps.split 106 rfl (fun hb23 => ?_) (fun hb23 => ?_)
            · -- True
              refine AOps.k 107 rfl rfl rfl ?_
              refine AOps.k 108 rfl rfl rfl ?_
              refine AOps.k 109 rfl rfl rfl ?_
              refine AOps.s 110 rfl rfl rfl (q_pick_true true rfl rfl rfl rfl) ?_
              refine AOps.nil ?_
              refine AGo.cond_true true rfl rfl ?_
              refine AGo.seq ?_
              refine AGo.region ?_
              refine AOps.s 8 rfl rfl rfl (q_move (.inr rfl) rfl) ?_
              refine AOps.nil ?_
              refine AGo.ret ?_
              refine ⟨[_], ⟨rfl, trivial⟩, ?_, rfl⟩
              show AV.bool _ = AV.bool _
              congr 1
              exact (fits_rest (by simp_all [Tac.rest, baseOp, arrOp] <;> omega)).symm
            · -- False
              refine AOps.s 107 rfl rfl rfl (q_fieldAddr tok rfl rfl rfl rfl rfl rfl) ?_
              refine AOps.s 108 rfl rfl rfl (q_load tok rfl rfl rfl (by first | exact .loc _ | exact .ptr _ _ _ _ _ _ _ _ rfl rfl rfl) rfl) ?_
              refine AOps.s 109 rfl rfl rfl (q_bin rfl rfl rfl rfl) ?_
              refine AOps.s 110 rfl rfl rfl (q_pick_false false rfl rfl rfl rfl) ?_
              refine AOps.nil ?_
              refine AGo.split 110 rfl (fun hb24 => ?_) (fun hb24 => ?_)
              · -- True
                refine AGo.cond_true true rfl rfl ?_
                refine AGo.seq ?_
                refine AGo.region ?_
                refine AOps.s 8 rfl rfl rfl (q_move (.inr rfl) rfl) ?_
                refine AOps.nil ?_
                refine AGo.ret ?_
                refine ⟨[_], ⟨rfl, trivial⟩, ?_, rfl⟩
                show AV.bool _ = AV.bool _
                congr 1
                exact (fits_rest (by simp_all [Tac.rest, baseOp, arrOp] <;> omega)).symm
              · -- False
                refine AGo.cond_false false rfl rfl ?_
                refine AGo.skip ?_
                refine AGo.seq ?_
                refine AGo.region ?_
                refine AOps.s 163 rfl rfl rfl (q_load tok rfl rfl rfl (by first | exact .loc _ | exact .ptr _ _ _ _ _ _ _ _ rfl rfl rfl) rfl) ?_
                refine AOps.s 164 rfl rfl rfl (q_load tok rfl rfl rfl (by first | exact .loc _ | exact .ptr _ _ _ _ _ _ _ _ rfl rfl rfl) rfl) ?_
                refine AOps.s 165 rfl rfl rfl (q_eqStruct tok false rfl rfl rfl (by kernel_rfl) rfl rfl rfl rfl rfl) ?_
                refine AOps.s 8 rfl rfl rfl (q_move (.inr rfl) rfl) ?_
                refine AOps.nil ?_
                refine AGo.ret ?_
                refine ⟨[_], ⟨rfl, trivial⟩, ?_, rfl⟩
                show AV.bool _ = AV.bool _
                congr 1
                have hwr : 1 ≤ t.size → t.size ≤ 4096 → IntKind.i64.wrap (words - t.size) = words - t.size := fun h1 h2 => wrap_i64 (by omega) (by omega)
                rw [fits_same hb1 hb2 hd hall (by simp_all [Tac.rest, baseOp, arrOp] <;> omega)]
                subst hdd haa hbb
                clear hd hj hall hwr hw hw2 hb1 hb2
                first | (simp_all [Tac.same, Tac.want, baseOp, arrOp, setsOp, use1, use2]; done) | simp [Tac.same, Tac.want, baseOp, arrOp, *]
          · -- False
            refine AGo.cond_false false rfl rfl ?_
            refine AGo.seq ?_
            refine AGo.seq ?_
            refine AGo.region ?_
            refine AOps.s 112 rfl rfl rfl (q_bin rfl rfl rfl rfl) ?_
            refine AOps.s 111 rfl rfl rfl (q_move (.inr rfl) rfl) ?_
            refine AOps.nil ?_
            refine AGo.split 111 rfl (fun hb25 => ?_) (fun hb25 => ?_)
            · -- True
              refine AGo.cond_true true rfl rfl ?_
              refine AGo.skip ?_
              refine AGo.cond_true true rfl rfl ?_
              refine AGo.seq ?_
              refine AGo.region ?_
              refine AOps.s 114 rfl rfl rfl (q_fieldAddr tok rfl rfl rfl rfl rfl rfl) ?_
              refine AOps.s 115 rfl rfl rfl (q_load tok rfl rfl rfl (by first | exact .loc _ | exact .ptr _ _ _ _ _ _ _ _ rfl rfl rfl) rfl) ?_
              refine AOps.s 116 rfl rfl rfl (q_fieldAddr tok rfl rfl rfl rfl rfl rfl) ?_
              refine AOps.w rfl rfl (o_store tok rfl rfl rfl rfl rfl rfl rfl rfl rfl (by decide) rfl (by first | exact fun _ => rfl | (intro h; cases h))) ?_
              refine AOps.nil ?_
              refine AGo.seq ?_
              refine AGo.region ?_
              refine AOps.s 117 rfl rfl rfl (q_fieldAddr tok rfl rfl rfl rfl rfl rfl) ?_
              refine AOps.s 118 rfl rfl rfl (q_load tok rfl rfl rfl (by first | exact .loc _ | exact .ptr _ _ _ _ _ _ _ _ rfl rfl rfl) rfl) ?_
              refine AOps.s 119 rfl rfl rfl (q_move (.inl rfl) rfl) ?_
              refine AOps.x 120 rfl rfl rfl (o_pure rfl Try.func52 (by kernel_rfl) rfl rfl rfl (within_ok _ _)) ?_
              refine AOps.s 121 rfl rfl rfl (q_not rfl rfl) ?_
              refine AOps.nil ?_
              refine AGo.split 121 rfl (fun hb26 => ?_) (fun hb26 => ?_)
              · -- True
                refine AGo.cond_true true rfl rfl ?_
                refine AGo.seq ?_
                refine AGo.region ?_
                refine AOps.s 8 rfl rfl rfl (q_move (.inr rfl) rfl) ?_
                refine AOps.nil ?_
                refine AGo.ret ?_
                refine ⟨[_], ⟨rfl, trivial⟩, ?_, rfl⟩
                show AV.bool _ = AV.bool _
                congr 1
                exact (fits_rest (by simp_all [Tac.rest, baseOp, arrOp] <;> omega)).symm
              · -- False
                refine AGo.cond_false false rfl rfl ?_
                refine AGo.skip ?_
                refine AGo.seq ?_
                refine AGo.region ?_
                refine AOps.s 163 rfl rfl rfl (q_load tok rfl rfl rfl (by first | exact .loc _ | exact .ptr _ _ _ _ _ _ _ _ rfl rfl rfl) rfl) ?_
                refine AOps.s 164 rfl rfl rfl (q_load tok rfl rfl rfl (by first | exact .loc _ | exact .ptr _ _ _ _ _ _ _ _ rfl rfl rfl) rfl) ?_
                refine AOps.s 165 rfl rfl rfl (q_eqStruct tok false rfl rfl rfl (by kernel_rfl) rfl rfl rfl rfl rfl) ?_
                refine AOps.s 8 rfl rfl rfl (q_move (.inr rfl) rfl) ?_
                refine AOps.nil ?_
                refine AGo.ret ?_
                refine ⟨[_], ⟨rfl, trivial⟩, ?_, rfl⟩
                show AV.bool _ = AV.bool _
                congr 1
                have hwr : 1 ≤ t.size → t.size ≤ 4096 → IntKind.i64.wrap (words - t.size) = words - t.size := fun h1 h2 => wrap_i64 (by omega) (by omega)
                rw [fits_same hb1 hb2 hd hall (by simp_all [Tac.rest, baseOp, arrOp] <;> omega)]
                subst hdd haa hbb
                clear hd hj hall hwr hw hw2 hb1 hb2
                first | (simp_all [Tac.same, Tac.want, baseOp, arrOp, setsOp, use1, use2]; done) | simp [Tac.same, Tac.want, baseOp, arrOp, *]
            · -- False
              refine AGo.cond_false false rfl rfl ?_
              refine AGo.region ?_
              refine AOps.s 113 rfl rfl rfl (q_bin rfl rfl rfl rfl) ?_
              refine AOps.s 111 rfl rfl rfl (q_move (.inr rfl) rfl) ?_
              refine AOps.nil ?_
              refine AGo.split 111 rfl (fun hb27 => ?_) (fun hb27 => ?_)
              · -- True
                refine AGo.cond_true true rfl rfl ?_
                refine AGo.seq ?_
                refine AGo.region ?_
                refine AOps.s 114 rfl rfl rfl (q_fieldAddr tok rfl rfl rfl rfl rfl rfl) ?_
                refine AOps.s 115 rfl rfl rfl (q_load tok rfl rfl rfl (by first | exact .loc _ | exact .ptr _ _ _ _ _ _ _ _ rfl rfl rfl) rfl) ?_
                refine AOps.s 116 rfl rfl rfl (q_fieldAddr tok rfl rfl rfl rfl rfl rfl) ?_
                refine AOps.w rfl rfl (o_store tok rfl rfl rfl rfl rfl rfl rfl rfl rfl (by decide) rfl (by first | exact fun _ => rfl | (intro h; cases h))) ?_
                refine AOps.nil ?_
                refine AGo.seq ?_
                refine AGo.region ?_
                refine AOps.s 117 rfl rfl rfl (q_fieldAddr tok rfl rfl rfl rfl rfl rfl) ?_
                refine AOps.s 118 rfl rfl rfl (q_load tok rfl rfl rfl (by first | exact .loc _ | exact .ptr _ _ _ _ _ _ _ _ rfl rfl rfl) rfl) ?_
                refine AOps.s 119 rfl rfl rfl (q_move (.inl rfl) rfl) ?_
                refine AOps.x 120 rfl rfl rfl (o_pure rfl Try.func52 (by kernel_rfl) rfl rfl rfl (within_ok _ _)) ?_
                refine AOps.s 121 rfl rfl rfl (q_not rfl rfl) ?_
                refine AOps.nil ?_
                refine AGo.split 121 rfl (fun hb28 => ?_) (fun hb28 => ?_)
                · -- True
                  refine AGo.cond_true true rfl rfl ?_
                  refine AGo.seq ?_
                  refine AGo.region ?_
                  refine AOps.s 8 rfl rfl rfl (q_move (.inr rfl) rfl) ?_
                  refine AOps.nil ?_
                  refine AGo.ret ?_
                  refine ⟨[_], ⟨rfl, trivial⟩, ?_, rfl⟩
                  show AV.bool _ = AV.bool _
                  congr 1
                  exact (fits_rest (by simp_all [Tac.rest, baseOp, arrOp] <;> omega)).symm
                · -- False
                  refine AGo.cond_false false rfl rfl ?_
                  refine AGo.skip ?_
                  refine AGo.seq ?_
                  refine AGo.region ?_
                  refine AOps.s 163 rfl rfl rfl (q_load tok rfl rfl rfl (by first | exact .loc _ | exact .ptr _ _ _ _ _ _ _ _ rfl rfl rfl) rfl) ?_
                  refine AOps.s 164 rfl rfl rfl (q_load tok rfl rfl rfl (by first | exact .loc _ | exact .ptr _ _ _ _ _ _ _ _ rfl rfl rfl) rfl) ?_
                  refine AOps.s 165 rfl rfl rfl (q_eqStruct tok false rfl rfl rfl (by kernel_rfl) rfl rfl rfl rfl rfl) ?_
                  refine AOps.s 8 rfl rfl rfl (q_move (.inr rfl) rfl) ?_
                  refine AOps.nil ?_
                  refine AGo.ret ?_
                  refine ⟨[_], ⟨rfl, trivial⟩, ?_, rfl⟩
                  show AV.bool _ = AV.bool _
                  congr 1
                  have hwr : 1 ≤ t.size → t.size ≤ 4096 → IntKind.i64.wrap (words - t.size) = words - t.size := fun h1 h2 => wrap_i64 (by omega) (by omega)
                  rw [fits_same hb1 hb2 hd hall (by simp_all [Tac.rest, baseOp, arrOp] <;> omega)]
                  subst hdd haa hbb
                  clear hd hj hall hwr hw hw2 hb1 hb2
                  first | (simp_all [Tac.same, Tac.want, baseOp, arrOp, setsOp, use1, use2]; done) | simp [Tac.same, Tac.want, baseOp, arrOp, *]
              · -- False
                refine AGo.cond_false false rfl rfl ?_
                refine AGo.seq ?_
                refine AGo.seq ?_
                refine AGo.region ?_
                refine AOps.s 123 rfl rfl rfl (q_bin rfl rfl rfl rfl) ?_
                refine AOps.s 122 rfl rfl rfl (q_move (.inr rfl) rfl) ?_
                refine AOps.nil ?_
                refine AGo.split 122 rfl (fun hb29 => ?_) (fun hb29 => ?_)
                · -- True
                  refine AGo.cond_true true rfl rfl ?_
                  refine AGo.skip ?_
                  refine AGo.cond_true true rfl rfl ?_
                  refine AGo.seq ?_
                  refine AGo.draw mix ?_
                  refine DOps.s 125 rfl rfl rfl (q_fieldAddr tok rfl rfl rfl rfl rfl rfl) ?_
                  refine DOps.s 126 rfl rfl rfl (q_load tok rfl rfl rfl (by first | exact .loc _ | exact .ptr _ _ _ _ _ _ _ _ rfl rfl rfl) rfl) ?_
                  refine DOps.s 127 rfl rfl rfl (q_fieldAddr tok rfl rfl rfl rfl rfl rfl) ?_
                  refine DOps.s 128 rfl rfl rfl (q_load tok rfl rfl rfl (by first | exact .loc _ | exact .ptr _ _ _ _ _ _ _ _ rfl rfl rfl) rfl) ?_
                  refine DOps.s 129 rfl rfl rfl (q_fieldAddr tok rfl rfl rfl rfl rfl rfl) ?_
                  refine DOps.w rfl rfl (o_store tok rfl rfl rfl rfl rfl rfl rfl rfl rfl (by decide) rfl (by first | exact fun _ => rfl | (intro h; cases h))) ?_
                  refine DOps.s 130 rfl rfl rfl (q_fieldAddr tok rfl rfl rfl rfl rfl rfl) ?_
                  refine DOps.w rfl rfl (o_store tok rfl rfl rfl rfl rfl rfl rfl rfl rfl (by decide) rfl (by first | exact fun _ => rfl | (intro h; cases h))) ?_
                  refine DOps.nil (by kernel_rfl) ?_
                  refine AGo.seq ?_
                  refine AGo.region ?_
                  refine AOps.s 131 rfl rfl rfl (q_fieldAddr tok rfl rfl rfl rfl rfl rfl) ?_
                  refine AOps.s 132 rfl rfl rfl (q_load tok rfl rfl rfl (by first | exact .loc _ | exact .ptr _ _ _ _ _ _ _ _ rfl rfl rfl) rfl) ?_
                  refine AOps.s 133 rfl rfl rfl (q_bin rfl rfl rfl rfl) ?_
                  refine AOps.s 134 rfl rfl rfl (q_move (.inl rfl) rfl) ?_
                  refine AOps.split 134 rfl (fun hb30 => ?_) (fun hb30 => ?_)
                  · -- True
                    refine AOps.k 135 rfl rfl rfl ?_
                    refine AOps.k 136 rfl rfl rfl ?_
                    refine AOps.k 137 rfl rfl rfl ?_
                    refine AOps.s 138 rfl rfl rfl (q_pick_true true rfl rfl rfl rfl) ?_
                    refine AOps.s 139 rfl rfl rfl (q_move (.inl rfl) rfl) ?_
                    refine AOps.k 140 rfl rfl rfl ?_
                    refine AOps.k 141 rfl rfl rfl ?_
                    refine AOps.k 142 rfl rfl rfl ?_
                    refine AOps.s 143 rfl rfl rfl (q_pick_true true rfl rfl rfl rfl) ?_
                    refine AOps.s 144 rfl rfl rfl (q_move (.inl rfl) rfl) ?_
                    refine AOps.k 145 rfl rfl rfl ?_
                    refine AOps.k 146 rfl rfl rfl ?_
                    refine AOps.k 147 rfl rfl rfl ?_
                    refine AOps.k 148 rfl rfl rfl ?_
                    refine AOps.k 149 rfl rfl rfl ?_
                    refine AOps.k 150 rfl rfl rfl ?_
                    refine AOps.k 151 rfl rfl rfl ?_
                    refine AOps.s 152 rfl rfl rfl (q_pick_true true rfl rfl rfl rfl) ?_
                    refine AOps.nil ?_
                    refine AGo.cond_true true rfl rfl ?_
                    refine AGo.seq ?_
                    refine AGo.region ?_
                    refine AOps.s 8 rfl rfl rfl (q_move (.inr rfl) rfl) ?_
                    refine AOps.nil ?_
                    refine AGo.ret ?_
                    refine ⟨[_], ⟨rfl, trivial⟩, ?_, rfl⟩
                    show AV.bool _ = AV.bool _
                    congr 1
                    have hwr : 1 ≤ t.size → t.size ≤ 4096 → IntKind.i64.wrap (words - t.size) = words - t.size := fun h1 h2 => wrap_i64 (by omega) (by omega)
                    exact (fits_rest (by simp_all [Tac.rest, baseOp, arrOp] <;> omega)).symm
                  · -- False
                    refine AOps.s 135 rfl rfl rfl (q_fieldAddr tok rfl rfl rfl rfl rfl rfl) ?_
                    refine AOps.s 136 rfl rfl rfl (q_load tok rfl rfl rfl (by first | exact .loc _ | exact .ptr _ _ _ _ _ _ _ _ rfl rfl rfl) rfl) ?_
                    refine AOps.s 137 rfl rfl rfl (q_bin rfl rfl rfl rfl) ?_
                    refine AOps.s 138 rfl rfl rfl (q_pick_false false rfl rfl rfl rfl) ?_
                    refine AOps.s 139 rfl rfl rfl (q_move (.inl rfl) rfl) ?_
                    refine AOps.split 139 rfl (fun hb31 => ?_) (fun hb31 => ?_)
                    · -- True
                      refine AOps.k 140 rfl rfl rfl ?_
                      refine AOps.k 141 rfl rfl rfl ?_
                      refine AOps.k 142 rfl rfl rfl ?_
                      refine AOps.s 143 rfl rfl rfl (q_pick_true true rfl rfl rfl rfl) ?_
                      refine AOps.s 144 rfl rfl rfl (q_move (.inl rfl) rfl) ?_
                      refine AOps.k 145 rfl rfl rfl ?_
                      refine AOps.k 146 rfl rfl rfl ?_
                      refine AOps.k 147 rfl rfl rfl ?_
                      refine AOps.k 148 rfl rfl rfl ?_
                      refine AOps.k 149 rfl rfl rfl ?_
                      refine AOps.k 150 rfl rfl rfl ?_
                      refine AOps.k 151 rfl rfl rfl ?_
                      refine AOps.s 152 rfl rfl rfl (q_pick_true true rfl rfl rfl rfl) ?_
                      refine AOps.nil ?_
                      refine AGo.cond_true true rfl rfl ?_
                      refine AGo.seq ?_
                      refine AGo.region ?_
                      refine AOps.s 8 rfl rfl rfl (q_move (.inr rfl) rfl) ?_
                      refine AOps.nil ?_
                      refine AGo.ret ?_
                      refine ⟨[_], ⟨rfl, trivial⟩, ?_, rfl⟩
                      show AV.bool _ = AV.bool _
                      congr 1
                      have hwr : 1 ≤ t.size → t.size ≤ 4096 → IntKind.i64.wrap (words - t.size) = words - t.size := fun h1 h2 => wrap_i64 (by omega) (by omega)
                      exact (fits_rest (by simp_all [Tac.rest, baseOp, arrOp] <;> omega)).symm
                    · -- False
                      refine AOps.s 140 rfl rfl rfl (q_fieldAddr tok rfl rfl rfl rfl rfl rfl) ?_
                      refine AOps.s 141 rfl rfl rfl (q_load tok rfl rfl rfl (by first | exact .loc _ | exact .ptr _ _ _ _ _ _ _ _ rfl rfl rfl) rfl) ?_
                      refine AOps.s 142 rfl rfl rfl (q_bin rfl rfl rfl rfl) ?_
                      refine AOps.s 143 rfl rfl rfl (q_pick_false false rfl rfl rfl rfl) ?_
                      refine AOps.s 144 rfl rfl rfl (q_move (.inl rfl) rfl) ?_
                      refine AOps.split 144 rfl (fun hb32 => ?_) (fun hb32 => ?_)
                      · -- True
                        refine AOps.k 145 rfl rfl rfl ?_
                        refine AOps.k 146 rfl rfl rfl ?_
                        refine AOps.k 147 rfl rfl rfl ?_
                        refine AOps.k 148 rfl rfl rfl ?_
                        refine AOps.k 149 rfl rfl rfl ?_
                        refine AOps.k 150 rfl rfl rfl ?_
                        refine AOps.k 151 rfl rfl rfl ?_
                        refine AOps.s 152 rfl rfl rfl (q_pick_true true rfl rfl rfl rfl) ?_
                        refine AOps.nil ?_
                        refine AGo.cond_true true rfl rfl ?_
                        refine AGo.seq ?_
                        refine AGo.region ?_
                        refine AOps.s 8 rfl rfl rfl (q_move (.inr rfl) rfl) ?_
                        refine AOps.nil ?_
                        refine AGo.ret ?_
                        refine ⟨[_], ⟨rfl, trivial⟩, ?_, rfl⟩
                        show AV.bool _ = AV.bool _
                        congr 1
                        have hwr : 1 ≤ t.size → t.size ≤ 4096 → IntKind.i64.wrap (words - t.size) = words - t.size := fun h1 h2 => wrap_i64 (by omega) (by omega)
                        exact (fits_rest (by simp_all [Tac.rest, baseOp, arrOp] <;> omega)).symm
                      · -- False
                        refine AOps.s 145 rfl rfl rfl (q_fieldAddr tok rfl rfl rfl rfl rfl rfl) ?_
                        refine AOps.s 146 rfl rfl rfl (q_load tok rfl rfl rfl (by first | exact .loc _ | exact .ptr _ _ _ _ _ _ _ _ rfl rfl rfl) rfl) ?_
                        refine AOps.s 147 rfl rfl rfl (q_move (.inl rfl) rfl) ?_
                        refine AOps.s 148 rfl rfl rfl (q_fieldAddr tok rfl rfl rfl rfl rfl rfl) ?_
                        refine AOps.s 149 rfl rfl rfl (q_load tok rfl rfl rfl (by first | exact .loc _ | exact .ptr _ _ _ _ _ _ _ _ rfl rfl rfl) rfl) ?_
                        refine AOps.s 150 rfl rfl rfl (q_bin rfl rfl rfl rfl) ?_
                        refine AOps.s 151 rfl rfl rfl (q_bin rfl rfl rfl rfl) ?_
                        refine AOps.s 152 rfl rfl rfl (q_pick_false false rfl rfl rfl rfl) ?_
                        refine AOps.nil ?_
                        refine AGo.split 152 rfl (fun hb33 => ?_) (fun hb33 => ?_)
                        · -- True
                          refine AGo.cond_true true rfl rfl ?_
                          refine AGo.seq ?_
                          refine AGo.region ?_
                          refine AOps.s 8 rfl rfl rfl (q_move (.inr rfl) rfl) ?_
                          refine AOps.nil ?_
                          refine AGo.ret ?_
                          refine ⟨[_], ⟨rfl, trivial⟩, ?_, rfl⟩
                          show AV.bool _ = AV.bool _
                          congr 1
                          have hwr : 1 ≤ t.size → t.size ≤ 4096 → IntKind.i64.wrap (words - t.size) = words - t.size := fun h1 h2 => wrap_i64 (by omega) (by omega)
                          exact (fits_rest (by simp_all [Tac.rest, baseOp, arrOp] <;> omega)).symm
                        · -- False
                          refine AGo.cond_false false rfl rfl ?_
                          refine AGo.skip ?_
                          refine AGo.seq ?_
                          refine AGo.region ?_
                          refine AOps.s 163 rfl rfl rfl (q_load tok rfl rfl rfl (by first | exact .loc _ | exact .ptr _ _ _ _ _ _ _ _ rfl rfl rfl) rfl) ?_
                          refine AOps.s 164 rfl rfl rfl (q_load tok rfl rfl rfl (by first | exact .loc _ | exact .ptr _ _ _ _ _ _ _ _ rfl rfl rfl) rfl) ?_
                          refine AOps.s 165 rfl rfl rfl (q_eqStruct tok false rfl rfl rfl (by kernel_rfl) rfl rfl rfl rfl rfl) ?_
                          refine AOps.s 8 rfl rfl rfl (q_move (.inr rfl) rfl) ?_
                          refine AOps.nil ?_
                          refine AGo.ret ?_
                          refine ⟨[_], ⟨rfl, trivial⟩, ?_, rfl⟩
                          show AV.bool _ = AV.bool _
                          congr 1
                          have hwr : 1 ≤ t.size → t.size ≤ 4096 → IntKind.i64.wrap (words - t.size) = words - t.size := fun h1 h2 => wrap_i64 (by omega) (by omega)
                          rw [fits_same hb1 hb2 hd hall (by simp_all [Tac.rest, baseOp, arrOp] <;> omega)]
                          subst hdd haa hbb
                          clear hd hj hall hwr hw hw2 hb1 hb2
                          first | (simp_all [Tac.same, Tac.want, baseOp, arrOp, setsOp, use1, use2]; done) | simp [Tac.same, Tac.want, baseOp, arrOp, *]
                · -- False
                  refine AGo.cond_false false rfl rfl ?_
                  refine AGo.region ?_
                  refine AOps.s 124 rfl rfl rfl (q_bin rfl rfl rfl rfl) ?_
                  refine AOps.s 122 rfl rfl rfl (q_move (.inr rfl) rfl) ?_
                  refine AOps.nil ?_
                  refine AGo.split 122 rfl (fun hb34 => ?_) (fun hb34 => ?_)
                  · -- True
                    refine AGo.cond_true true rfl rfl ?_
                    refine AGo.seq ?_
                    refine AGo.draw mix ?_
                    refine DOps.s 125 rfl rfl rfl (q_fieldAddr tok rfl rfl rfl rfl rfl rfl) ?_
                    refine DOps.s 126 rfl rfl rfl (q_load tok rfl rfl rfl (by first | exact .loc _ | exact .ptr _ _ _ _ _ _ _ _ rfl rfl rfl) rfl) ?_
                    refine DOps.s 127 rfl rfl rfl (q_fieldAddr tok rfl rfl rfl rfl rfl rfl) ?_
                    refine DOps.s 128 rfl rfl rfl (q_load tok rfl rfl rfl (by first | exact .loc _ | exact .ptr _ _ _ _ _ _ _ _ rfl rfl rfl) rfl) ?_
                    refine DOps.s 129 rfl rfl rfl (q_fieldAddr tok rfl rfl rfl rfl rfl rfl) ?_
                    refine DOps.w rfl rfl (o_store tok rfl rfl rfl rfl rfl rfl rfl rfl rfl (by decide) rfl (by first | exact fun _ => rfl | (intro h; cases h))) ?_
                    refine DOps.s 130 rfl rfl rfl (q_fieldAddr tok rfl rfl rfl rfl rfl rfl) ?_
                    refine DOps.w rfl rfl (o_store tok rfl rfl rfl rfl rfl rfl rfl rfl rfl (by decide) rfl (by first | exact fun _ => rfl | (intro h; cases h))) ?_
                    refine DOps.nil (by kernel_rfl) ?_
                    refine AGo.seq ?_
                    refine AGo.region ?_
                    refine AOps.s 131 rfl rfl rfl (q_fieldAddr tok rfl rfl rfl rfl rfl rfl) ?_
                    refine AOps.s 132 rfl rfl rfl (q_load tok rfl rfl rfl (by first | exact .loc _ | exact .ptr _ _ _ _ _ _ _ _ rfl rfl rfl) rfl) ?_
                    refine AOps.s 133 rfl rfl rfl (q_bin rfl rfl rfl rfl) ?_
                    refine AOps.s 134 rfl rfl rfl (q_move (.inl rfl) rfl) ?_
                    refine AOps.split 134 rfl (fun hb35 => ?_) (fun hb35 => ?_)
                    · -- True
                      refine AOps.k 135 rfl rfl rfl ?_
                      refine AOps.k 136 rfl rfl rfl ?_
                      refine AOps.k 137 rfl rfl rfl ?_
                      refine AOps.s 138 rfl rfl rfl (q_pick_true true rfl rfl rfl rfl) ?_
                      refine AOps.s 139 rfl rfl rfl (q_move (.inl rfl) rfl) ?_
                      refine AOps.k 140 rfl rfl rfl ?_
                      refine AOps.k 141 rfl rfl rfl ?_
                      refine AOps.k 142 rfl rfl rfl ?_
                      refine AOps.s 143 rfl rfl rfl (q_pick_true true rfl rfl rfl rfl) ?_
                      refine AOps.s 144 rfl rfl rfl (q_move (.inl rfl) rfl) ?_
                      refine AOps.k 145 rfl rfl rfl ?_
                      refine AOps.k 146 rfl rfl rfl ?_
                      refine AOps.k 147 rfl rfl rfl ?_
                      refine AOps.k 148 rfl rfl rfl ?_
                      refine AOps.k 149 rfl rfl rfl ?_
                      refine AOps.k 150 rfl rfl rfl ?_
                      refine AOps.k 151 rfl rfl rfl ?_
                      refine AOps.s 152 rfl rfl rfl (q_pick_true true rfl rfl rfl rfl) ?_
                      refine AOps.nil ?_
                      refine AGo.cond_true true rfl rfl ?_
                      refine AGo.seq ?_
                      refine AGo.region ?_
                      refine AOps.s 8 rfl rfl rfl (q_move (.inr rfl) rfl) ?_
                      refine AOps.nil ?_
                      refine AGo.ret ?_
                      refine ⟨[_], ⟨rfl, trivial⟩, ?_, rfl⟩
                      show AV.bool _ = AV.bool _
                      congr 1
                      have hwr : 1 ≤ t.size → t.size ≤ 4096 → IntKind.i64.wrap (words - t.size) = words - t.size := fun h1 h2 => wrap_i64 (by omega) (by omega)
                      exact (fits_rest (by simp_all [Tac.rest, baseOp, arrOp] <;> omega)).symm
                    · -- False
                      refine AOps.s 135 rfl rfl rfl (q_fieldAddr tok rfl rfl rfl rfl rfl rfl) ?_
                      refine AOps.s 136 rfl rfl rfl (q_load tok rfl rfl rfl (by first | exact .loc _ | exact .ptr _ _ _ _ _ _ _ _ rfl rfl rfl) rfl) ?_
                      refine AOps.s 137 rfl rfl rfl (q_bin rfl rfl rfl rfl) ?_
                      refine AOps.s 138 rfl rfl rfl (q_pick_false false rfl rfl rfl rfl) ?_
                      refine AOps.s 139 rfl rfl rfl (q_move (.inl rfl) rfl) ?_
                      refine AOps.split 139 rfl (fun hb36 => ?_) (fun hb36 => ?_)
                      · -- True
                        refine AOps.k 140 rfl rfl rfl ?_
                        refine AOps.k 141 rfl rfl rfl ?_
                        refine AOps.k 142 rfl rfl rfl ?_
                        refine AOps.s 143 rfl rfl rfl (q_pick_true true rfl rfl rfl rfl) ?_
                        refine AOps.s 144 rfl rfl rfl (q_move (.inl rfl) rfl) ?_
                        refine AOps.k 145 rfl rfl rfl ?_
                        refine AOps.k 146 rfl rfl rfl ?_
                        refine AOps.k 147 rfl rfl rfl ?_
                        refine AOps.k 148 rfl rfl rfl ?_
                        refine AOps.k 149 rfl rfl rfl ?_
                        refine AOps.k 150 rfl rfl rfl ?_
                        refine AOps.k 151 rfl rfl rfl ?_
                        refine AOps.s 152 rfl rfl rfl (q_pick_true true rfl rfl rfl rfl) ?_
                        refine AOps.nil ?_
                        refine AGo.cond_true true rfl rfl ?_
                        refine AGo.seq ?_
                        refine AGo.region ?_
                        refine AOps.s 8 rfl rfl rfl (q_move (.inr rfl) rfl) ?_
                        refine AOps.nil ?_
                        refine AGo.ret ?_
                        refine ⟨[_], ⟨rfl, trivial⟩, ?_, rfl⟩
                        show AV.bool _ = AV.bool _
                        congr 1
                        have hwr : 1 ≤ t.size → t.size ≤ 4096 → IntKind.i64.wrap (words - t.size) = words - t.size := fun h1 h2 => wrap_i64 (by omega) (by omega)
                        exact (fits_rest (by simp_all [Tac.rest, baseOp, arrOp] <;> omega)).symm
                      · -- False
                        refine AOps.s 140 rfl rfl rfl (q_fieldAddr tok rfl rfl rfl rfl rfl rfl) ?_
                        refine AOps.s 141 rfl rfl rfl (q_load tok rfl rfl rfl (by first | exact .loc _ | exact .ptr _ _ _ _ _ _ _ _ rfl rfl rfl) rfl) ?_
                        refine AOps.s 142 rfl rfl rfl (q_bin rfl rfl rfl rfl) ?_
                        refine AOps.s 143 rfl rfl rfl (q_pick_false false rfl rfl rfl rfl) ?_
                        refine AOps.s 144 rfl rfl rfl (q_move (.inl rfl) rfl) ?_
                        refine AOps.split 144 rfl (fun hb37 => ?_) (fun hb37 => ?_)
                        · -- True
                          refine AOps.k 145 rfl rfl rfl ?_
                          refine AOps.k 146 rfl rfl rfl ?_
                          refine AOps.k 147 rfl rfl rfl ?_
                          refine AOps.k 148 rfl rfl rfl ?_
                          refine AOps.k 149 rfl rfl rfl ?_
                          refine AOps.k 150 rfl rfl rfl ?_
                          refine AOps.k 151 rfl rfl rfl ?_
                          refine AOps.s 152 rfl rfl rfl (q_pick_true true rfl rfl rfl rfl) ?_
                          refine AOps.nil ?_
                          refine AGo.cond_true true rfl rfl ?_
                          refine AGo.seq ?_
                          refine AGo.region ?_
                          refine AOps.s 8 rfl rfl rfl (q_move (.inr rfl) rfl) ?_
                          refine AOps.nil ?_
                          refine AGo.ret ?_
                          refine ⟨[_], ⟨rfl, trivial⟩, ?_, rfl⟩
                          show AV.bool _ = AV.bool _
                          congr 1
                          have hwr : 1 ≤ t.size → t.size ≤ 4096 → IntKind.i64.wrap (words - t.size) = words - t.size := fun h1 h2 => wrap_i64 (by omega) (by omega)
                          exact (fits_rest (by simp_all [Tac.rest, baseOp, arrOp] <;> omega)).symm
                        · -- False
                          refine AOps.s 145 rfl rfl rfl (q_fieldAddr tok rfl rfl rfl rfl rfl rfl) ?_
                          refine AOps.s 146 rfl rfl rfl (q_load tok rfl rfl rfl (by first | exact .loc _ | exact .ptr _ _ _ _ _ _ _ _ rfl rfl rfl) rfl) ?_
                          refine AOps.s 147 rfl rfl rfl (q_move (.inl rfl) rfl) ?_
                          refine AOps.s 148 rfl rfl rfl (q_fieldAddr tok rfl rfl rfl rfl rfl rfl) ?_
                          refine AOps.s 149 rfl rfl rfl (q_load tok rfl rfl rfl (by first | exact .loc _ | exact .ptr _ _ _ _ _ _ _ _ rfl rfl rfl) rfl) ?_
                          refine AOps.s 150 rfl rfl rfl (q_bin rfl rfl rfl rfl) ?_
                          refine AOps.s 151 rfl rfl rfl (q_bin rfl rfl rfl rfl) ?_
                          refine AOps.s 152 rfl rfl rfl (q_pick_false false rfl rfl rfl rfl) ?_
                          refine AOps.nil ?_
                          refine AGo.split 152 rfl (fun hb38 => ?_) (fun hb38 => ?_)
                          · -- True
                            refine AGo.cond_true true rfl rfl ?_
                            refine AGo.seq ?_
                            refine AGo.region ?_
                            refine AOps.s 8 rfl rfl rfl (q_move (.inr rfl) rfl) ?_
                            refine AOps.nil ?_
                            refine AGo.ret ?_
                            refine ⟨[_], ⟨rfl, trivial⟩, ?_, rfl⟩
                            show AV.bool _ = AV.bool _
                            congr 1
                            have hwr : 1 ≤ t.size → t.size ≤ 4096 → IntKind.i64.wrap (words - t.size) = words - t.size := fun h1 h2 => wrap_i64 (by omega) (by omega)
                            exact (fits_rest (by simp_all [Tac.rest, baseOp, arrOp] <;> omega)).symm
                          · -- False
                            refine AGo.cond_false false rfl rfl ?_
                            refine AGo.skip ?_
                            refine AGo.seq ?_
                            refine AGo.region ?_
                            refine AOps.s 163 rfl rfl rfl (q_load tok rfl rfl rfl (by first | exact .loc _ | exact .ptr _ _ _ _ _ _ _ _ rfl rfl rfl) rfl) ?_
                            refine AOps.s 164 rfl rfl rfl (q_load tok rfl rfl rfl (by first | exact .loc _ | exact .ptr _ _ _ _ _ _ _ _ rfl rfl rfl) rfl) ?_
                            refine AOps.s 165 rfl rfl rfl (q_eqStruct tok false rfl rfl rfl (by kernel_rfl) rfl rfl rfl rfl rfl) ?_
                            refine AOps.s 8 rfl rfl rfl (q_move (.inr rfl) rfl) ?_
                            refine AOps.nil ?_
                            refine AGo.ret ?_
                            refine ⟨[_], ⟨rfl, trivial⟩, ?_, rfl⟩
                            show AV.bool _ = AV.bool _
                            congr 1
                            have hwr : 1 ≤ t.size → t.size ≤ 4096 → IntKind.i64.wrap (words - t.size) = words - t.size := fun h1 h2 => wrap_i64 (by omega) (by omega)
                            rw [fits_same hb1 hb2 hd hall (by simp_all [Tac.rest, baseOp, arrOp] <;> omega)]
                            subst hdd haa hbb
                            clear hd hj hall hwr hw hw2 hb1 hb2
                            first | (simp_all [Tac.same, Tac.want, baseOp, arrOp, setsOp, use1, use2]; done) | simp [Tac.same, Tac.want, baseOp, arrOp, *]
                  · -- False
                    refine AGo.cond_false false rfl rfl ?_
                    refine AGo.seq ?_
                    refine AGo.region ?_
                    refine AOps.s 154 rfl rfl rfl (q_bin rfl rfl rfl rfl) ?_
                    refine AOps.s 153 rfl rfl rfl (q_move (.inr rfl) rfl) ?_
                    refine AOps.nil ?_
                    refine AGo.split 153 rfl (fun hb39 => ?_) (fun hb39 => ?_)
                    · -- True
                      refine AGo.cond_true true rfl rfl ?_
                      refine AGo.seq ?_
                      refine AGo.region ?_
                      refine AOps.s 155 rfl rfl rfl (q_fieldAddr tok rfl rfl rfl rfl rfl rfl) ?_
                      refine AOps.s 156 rfl rfl rfl (q_load tok rfl rfl rfl (by first | exact .loc _ | exact .ptr _ _ _ _ _ _ _ _ rfl rfl rfl) rfl) ?_
                      refine AOps.s 157 rfl rfl rfl (q_fieldAddr tok rfl rfl rfl rfl rfl rfl) ?_
                      refine AOps.w rfl rfl (o_store tok rfl rfl rfl rfl rfl rfl rfl rfl rfl (by decide) rfl (by first | exact fun _ => rfl | (intro h; cases h))) ?_
                      refine AOps.nil ?_
                      refine AGo.seq ?_
                      refine AGo.region ?_
                      refine AOps.s 158 rfl rfl rfl (q_fieldAddr tok rfl rfl rfl rfl rfl rfl) ?_
                      refine AOps.s 159 rfl rfl rfl (q_load tok rfl rfl rfl (by first | exact .loc _ | exact .ptr _ _ _ _ _ _ _ _ rfl rfl rfl) rfl) ?_
                      refine AOps.s 160 rfl rfl rfl (q_move (.inl rfl) rfl) ?_
                      refine AOps.x 161 rfl rfl rfl (o_pure rfl Try.func52 (by kernel_rfl) rfl rfl rfl (within_ok _ _)) ?_
                      refine AOps.s 162 rfl rfl rfl (q_not rfl rfl) ?_
                      refine AOps.nil ?_
                      refine AGo.split 162 rfl (fun hb40 => ?_) (fun hb40 => ?_)
                      · -- True
                        refine AGo.cond_true true rfl rfl ?_
                        refine AGo.seq ?_
                        refine AGo.region ?_
                        refine AOps.s 8 rfl rfl rfl (q_move (.inr rfl) rfl) ?_
                        refine AOps.nil ?_
                        refine AGo.ret ?_
                        refine ⟨[_], ⟨rfl, trivial⟩, ?_, rfl⟩
                        show AV.bool _ = AV.bool _
                        congr 1
                        exact (fits_rest (by simp_all [Tac.rest, baseOp, arrOp] <;> omega)).symm
                      · -- False
                        refine AGo.cond_false false rfl rfl ?_
                        refine AGo.skip ?_
                        refine AGo.seq ?_
                        refine AGo.region ?_
                        refine AOps.s 163 rfl rfl rfl (q_load tok rfl rfl rfl (by first | exact .loc _ | exact .ptr _ _ _ _ _ _ _ _ rfl rfl rfl) rfl) ?_
                        refine AOps.s 164 rfl rfl rfl (q_load tok rfl rfl rfl (by first | exact .loc _ | exact .ptr _ _ _ _ _ _ _ _ rfl rfl rfl) rfl) ?_
                        refine AOps.s 165 rfl rfl rfl (q_eqStruct tok false rfl rfl rfl (by kernel_rfl) rfl rfl rfl rfl rfl) ?_
                        refine AOps.s 8 rfl rfl rfl (q_move (.inr rfl) rfl) ?_
                        refine AOps.nil ?_
                        refine AGo.ret ?_
                        refine ⟨[_], ⟨rfl, trivial⟩, ?_, rfl⟩
                        show AV.bool _ = AV.bool _
                        congr 1
                        have hwr : 1 ≤ t.size → t.size ≤ 4096 → IntKind.i64.wrap (words - t.size) = words - t.size := fun h1 h2 => wrap_i64 (by omega) (by omega)
                        rw [fits_same hb1 hb2 hd hall (by simp_all [Tac.rest, baseOp, arrOp] <;> omega)]
                        subst hdd haa hbb
                        clear hd hj hall hwr hw hw2 hb1 hb2
                        first | (simp_all [Tac.same, Tac.want, baseOp, arrOp, setsOp, use1, use2]; done) | simp [Tac.same, Tac.want, baseOp, arrOp, *]
                    · -- False
                      refine AGo.cond_false false rfl rfl ?_
                      refine AGo.skip ?_
                      refine AGo.seq ?_
                      refine AGo.region ?_
                      refine AOps.s 163 rfl rfl rfl (q_load tok rfl rfl rfl (by first | exact .loc _ | exact .ptr _ _ _ _ _ _ _ _ rfl rfl rfl) rfl) ?_
                      refine AOps.s 164 rfl rfl rfl (q_load tok rfl rfl rfl (by first | exact .loc _ | exact .ptr _ _ _ _ _ _ _ _ rfl rfl rfl) rfl) ?_
                      refine AOps.s 165 rfl rfl rfl (q_eqStruct tok false rfl rfl rfl (by kernel_rfl) rfl rfl rfl rfl rfl) ?_
                      refine AOps.s 8 rfl rfl rfl (q_move (.inr rfl) rfl) ?_
                      refine AOps.nil ?_
                      refine AGo.ret ?_
                      refine ⟨[_], ⟨rfl, trivial⟩, ?_, rfl⟩
                      show AV.bool _ = AV.bool _
                      congr 1
                      have hwr : 1 ≤ t.size → t.size ≤ 4096 → IntKind.i64.wrap (words - t.size) = words - t.size := fun h1 h2 => wrap_i64 (by omega) (by omega)
                      rw [fits_same hb1 hb2 hd hall (by simp_all [Tac.rest, baseOp, arrOp] <;> omega)]
                      subst hdd haa hbb
                      clear hd hj hall hwr hw hw2 hb1 hb2
                      first | (simp_all [Tac.same, Tac.want, baseOp, arrOp, setsOp, use1, use2]; done) | simp [Tac.same, Tac.want, baseOp, arrOp, *]

set_option maxRecDepth 100000 in
theorem one_ok (f : BFunc) (number words : Int) (hw : 0 ≤ words) (hw2 : words ≤ 1048576) : APure Try.prog 35 [.agg f.cells, .int .i64 number, .int .i64 words] (fun r => r = .bool (f.one number words)) := by
  refine APure.of_body (n := 68) tok Try.func35 rfl rfl ?_
  refine AGo.seq ?_
  refine AGo.slot 0 rfl (fun H ι v => rel_bfunc) (fun hfit => ?_)
  refine AGo.region ?_
  refine AOps.x 3 rfl rfl rfl (o_box (sz := 2) 0 rfl rfl rfl rfl (Nat.zero_lt_succ _) rfl) ?_
  refine AOps.s 6 rfl rfl rfl (q_move (.inr rfl) rfl) ?_
  refine AOps.nil ?_
  refine AGo.seq ?_
  refine AGo.seq ?_
  refine AGo.region ?_
  refine AOps.s 9 rfl rfl rfl (q_fieldAddr tok rfl rfl rfl rfl rfl rfl) ?_
  refine AOps.s 10 rfl rfl rfl (q_load tok rfl rfl rfl (by first | exact .loc _ | exact .ptr _ _ _ _ _ _ _ _ rfl rfl rfl) rfl) ?_
  refine AOps.s 11 rfl rfl rfl (q_bin rfl rfl rfl rfl) ?_
  refine AOps.s 12 rfl rfl rfl (q_move (.inl rfl) rfl) ?_
  refine AOps.split 12 rfl (fun hb1 => ?_) (fun hb1 => ?_)
  · -- True
    refine AOps.k 13 rfl rfl rfl ?_
    refine AOps.k 14 rfl rfl rfl ?_
    refine AOps.k 15 rfl rfl rfl ?_
    refine AOps.s 16 rfl rfl rfl (q_pick_true true rfl rfl rfl rfl) ?_
    refine AOps.s 17 rfl rfl rfl (q_move (.inl rfl) rfl) ?_
    refine AOps.k 18 rfl rfl rfl ?_
    refine AOps.k 19 rfl rfl rfl ?_
    refine AOps.k 20 rfl rfl rfl ?_
    refine AOps.k 21 rfl rfl rfl ?_
    refine AOps.s 22 rfl rfl rfl (q_pick_true true rfl rfl rfl rfl) ?_
    refine AOps.nil ?_
    refine AGo.cond_true true rfl rfl ?_
    refine AGo.seq ?_
    refine AGo.region ?_
    refine AOps.s 6 rfl rfl rfl (q_move (.inr rfl) rfl) ?_
    refine AOps.nil ?_
    refine AGo.ret ?_
    refine ⟨[_], ⟨rfl, trivial⟩, ?_, rfl⟩
    show AV.bool _ = AV.bool _
    congr 1
    exact (one_bad (by simp_all <;> omega)).symm
  · -- False
    refine AOps.s 13 rfl rfl rfl (q_fieldAddr tok rfl rfl rfl rfl rfl rfl) ?_
    refine AOps.s 14 rfl rfl rfl (q_load tok rfl rfl rfl (by first | exact .loc _ | exact .ptr _ _ _ _ _ _ _ _ rfl rfl rfl) rfl) ?_
    refine AOps.s 15 rfl rfl rfl (q_bin rfl rfl rfl rfl) ?_
    refine AOps.s 16 rfl rfl rfl (q_pick_false false rfl rfl rfl rfl) ?_
    refine AOps.s 17 rfl rfl rfl (q_move (.inl rfl) rfl) ?_
    refine AOps.split 17 rfl (fun hb2 => ?_) (fun hb2 => ?_)
    · -- True
      refine AOps.k 18 rfl rfl rfl ?_
      refine AOps.k 19 rfl rfl rfl ?_
      refine AOps.k 20 rfl rfl rfl ?_
      refine AOps.k 21 rfl rfl rfl ?_
      refine AOps.s 22 rfl rfl rfl (q_pick_true true rfl rfl rfl rfl) ?_
      refine AOps.nil ?_
      refine AGo.cond_true true rfl rfl ?_
      refine AGo.seq ?_
      refine AGo.region ?_
      refine AOps.s 6 rfl rfl rfl (q_move (.inr rfl) rfl) ?_
      refine AOps.nil ?_
      refine AGo.ret ?_
      refine ⟨[_], ⟨rfl, trivial⟩, ?_, rfl⟩
      show AV.bool _ = AV.bool _
      congr 1
      exact (one_bad (by simp_all <;> omega)).symm
    · -- False
      refine AOps.s 18 rfl rfl rfl (q_fieldAddr tok rfl rfl rfl rfl rfl rfl) ?_
      refine AOps.s 19 rfl rfl rfl (q_load tok rfl rfl rfl (by first | exact .loc _ | exact .ptr _ _ _ _ _ _ _ _ rfl rfl rfl) rfl) ?_
      refine AOps.s 20 rfl rfl rfl (q_len tok rfl rfl rfl rfl rfl) ?_
      refine AOps.s 21 rfl rfl rfl (q_bin rfl rfl rfl rfl) ?_
      refine AOps.s 22 rfl rfl rfl (q_pick_false false rfl rfl rfl rfl) ?_
      refine AOps.nil ?_
      refine AGo.split 22 rfl (fun hb3 => ?_) (fun hb3 => ?_)
      · -- True
        refine AGo.cond_true true rfl rfl ?_
        refine AGo.seq ?_
        refine AGo.region ?_
        refine AOps.s 6 rfl rfl rfl (q_move (.inr rfl) rfl) ?_
        refine AOps.nil ?_
        refine AGo.ret ?_
        refine ⟨[_], ⟨rfl, trivial⟩, ?_, rfl⟩
        show AV.bool _ = AV.bool _
        congr 1
        exact (one_bad (by simp_all <;> omega)).symm
      · -- False
        refine AGo.cond_false false rfl rfl ?_
        have h0 : 0 ≤ f.regs ∧ f.regs ≤ 4000 ∧ f.blocks.length ≠ 0 := by simp_all <;> omega
        refine AGo.skip ?_
        refine AGo.seq ?_
        refine AGo.seq ?_
        refine AGo.region ?_
        refine AOps.s 7 rfl rfl rfl (q_move (.inr rfl) rfl) ?_
        refine AOps.nil ?_
        refine AGo.block ?_
        refine AGo.loopD (γ := Nat) 1 (fun k => ⟨68, (eput (eput (eput (eput eNew 1 (.int .i64 number)) 2 (.int .i64 words)) 3 (.ptr 0 1 0 0)) 7 (.int .i64 (k : Int))), (hput (hFrom 1) 0 (.row false 2 [f.cells]))⟩) (fun k => (f.blocks.take k).all (fun x => x.ok f.blocks.length f.regs number words) = true) (fun k => f.blocks.length - k) 0 (Sub.mk' (by repeat (first | exact ESub.new _ | refine ESub.put ?_ (by rfl))) (by repeat (first | exact HSub.none _ | exact HSub.from_new _ | exact HSub.from_from (by decide) | refine HSub.put ?_ (by rfl) | refine HSub.from_put ?_ (by decide) | refine HSub.from_rm ?_ (by decide)))) rfl (fun _ => hput_free (fun b hb => hFrom_free hb) rfl) ?_
        intro k hk
        refine AGo.seq ?_
        refine AGo.seq ?_
        refine AGo.region ?_
        refine AOps.s 23 rfl rfl rfl (q_move (.inl rfl) rfl) ?_
        refine AOps.s 24 rfl rfl rfl (q_fieldAddr tok rfl rfl rfl rfl rfl rfl) ?_
        refine AOps.s 25 rfl rfl rfl (q_load tok rfl rfl rfl (by first | exact .loc _ | exact .ptr _ _ _ _ _ _ _ _ rfl rfl rfl) rfl) ?_
        refine AOps.s 26 rfl rfl rfl (q_len tok rfl rfl rfl rfl rfl) ?_
        refine AOps.s 27 rfl rfl rfl (q_bin rfl rfl rfl rfl) ?_
        refine AOps.nil ?_
        refine AGo.split 27 rfl (fun hb4 => ?_) (fun hb4 => ?_)
        · -- True
          refine AGo.cond_true true rfl rfl ?_
          have hkl : k < f.blocks.length := lt_of_idx hb4
          obtain ⟨x, hx⟩ := get_of_lt hkl
          refine AGo.skip ?_
          refine AGo.seq ?_
          refine AGo.block ?_
          refine AGo.seq ?_
          refine AGo.seq ?_
          refine AGo.draw mix ?_
          refine DOps.s 30 rfl rfl rfl (q_fieldAddr tok rfl rfl rfl rfl rfl rfl) ?_
          refine DOps.s 31 rfl rfl rfl (q_load tok rfl rfl rfl (by first | exact .loc _ | exact .ptr _ _ _ _ _ _ _ _ rfl rfl rfl) rfl) ?_
          refine DOps.s 32 rfl rfl rfl (q_move (.inl rfl) rfl) ?_
          refine DOps.s 33 rfl rfl rfl (q_index_lst tok rfl rfl rfl rfl rfl rfl (Int.natCast_nonneg _) (idx_map (by assumption)) rfl) ?_
          refine DOps.s 34 rfl rfl rfl (q_load tok rfl rfl rfl (by first | exact .loc _ | exact .ptr _ _ _ _ _ _ _ _ rfl rfl rfl) rfl) ?_
          refine DOps.s 35 rfl rfl rfl (q_fieldAddr tok rfl rfl rfl rfl rfl rfl) ?_
          refine DOps.s 36 rfl rfl rfl (q_load tok rfl rfl rfl (by first | exact .loc _ | exact .ptr _ _ _ _ _ _ _ _ rfl rfl rfl) rfl) ?_
          refine DOps.s 37 rfl rfl rfl (q_len tok rfl rfl rfl rfl rfl) ?_
          refine DOps.s 38 rfl rfl rfl (q_fieldAddr tok rfl rfl rfl rfl rfl rfl) ?_
          refine DOps.s 39 rfl rfl rfl (q_load tok rfl rfl rfl (by first | exact .loc _ | exact .ptr _ _ _ _ _ _ _ _ rfl rfl rfl) rfl) ?_
          refine DOps.x 40 rfl rfl rfl (o_pure rfl Try.func45 (by kernel_rfl) rfl rfl rfl (ends_ok x _ _)) ?_
          refine DOps.s 41 rfl rfl rfl (q_not rfl rfl) ?_
          refine DOps.nil (by kernel_rfl) ?_
          refine AGo.split 41 rfl (fun hb5 => ?_) (fun hb5 => ?_)
          · -- True
            refine AGo.cond_true true rfl rfl ?_
            have hends : x.ends f.blocks.length f.regs = false := by simpa using hb5
            refine AGo.seq ?_
            refine AGo.region ?_
            refine AOps.s 6 rfl rfl rfl (q_move (.inr rfl) rfl) ?_
            refine AOps.nil ?_
            refine AGo.ret ?_
            refine ⟨[_], ⟨rfl, trivial⟩, ?_, rfl⟩
            show AV.bool _ = AV.bool _
            congr 1
            rw [one_all h0.1 h0.2.1 h0.2.2, all_bad hx (by simp [Block.ok, hends])]
          · -- False
            refine AGo.cond_false false rfl rfl ?_
            have hends : x.ends f.blocks.length f.regs = true := by simpa using hb5
            refine AGo.skip ?_
            refine AGo.seq ?_
            refine AGo.region ?_
            refine AOps.s 8 rfl rfl rfl (q_move (.inr rfl) rfl) ?_
            refine AOps.nil ?_
            refine AGo.block ?_
            refine AGo.loopD (γ := Nat) 1 (fun j => ⟨68, (eput (eput (eput (eput (eput eNew 1 (.int .i64 number)) 2 (.int .i64 words)) 3 (.ptr 0 1 0 0)) 7 (.int .i64 (k : Int))) 8 (.int .i64 (j : Int))), (hput (hFrom 1) 0 (.row false 2 [f.cells]))⟩) (fun j => (x.ins.take j).all (fun t => t.fits number f.regs words) = true) (fun j => x.ins.length - j) 0 (Sub.mk' (by repeat (first | exact ESub.new _ | refine ESub.put ?_ (by rfl))) (by repeat (first | exact HSub.none _ | exact HSub.from_new _ | exact HSub.from_from (by decide) | refine HSub.put ?_ (by rfl) | refine HSub.from_put ?_ (by decide) | refine HSub.from_rm ?_ (by decide)))) rfl (fun _ => hput_free (fun b hb => hFrom_free hb) rfl) ?_
            intro j hj
            refine AGo.seq ?_
            refine AGo.seq ?_
            refine AGo.region ?_
            refine AOps.s 42 rfl rfl rfl (q_move (.inl rfl) rfl) ?_
            refine AOps.s 43 rfl rfl rfl (q_fieldAddr tok rfl rfl rfl rfl rfl rfl) ?_
            refine AOps.s 44 rfl rfl rfl (q_load tok rfl rfl rfl (by first | exact .loc _ | exact .ptr _ _ _ _ _ _ _ _ rfl rfl rfl) rfl) ?_
            refine AOps.s 45 rfl rfl rfl (q_move (.inl rfl) rfl) ?_
            refine AOps.s 46 rfl rfl rfl (q_index_lst tok rfl rfl rfl rfl rfl rfl (Int.natCast_nonneg _) (idx_map (by assumption)) rfl) ?_
            refine AOps.s 47 rfl rfl rfl (q_fieldAddr tok rfl rfl rfl rfl rfl rfl) ?_
            refine AOps.s 48 rfl rfl rfl (q_load tok rfl rfl rfl (by first | exact .loc _ | exact .ptr _ _ _ _ _ _ _ _ rfl rfl rfl) rfl) ?_
            refine AOps.s 49 rfl rfl rfl (q_len tok rfl rfl rfl rfl rfl) ?_
            refine AOps.s 50 rfl rfl rfl (q_bin rfl rfl rfl rfl) ?_
            refine AOps.nil ?_
            refine AGo.split 50 rfl (fun hb6 => ?_) (fun hb6 => ?_)
            · -- True
              refine AGo.cond_true true rfl rfl ?_
              have hjl : j < x.ins.length := lt_of_idx hb6
              obtain ⟨u, hu⟩ := get_of_lt hjl
              refine AGo.skip ?_
              refine AGo.seq ?_
              refine AGo.block ?_
              refine AGo.seq ?_
              refine AGo.draw mix ?_
              refine DOps.s 53 rfl rfl rfl (q_fieldAddr tok rfl rfl rfl rfl rfl rfl) ?_
              refine DOps.s 54 rfl rfl rfl (q_load tok rfl rfl rfl (by first | exact .loc _ | exact .ptr _ _ _ _ _ _ _ _ rfl rfl rfl) rfl) ?_
              refine DOps.s 55 rfl rfl rfl (q_move (.inl rfl) rfl) ?_
              refine DOps.s 56 rfl rfl rfl (q_index_lst tok rfl rfl rfl rfl rfl rfl (Int.natCast_nonneg _) (idx_map (by assumption)) rfl) ?_
              refine DOps.s 57 rfl rfl rfl (q_fieldAddr tok rfl rfl rfl rfl rfl rfl) ?_
              refine DOps.s 58 rfl rfl rfl (q_load tok rfl rfl rfl (by first | exact .loc _ | exact .ptr _ _ _ _ _ _ _ _ rfl rfl rfl) rfl) ?_
              refine DOps.s 59 rfl rfl rfl (q_move (.inl rfl) rfl) ?_
              refine DOps.s 60 rfl rfl rfl (q_index_lst tok rfl rfl rfl rfl rfl rfl (Int.natCast_nonneg _) (idx_map (by assumption)) rfl) ?_
              refine DOps.s 61 rfl rfl rfl (q_load tok rfl rfl rfl (by first | exact .loc _ | exact .ptr _ _ _ _ _ _ _ _ rfl rfl rfl) rfl) ?_
              refine DOps.s 62 rfl rfl rfl (q_move (.inl rfl) rfl) ?_
              refine DOps.s 63 rfl rfl rfl (q_fieldAddr tok rfl rfl rfl rfl rfl rfl) ?_
              refine DOps.s 64 rfl rfl rfl (q_load tok rfl rfl rfl (by first | exact .loc _ | exact .ptr _ _ _ _ _ _ _ _ rfl rfl rfl) rfl) ?_
              refine DOps.s 65 rfl rfl rfl (q_move (.inl rfl) rfl) ?_
              refine DOps.x 66 rfl rfl rfl (o_pure rfl Try.func46 (by kernel_rfl) rfl rfl rfl (fits_ok u _ _ _ hw hw2)) ?_
              refine DOps.s 67 rfl rfl rfl (q_not rfl rfl) ?_
              refine DOps.nil (by kernel_rfl) ?_
              refine AGo.split 67 rfl (fun hb7 => ?_) (fun hb7 => ?_)
              · -- True
                refine AGo.cond_true true rfl rfl ?_
                have hbw := hb7
                refine AGo.seq ?_
                refine AGo.region ?_
                refine AOps.s 6 rfl rfl rfl (q_move (.inr rfl) rfl) ?_
                refine AOps.nil ?_
                refine AGo.ret ?_
                refine ⟨[_], ⟨rfl, trivial⟩, ?_, rfl⟩
                show AV.bool _ = AV.bool _
                congr 1
                rw [one_all h0.1 h0.2.1 h0.2.2, all_bad hx (by simp only [Block.ok, all_bad (p := fun t => Tac.fits t number f.regs words) hu (by simpa using hbw), Bool.and_false])]
              · -- False
                refine AGo.cond_false false rfl rfl ?_
                have hbw := hb7
                refine AGo.skip ?_
                refine AGo.region ?_
                refine AOps.s 51 rfl rfl rfl (q_move (.inl rfl) rfl) ?_
                refine AOps.s 52 rfl rfl rfl (q_inc rfl rfl hjl (hfit.2 x (List.mem_of_getElem? hx))) ?_
                refine AOps.s 8 rfl rfl rfl (q_move (.inr rfl) rfl) ?_
                refine AOps.nil ?_
                exact ⟨j+1, Drop.mk' (by repeat (first | exact EDrop.new _ _ | refine EDrop.put ?_ (by rfl) rfl)) (by repeat (first | exact HDrop.none _ _ | exact HDrop.tail _ _ | refine HDrop.put ?_ (by rfl) rfl rfl)), all_succ hu hj (by simpa using hbw), by omega⟩
            · -- False
              refine AGo.cond_false false rfl rfl ?_
              have hins := all_end hj (ge_of_idx hb6)
              refine AGo.exit ?_
              refine AGo.region ?_
              refine AOps.s 28 rfl rfl rfl (q_move (.inl rfl) rfl) ?_
              refine AOps.s 29 rfl rfl rfl (q_inc rfl rfl hkl hfit.1) ?_
              refine AOps.s 7 rfl rfl rfl (q_move (.inr rfl) rfl) ?_
              refine AOps.nil ?_
              exact ⟨k+1, Drop.mk' (by repeat (first | exact EDrop.new _ _ | refine EDrop.put ?_ (by rfl) rfl)) (by repeat (first | exact HDrop.none _ _ | exact HDrop.tail _ _ | refine HDrop.put ?_ (by rfl) rfl rfl)), all_succ hx hk (by simp [Block.ok, hends, hins]), by omega⟩
        · -- False
          refine AGo.cond_false false rfl rfl ?_
          have hall := all_end hk (ge_of_idx hb4)
          refine AGo.exit ?_
          refine AGo.seq ?_
          refine AGo.region ?_
          refine AOps.s 6 rfl rfl rfl (q_move (.inr rfl) rfl) ?_
          refine AOps.nil ?_
          refine AGo.ret ?_
          refine ⟨[_], ⟨rfl, trivial⟩, ?_, rfl⟩
          show AV.bool _ = AV.bool _
          congr 1
          rw [one_all h0.1 h0.2.1 h0.2.2, hall]

set_option maxRecDepth 100000 in
theorem right_ok (b : Blocks) : APure Try.prog 22 [.agg b.cells] (fun r => r = .bool b.right) := by
  refine APure.of_body (n := 35) tok Try.func22 rfl rfl ?_
  refine AGo.seq ?_
  refine AGo.slot 0 rfl (fun H ι v => rel_prog) (fun hfit => ?_)
  refine AGo.region ?_
  refine AOps.x 1 rfl rfl rfl (o_box (sz := 2) 0 rfl rfl rfl rfl (Nat.zero_lt_succ _) rfl) ?_
  refine AOps.s 2 rfl rfl rfl (q_move (.inr rfl) rfl) ?_
  refine AOps.nil ?_
  refine AGo.seq ?_
  refine AGo.seq ?_
  refine AGo.region ?_
  refine AOps.s 4 rfl rfl rfl (q_fieldAddr tok rfl rfl rfl rfl rfl rfl) ?_
  refine AOps.s 5 rfl rfl rfl (q_load tok rfl rfl rfl (by first | exact .loc _ | exact .ptr _ _ _ _ _ _ _ _ rfl rfl rfl) rfl) ?_
  refine AOps.s 6 rfl rfl rfl (q_bin rfl rfl rfl rfl) ?_
  refine AOps.s 7 rfl rfl rfl (q_move (.inl rfl) rfl) ?_
  refine AOps.split 7 rfl (fun hb1 => ?_) (fun hb1 => ?_)
  · -- True
    refine AOps.k 8 rfl rfl rfl ?_
    refine AOps.k 9 rfl rfl rfl ?_
    refine AOps.k 10 rfl rfl rfl ?_
    refine AOps.s 11 rfl rfl rfl (q_pick_true true rfl rfl rfl rfl) ?_
    refine AOps.s 12 rfl rfl rfl (q_move (.inl rfl) rfl) ?_
    refine AOps.k 13 rfl rfl rfl ?_
    refine AOps.k 14 rfl rfl rfl ?_
    refine AOps.k 15 rfl rfl rfl ?_
    refine AOps.k 16 rfl rfl rfl ?_
    refine AOps.s 17 rfl rfl rfl (q_pick_true true rfl rfl rfl rfl) ?_
    refine AOps.nil ?_
    refine AGo.cond_true true rfl rfl ?_
    refine AGo.seq ?_
    refine AGo.region ?_
    refine AOps.s 2 rfl rfl rfl (q_move (.inr rfl) rfl) ?_
    refine AOps.nil ?_
    refine AGo.ret ?_
    refine ⟨[_], ⟨rfl, trivial⟩, ?_, rfl⟩
    show AV.bool _ = AV.bool _
    congr 1
    exact (right_bad (by simp_all <;> omega)).symm
  · -- False
    refine AOps.s 8 rfl rfl rfl (q_fieldAddr tok rfl rfl rfl rfl rfl rfl) ?_
    refine AOps.s 9 rfl rfl rfl (q_load tok rfl rfl rfl (by first | exact .loc _ | exact .ptr _ _ _ _ _ _ _ _ rfl rfl rfl) rfl) ?_
    refine AOps.s 10 rfl rfl rfl (q_bin rfl rfl rfl rfl) ?_
    refine AOps.s 11 rfl rfl rfl (q_pick_false false rfl rfl rfl rfl) ?_
    refine AOps.s 12 rfl rfl rfl (q_move (.inl rfl) rfl) ?_
    refine AOps.split 12 rfl (fun hb2 => ?_) (fun hb2 => ?_)
    · -- True
      refine AOps.k 13 rfl rfl rfl ?_
      refine AOps.k 14 rfl rfl rfl ?_
      refine AOps.k 15 rfl rfl rfl ?_
      refine AOps.k 16 rfl rfl rfl ?_
      refine AOps.s 17 rfl rfl rfl (q_pick_true true rfl rfl rfl rfl) ?_
      refine AOps.nil ?_
      refine AGo.cond_true true rfl rfl ?_
      refine AGo.seq ?_
      refine AGo.region ?_
      refine AOps.s 2 rfl rfl rfl (q_move (.inr rfl) rfl) ?_
      refine AOps.nil ?_
      refine AGo.ret ?_
      refine ⟨[_], ⟨rfl, trivial⟩, ?_, rfl⟩
      show AV.bool _ = AV.bool _
      congr 1
      exact (right_bad (by simp_all <;> omega)).symm
    · -- False
      refine AOps.s 13 rfl rfl rfl (q_fieldAddr tok rfl rfl rfl rfl rfl rfl) ?_
      refine AOps.s 14 rfl rfl rfl (q_load tok rfl rfl rfl (by first | exact .loc _ | exact .ptr _ _ _ _ _ _ _ _ rfl rfl rfl) rfl) ?_
      refine AOps.s 15 rfl rfl rfl (q_len tok rfl rfl rfl rfl rfl) ?_
      refine AOps.s 16 rfl rfl rfl (q_bin rfl rfl rfl rfl) ?_
      refine AOps.s 17 rfl rfl rfl (q_pick_false false rfl rfl rfl rfl) ?_
      refine AOps.nil ?_
      refine AGo.split 17 rfl (fun hb3 => ?_) (fun hb3 => ?_)
      · -- True
        refine AGo.cond_true true rfl rfl ?_
        refine AGo.seq ?_
        refine AGo.region ?_
        refine AOps.s 2 rfl rfl rfl (q_move (.inr rfl) rfl) ?_
        refine AOps.nil ?_
        refine AGo.ret ?_
        refine ⟨[_], ⟨rfl, trivial⟩, ?_, rfl⟩
        show AV.bool _ = AV.bool _
        congr 1
        exact (right_bad (by simp_all <;> omega)).symm
      · -- False
        refine AGo.cond_false false rfl rfl ?_
        have h0 : 0 ≤ b.words ∧ b.words ≤ 1048576 ∧ b.funcs.length ≠ 0 := by simp_all <;> omega
        refine AGo.skip ?_
        refine AGo.seq ?_
        refine AGo.seq ?_
        refine AGo.region ?_
        refine AOps.s 3 rfl rfl rfl (q_move (.inr rfl) rfl) ?_
        refine AOps.nil ?_
        refine AGo.block ?_
        refine AGo.loopD (γ := Nat) 1 (fun k => ⟨35, (eput (eput eNew 1 (.ptr 0 1 0 0)) 3 (.int .i64 (k : Int))), (hput (hFrom 1) 0 (.row false 2 [b.cells]))⟩) (fun k => (b.funcs.zipIdx.take k).all (fun p => p.1.one (p.2 : Int) b.words) = true) (fun k => b.funcs.length - k) 0 (Sub.mk' (by repeat (first | exact ESub.new _ | refine ESub.put ?_ (by rfl))) (by repeat (first | exact HSub.none _ | exact HSub.from_new _ | exact HSub.from_from (by decide) | refine HSub.put ?_ (by rfl) | refine HSub.from_put ?_ (by decide) | refine HSub.from_rm ?_ (by decide)))) rfl (fun _ => hput_free (fun b hb => hFrom_free hb) rfl) ?_
        intro k hk
        refine AGo.seq ?_
        refine AGo.seq ?_
        refine AGo.region ?_
        refine AOps.s 18 rfl rfl rfl (q_move (.inl rfl) rfl) ?_
        refine AOps.s 19 rfl rfl rfl (q_fieldAddr tok rfl rfl rfl rfl rfl rfl) ?_
        refine AOps.s 20 rfl rfl rfl (q_load tok rfl rfl rfl (by first | exact .loc _ | exact .ptr _ _ _ _ _ _ _ _ rfl rfl rfl) rfl) ?_
        refine AOps.s 21 rfl rfl rfl (q_len tok rfl rfl rfl rfl rfl) ?_
        refine AOps.s 22 rfl rfl rfl (q_bin rfl rfl rfl rfl) ?_
        refine AOps.nil ?_
        refine AGo.split 22 rfl (fun hb4 => ?_) (fun hb4 => ?_)
        · -- True
          refine AGo.cond_true true rfl rfl ?_
          have hkl : k < b.funcs.length := lt_of_idx hb4
          obtain ⟨x, hx⟩ := get_of_lt hkl
          refine AGo.skip ?_
          refine AGo.seq ?_
          refine AGo.block ?_
          refine AGo.seq ?_
          refine AGo.draw mix ?_
          refine DOps.s 25 rfl rfl rfl (q_fieldAddr tok rfl rfl rfl rfl rfl rfl) ?_
          refine DOps.s 26 rfl rfl rfl (q_load tok rfl rfl rfl (by first | exact .loc _ | exact .ptr _ _ _ _ _ _ _ _ rfl rfl rfl) rfl) ?_
          refine DOps.s 27 rfl rfl rfl (q_move (.inl rfl) rfl) ?_
          refine DOps.s 28 rfl rfl rfl (q_index_lst tok rfl rfl rfl rfl rfl rfl (Int.natCast_nonneg _) (idx_map (by assumption)) rfl) ?_
          refine DOps.s 29 rfl rfl rfl (q_load tok rfl rfl rfl (by first | exact .loc _ | exact .ptr _ _ _ _ _ _ _ _ rfl rfl rfl) rfl) ?_
          refine DOps.s 30 rfl rfl rfl (q_move (.inl rfl) rfl) ?_
          refine DOps.s 31 rfl rfl rfl (q_fieldAddr tok rfl rfl rfl rfl rfl rfl) ?_
          refine DOps.s 32 rfl rfl rfl (q_load tok rfl rfl rfl (by first | exact .loc _ | exact .ptr _ _ _ _ _ _ _ _ rfl rfl rfl) rfl) ?_
          refine DOps.x 33 rfl rfl rfl (o_pure rfl Try.func35 (by kernel_rfl) rfl rfl rfl (one_ok x _ _ h0.1 h0.2.1)) ?_
          refine DOps.s 34 rfl rfl rfl (q_not rfl rfl) ?_
          refine DOps.nil (by kernel_rfl) ?_
          refine AGo.split 34 rfl (fun hb5 => ?_) (fun hb5 => ?_)
          · -- True
            refine AGo.cond_true true rfl rfl ?_
            have hone := hb5
            refine AGo.seq ?_
            refine AGo.region ?_
            refine AOps.s 2 rfl rfl rfl (q_move (.inr rfl) rfl) ?_
            refine AOps.nil ?_
            refine AGo.ret ?_
            refine ⟨[_], ⟨rfl, trivial⟩, ?_, rfl⟩
            show AV.bool _ = AV.bool _
            congr 1
            rw [right_all h0.1 h0.2.1 h0.2.2, all_bad (zipIdx_get hx) (by simpa using hone)]
          · -- False
            refine AGo.cond_false false rfl rfl ?_
            have hone := hb5
            refine AGo.skip ?_
            refine AGo.region ?_
            refine AOps.s 23 rfl rfl rfl (q_move (.inl rfl) rfl) ?_
            refine AOps.s 24 rfl rfl rfl (q_inc rfl rfl hkl hfit.1) ?_
            refine AOps.s 3 rfl rfl rfl (q_move (.inr rfl) rfl) ?_
            refine AOps.nil ?_
            exact ⟨k+1, Drop.mk' (by repeat (first | exact EDrop.new _ _ | refine EDrop.put ?_ (by rfl) rfl)) (by repeat (first | exact HDrop.none _ _ | exact HDrop.tail _ _ | refine HDrop.put ?_ (by rfl) rfl rfl)), all_succ (zipIdx_get hx) hk (by simpa using hone), by omega⟩
        · -- False
          refine AGo.cond_false false rfl rfl ?_
          have hall := all_end hk (by rw [List.length_zipIdx]; exact ge_of_idx hb4)
          refine AGo.exit ?_
          refine AGo.seq ?_
          refine AGo.region ?_
          refine AOps.s 2 rfl rfl rfl (q_move (.inr rfl) rfl) ?_
          refine AOps.nil ?_
          refine AGo.ret ?_
          refine ⟨[_], ⟨rfl, trivial⟩, ?_, rfl⟩
          show AV.bool _ = AV.bool _
          congr 1
          rw [right_all h0.1 h0.2.1 h0.2.2, hall]

end Go.Proofs.Ytophfphgcbnafaa.Sv

namespace Go.Proofs.Ytophfphgcbnafaa.Sv
open Go
set_option linter.unusedVariables false
set_option linter.unusedSimpArgs false

set_option maxRecDepth 100000 in
theorem fewB_ok (b : Blocks) (hb : b.Ok) : APure Try.prog 21 [.agg b.cells] (fun r => r = .bool (fewB b)) := by
  obtain ⟨hl0, hl1⟩ := hb.lens
  simp only [big] at hl0 hl1
  refine APure.of_body (n := 59) tok Try.func21 rfl rfl ?_
  refine AGo.seq ?_
  refine AGo.region ?_
  refine AOps.x 1 rfl rfl rfl (o_box (sz := 2) 0 rfl rfl rfl rfl (Nat.zero_lt_succ _) rfl) ?_
  refine AOps.s 2 rfl rfl rfl (q_move (.inr rfl) rfl) ?_
  refine AOps.nil ?_
  refine AGo.seq ?_
  refine AGo.region ?_
  refine AOps.s 6 rfl rfl rfl (q_fieldAddr tok rfl rfl rfl rfl rfl rfl) ?_
  refine AOps.s 7 rfl rfl rfl (q_load tok rfl rfl rfl (by first | exact .loc _ | exact .ptr _ _ _ _ _ _ _ _ rfl rfl rfl) rfl) ?_
  refine AOps.s 8 rfl rfl rfl (q_len tok rfl rfl rfl rfl rfl) ?_
  refine AOps.s 3 rfl rfl rfl (q_move (.inr rfl) rfl) ?_
  refine AOps.nil ?_
  refine AGo.seq ?_
  refine AGo.seq ?_
  refine AGo.region ?_
  refine AOps.s 4 rfl rfl rfl (q_move (.inr rfl) rfl) ?_
  refine AOps.nil ?_
  refine AGo.block ?_
  refine AGo.loopD (γ := Nat × Nat) 1 (fun q => ⟨59, (eput (eput (eput eNew 1 (.ptr 0 1 0 0)) 3 (.int .i64 ((q.2 : Nat) : Int))) 4 (.int .i64 (q.1 : Int))), (hput (hFrom 1) 0 (.row false 2 [b.cells]))⟩) (fun q => (q.2 = partsK b q.1 ∨ 300 ≤ q.2) ∧ q.2 ≤ b.parts) (fun q => b.funcs.length - q.1) (0, b.funcs.length) (Sub.mk' (by repeat (first | exact ESub.new _ | refine ESub.put ?_ (by first | rfl | exact congrArg (fun (n : Nat) => some (AV.int .i64 (n : Int))) (by simp)))) (by repeat (first | exact HSub.refl _ | exact HSub.none _ | exact HSub.from_new _ | exact HSub.from_from (by first | decide | omega | (dsimp only; omega)) | refine HSub.put ?_ (by rfl) | refine HSub.from_put ?_ (by first | decide | omega | (dsimp only; omega)) | refine HSub.from_rm ?_ (by decide)))) ⟨.inl (by simp [partsK]), by simp only [Blocks.parts]; omega⟩ (fun _ => hput_free (fun b hb => hFrom_free hb) rfl) ?_
  intro q hF
  refine AGo.seq ?_
  refine AGo.seq ?_
  refine AGo.region ?_
  refine AOps.s 9 rfl rfl rfl (q_move (.inl rfl) rfl) ?_
  refine AOps.s 10 rfl rfl rfl (q_fieldAddr tok rfl rfl rfl rfl rfl rfl) ?_
  refine AOps.s 11 rfl rfl rfl (q_load tok rfl rfl rfl (by first | exact .loc _ | exact .ptr _ _ _ _ _ _ _ _ rfl rfl rfl) rfl) ?_
  refine AOps.s 12 rfl rfl rfl (q_len tok rfl rfl rfl rfl rfl) ?_
  refine AOps.s 13 rfl rfl rfl (q_bin rfl rfl rfl rfl) ?_
  refine AOps.s 14 rfl rfl rfl (q_move (.inl rfl) rfl) ?_
  refine AOps.split 14 rfl (fun hb1 => ?_) (fun hb1 => ?_)
  · -- True
    have hkl : q.1 < b.funcs.length := by simpa using hb1
    obtain ⟨f, hf⟩ := get_of_lt hkl
    obtain ⟨hl2, hl3⟩ := hl1 f (List.mem_of_getElem? hf)
    refine AOps.s 15 rfl rfl rfl (q_move (.inl rfl) rfl) ?_
    refine AOps.s 16 rfl rfl rfl (q_bin rfl rfl rfl rfl) ?_
    refine AOps.s 17 rfl rfl rfl (q_pick_true true rfl rfl rfl rfl) ?_
    refine AOps.nil ?_
    refine AGo.split 17 rfl (fun hb2 => ?_) (fun hb2 => ?_)
    · -- True
      refine AGo.cond_true true rfl rfl ?_
      have hn : q.2 < 300 := by have h := hb2; simp at h; omega
      have hnq : q.2 = partsK b q.1 := by omega
      have hps := partsK_succ hf
      have hpl := partsK_le (b := b) (k := q.1 + 1)
      refine AGo.skip ?_
      refine AGo.seq ?_
      refine AGo.block ?_
      refine AGo.seq ?_
      refine AGo.region ?_
      refine AOps.s 20 rfl rfl rfl (q_move (.inl rfl) rfl) ?_
      refine AOps.s 21 rfl rfl rfl (q_fieldAddr tok rfl rfl rfl rfl rfl rfl) ?_
      refine AOps.s 22 rfl rfl rfl (q_load tok rfl rfl rfl (by first | exact .loc _ | exact .ptr _ _ _ _ _ _ _ _ rfl rfl rfl) rfl) ?_
      refine AOps.s 23 rfl rfl rfl (q_move (.inl rfl) rfl) ?_
      refine AOps.s 24 rfl rfl rfl (q_index_lst tok rfl rfl rfl rfl rfl rfl (Int.natCast_nonneg _) (idx_map (by assumption)) rfl) ?_
      refine AOps.s 25 rfl rfl rfl (q_fieldAddr tok rfl rfl rfl rfl rfl rfl) ?_
      refine AOps.s 26 rfl rfl rfl (q_load tok rfl rfl rfl (by first | exact .loc _ | exact .ptr _ _ _ _ _ _ _ _ rfl rfl rfl) rfl) ?_
      refine AOps.s 27 rfl rfl rfl (q_len tok rfl rfl rfl rfl rfl) ?_
      refine AOps.s 28 rfl rfl rfl (q_bin (r := .int .i64 ((q.2 + f.blocks.length : Nat) : Int)) rfl rfl rfl (by simp only [evalBin, evalInt, isShift, cond_false, if_true]; rw [List.length_map, wrap_i64 (by omega) (by omega)]; rfl)) ?_
      refine AOps.s 3 rfl rfl rfl (q_move (.inr rfl) rfl) ?_
      refine AOps.nil ?_
      refine AGo.seq ?_
      refine AGo.region ?_
      refine AOps.s 5 rfl rfl rfl (q_move (.inr rfl) rfl) ?_
      refine AOps.nil ?_
      refine AGo.block ?_
      refine AGo.loopD (γ := Nat × Nat) 1 (fun p => ⟨59, (eput (eput (eput (eput eNew 1 (.ptr 0 1 0 0)) 3 (.int .i64 ((p.2 : Nat) : Int))) 4 (.int .i64 (q.1 : Int))) 5 (.int .i64 (p.1 : Int))), (hput (hFrom 1) 0 (.row false 2 [b.cells]))⟩) (fun p => (p.2 = q.2 + f.blocks.length + insSumB (f.blocks.take p.1) ∨ 300 ≤ p.2) ∧ p.2 ≤ partsK b (q.1 + 1)) (fun p => f.blocks.length - p.1) (0, q.2 + f.blocks.length) (Sub.mk' (by repeat (first | exact ESub.new _ | refine ESub.put ?_ (by rfl))) (by repeat (first | exact HSub.refl _ | exact HSub.none _ | exact HSub.from_new _ | exact HSub.from_from (by first | decide | omega | (dsimp only; omega)) | refine HSub.put ?_ (by rfl) | refine HSub.from_put ?_ (by first | decide | omega | (dsimp only; omega)) | refine HSub.from_rm ?_ (by decide)))) ⟨.inl (by simp [insSumB]), by show q.2 + f.blocks.length ≤ _; omega⟩ (fun _ => hput_free (fun b hb => hFrom_free hb) rfl) ?_
      intro p hG
      refine AGo.seq ?_
      refine AGo.seq ?_
      refine AGo.region ?_
      refine AOps.s 29 rfl rfl rfl (q_move (.inl rfl) rfl) ?_
      refine AOps.s 30 rfl rfl rfl (q_fieldAddr tok rfl rfl rfl rfl rfl rfl) ?_
      refine AOps.s 31 rfl rfl rfl (q_load tok rfl rfl rfl (by first | exact .loc _ | exact .ptr _ _ _ _ _ _ _ _ rfl rfl rfl) rfl) ?_
      refine AOps.s 32 rfl rfl rfl (q_move (.inl rfl) rfl) ?_
      refine AOps.s 33 rfl rfl rfl (q_index_lst tok rfl rfl rfl rfl rfl rfl (Int.natCast_nonneg _) (idx_map (by assumption)) rfl) ?_
      refine AOps.s 34 rfl rfl rfl (q_fieldAddr tok rfl rfl rfl rfl rfl rfl) ?_
      refine AOps.s 35 rfl rfl rfl (q_load tok rfl rfl rfl (by first | exact .loc _ | exact .ptr _ _ _ _ _ _ _ _ rfl rfl rfl) rfl) ?_
      refine AOps.s 36 rfl rfl rfl (q_len tok rfl rfl rfl rfl rfl) ?_
      refine AOps.s 37 rfl rfl rfl (q_bin rfl rfl rfl rfl) ?_
      refine AOps.s 38 rfl rfl rfl (q_move (.inl rfl) rfl) ?_
      refine AOps.split 38 rfl (fun hb3 => ?_) (fun hb3 => ?_)
      · -- True
        have hjl : p.1 < f.blocks.length := by simpa using hb3
        obtain ⟨x, hx⟩ := get_of_lt hjl
        have hl4 := hl3 x (List.mem_of_getElem? hx)
        refine AOps.s 39 rfl rfl rfl (q_move (.inl rfl) rfl) ?_
        refine AOps.s 40 rfl rfl rfl (q_bin rfl rfl rfl rfl) ?_
        refine AOps.s 41 rfl rfl rfl (q_pick_true true rfl rfl rfl rfl) ?_
        refine AOps.nil ?_
        refine AGo.split 41 rfl (fun hb4 => ?_) (fun hb4 => ?_)
        · -- True
          refine AGo.cond_true true rfl rfl ?_
          have hm : p.2 < 300 := by have h := hb4; simp at h; omega
          have hsu := insSumB_succ hx
          have hsl := insSumB_take (l := f.blocks) (k := p.1 + 1)
          refine AGo.skip ?_
          refine AGo.seq ?_
          refine AGo.block ?_
          refine AGo.region ?_
          refine AOps.s 44 rfl rfl rfl (q_move (.inl rfl) rfl) ?_
          refine AOps.s 45 rfl rfl rfl (q_fieldAddr tok rfl rfl rfl rfl rfl rfl) ?_
          refine AOps.s 46 rfl rfl rfl (q_load tok rfl rfl rfl (by first | exact .loc _ | exact .ptr _ _ _ _ _ _ _ _ rfl rfl rfl) rfl) ?_
          refine AOps.s 47 rfl rfl rfl (q_move (.inl rfl) rfl) ?_
          refine AOps.s 48 rfl rfl rfl (q_index_lst tok rfl rfl rfl rfl rfl rfl (Int.natCast_nonneg _) (idx_map (by assumption)) rfl) ?_
          refine AOps.s 49 rfl rfl rfl (q_fieldAddr tok rfl rfl rfl rfl rfl rfl) ?_
          refine AOps.s 50 rfl rfl rfl (q_load tok rfl rfl rfl (by first | exact .loc _ | exact .ptr _ _ _ _ _ _ _ _ rfl rfl rfl) rfl) ?_
          refine AOps.s 51 rfl rfl rfl (q_move (.inl rfl) rfl) ?_
          refine AOps.s 52 rfl rfl rfl (q_index_lst tok rfl rfl rfl rfl rfl rfl (Int.natCast_nonneg _) (idx_map (by assumption)) rfl) ?_
          refine AOps.s 53 rfl rfl rfl (q_fieldAddr tok rfl rfl rfl rfl rfl rfl) ?_
          refine AOps.s 54 rfl rfl rfl (q_load tok rfl rfl rfl (by first | exact .loc _ | exact .ptr _ _ _ _ _ _ _ _ rfl rfl rfl) rfl) ?_
          refine AOps.s 55 rfl rfl rfl (q_len tok rfl rfl rfl rfl rfl) ?_
          refine AOps.s 56 rfl rfl rfl (q_bin (r := .int .i64 ((p.2 + x.ins.length : Nat) : Int)) rfl rfl rfl (by simp only [evalBin, evalInt, isShift, cond_false, if_true]; rw [List.length_map, wrap_i64 (by omega) (by omega)]; rfl)) ?_
          refine AOps.s 3 rfl rfl rfl (q_move (.inr rfl) rfl) ?_
          refine AOps.nil ?_
          refine AGo.region ?_
          refine AOps.s 42 rfl rfl rfl (q_move (.inl rfl) rfl) ?_
          refine AOps.s 43 rfl rfl rfl (q_inc rfl rfl hjl (by simp only [maxLen]; omega)) ?_
          refine AOps.s 5 rfl rfl rfl (q_move (.inr rfl) rfl) ?_
          refine AOps.nil ?_
          exact ⟨(p.1 + 1, p.2 + x.ins.length), Drop.mk' (by repeat (first | exact EDrop.new _ _ | refine EDrop.put ?_ (by rfl) rfl)) (by repeat (first | exact HDrop.none _ _ | exact HDrop.tail _ _ | refine HDrop.put ?_ (by rfl) rfl rfl)), ⟨by show p.2 + x.ins.length = q.2 + f.blocks.length + insSumB (f.blocks.take (p.1 + 1)) ∨ 300 ≤ p.2 + x.ins.length; omega, by show p.2 + x.ins.length ≤ _; omega⟩, (by show f.blocks.length - (p.1 + 1) < f.blocks.length - p.1; omega)⟩
        · -- False
          refine AGo.cond_false false rfl rfl ?_
          have hout : (p.2 = partsK b (q.1 + 1) ∨ 300 ≤ p.2) ∧ p.2 ≤ b.parts := by
            have h := hb4; simp at h
            have hsl := insSumB_take (l := f.blocks) (k := p.1)
            first | (have hkk : insSumB (f.blocks.take p.1) = insSumB f.blocks := by rw [List.take_of_length_le h]
                     omega) | omega
          refine AGo.exit ?_
          refine AGo.region ?_
          refine AOps.s 18 rfl rfl rfl (q_move (.inl rfl) rfl) ?_
          refine AOps.s 19 rfl rfl rfl (q_inc rfl rfl hkl (by simp only [maxLen]; omega)) ?_
          refine AOps.s 4 rfl rfl rfl (q_move (.inr rfl) rfl) ?_
          refine AOps.nil ?_
          exact ⟨(q.1 + 1, p.2), Drop.mk' (by repeat (first | exact EDrop.new _ _ | refine EDrop.put ?_ (by rfl) rfl)) (by repeat (first | exact HDrop.none _ _ | exact HDrop.tail _ _ | refine HDrop.put ?_ (by rfl) rfl rfl)), hout, (by show b.funcs.length - (q.1 + 1) < b.funcs.length - q.1; omega)⟩
      · -- False
        refine AOps.k 39 rfl rfl rfl ?_
        refine AOps.k 40 rfl rfl rfl ?_
        refine AOps.s 41 rfl rfl rfl (q_pick_false false rfl rfl rfl rfl) ?_
        refine AOps.nil ?_
        refine AGo.cond_false false rfl rfl ?_
        have hout : (p.2 = partsK b (q.1 + 1) ∨ 300 ≤ p.2) ∧ p.2 ≤ b.parts := by
          have h := hb3; simp at h
          have hsl := insSumB_take (l := f.blocks) (k := p.1)
          first | (have hkk : insSumB (f.blocks.take p.1) = insSumB f.blocks := by rw [List.take_of_length_le h]
                   omega) | omega
        refine AGo.exit ?_
        refine AGo.region ?_
        refine AOps.s 18 rfl rfl rfl (q_move (.inl rfl) rfl) ?_
        refine AOps.s 19 rfl rfl rfl (q_inc rfl rfl hkl (by simp only [maxLen]; omega)) ?_
        refine AOps.s 4 rfl rfl rfl (q_move (.inr rfl) rfl) ?_
        refine AOps.nil ?_
        exact ⟨(q.1 + 1, p.2), Drop.mk' (by repeat (first | exact EDrop.new _ _ | refine EDrop.put ?_ (by rfl) rfl)) (by repeat (first | exact HDrop.none _ _ | exact HDrop.tail _ _ | refine HDrop.put ?_ (by rfl) rfl rfl)), hout, (by show b.funcs.length - (q.1 + 1) < b.funcs.length - q.1; omega)⟩
    · -- False
      refine AGo.cond_false false rfl rfl ?_
      have hfin := few_end (b := b) (n := q.2) (by have h := hb2; simp at h; first | (have hkk := partsK_end h; rw [hkk] at hF; exact hF) | omega)
      refine AGo.exit ?_
      refine AGo.seq ?_
      refine AGo.region ?_
      refine AOps.s 57 rfl rfl rfl (q_move (.inl rfl) rfl) ?_
      refine AOps.s 58 rfl rfl rfl (q_bin rfl rfl rfl rfl) ?_
      refine AOps.s 2 rfl rfl rfl (q_move (.inr rfl) rfl) ?_
      refine AOps.nil ?_
      refine AGo.ret ?_
      refine ⟨[_], ⟨rfl, trivial⟩, ?_, rfl⟩
      exact congrArg AV.bool hfin
  · -- False
    refine AOps.k 15 rfl rfl rfl ?_
    refine AOps.k 16 rfl rfl rfl ?_
    refine AOps.s 17 rfl rfl rfl (q_pick_false false rfl rfl rfl rfl) ?_
    refine AOps.nil ?_
    refine AGo.cond_false false rfl rfl ?_
    have hfin := few_end (b := b) (n := q.2) (by have h := hb1; simp at h; first | (have hkk := partsK_end h; rw [hkk] at hF; exact hF) | omega)
    refine AGo.exit ?_
    refine AGo.seq ?_
    refine AGo.region ?_
    refine AOps.s 57 rfl rfl rfl (q_move (.inl rfl) rfl) ?_
    refine AOps.s 58 rfl rfl rfl (q_bin rfl rfl rfl rfl) ?_
    refine AOps.s 2 rfl rfl rfl (q_move (.inr rfl) rfl) ?_
    refine AOps.nil ?_
    refine AGo.ret ?_
    refine ⟨[_], ⟨rfl, trivial⟩, ?_, rfl⟩
    exact congrArg AV.bool hfin

set_option maxRecDepth 100000 in
theorem smallS_ok (b : Blocks) (s : ByteArray) (hb : b.Ok) : APure Try.prog 10 [.agg b.cells, .str s] (fun r => r = .bool (smallS b s)) := by
  refine APure.of_body (n := 21) tok Try.func10 rfl rfl ?_
  refine AGo.seq ?_
  refine AGo.region ?_
  refine AOps.x 2 rfl rfl rfl (o_box (sz := 2) 0 rfl rfl rfl rfl (Nat.zero_lt_succ _) rfl) ?_
  refine AOps.s 4 rfl rfl rfl (q_move (.inr rfl) rfl) ?_
  refine AOps.nil ?_
  refine AGo.seq ?_
  refine AGo.region ?_
  refine AOps.s 5 rfl rfl rfl (q_move (.inl rfl) rfl) ?_
  refine AOps.s 6 rfl rfl rfl (q_len tok rfl rfl rfl rfl rfl) ?_
  refine AOps.s 7 rfl rfl rfl (q_bin rfl rfl rfl rfl) ?_
  refine AOps.s 8 rfl rfl rfl (q_move (.inl rfl) rfl) ?_
  refine AOps.split 8 rfl (fun hb1 => ?_) (fun hb1 => ?_)
  · -- True
    refine AOps.s 9 rfl rfl rfl (q_fieldAddr tok rfl rfl rfl rfl rfl rfl) ?_
    refine AOps.s 10 rfl rfl rfl (q_load tok rfl rfl rfl (by first | exact .loc _ | exact .ptr _ _ _ _ _ _ _ _ rfl rfl rfl) rfl) ?_
    refine AOps.s 11 rfl rfl rfl (q_bin rfl rfl rfl rfl) ?_
    refine AOps.s 12 rfl rfl rfl (q_pick_true true rfl rfl rfl rfl) ?_
    refine AOps.s 13 rfl rfl rfl (q_move (.inl rfl) rfl) ?_
    refine AOps.split 13 rfl (fun hb2 => ?_) (fun hb2 => ?_)
    · -- True
      refine AOps.s 14 rfl rfl rfl (q_load tok rfl rfl rfl (by first | exact .loc _ | exact .ptr _ _ _ _ _ _ _ _ rfl rfl rfl) rfl) ?_
      refine AOps.x 15 rfl rfl rfl (o_pure rfl Try.func21 (by kernel_rfl) rfl rfl rfl (fewB_ok _ (by assumption))) ?_
      refine AOps.s 16 rfl rfl rfl (q_pick_true true rfl rfl rfl rfl) ?_
      refine AOps.s 17 rfl rfl rfl (q_move (.inl rfl) rfl) ?_
      refine AOps.split 17 rfl (fun hb3 => ?_) (fun hb3 => ?_)
      · -- True
        refine AOps.s 18 rfl rfl rfl (q_load tok rfl rfl rfl (by first | exact .loc _ | exact .ptr _ _ _ _ _ _ _ _ rfl rfl rfl) rfl) ?_
        refine AOps.x 19 rfl rfl rfl (o_pure rfl Try.func22 (by kernel_rfl) rfl rfl rfl (right_ok _)) ?_
        refine AOps.s 20 rfl rfl rfl (q_pick_true true rfl rfl rfl rfl) ?_
        refine AOps.s 4 rfl rfl rfl (q_move (.inr rfl) rfl) ?_
        refine AOps.nil ?_
        refine AGo.ret ?_
        refine ⟨[_], ⟨rfl, trivial⟩, ?_, rfl⟩
        show AV.bool _ = AV.bool _
        congr 1
        simp only [smallS, *, Bool.true_and, Bool.false_and]
      · -- False
        refine AOps.k 18 rfl rfl rfl ?_
        refine AOps.k 19 rfl rfl rfl ?_
        refine AOps.s 20 rfl rfl rfl (q_pick_false false rfl rfl rfl rfl) ?_
        refine AOps.s 4 rfl rfl rfl (q_move (.inr rfl) rfl) ?_
        refine AOps.nil ?_
        refine AGo.ret ?_
        refine ⟨[_], ⟨rfl, trivial⟩, ?_, rfl⟩
        show AV.bool _ = AV.bool _
        congr 1
        simp only [smallS, *, Bool.true_and, Bool.false_and]
    · -- False
      refine AOps.k 14 rfl rfl rfl ?_
      refine AOps.k 15 rfl rfl rfl ?_
      refine AOps.s 16 rfl rfl rfl (q_pick_false false rfl rfl rfl rfl) ?_
      refine AOps.s 17 rfl rfl rfl (q_move (.inl rfl) rfl) ?_
      refine AOps.k 18 rfl rfl rfl ?_
      refine AOps.k 19 rfl rfl rfl ?_
      refine AOps.s 20 rfl rfl rfl (q_pick_false false rfl rfl rfl rfl) ?_
      refine AOps.s 4 rfl rfl rfl (q_move (.inr rfl) rfl) ?_
      refine AOps.nil ?_
      refine AGo.ret ?_
      refine ⟨[_], ⟨rfl, trivial⟩, ?_, rfl⟩
      show AV.bool _ = AV.bool _
      congr 1
      simp only [smallS, *, Bool.true_and, Bool.false_and]
  · -- False
    refine AOps.k 9 rfl rfl rfl ?_
    refine AOps.k 10 rfl rfl rfl ?_
    refine AOps.k 11 rfl rfl rfl ?_
    refine AOps.s 12 rfl rfl rfl (q_pick_false false rfl rfl rfl rfl) ?_
    refine AOps.s 13 rfl rfl rfl (q_move (.inl rfl) rfl) ?_
    refine AOps.k 14 rfl rfl rfl ?_
    refine AOps.k 15 rfl rfl rfl ?_
    refine AOps.s 16 rfl rfl rfl (q_pick_false false rfl rfl rfl rfl) ?_
    refine AOps.s 17 rfl rfl rfl (q_move (.inl rfl) rfl) ?_
    refine AOps.k 18 rfl rfl rfl ?_
    refine AOps.k 19 rfl rfl rfl ?_
    refine AOps.s 20 rfl rfl rfl (q_pick_false false rfl rfl rfl rfl) ?_
    refine AOps.s 4 rfl rfl rfl (q_move (.inr rfl) rfl) ?_
    refine AOps.nil ?_
    refine AGo.ret ?_
    refine ⟨[_], ⟨rfl, trivial⟩, ?_, rfl⟩
    show AV.bool _ = AV.bool _
    congr 1
    simp only [smallS, *, Bool.true_and, Bool.false_and]

end Go.Proofs.Ytophfphgcbnafaa.Sv

namespace Go.Proofs.Ytophfphgcbnafaa.Sv
open Go
set_option linter.unusedVariables false
set_option linter.unusedSimpArgs false

set_option maxRecDepth 100000 in
theorem bsize_ok (b : Blocks) (hc : b.count ≤ 1000000000) : APure Try.prog 25 [.agg b.cells] (fun r => r = .int .i64 (b.count : Int)) := by
  refine APure.of_body (n := 35) tok Try.func25 rfl rfl ?_
  refine AGo.seq ?_
  refine AGo.slot 0 rfl (fun H ι v => rel_prog) (fun hfit => ?_)
  refine AGo.region ?_
  refine AOps.x 1 rfl rfl rfl (o_box (sz := 2) 0 rfl rfl rfl rfl (Nat.zero_lt_succ _) rfl) ?_
  refine AOps.s 2 rfl rfl rfl (q_move (.inr rfl) rfl) ?_
  refine AOps.nil ?_
  refine AGo.seq ?_
  refine AGo.region ?_
  refine AOps.s 3 rfl rfl rfl (q_move (.inr rfl) rfl) ?_
  refine AOps.nil ?_
  refine AGo.seq ?_
  refine AGo.seq ?_
  refine AGo.region ?_
  refine AOps.s 8 rfl rfl rfl (q_fieldAddr tok rfl rfl rfl rfl rfl rfl) ?_
  refine AOps.s 9 rfl rfl rfl (q_load tok rfl rfl rfl (by first | exact .loc _ | exact .ptr _ _ _ _ _ _ _ _ rfl rfl rfl) rfl) ?_
  refine AOps.s 10 rfl rfl rfl (q_len tok rfl rfl rfl rfl rfl) ?_
  refine AOps.s 11 rfl rfl rfl (q_move (.inl rfl) rfl) ?_
  refine AOps.nil ?_
  refine AGo.block ?_
  refine AGo.loopD (γ := Nat) 1 (fun k => ⟨35, (eput (eput (eput (eput (eput eNew 1 (.ptr 0 1 0 0)) 3 (.int .i64 ((((b.funcs.take k).map BFunc.count).sum : Nat) : Int))) 9 (funcsAV b.funcs)) 10 (.int .i64 (b.funcs.length : Int))) 11 (.int .i64 (k : Int))), (hput (hFrom 1) 0 (.row false 2 [b.cells]))⟩) (fun k => True) (fun k => b.funcs.length - k) 0 (Sub.mk' (by repeat (first | exact ESub.new _ | refine ESub.put ?_ (by first | rfl | exact congrArg (fun (n : Nat) => some (AV.int .i64 (n : Int))) (by simp)))) (by repeat (first | exact HSub.refl _ | exact HSub.none _ | exact HSub.from_new _ | exact HSub.from_from (by first | decide | omega | (dsimp only; omega)) | refine HSub.put ?_ (by rfl) | refine HSub.from_put ?_ (by first | decide | omega | (dsimp only; omega)) | refine HSub.from_rm ?_ (by decide)))) trivial (fun _ => hput_free (fun b hb => hFrom_free hb) rfl) ?_
  intro k _
  refine AGo.seq ?_
  refine AGo.region ?_
  refine AOps.s 12 rfl rfl rfl (q_bin rfl rfl rfl rfl) ?_
  refine AOps.nil ?_
  refine AGo.seq ?_
  refine AGo.split 12 rfl (fun hb1 => ?_) (fun hb1 => ?_)
  · -- True
    refine AGo.cond_true true rfl rfl ?_
    have hkl : k < b.funcs.length := by simpa using hb1
    obtain ⟨f, hf⟩ := get_of_lt hkl
    have hs1 := sum_succ (p := BFunc.count) hf
    have hs2 : _ ≤ b.count := sum_take_le (l := b.funcs) (p := BFunc.count) (k := k + 1)
    have hs3 := count_split f
    refine AGo.skip ?_
    refine AGo.seq ?_
    refine AGo.block ?_
    refine AGo.seq ?_
    refine AGo.region ?_
    refine AOps.s 13 rfl rfl rfl (q_index_lst tok rfl rfl rfl rfl rfl rfl (Int.natCast_nonneg _) (idx_map (by assumption)) rfl) ?_
    refine AOps.s 14 rfl rfl rfl (q_load tok rfl rfl rfl (by first | exact .loc _ | exact .ptr _ _ _ _ _ _ _ _ rfl rfl rfl) rfl) ?_
    refine AOps.x 5 rfl rfl rfl (o_alloc tok 1 rfl rfl rfl rfl (Nat.zero_lt_succ _) rfl) ?_
    refine AOps.w rfl rfl (o_store tok rfl rfl rfl rfl rfl rfl rfl rfl rfl (by decide) rfl (by first | exact fun _ => rfl | (intro h; cases h))) ?_
    refine AOps.nil ?_
    refine AGo.seq ?_
    refine AGo.slot 14 rfl (fun H ι v => rel_bfunc) (fun hfit2 => ?_)
    refine AGo.region ?_
    refine AOps.s 15 rfl rfl rfl (q_move (.inl rfl) rfl) ?_
    refine AOps.s 16 rfl rfl rfl (q_fieldAddr tok rfl rfl rfl rfl rfl rfl) ?_
    refine AOps.s 17 rfl rfl rfl (q_load tok rfl rfl rfl (by first | exact .loc _ | exact .ptr _ _ _ _ _ _ _ _ rfl rfl rfl) rfl) ?_
    refine AOps.s 18 rfl rfl rfl (q_len tok rfl rfl rfl rfl rfl) ?_
    refine AOps.s 19 rfl rfl rfl (q_bin (r := .int .i64 ((((b.funcs.take k).map BFunc.count).sum + f.blocks.length : Nat) : Int)) rfl rfl rfl (by simp only [evalBin, evalInt, isShift, cond_false, if_true]; rw [List.length_map, wrap_i64 (by omega) (by omega)]; rfl)) ?_
    refine AOps.s 3 rfl rfl rfl (q_move (.inr rfl) rfl) ?_
    refine AOps.nil ?_
    refine AGo.seq ?_
    refine AGo.region ?_
    refine AOps.s 20 rfl rfl rfl (q_fieldAddr tok rfl rfl rfl rfl rfl rfl) ?_
    refine AOps.s 21 rfl rfl rfl (q_load tok rfl rfl rfl (by first | exact .loc _ | exact .ptr _ _ _ _ _ _ _ _ rfl rfl rfl) rfl) ?_
    refine AOps.s 22 rfl rfl rfl (q_len tok rfl rfl rfl rfl rfl) ?_
    refine AOps.s 23 rfl rfl rfl (q_move (.inl rfl) rfl) ?_
    refine AOps.nil ?_
    refine AGo.block ?_
    refine AGo.loopD (γ := Nat) 2 (fun j => ⟨35, (eput (eput (eput (eput (eput (eput (eput (eput (eput eNew 1 (.ptr 0 1 0 0)) 3 (.int .i64 (((((b.funcs.take k).map BFunc.count).sum + (f.blocks.length + insSumB (f.blocks.take j))) : Nat) : Int))) 9 (funcsAV b.funcs)) 10 (.int .i64 (b.funcs.length : Int))) 11 (.int .i64 (k : Int))) 5 (.ptr 1 1 0 0)) 21 (blocksAV f.blocks)) 22 (.int .i64 (f.blocks.length : Int))) 23 (.int .i64 (j : Int))), (hput (hput (hFrom 2) 0 (.row false 2 [b.cells])) 1 (.row false 2 [f.cells]))⟩) (fun j => True) (fun j => f.blocks.length - j) 0 (Sub.mk' (by repeat (first | exact ESub.new _ | refine ESub.put ?_ (by first | rfl | exact congrArg (fun (n : Nat) => some (AV.int .i64 (n : Int))) (by simp) | exact congrArg (fun (n : Nat) => some (AV.int .i64 (n : Int))) (by simp [insSumB])))) (by repeat (first | exact HSub.refl _ | exact HSub.none _ | exact HSub.from_new _ | exact HSub.from_from (by first | decide | omega | (dsimp only; omega)) | refine HSub.put ?_ (by rfl) | refine HSub.from_put ?_ (by first | decide | omega | (dsimp only; omega)) | refine HSub.from_rm ?_ (by decide)))) trivial (fun _ => hput_free (hput_free (fun b hb => hFrom_free hb) rfl) rfl) ?_
    intro j _
    refine AGo.seq ?_
    refine AGo.region ?_
    refine AOps.s 24 rfl rfl rfl (q_bin rfl rfl rfl rfl) ?_
    refine AOps.nil ?_
    refine AGo.seq ?_
    refine AGo.split 24 rfl (fun hb2 => ?_) (fun hb2 => ?_)
    · -- True
      refine AGo.cond_true true rfl rfl ?_
      have hjl : j < f.blocks.length := by simpa using hb2
      obtain ⟨x, hx⟩ := get_of_lt hjl
      have hs4 := insSumB_succ hx
      have hs5 := insSumB_take (l := f.blocks) (k := j + 1)
      refine AGo.skip ?_
      refine AGo.seq ?_
      refine AGo.block ?_
      refine AGo.seq ?_
      refine AGo.region ?_
      refine AOps.s 25 rfl rfl rfl (q_index_lst tok rfl rfl rfl rfl rfl rfl (Int.natCast_nonneg _) (idx_map (by assumption)) rfl) ?_
      refine AOps.s 26 rfl rfl rfl (q_load tok rfl rfl rfl (by first | exact .loc _ | exact .ptr _ _ _ _ _ _ _ _ rfl rfl rfl) rfl) ?_
      refine AOps.x 7 rfl rfl rfl (o_alloc tok 2 rfl rfl rfl rfl (Nat.zero_lt_succ _) rfl) ?_
      refine AOps.w rfl rfl (o_store tok rfl rfl rfl rfl rfl rfl rfl rfl rfl (by decide) rfl (by first | exact fun _ => rfl | (intro h; cases h))) ?_
      refine AOps.nil ?_
      refine AGo.region ?_
      refine AOps.s 27 rfl rfl rfl (q_move (.inl rfl) rfl) ?_
      refine AOps.s 28 rfl rfl rfl (q_fieldAddr tok rfl rfl rfl rfl rfl rfl) ?_
      refine AOps.s 29 rfl rfl rfl (q_load tok rfl rfl rfl (by first | exact .loc _ | exact .ptr _ _ _ _ _ _ _ _ rfl rfl rfl) rfl) ?_
      refine AOps.s 30 rfl rfl rfl (q_len tok rfl rfl rfl rfl rfl) ?_
      refine AOps.s 31 rfl rfl rfl (q_bin (r := .int .i64 (((((b.funcs.take k).map BFunc.count).sum + (f.blocks.length + insSumB (f.blocks.take j))) + x.ins.length : Nat) : Int)) rfl rfl rfl (by simp only [evalBin, evalInt, isShift, cond_false, if_true]; rw [List.length_map, wrap_i64 (by omega) (by omega)]; rfl)) ?_
      refine AOps.s 3 rfl rfl rfl (q_move (.inr rfl) rfl) ?_
      refine AOps.nil ?_
      refine AGo.region ?_
      refine AOps.s 32 rfl rfl rfl (q_inc rfl rfl hjl hfit2.1) ?_
      refine AOps.s 23 rfl rfl rfl (q_move (.inl rfl) rfl) ?_
      refine AOps.nil ?_
      exact ⟨j+1, Drop.mk' (by repeat (first | exact EDrop.new _ _ | refine EDrop.put ?_ (by first | rfl | exact congrArg (fun (n : Nat) => some (AV.int .i64 (n : Int))) (by rw [hs4]; omega)) rfl)) (by repeat (first | exact HDrop.none _ _ | exact HDrop.tail _ _ | refine HDrop.put ?_ (by rfl) rfl rfl)), trivial, by omega⟩
    · -- False
      refine AGo.cond_false false rfl rfl ?_
      have hje : insSumB (f.blocks.take j) = insSumB f.blocks := by rw [List.take_of_length_le (by simpa using hb2)]
      refine AGo.exit ?_
      refine AGo.region ?_
      refine AOps.s 33 rfl rfl rfl (q_inc rfl rfl hkl hfit.1) ?_
      refine AOps.s 11 rfl rfl rfl (q_move (.inl rfl) rfl) ?_
      refine AOps.nil ?_
      exact ⟨k+1, Drop.mk' (by repeat (first | exact EDrop.new _ _ | refine EDrop.put ?_ (by first | rfl | exact congrArg (fun (n : Nat) => some (AV.int .i64 (n : Int))) (by rw [hs1, hje, ← hs3])) rfl)) (by repeat (first | exact HDrop.none _ _ | exact HDrop.tail _ _ | refine HDrop.put ?_ (by rfl) rfl rfl)), trivial, by omega⟩
  · -- False
    refine AGo.cond_false false rfl rfl ?_
    have hke : ((b.funcs.take k).map BFunc.count).sum = b.count := sum_end (by simpa using hb1)
    refine AGo.exit ?_
    refine AGo.seq ?_
    refine AGo.region ?_
    refine AOps.s 34 rfl rfl rfl (q_move (.inl rfl) rfl) ?_
    refine AOps.s 2 rfl rfl rfl (q_move (.inr rfl) rfl) ?_
    refine AOps.nil ?_
    refine AGo.ret ?_
    refine ⟨[_], ⟨rfl, trivial⟩, ?_, rfl⟩
    show AV.int .i64 _ = AV.int .i64 _
    congr 1
    rw [hke]

end Go.Proofs.Ytophfphgcbnafaa.Sv

namespace Go.Proofs.Ytophfphgcbnafaa.Sv
open Go
set_option linter.unusedVariables false
set_option linter.unusedSimpArgs false

end Go.Proofs.Ytophfphgcbnafaa.Sv

namespace Go.Proofs.Ytophfphgcbnafaa.Sv
open Go
set_option linter.unusedVariables false
set_option linter.unusedSimpArgs false

set_option maxRecDepth 100000 in
theorem awake_ok  : APure Try.prog 11 [] (fun r => r = .bool true) := by
  refine APure.of_body (n := 40) tok Try.func11 rfl rfl ?_
  refine AGo.seq ?_
  refine AGo.region ?_
  refine AOps.s 0 rfl rfl rfl (q_move (.inr rfl) rfl) ?_
  refine AOps.nil ?_
  refine AGo.seq ?_
  refine AGo.region ?_
  refine AOps.s 5 rfl rfl rfl (q_build tok rfl rfl rfl rfl rfl (by decide) rfl rfl rfl) ?_
  refine AOps.s 6 rfl rfl rfl (q_build tok rfl rfl rfl rfl rfl (by decide) rfl rfl rfl) ?_
  refine AOps.x 7 rfl rfl rfl (o_lit' tok rfl rfl rfl rfl rfl rfl (by decide) rfl rfl rfl rfl rfl rfl) ?_
  refine AOps.s 8 rfl rfl rfl (q_build tok rfl rfl rfl rfl rfl (by decide) rfl rfl rfl) ?_
  refine AOps.x 1 rfl rfl rfl (o_alloc tok 0 rfl rfl rfl rfl (Nat.zero_lt_succ _) rfl) ?_
  refine AOps.w rfl rfl (o_store tok rfl rfl rfl rfl rfl rfl rfl rfl rfl (by decide) rfl (by first | exact fun _ => rfl | (intro h; cases h))) ?_
  refine AOps.nil ?_
  refine AGo.seq ?_
  refine AGo.region ?_
  refine AOps.s 9 rfl rfl rfl (q_load tok rfl rfl rfl (by first | exact .loc _ | exact .ptr _ _ _ _ _ _ _ _ rfl rfl rfl) rfl) ?_
  refine AOps.x 10 rfl rfl rfl (o_lit' tok rfl rfl rfl rfl rfl rfl (by decide) rfl rfl rfl rfl rfl rfl) ?_
  refine AOps.s 11 rfl rfl rfl (q_build tok rfl rfl rfl rfl rfl (by decide) rfl rfl rfl) ?_
  refine AOps.x 12 rfl rfl rfl (o_lit' tok rfl rfl rfl rfl rfl rfl (by decide) rfl rfl rfl rfl rfl rfl) ?_
  refine AOps.s 13 rfl rfl rfl (q_build tok rfl rfl rfl rfl rfl (by decide) rfl rfl rfl) ?_
  refine AOps.x 2 rfl rfl rfl (o_alloc tok 1 rfl rfl rfl rfl (Nat.zero_lt_succ _) rfl) ?_
  refine AOps.w rfl rfl (o_store tok rfl rfl rfl rfl rfl rfl rfl rfl rfl (by decide) rfl (by first | exact fun _ => rfl | (intro h; cases h))) ?_
  refine AOps.nil ?_
  refine AGo.seq ?_
  refine AGo.region ?_
  refine AOps.s 14 rfl rfl rfl (q_load tok rfl rfl rfl (by first | exact .loc _ | exact .ptr _ _ _ _ _ _ _ _ rfl rfl rfl) rfl) ?_
  refine AOps.x 15 rfl rfl rfl (o_pure rfl Try.func12 (by kernel_rfl) rfl rfl rfl ((blockRun_ok awP ByteArray.empty 9 awP_right awP_w awP_len (by decide) (by decide) (by decide)).mono (fun r h => by rw [h, awP_r9]))) ?_
  refine AOps.x 3 rfl rfl rfl (o_alloc tok 2 rfl rfl rfl rfl (Nat.zero_lt_succ _) rfl) ?_
  refine AOps.w rfl rfl (o_store tok rfl rfl rfl rfl rfl rfl rfl rfl rfl (by decide) rfl (by first | exact fun _ => rfl | (intro h; cases h))) ?_
  refine AOps.nil ?_
  refine AGo.seq ?_
  refine AGo.region ?_
  refine AOps.s 16 rfl rfl rfl (q_load tok rfl rfl rfl (by first | exact .loc _ | exact .ptr _ _ _ _ _ _ _ _ rfl rfl rfl) rfl) ?_
  refine AOps.x 17 rfl rfl rfl (o_pure rfl Try.func12 (by kernel_rfl) rfl rfl rfl ((blockRun_ok awP ByteArray.empty 2 awP_right awP_w awP_len (by decide) (by decide) (by decide)).mono (fun r h => by rw [h, awP_r2]))) ?_
  refine AOps.x 4 rfl rfl rfl (o_alloc tok 3 rfl rfl rfl rfl (Nat.zero_lt_succ _) rfl) ?_
  refine AOps.w rfl rfl (o_store tok rfl rfl rfl rfl rfl rfl rfl rfl rfl (by decide) rfl (by first | exact fun _ => rfl | (intro h; cases h))) ?_
  refine AOps.nil ?_
  refine AGo.seq ?_
  refine AGo.region ?_
  refine AOps.s 18 rfl rfl rfl (q_load tok rfl rfl rfl (by first | exact .loc _ | exact .ptr _ _ _ _ _ _ _ _ rfl rfl rfl) rfl) ?_
  refine AOps.x 19 rfl rfl rfl (o_pure rfl Try.func15 (by kernel_rfl) rfl rfl rfl ((bright_ok awP).mono (fun r h => by rw [h, awP_right]))) ?_
  refine AOps.s 20 rfl rfl rfl (q_move (.inl rfl) rfl) ?_
  refine AOps.s 21 rfl rfl rfl (QLoc.weakB (q_build tok rfl rfl rfl rfl rfl (by decide) rfl rfl rfl) (fun _ _ _ h => agg_nil2 h)) ?_
  refine AOps.x 22 rfl rfl rfl (o_pure rfl Try.func15 (by kernel_rfl) rfl rfl rfl ((bright_ok ⟨0, []⟩).mono (fun r h => by rw [h, awP0]))) ?_
  refine AOps.s 23 rfl rfl rfl (q_not rfl rfl) ?_
  refine AOps.s 24 rfl rfl rfl (q_pick_true true rfl rfl rfl rfl) ?_
  refine AOps.s 25 rfl rfl rfl (q_move (.inl rfl) rfl) ?_
  refine AOps.s 26 rfl rfl rfl (q_load tok rfl rfl rfl (by first | exact .loc _ | exact .ptr _ _ _ _ _ _ _ _ rfl rfl rfl) rfl) ?_
  refine AOps.x 27 rfl rfl rfl (o_pure rfl Try.func25 (by kernel_rfl) rfl rfl rfl ((bsize_ok awP (by decide)).mono (fun r h => by rw [h, awP_count]))) ?_
  refine AOps.s 28 rfl rfl rfl (q_bin (r := .bool true) rfl rfl rfl (by rfl)) ?_
  refine AOps.s 29 rfl rfl rfl (q_pick_true true rfl rfl rfl rfl) ?_
  refine AOps.s 30 rfl rfl rfl (q_move (.inl rfl) rfl) ?_
  refine AOps.s 31 rfl rfl rfl (q_load tok rfl rfl rfl (by first | exact .loc _ | exact .ptr _ _ _ _ _ _ _ _ rfl rfl rfl) rfl) ?_
  refine AOps.s 32 rfl rfl rfl (q_build tok rfl rfl rfl rfl rfl (by decide) rfl rfl rfl) ?_
  refine AOps.s 33 rfl rfl rfl (q_eqStruct tok false rfl rfl rfl (by kernel_rfl) rfl rfl rfl rfl awP_e9) ?_
  refine AOps.s 34 rfl rfl rfl (q_pick_true true rfl rfl rfl rfl) ?_
  refine AOps.s 35 rfl rfl rfl (q_move (.inl rfl) rfl) ?_
  refine AOps.s 36 rfl rfl rfl (q_load tok rfl rfl rfl (by first | exact .loc _ | exact .ptr _ _ _ _ _ _ _ _ rfl rfl rfl) rfl) ?_
  refine AOps.s 37 rfl rfl rfl (q_build tok rfl rfl rfl rfl rfl (by decide) rfl rfl rfl) ?_
  refine AOps.s 38 rfl rfl rfl (q_eqStruct tok false rfl rfl rfl (by kernel_rfl) rfl rfl rfl rfl awP_e2) ?_
  refine AOps.s 39 rfl rfl rfl (q_pick_true true rfl rfl rfl rfl) ?_
  refine AOps.s 0 rfl rfl rfl (q_move (.inr rfl) rfl) ?_
  refine AOps.nil ?_
  refine AGo.ret ?_
  refine ⟨[_], ⟨rfl, trivial⟩, ?_, rfl⟩
  rfl

end Go.Proofs.Ytophfphgcbnafaa.Sv

namespace Go.Proofs.Ytophfphgcbnafaa.Sv
open Go
set_option linter.unusedVariables false
set_option linter.unusedSimpArgs false

/-- one step -/
def step1 (b : Blocks) (s : ByteArray) (q : Q24) : Q24 ⊕ Mach :=
  match b.funcs[q.now.f]? with
  | none => .inr { q.m with steps := q.m.steps + 1, fin := 1 }
  | some F => match F.blocks[q.now.blk.toNat]? with
    | none => .inr { q.m with steps := q.m.steps + 1, fin := 1 }
    | some k => match k.ins[q.now.at']? with
      | some t =>
        if t.op = 10 then
          match b.funcs[t.base.toNat]? with
          | none => .inr { q.m with steps := q.m.steps + 1, fin := 1 }
          | some G => .inl ⟨⟨t.base.toNat, 0, 0⟩, q.above ++ [⟨q.now.f, q.now.blk, q.now.at' + 1⟩], q.R.set t.base.toNat (some (List.replicate G.regs.toNat 0)), { q.m with steps := q.m.steps + 1 }⟩
        else if (mone (fun _ m => m) s t (rOf q.R q.now.f) { q.m with steps := q.m.steps + 1 }).2.fin = 0 then
          .inl ⟨⟨q.now.f, q.now.blk, q.now.at' + 1⟩, q.above, q.R.set q.now.f (some (mone (fun _ m => m) s t (rOf q.R q.now.f) { q.m with steps := q.m.steps + 1 }).1), (mone (fun _ m => m) s t (rOf q.R q.now.f) { q.m with steps := q.m.steps + 1 }).2⟩
        else .inr (mone (fun _ m => m) s t (rOf q.R q.now.f) { q.m with steps := q.m.steps + 1 }).2
      | none =>
        if k.fin = 3 then
          match q.above.getLast? with
          | none => .inr { q.m with steps := q.m.steps + 1, fin := 1 }
          | some fr => .inl ⟨fr, q.above.dropLast, q.R, { q.m with steps := q.m.steps + 1 }⟩
        else .inl ⟨⟨q.now.f, k.next (rOf q.R q.now.f), 0⟩, q.above, q.R, { q.m with steps := q.m.steps + 1 }⟩
def runQ (b : Blocks) (s : ByteArray) : Nat → Q24 → Mach
  | 0, q => { q.m with fin := 5 }
  | n + 1, q => match step1 b s q with
    | .inl q' => runQ b s n q'
    | .inr m => m
def finish (m : Mach) : Mach := bif m.fin == 0 then { m with fin := 1 } else m
theorem finish_ne {m : Mach} (h : m.fin ≠ 0) : finish m = m := by
  have : (m.fin == 0) = false := by rw [beq_eq_false_iff_ne]; exact h
  unfold finish; rw [this]; rfl
/-- what an instruction that is no call does to steps, end and output -/
theorem mone_id (s : ByteArray) (t : Tac) (regs : List Int) (m : Mach) : (mone (fun _ m => m) s t regs m).2.steps = m.steps ∧ ((mone (fun _ m => m) s t regs m).2.fin = m.fin ∨ (mone (fun _ m => m) s t regs m).2.fin = 2 ∨ (mone (fun _ m => m) s t regs m).2.fin = 3 ∨ (mone (fun _ m => m) s t regs m).2.fin = 4) ∧ m.out <+: (mone (fun _ m => m) s t regs m).2.out := by
  have h0 : m.steps = m.steps ∧ (m.fin = m.fin ∨ m.fin = 2 ∨ m.fin = 3 ∨ m.fin = 4) ∧ m.out <+: m.out := ⟨rfl, .inl rfl, List.prefix_rfl⟩
  unfold mone
  cases t.op == 1 with
  | true => exact h0
  | false =>
  cases t.op == 2 with
  | true => exact h0
  | false =>
  cases t.op == 3 with
  | true =>
    simp only [cond_true, cond_false]
    cases (wapp t.k (rget regs t.a) (rget regs t.b)).2 == 0 with
    | true => exact h0
    | false => exact ⟨rfl, .inr (.inl rfl), List.prefix_rfl⟩
  | false =>
  cases t.op == 4 with
  | true => exact h0
  | false =>
  cases t.op == 5 with
  | true => exact ⟨rfl, .inl rfl, List.prefix_rfl⟩
  | false =>
  cases t.op == 6 with
  | true =>
    simp only [cond_true, cond_false]
    cases decide (rget regs t.a ≥ t.size) with
    | true => exact ⟨rfl, .inr (.inr (.inl rfl)), List.prefix_rfl⟩
    | false => exact h0
  | false =>
  cases t.op == 7 with
  | true =>
    simp only [cond_true, cond_false]
    cases decide (rget regs t.a ≥ t.size) with
    | true => exact ⟨rfl, .inr (.inr (.inl rfl)), List.prefix_rfl⟩
    | false => exact ⟨rfl, .inl rfl, List.prefix_rfl⟩
  | false =>
  cases t.op == 8 with
  | true =>
    simp only [cond_true, cond_false]
    cases decide (m.read < s.size) with
    | true => exact ⟨rfl, .inl rfl, List.prefix_rfl⟩
    | false => exact h0
  | false =>
  cases t.op == 9 with
  | true =>
    simp only [cond_true, cond_false]
    cases decide (m.out.length ≥ 65536) with
    | true => exact ⟨rfl, .inr (.inr (.inr rfl)), List.prefix_rfl⟩
    | false => exact ⟨rfl, .inl rfl, List.prefix_append _ _⟩
  | false =>
  cases t.op == 10 <;> exact h0
/-- what a step does to steps, end and output -/
theorem step1_inl {b : Blocks} {s : ByteArray} {q q' : Q24} (h : step1 b s q = .inl q') (h0 : q.m.fin = 0) : q'.m.steps = q.m.steps + 1 ∧ q'.m.fin = 0 ∧ q.m.out <+: q'.m.out := by
  unfold step1 at h
  split at h
  · cases h
  split at h
  · cases h
  rename_i k hk
  split at h
  · rename_i t ht
    split at h
    · split at h
      · cases h
      · cases h; exact ⟨rfl, h0, List.prefix_rfl⟩
    · split at h
      · rename_i he
        cases h
        obtain ⟨a1, a2, a3⟩ := mone_id s t (rOf q.R q.now.f) { q.m with steps := q.m.steps + 1 }
        exact ⟨a1, he, a3⟩
      · cases h
  · split at h
    · split at h
      · cases h
      · cases h; exact ⟨rfl, h0, List.prefix_rfl⟩
    · cases h; exact ⟨rfl, h0, List.prefix_rfl⟩
theorem step1_inr {b : Blocks} {s : ByteArray} {q : Q24} {m : Mach} (h : step1 b s q = .inr m) (h0 : q.m.fin = 0) : m.steps = q.m.steps + 1 ∧ m.fin ≠ 5 ∧ m.fin ≠ 0 ∧ q.m.out <+: m.out := by
  unfold step1 at h
  split at h
  · cases h; exact ⟨rfl, by show (1 : Int) ≠ 5; decide, by show (1 : Int) ≠ 0; decide, List.prefix_rfl⟩
  split at h
  · cases h; exact ⟨rfl, by show (1 : Int) ≠ 5; decide, by show (1 : Int) ≠ 0; decide, List.prefix_rfl⟩
  rename_i k hk
  split at h
  · rename_i t ht
    split at h
    · split at h
      · cases h; exact ⟨rfl, by show (1 : Int) ≠ 5; decide, by show (1 : Int) ≠ 0; decide, List.prefix_rfl⟩
      · cases h
    · split at h
      · cases h
      · rename_i he
        cases h
        obtain ⟨a1, a2, a3⟩ := mone_id s t (rOf q.R q.now.f) { q.m with steps := q.m.steps + 1 }
        have h0' : ({ q.m with steps := q.m.steps + 1 } : Mach).fin = 0 := h0
        rw [h0'] at a2
        exact ⟨a1, by omega, he, a3⟩
  · split at h
    · split at h
      · cases h; exact ⟨rfl, by show (1 : Int) ≠ 5; decide, by show (1 : Int) ≠ 0; decide, List.prefix_rfl⟩
      · cases h
    · cases h
section
variable {b : Blocks} {s : ByteArray} {fuel : Int} {tgt : Mach} {q : Q24}
/-- a step keeps to where it ends -/
theorem SInv.step1 (hb : b.right = true) (hw : b.insW) (h : SInv b s fuel b.words.toNat tgt q) (hf : decide ((q.m.steps : Int) ≥ fuel) = false) :
    (∀ q', Sv.step1 b s q = .inl q' → SInv b s fuel b.words.toNat tgt q') ∧ (∀ m, Sv.step1 b s q = .inr m → finish tgt = m) := by
  obtain ⟨F, k, l, h1, h2, h3, h4, h5, h6, h7⟩ := h.now.ex
  have hl := rOf_get h5
  unfold Sv.step1
  rw [h1]
  simp only
  rw [h2]
  simp only
  cases e : k.ins[q.now.at']? with
  | some t =>
    simp only
    by_cases h10 : t.op = 10
    · rw [if_pos h10]
      have hbase := right_calls hb h1 k (List.mem_of_getElem? h2) t (List.mem_of_getElem? e) h10
      have hlt := (List.getElem?_eq_some_iff.1 h1).1
      obtain ⟨G, hG⟩ := get_of_lt (l := b.funcs) (k := t.base.toNat) (by omega)
      rw [hG]
      simp only
      refine ⟨fun q' hq => ?_, fun m hm => by cases hm⟩
      cases hq
      exact h.call hb rfl h1 h2 e hf h10 hG
    · rw [if_neg h10, hl]
      by_cases he : (mone (fun _ m => m) s t l { q.m with steps := q.m.steps + 1 }).2.fin = 0
      · rw [if_pos he]
        refine ⟨fun q' hq => ?_, fun m hm => by cases hm⟩
        cases hq
        exact h.ins h1 h2 e (hw F (List.mem_of_getElem? h1) k (List.mem_of_getElem? h2) t (List.mem_of_getElem? e)) h5 hf h10 he (mone_id _ _ _ _).1
      · rw [if_neg he]
        refine ⟨fun q' hq => (by cases hq), fun m hm => ?_⟩
        cases hm
        rw [h.insEnd h1 h2 e h5 hf h10 he, finish_ne he]
  | none =>
    simp only
    have hat : k.ins.length ≤ q.now.at' := by simpa using e
    by_cases h3' : k.fin = 3
    · rw [if_pos h3']
      have h3b : (k.fin == 3) = true := by rw [h3']; rfl
      cases ea : q.above.getLast? with
      | none =>
        simp only
        refine ⟨fun q' hq => (by cases hq), fun m hm => ?_⟩
        cases hm
        have ha : q.above = [] := by simpa using ea
        rw [h.done h1 h2 hat hf h3b ha]
        unfold finish
        have h0 := h.fin
        show (bif q.m.fin == 0 then _ else _) = _
        rw [h0]; rfl
      | some fr =>
        simp only
        refine ⟨fun q' hq => ?_, fun m hm => by cases hm⟩
        cases hq
        exact h.ret h1 h2 hat hf h3b ea
    · rw [if_neg h3']
      have h3b : (k.fin == 3) = false := by rw [beq_eq_false_iff_ne]; exact h3'
      refine ⟨fun q' hq => ?_, fun m hm => by cases hm⟩
      cases hq
      exact h.jump hb h1 h2 hat h5 hf h3b (by rw [hl])
theorem runQ_eq (hb : b.right = true) (hw : b.insW) : ∀ (n : Nat) (q : Q24), SInv b s fuel b.words.toNat tgt q → fuel = (q.m.steps : Int) + n → finish tgt = runQ b s n q
  | 0, q, h, hn => by
    have := h.noFuel (by simp [hn])
    rw [this]
    exact finish_ne (by show (5 : Int) ≠ 0; decide)
  | n + 1, q, h, hn => by
    obtain ⟨a1, a2⟩ := h.step1 hb hw (by simp [hn]; omega)
    unfold runQ
    cases e : Sv.step1 b s q with
    | inl q' =>
      simp only
      have := (step1_inl e h.fin).1
      exact runQ_eq hb hw n q' (a1 q' e) (by omega)
    | inr m => exact a2 m e
end
/-- a run, step by step -/
theorem mrun_runQ {b : Blocks} (hb : b.right = true) (hw : b.insW) (s : ByteArray) {F : BFunc} (hF : b.funcs[b.funcs.length - 1]? = some F) (n : Nat) : mrun b s (n : Int) = runQ b s n (q0 b F) := by
  have h := SInv.start hb s (n : Int) hF
  have hf : fuel0 (n : Int) = (n : Int) := by
    unfold fuel0
    have : decide ((n : Int) < 0) = false := by simp
    rw [this]; rfl
  rw [hf] at h
  have := runQ_eq hb hw n (q0 b F) h (by simp [q0, m0])
  rw [← this]
  unfold mrun
  rw [hf]
  rfl
/-! ### more fuel -/
end Go.Proofs.Ytophfphgcbnafaa.Sv

namespace Go.Proofs.Ytophfphgcbnafaa.Sv
open Go
set_option linter.unusedVariables false
set_option linter.unusedSimpArgs false

/-- an instruction with other names of registers -/
def Tac.ren (φ : Int → Int) (t : Tac) : Tac where
  op := t.op
  d := bif setsOp t.op then φ t.d else t.d
  a := bif use1 t.op || use2 t.op then φ t.a else t.a
  b := bif use2 t.op then φ t.b else t.b
  k := t.k
  base := t.base
  size := t.size
  n := t.n
theorem Tac.ren_id (t : Tac) : t.ren (fun r => r) = t := by
  cases t
  simp [Tac.ren]
/-- alike but for the steps -/
structure Mach.Eq (m m' : Mach) : Prop where
  words : m'.words = m.words
  out : m'.out = m.out
  read : m'.read = m.read
  fin : m'.fin = m.fin
theorem op_cases70 {op : Int} (h1 : 1 ≤ op) (h2 : op ≤ 10) : op = 1 ∨ op = 2 ∨ op = 3 ∨ op = 4 ∨ op = 5 ∨ op = 6 ∨ op = 7 ∨ op = 8 ∨ op = 9 ∨ op = 10 := by omega
theorem mone_ren {φ : Int → Int} {P : List Int → List Int → Prop} {n : Int} (hget : ∀ l l' r, P l l' → 0 ≤ r → r < n → rget l' (φ r) = rget l r) (hset : ∀ l l' r v, P l l' → 0 ≤ r → r < n → P (rset l r v) (rset l' (φ r) v))
    {t : Tac} {f w : Int} (ht : t.fits f n w = true) (s : ByteArray) {l l' : List Int} (h : P l l') {m m' : Mach} (hm : m.Eq m') :
    P (mone (fun _ m => m) s t l m).1 (mone (fun _ m => m) s (t.ren φ) l' m').1 ∧ (mone (fun _ m => m) s t l m).2.Eq (mone (fun _ m => m) s (t.ren φ) l' m').2 := by
  obtain ⟨w1, o1, r1, st, f1⟩ := m
  obtain ⟨w2, o2, r2, st', f2⟩ := m'
  obtain ⟨h1, h2, h3, h4⟩ := hm
  simp only at h1 h2 h3 h4
  subst h1; subst h2; subst h3; subst h4
  have hall := ht
  simp only [Tac.fits, Bool.and_eq_true, decide_eq_true_eq, Bool.or_eq_true, Bool.not_eq_true'] at hall
  obtain ⟨g1, g2, gd, gu, _⟩ := hall
  have heq : ∀ (a : List Int) (b : List UInt8) (c : Nat) (d : Int), Mach.Eq ⟨a, b, c, st, d⟩ ⟨a, b, c, st', d⟩ := fun a b c d => ⟨rfl, rfl, rfl, rfl⟩
  have hD : setsOp t.op = true → 0 ≤ t.d ∧ t.d < n := fun e => by
    rcases gd with gd | gd
    · rw [e] at gd; cases gd
    · simpa [within] using gd
  have hA : use1 t.op = true ∨ use2 t.op = true → 0 ≤ t.a ∧ t.a < n := fun e => by
    have h12 := use12 t.op
    have : t.a ∈ t.uses := by
      unfold Tac.uses
      rcases e with e | e
      · simp [e]
      · have e1 : use1 t.op = false := by simpa [e] using h12
        simp [e, e1]
    simpa [within] using List.all_eq_true.1 gu _ this
  have hB : use2 t.op = true → 0 ≤ t.b ∧ t.b < n := fun e => by
    have h12 := use12 t.op
    have : t.b ∈ t.uses := by
      unfold Tac.uses
      have e1 : use1 t.op = false := by simpa [e] using h12
      simp [e, e1]
    simpa [within] using List.all_eq_true.1 gu _ this
  have gA : use1 t.op = true ∨ use2 t.op = true → rget l' (φ t.a) = rget l t.a := fun e => hget _ _ _ h (hA e).1 (hA e).2
  have gB : use2 t.op = true → rget l' (φ t.b) = rget l t.b := fun e => hget _ _ _ h (hB e).1 (hB e).2
  have sD : setsOp t.op = true → ∀ v, P (rset l t.d v) (rset l' (φ t.d) v) := fun e v => hset _ _ _ v h (hD e).1 (hD e).2
  obtain ⟨op, d, a, b, k, base, size, nn⟩ := t
  simp only at g1 g2 gA gB sD
  clear ht gd gu hD hA hB
  rcases op_cases70 g1 g2 with rfl | rfl | rfl | rfl | rfl | rfl | rfl | rfl | rfl | rfl
  · exact ⟨sD rfl _, heq _ _ _ _⟩
  · refine ⟨?_, heq _ _ _ _⟩
    show P (rset l d (rget l a)) (rset l' (φ d) (rget l' (φ a)))
    rw [gA (.inl rfl)]; exact sD rfl _
  · have ga := gA (.inr rfl)
    have gb := gB rfl
    show P (bif (wapp k (rget l a) (rget l b)).2 == 0 then (rset l d (wapp k (rget l a) (rget l b)).1, _) else _ : List Int × Mach).1 (bif (wapp k (rget l' (φ a)) (rget l' (φ b))).2 == 0 then (rset l' (φ d) (wapp k (rget l' (φ a)) (rget l' (φ b))).1, _) else _ : List Int × Mach).1 ∧ Mach.Eq (bif (wapp k (rget l a) (rget l b)).2 == 0 then _ else _ : List Int × Mach).2 (bif (wapp k (rget l' (φ a)) (rget l' (φ b))).2 == 0 then _ else _ : List Int × Mach).2
    rw [ga, gb]
    cases (wapp k (rget l a) (rget l b)).2 == 0 with
    | true => exact ⟨sD rfl _, heq _ _ _ _⟩
    | false => exact ⟨h, heq _ _ _ _⟩
  · exact ⟨sD rfl _, heq _ _ _ _⟩
  · refine ⟨h, ?_⟩
    show Mach.Eq ⟨rset w2 base (rget l a), o2, r2, st, f2⟩ ⟨rset w2 base (rget l' (φ a)), o2, r2, st', f2⟩
    rw [gA (.inl rfl)]; exact heq _ _ _ _
  · have ga := gA (.inl rfl)
    show P (bif decide (rget l a ≥ size) then _ else _ : List Int × Mach).1 (bif decide (rget l' (φ a) ≥ size) then _ else (rset l' (φ d) (rget w2 (base + rget l' (φ a))), _) : List Int × Mach).1 ∧ Mach.Eq (bif decide (rget l a ≥ size) then _ else _ : List Int × Mach).2 (bif decide (rget l' (φ a) ≥ size) then _ else _ : List Int × Mach).2
    rw [ga]
    cases decide (rget l a ≥ size) with
    | true => exact ⟨h, heq _ _ _ _⟩
    | false => exact ⟨sD rfl _, heq _ _ _ _⟩
  · have ga := gA (.inr rfl)
    have gb := gB rfl
    show P (bif decide (rget l a ≥ size) then _ else _ : List Int × Mach).1 (bif decide (rget l' (φ a) ≥ size) then _ else _ : List Int × Mach).1 ∧ Mach.Eq (bif decide (rget l a ≥ size) then _ else (_, ⟨rset w2 (base + rget l a) (rget l b), _, _, _, _⟩) : List Int × Mach).2 (bif decide (rget l' (φ a) ≥ size) then _ else (_, ⟨rset w2 (base + rget l' (φ a)) (rget l' (φ b)), _, _, _, _⟩) : List Int × Mach).2
    rw [ga, gb]
    cases decide (rget l a ≥ size) <;> exact ⟨h, heq _ _ _ _⟩
  · show P (bif decide (r2 < s.size) then _ else _ : List Int × Mach).1 (bif decide (r2 < s.size) then _ else _ : List Int × Mach).1 ∧ Mach.Eq (bif decide (r2 < s.size) then _ else _ : List Int × Mach).2 (bif decide (r2 < s.size) then _ else _ : List Int × Mach).2
    cases decide (r2 < s.size) <;> exact ⟨sD rfl _, heq _ _ _ _⟩
  · have ga := gA (.inl rfl)
    show P (bif decide (o2.length ≥ 65536) then _ else _ : List Int × Mach).1 (bif decide (o2.length ≥ 65536) then _ else _ : List Int × Mach).1 ∧ Mach.Eq (bif decide (o2.length ≥ 65536) then _ else (_, ⟨_, o2 ++ [byteOf (rget l a)], _, _, _⟩) : List Int × Mach).2 (bif decide (o2.length ≥ 65536) then _ else (_, ⟨_, o2 ++ [byteOf (rget l' (φ a))], _, _, _⟩) : List Int × Mach).2
    rw [ga]
    cases decide (o2.length ≥ 65536) <;> exact ⟨h, heq _ _ _ _⟩
  · exact ⟨h, heq _ _ _ _⟩

/-- nothing, or a step that sets a register, or a jump -/
def silent (z : Bool) (G : BFunc) (i : Int) (a : Nat) (l : List Int) (i2 : Int) (a2 : Nat) (l2 : List Int) : Prop :=
  (i2 = i ∧ a2 = a ∧ l2 = l) ∨
  z = true ∧ ∃ k, G.blocks[i.toNat]? = some k ∧
    ((∃ t, k.ins[a]? = some t ∧ t.op = 1 ∧ i2 = i ∧ a2 = a + 1 ∧ l2 = rset l t.d t.n) ∨
     (k.ins[a]? = none ∧ k.fin ≠ 3 ∧ i2 = k.next l ∧ a2 = 0 ∧ l2 = l))
structure PSim (z : Bool) (b c : Blocks) (φ : Nat → Int → Int) (P : Nat → List Int → List Int → Prop) (pos : Nat → Int → Nat → Int → Nat → Prop) : Prop where
  words : c.words = b.words
  len : c.funcs.length = b.funcs.length
  get : ∀ (g : Nat) (F : BFunc) (l l' : List Int) (r : Int), b.funcs[g]? = some F → P g l l' → 0 ≤ r → r < F.regs → rget l' (φ g r) = rget l r
  set : ∀ (g : Nat) (F : BFunc) (l l' : List Int) (r v : Int), b.funcs[g]? = some F → P g l l' → 0 ≤ r → r < F.regs → P g (rset l r v) (rset l' (φ g r) v)
  start : ∀ (g : Nat) (F G : BFunc), b.funcs[g]? = some F → c.funcs[g]? = some G → P g (List.replicate F.regs.toNat 0) (List.replicate G.regs.toNat 0)
  pos0 : ∀ g, pos g 0 0 0 0
  step : ∀ (g : Nat) (F G : BFunc) (i : Int) (a : Nat) (i' : Int) (a' : Nat) (k : Block) (l l' : List Int), b.funcs[g]? = some F → c.funcs[g]? = some G → F.blocks[i.toNat]? = some k → 0 ≤ i → a ≤ k.ins.length → pos g i a i' a' → P g l l' →
    ∃ (i2 : Int) (a2 : Nat) (l2 : List Int) (k2 : Block), silent z G i' a' l' i2 a2 l2 ∧ P g l l2 ∧ G.blocks[i2.toNat]? = some k2 ∧
      ((∃ t, k.ins[a]? = some t ∧ k2.ins[a2]? = some (t.ren (φ g)) ∧ pos g i (a + 1) i2 (a2 + 1)) ∨
       (k.ins[a]? = none ∧ k2.ins[a2]? = none ∧ ((k.fin = 3 ∧ k2.fin = 3) ∨ (k.fin ≠ 3 ∧ k2.fin ≠ 3 ∧ pos g (k.next l) 0 (k2.next l2) 0))))
section
variable {z : Bool} {b c : Blocks} {φ : Nat → Int → Int} {P : Nat → List Int → List Int → Prop} {pos : Nat → Int → Nat → Int → Nat → Prop} {s : ByteArray}
def FrR (pos : Nat → Int → Nat → Int → Nat → Prop) (x y : Fr) : Prop := y.f = x.f ∧ pos x.f x.blk x.at' y.blk y.at'
inductive FrsR (pos : Nat → Int → Nat → Int → Nat → Prop) : List Fr → List Fr → Prop
  | nil : FrsR pos [] []
  | snoc {l l' : List Fr} {x y : Fr} : FrsR pos l l' → FrR pos x y → FrsR pos (l ++ [x]) (l' ++ [y])
def RegsR (P : Nat → List Int → List Int → Prop) (R R' : List (Option (List Int))) : Prop := R'.length = R.length ∧ ∀ (g : Nat) (l : List Int), R[g]? = some (some l) → ∃ l', R'[g]? = some (some l') ∧ P g l l'
theorem RegsR.set {R R' : List (Option (List Int))} (h : RegsR P R R') {g : Nat} {l l' : List Int} (hp : P g l l') : RegsR P (R.set g (some l)) (R'.set g (some l')) := by
  refine ⟨by simp only [List.length_set]; exact h.1, fun j x hx => ?_⟩
  by_cases e : g = j
  · subst e
    have hlt : g < R.length := by
      have := (List.getElem?_eq_some_iff.1 hx).1
      simpa using this
    rw [List.getElem?_set_self hlt] at hx
    cases hx
    exact ⟨l', List.getElem?_set_self (by rw [h.1]; exact hlt), hp⟩
  · rw [List.getElem?_set_ne e] at hx ⊢
    exact h.2 j x hx
structure QR (P : Nat → List Int → List Int → Prop) (pos : Nat → Int → Nat → Int → Nat → Prop) (q q' : Q24) : Prop where
  now : FrR pos q.now q'.now
  above : FrsR pos q.above q'.above
  regs : RegsR P q.R q'.R
  m : q.m.Eq q'.m
theorem FrsR.last {l l' : List Fr} (h : FrsR pos l l') : (l.getLast? = none ∧ l'.getLast? = none) ∨ ∃ x y, l.getLast? = some x ∧ l'.getLast? = some y ∧ FrR pos x y ∧ FrsR pos l.dropLast l'.dropLast := by
  cases h with
  | nil => exact .inl ⟨rfl, rfl⟩
  | snoc h1 h2 => exact .inr ⟨_, _, by simp, by simp, h2, by simpa using h1⟩
/-- how two steps match -/
def Match (P : Nat → List Int → List Int → Prop) (pos : Nat → Int → Nat → Int → Nat → Prop) (b c : Blocks) (s : ByteArray) (q q2 : Q24) : Prop :=
  (∃ m m', step1 b s q = .inr m ∧ step1 c s q2 = .inr m' ∧ m.Eq m') ∨ (∃ q1 q1', step1 b s q = .inl q1 ∧ step1 c s q2 = .inl q1' ∧ QR P pos q1 q1')
theorem sim_step (H : PSim z b c φ P pos) (hb : b.right = true) {q q' : Q24} (hq : QR P pos q q') (ho : FrOk b q.R q.now) (h0 : q.m.fin = 0) :
    ∃ q2, (q2 = q' ∨ (z = true ∧ step1 c s q' = .inl q2 ∧ q2.m = { q'.m with steps := q'.m.steps + 1 })) ∧ Match P pos b c s q q2 := by
  obtain ⟨F, k, l, h1, h2, h3, h4, h5, h6, h7⟩ := ho.ex
  obtain ⟨hf, hpos⟩ := hq.now
  obtain ⟨l', hl', hP⟩ := hq.regs.2 _ _ h5
  have hlt := (List.getElem?_eq_some_iff.1 h1).1
  have hltR : q.now.f < q'.R.length := (List.getElem?_eq_some_iff.1 hl').1
  obtain ⟨G, hG⟩ := get_of_lt (l := c.funcs) (k := q.now.f) (by rw [H.len]; exact hlt)
  obtain ⟨i2, a2, l2, k2, hsil, hP2, hk2, hstep⟩ := H.step q.now.f F G q.now.blk q.now.at' q'.now.blk q'.now.at' k l l' h1 hG h2 h3 h4 hpos hP
  have hGq : c.funcs[q'.now.f]? = some G := by rw [hf]; exact hG
  have hr' : rOf q'.R q'.now.f = l' := by rw [hf]; exact rOf_get hl'
  have hr : rOf q.R q.now.f = l := rOf_get h5
  have h0' : q'.m.fin = 0 := by rw [hq.m.fin]; exact h0
  -- the state behind the silent step
  obtain ⟨q2, hq2, e1, e2, e3, e6⟩ : ∃ q2 : Q24, (q2 = q' ∨ (z = true ∧ step1 c s q' = .inl q2 ∧ q2.m = { q'.m with steps := q'.m.steps + 1 })) ∧ q2.now = ⟨q.now.f, i2, a2⟩ ∧ FrsR pos q.above q2.above ∧ (q2.R.length = q.R.length ∧ q2.R[q.now.f]? = some (some l2) ∧ ∀ g l, g ≠ q.now.f → q.R[g]? = some (some l) → ∃ l', q2.R[g]? = some (some l') ∧ P g l l') ∧ q.m.Eq q2.m := by
    rcases hsil with ⟨a1, a2', a3⟩ | ⟨hz, k', b1, b2⟩
    · subst a1; subst a2'; subst a3
      refine ⟨q', .inl rfl, ?_, hq.above, ⟨hq.regs.1, hl', fun g l _ hg => hq.regs.2 g l hg⟩, hq.m⟩
      cases hh : q'.now with | mk f0 b0 a0 => rw [hh] at hf; simp only at hf ⊢; rw [hf]
    · rcases b2 with ⟨t, t1, t2, t3, t4, t5⟩ | ⟨t1, t2, t3, t4, t5⟩
      · subst t3; subst t4; subst t5
        have hm1 : mone (fun _ m => m) s t l' { q'.m with steps := q'.m.steps + 1 } = (rset l' t.d t.n, { q'.m with steps := q'.m.steps + 1 }) := by
          unfold mone
          have : (t.op == 1) = true := by rw [t2]; rfl
          rw [this]; rfl
        refine ⟨⟨⟨q'.now.f, q'.now.blk, q'.now.at' + 1⟩, q'.above, q'.R.set q'.now.f (some (rset l' t.d t.n)), { q'.m with steps := q'.m.steps + 1 }⟩, .inr ⟨hz, ?_, rfl⟩, by show (⟨q'.now.f, _, _⟩ : Fr) = _; rw [hf], hq.above, ⟨by simp only [List.length_set]; exact hq.regs.1, ?_, fun g l hne hg => ?_⟩, ⟨hq.m.words, hq.m.out, hq.m.read, hq.m.fin⟩⟩
        · unfold step1
          rw [hGq]; simp only
          rw [b1]; simp only
          rw [t1]; simp only
          rw [if_neg (by omega), hr', hm1, if_pos h0']
        · show (q'.R.set q'.now.f _)[q.now.f]? = _
          rw [hf, List.getElem?_set_self hltR]
        · obtain ⟨l3, g1, g2⟩ := hq.regs.2 g l hg
          exact ⟨l3, by show (q'.R.set q'.now.f _)[g]? = _; rw [hf, List.getElem?_set_ne (Ne.symm hne)]; exact g1, g2⟩
      · subst t3; subst t4; subst t5
        refine ⟨⟨⟨q'.now.f, k'.next l2, 0⟩, q'.above, q'.R, { q'.m with steps := q'.m.steps + 1 }⟩, .inr ⟨hz, ?_, rfl⟩, by show (⟨q'.now.f, _, _⟩ : Fr) = _; rw [hf], hq.above, ⟨hq.regs.1, hl', fun g l _ hg => hq.regs.2 g l hg⟩, ⟨hq.m.words, hq.m.out, hq.m.read, hq.m.fin⟩⟩
        · unfold step1
          rw [hGq]; simp only
          rw [b1]; simp only
          rw [t1]; simp only
          rw [if_neg t2, hr']
  refine ⟨q2, hq2, ?_⟩
  have hcf : c.funcs[q2.now.f]? = some G := by rw [e1]; exact hG
  have hcb : G.blocks[q2.now.blk.toNat]? = some k2 := by rw [e1]; exact hk2
  have hr2 : rOf q2.R q2.now.f = l2 := by rw [e1]; exact rOf_get e3.2.1
  have hlt2 : q.now.f < q2.R.length := (List.getElem?_eq_some_iff.1 e3.2.1).1
  have hRR : RegsR P q.R q2.R := ⟨e3.1, fun g l hg => by
    by_cases hne : g = q.now.f
    · subst hne
      rw [h5] at hg; cases hg
      exact ⟨l2, e3.2.1, hP2⟩
    · exact e3.2.2 g l hne hg⟩
  have h02 : q2.m.fin = 0 := by rw [e6.fin]; exact h0
  have ha2 : q2.now.at' = a2 := by rw [e1]
  have hf2 : q2.now.f = q.now.f := by rw [e1]
  have hb2 : q2.now.blk = i2 := by rw [e1]
  rcases hstep with ⟨t, s1, s2, s3⟩ | ⟨s1, s2, s3⟩
  · have hfits : t.fits (q.now.f : Int) F.regs b.words = true := ((one_spec ((right_spec hb).2.2.2 _ F h1)).2.2.2 k (List.mem_of_getElem? h2)).2 t (List.mem_of_getElem? s1)
    by_cases h10 : t.op = 10
    · have hbase := right_calls hb h1 k (List.mem_of_getElem? h2) t (List.mem_of_getElem? s1) h10
      obtain ⟨G1, hG1⟩ := get_of_lt (l := b.funcs) (k := t.base.toNat) (by omega)
      obtain ⟨G2, hG2⟩ := get_of_lt (l := c.funcs) (k := t.base.toNat) (by rw [H.len]; omega)
      refine .inr ⟨(⟨⟨t.base.toNat, 0, 0⟩, q.above ++ [⟨q.now.f, q.now.blk, q.now.at' + 1⟩], q.R.set t.base.toNat (some (List.replicate G1.regs.toNat 0)), { q.m with steps := q.m.steps + 1 }⟩ : Q24),
        (⟨⟨t.base.toNat, 0, 0⟩, q2.above ++ [⟨q2.now.f, q2.now.blk, q2.now.at' + 1⟩], q2.R.set t.base.toNat (some (List.replicate G2.regs.toNat 0)), { q2.m with steps := q2.m.steps + 1 }⟩ : Q24), ?_, ?_, ?_⟩
      · unfold step1
        rw [h1]; simp only
        rw [h2]; simp only
        rw [s1]; simp only
        rw [if_pos h10, hG1]
      · unfold step1
        rw [hcf]; simp only
        rw [hcb]; simp only
        rw [ha2, s2]; simp only
        rw [if_pos (show (t.ren (φ q.now.f)).op = 10 from h10)]
        show (match c.funcs[t.base.toNat]? with | none => _ | some G => _) = _
        rw [hG2]
        rfl
      · exact ⟨⟨rfl, H.pos0 _⟩, .snoc e2 ⟨hf2, by show pos q.now.f q.now.blk (q.now.at' + 1) q2.now.blk (q2.now.at' + 1); rw [hb2, ha2]; exact s3⟩, hRR.set (H.start _ _ _ hG1 hG2), ⟨e6.words, e6.out, e6.read, e6.fin⟩⟩
    · obtain ⟨m1, m2⟩ := mone_ren (φ := φ q.now.f) (P := P q.now.f) (n := F.regs) (fun l l' r h a b => H.get _ _ _ _ _ h1 h a b) (fun l l' r v h a b => H.set _ _ _ _ _ _ h1 h a b) hfits s hP2 (m := { q.m with steps := q.m.steps + 1 }) (m' := { q2.m with steps := q2.m.steps + 1 }) ⟨e6.words, e6.out, e6.read, e6.fin⟩
      have st1 : step1 b s q = if (mone (fun _ m => m) s t l { q.m with steps := q.m.steps + 1 }).2.fin = 0 then
          .inl ⟨⟨q.now.f, q.now.blk, q.now.at' + 1⟩, q.above, q.R.set q.now.f (some (mone (fun _ m => m) s t l { q.m with steps := q.m.steps + 1 }).1), (mone (fun _ m => m) s t l { q.m with steps := q.m.steps + 1 }).2⟩
        else .inr (mone (fun _ m => m) s t l { q.m with steps := q.m.steps + 1 }).2 := by
        unfold step1
        rw [h1]; simp only
        rw [h2]; simp only
        rw [s1]; simp only
        rw [if_neg h10, hr]
      have st2 : step1 c s q2 = if (mone (fun _ m => m) s (t.ren (φ q.now.f)) l2 { q2.m with steps := q2.m.steps + 1 }).2.fin = 0 then
          .inl ⟨⟨q2.now.f, q2.now.blk, q2.now.at' + 1⟩, q2.above, q2.R.set q2.now.f (some (mone (fun _ m => m) s (t.ren (φ q.now.f)) l2 { q2.m with steps := q2.m.steps + 1 }).1), (mone (fun _ m => m) s (t.ren (φ q.now.f)) l2 { q2.m with steps := q2.m.steps + 1 }).2⟩
        else .inr (mone (fun _ m => m) s (t.ren (φ q.now.f)) l2 { q2.m with steps := q2.m.steps + 1 }).2 := by
        unfold step1
        rw [hcf]; simp only
        rw [hcb]; simp only
        rw [ha2, s2]; simp only
        rw [if_neg (show ¬ (t.ren (φ q.now.f)).op = 10 from h10), hr2]
      generalize mone (fun _ m => m) s t l { q.m with steps := q.m.steps + 1 } = p at m1 m2 st1
      generalize mone (fun _ m => m) s (t.ren (φ q.now.f)) l2 { q2.m with steps := q2.m.steps + 1 } = p' at m1 m2 st2
      have hfin := m2.fin
      by_cases hz : p.2.fin = 0
      · rw [if_pos hz] at st1
        rw [if_pos (by rw [hfin]; exact hz)] at st2
        refine .inr ⟨_, _, st1, st2, ⟨hf2, by show pos q.now.f q.now.blk (q.now.at' + 1) q2.now.blk (q2.now.at' + 1); rw [hb2, ha2]; exact s3⟩, e2, ?_, m2⟩
        show RegsR P (q.R.set q.now.f (some p.1)) (q2.R.set q2.now.f (some p'.1))
        rw [hf2]
        exact hRR.set m1
      · rw [if_neg hz] at st1
        rw [if_neg (by rw [hfin]; exact hz)] at st2
        exact .inl ⟨_, _, st1, st2, m2⟩
  · have hme : Mach.Eq { q.m with steps := q.m.steps + 1 } { q2.m with steps := q2.m.steps + 1 } := ⟨e6.words, e6.out, e6.read, e6.fin⟩
    rcases s3 with ⟨f1, f2⟩ | ⟨f1, f2, f3⟩
    · have st1 : step1 b s q = match q.above.getLast? with
          | none => .inr { q.m with steps := q.m.steps + 1, fin := 1 }
          | some fr => .inl ⟨fr, q.above.dropLast, q.R, { q.m with steps := q.m.steps + 1 }⟩ := by
        unfold step1
        rw [h1]; simp only
        rw [h2]; simp only
        rw [s1]; simp only
        rw [if_pos f1] <;> cases q.above.getLast? <;> rfl
      have st2 : step1 c s q2 = match q2.above.getLast? with
          | none => .inr { q2.m with steps := q2.m.steps + 1, fin := 1 }
          | some fr => .inl ⟨fr, q2.above.dropLast, q2.R, { q2.m with steps := q2.m.steps + 1 }⟩ := by
        unfold step1
        rw [hcf]; simp only
        rw [hcb]; simp only
        rw [ha2, s2]; simp only
        rw [if_pos f2] <;> cases q2.above.getLast? <;> rfl
      rcases e2.last with ⟨g1, g2⟩ | ⟨x, y, g1, g2, g3, g4⟩
      · rw [g1] at st1; rw [g2] at st2
        exact .inl ⟨_, _, st1, st2, ⟨e6.words, e6.out, e6.read, rfl⟩⟩
      · rw [g1] at st1; rw [g2] at st2
        exact .inr ⟨_, _, st1, st2, ⟨g3, g4, hRR, hme⟩⟩
    · have st1 : step1 b s q = .inl ⟨⟨q.now.f, k.next l, 0⟩, q.above, q.R, { q.m with steps := q.m.steps + 1 }⟩ := by
        unfold step1
        rw [h1]; simp only
        rw [h2]; simp only
        rw [s1]; simp only
        rw [if_neg f1, hr]
      have st2 : step1 c s q2 = .inl ⟨⟨q2.now.f, k2.next l2, 0⟩, q2.above, q2.R, { q2.m with steps := q2.m.steps + 1 }⟩ := by
        unfold step1
        rw [hcf]; simp only
        rw [hcb]; simp only
        rw [ha2, s2]; simp only
        rw [if_neg f2, hr2]
      exact .inr ⟨_, _, st1, st2, ⟨⟨hf2, f3⟩, e2, hRR, hme⟩⟩
end
end Go.Proofs.Ytophfphgcbnafaa.Sv

namespace Go.Proofs.Ytophfphgcbnafaa.Sv
open Go
set_option linter.unusedVariables false
set_option linter.unusedSimpArgs false
section
variable {z : Bool} {b c : Blocks} {φ : Nat → Int → Int} {P : Nat → List Int → List Int → Prop} {pos : Nat → Int → Nat → Int → Nat → Prop} {s : ByteArray} {fuel : Int} {tgt : Mach}
/-- with some steps that do nothing -/
theorem sim_run (H : PSim z b c φ P pos) (hb : b.right = true) (hw : b.insW) : ∀ (n n' : Nat) (q q' : Q24), SInv b s fuel b.words.toNat tgt q → fuel = (q.m.steps : Int) + n → QR P pos q q' → 2 * n ≤ n' → (runQ b s n q).fin ≠ 5 →
    (runQ c s n' q').fin = (runQ b s n q).fin ∧ (runQ c s n' q').out = (runQ b s n q).out ∧ (runQ b s n q).steps + q'.m.steps ≤ (runQ c s n' q').steps + q.m.steps ∧ (runQ c s n' q').steps + 2 * q.m.steps ≤ 2 * (runQ b s n q).steps + q'.m.steps
  | 0, n', q, q', _, _, _, _, h5 => absurd rfl h5
  | n + 1, n', q, q', hi, hn, hq, hnn, h5 => by
    obtain ⟨q2, hq2, hmatch⟩ := sim_step (s := s) H hb hq hi.now hi.fin
    obtain ⟨a1, a2⟩ := hi.step1 hb hw (by simp [hn]; omega)
    -- behind the silent step
    obtain ⟨n2, hrun, hn2, hs2, hf2⟩ : ∃ n2, runQ c s n' q' = runQ c s (n2 + 1) q2 ∧ 2 * n ≤ n2 ∧ (q2.m.steps = q'.m.steps ∨ q2.m.steps = q'.m.steps + 1) ∧ q2.m.fin = 0 := by
      have h0 : q'.m.fin = 0 := by rw [hq.m.fin]; exact hi.fin
      rcases hq2 with rfl | ⟨_, e, em⟩
      · exact ⟨n' - 1, by rw [show n' - 1 + 1 = n' by omega], by omega, .inl rfl, h0⟩
      · refine ⟨n' - 2, ?_, by omega, .inr (by rw [em]), by rw [em]; exact h0⟩
        conv => lhs; rw [show n' = (n' - 2 + 1) + 1 by omega]
        conv => lhs; unfold runQ
        rw [e]
    rw [hrun]
    unfold runQ at h5 ⊢
    rcases hmatch with ⟨m, m', e1, e2, hm⟩ | ⟨q1, q1', e1, e2, hm⟩
    · rw [e1] at h5
      rw [e1, e2]
      have b1 := (step1_inr e1 hi.fin).1
      have b2 := (step1_inr e2 hf2).1
      exact ⟨hm.fin, hm.out, by show m.steps + _ ≤ m'.steps + _; omega, by show m'.steps + _ ≤ 2 * m.steps + _; omega⟩
    · rw [e1] at h5
      rw [e1, e2]
      have b1 := (step1_inl e1 hi.fin).1
      have b2 := (step1_inl e2 hf2).1
      obtain ⟨r1, r2, r3, r4⟩ := sim_run H hb hw n n2 q1 q1' (a1 q1 e1) (by omega) hm hn2 h5
      exact ⟨r1, r2, by show (runQ b s n q1).steps + _ ≤ (runQ c s n2 q1').steps + _; omega, by show (runQ c s n2 q1').steps + _ ≤ 2 * (runQ b s n q1).steps + _; omega⟩
/-- at the beginning -/
theorem qr_start (H : PSim z b c φ P pos) {F G : BFunc} (hF : b.funcs[b.funcs.length - 1]? = some F) (hG : c.funcs[c.funcs.length - 1]? = some G) : QR P pos (q0 b F) (q0 c G) := by
  have hG' : c.funcs[b.funcs.length - 1]? = some G := by rw [← H.len]; exact hG
  refine ⟨⟨by show c.funcs.length - 1 = b.funcs.length - 1; rw [H.len], H.pos0 _⟩, .nil, ?_, ⟨by simp [q0, m0, H.words], rfl, rfl, rfl⟩⟩
  show RegsR P ((List.replicate b.funcs.length none).set (b.funcs.length - 1) _) ((List.replicate c.funcs.length none).set (c.funcs.length - 1) _)
  rw [H.len]
  refine RegsR.set ⟨rfl, fun g l hg => ?_⟩ (H.start _ _ _ hF hG')
  rw [List.getElem?_replicate] at hg
  split at hg <;> simp at hg
theorem mrun_sim (H : PSim z b c φ P pos) (hb : b.right = true) (hw : b.insW) (hc : c.right = true) (hcw : c.insW) (s : ByteArray) {n n' : Nat} (hn : 2 * n ≤ n') (h5 : (mrun b s n).fin ≠ 5) :
    (mrun c s n').fin = (mrun b s n).fin ∧ (mrun c s n').out = (mrun b s n).out ∧ (mrun b s n).steps ≤ (mrun c s n').steps ∧ (mrun c s n').steps ≤ 2 * (mrun b s n).steps := by
  have hne : 0 < b.funcs.length := List.length_pos_iff.2 (right_spec hb).2.2.1
  obtain ⟨F, hF⟩ := get_of_lt (l := b.funcs) (k := b.funcs.length - 1) (by omega)
  obtain ⟨G, hG⟩ := get_of_lt (l := c.funcs) (k := c.funcs.length - 1) (by rw [H.len]; omega)
  rw [mrun_runQ hb hw s hF] at h5 ⊢
  rw [mrun_runQ hc hcw s hG]
  have hst := SInv.start hb s (n : Int) hF
  have hf : fuel0 (n : Int) = (n : Int) := by
    unfold fuel0
    have : decide ((n : Int) < 0) = false := by simp
    rw [this]; rfl
  rw [hf] at hst
  obtain ⟨a, b', c', d⟩ := sim_run H hb hw n n' (q0 b F) (q0 c G) hst (by simp [q0, m0]) (qr_start H hF hG) hn h5
  exact ⟨a, b', by simpa [q0, m0] using c', by simpa [q0, m0] using d⟩
end
end Go.Proofs.Ytophfphgcbnafaa.Sv

namespace Go.Proofs.Ytophfphgcbnafaa.Sv
open Go
set_option linter.unusedVariables false
set_option linter.unusedSimpArgs false

/-! ### programs that may be -/
theorem right_of {b : Blocks} (h1 : 0 ≤ b.words) (h2 : b.words ≤ 1048576) (h3 : b.funcs ≠ []) (h4 : ∀ (i : Nat) (f : BFunc), b.funcs[i]? = some f → f.one (i : Int) b.words = true) : b.right = true := by
  simp only [Blocks.right, Bool.and_eq_true, decide_eq_true_eq, Bool.not_eq_true', List.isEmpty_eq_false_iff]
  refine ⟨h1, h2, h3, List.all_eq_true.2 fun p hp => ?_⟩
  obtain ⟨i, hi⟩ := List.getElem?_of_mem hp
  rw [List.getElem?_zipIdx, Option.map_eq_some_iff] at hi
  obtain ⟨f, hf, rfl⟩ := hi
  have := h4 i f hf
  simpa using this
theorem one_of {f : BFunc} {i w : Int} (h1 : 0 ≤ f.regs) (h2 : f.regs ≤ 4000) (h3 : f.blocks ≠ []) (h4 : ∀ x ∈ f.blocks, x.ends f.blocks.length f.regs = true ∧ ∀ t ∈ x.ins, t.fits i f.regs w = true) : f.one i w = true := by
  simp only [BFunc.one, Bool.and_eq_true, decide_eq_true_eq, Bool.not_eq_true', List.isEmpty_eq_false_iff]
  refine ⟨h1, h2, h3, List.all_eq_true.2 fun x hx => ?_⟩
  simp only [Block.ok, Bool.and_eq_true, List.all_eq_true]
  exact h4 x hx
theorem ends_mono {x : Block} {n n' r r' : Int} (hn : n ≤ n') (hr : r ≤ r') (h : x.ends n r = true) : x.ends n' r' = true := by
  unfold Block.ends at h ⊢
  cases e1 : x.fin == 1 with
  | true => simp only [e1, cond_true, within, Bool.and_eq_true, decide_eq_true_eq] at h ⊢; exact ⟨⟨h.1.1, by omega⟩, h.2⟩
  | false =>
    cases e2 : x.fin == 2 with
    | true => simp only [e1, e2, cond_true, cond_false, within, Bool.and_eq_true, decide_eq_true_eq] at h ⊢; exact ⟨⟨h.1.1, by omega⟩, ⟨h.2.1.1, by omega⟩, h.2.2.1, by omega⟩
    | false => simp only [e1, e2, cond_false] at h ⊢; exact h
/-! ### an instruction at the beginning of each block -/
def idleT (r : Int) : Tac := ⟨1, r, 0, 0, 0, 0, 0, 7⟩
def Block.idle (r : Int) (x : Block) : Block := ⟨idleT r :: x.ins, x.fin, x.v, x.to, x.els⟩
def BFunc.idle (f : BFunc) : BFunc := ⟨f.regs + 1, f.blocks.map (Block.idle f.regs)⟩
def Blocks.idle (b : Blocks) : Blocks := ⟨b.words, b.funcs.map BFunc.idle⟩
/-! ### other names of registers -/
def turnZ (n v : Int) : Int := n - 1 - v
def Block.turn (n : Int) (x : Block) : Block := ⟨x.ins.map (Tac.ren (turnZ n)), x.fin, bif x.fin == 2 then turnZ n x.v else x.v, x.to, x.els⟩
def BFunc.turn (f : BFunc) : BFunc := ⟨f.regs, f.blocks.map (Block.turn f.regs)⟩
def Blocks.turn (b : Blocks) : Blocks := ⟨b.words, b.funcs.map BFunc.turn⟩
/-! ### the last function's first block in two -/
def Block.headAt (x : Block) (n : Nat) (to : Int) : Block := ⟨x.ins.take n, 1, 0, to, 0⟩
def Block.tailAt (x : Block) (n : Nat) : Block := ⟨x.ins.drop n, x.fin, x.v, x.to, x.els⟩
def BFunc.cutAt (f : BFunc) (x : Block) (n : Nat) : BFunc := ⟨f.regs, (x.headAt n f.blocks.length :: f.blocks.drop 1) ++ [x.tailAt n]⟩
def Blocks.cutAt (b : Blocks) (f : BFunc) (x : Block) (n : Nat) : Blocks := ⟨b.words, b.funcs.take (b.funcs.length - 1) ++ [f.cutAt x n]⟩
section
variable {b : Blocks} {f : BFunc} {x : Block} {n : Nat}
theorem cut_get (hf : b.funcs[b.funcs.length - 1]? = some f) (g : Nat) : (b.cutAt f x n).funcs[g]? = if g = b.funcs.length - 1 then some (f.cutAt x n) else b.funcs[g]? := by
  have hlt := (List.getElem?_eq_some_iff.1 hf).1
  unfold Blocks.cutAt
  simp only
  by_cases h : g < b.funcs.length - 1
  · rw [if_neg (by omega), List.getElem?_append_left (by simp; omega), List.getElem?_take_of_lt h]
  · rw [List.getElem?_append_right (by simp; omega)]
    have hl : (b.funcs.take (b.funcs.length - 1)).length = b.funcs.length - 1 := by simp
    rw [hl]
    by_cases e : g = b.funcs.length - 1
    · rw [if_pos e, e]; simp
    · rw [if_neg e, List.getElem?_eq_none (l := b.funcs) (by omega), List.getElem?_eq_none (by simp; omega)]
theorem cut_len (hne : 0 < b.funcs.length) : (b.cutAt f x n).funcs.length = b.funcs.length := by
  simp [Blocks.cutAt]; omega
theorem cut_blen (hx : f.blocks[0]? = some x) : (f.cutAt x n).blocks.length = f.blocks.length + 1 := by
  have hlt := (List.getElem?_eq_some_iff.1 hx).1
  simp [BFunc.cutAt]; omega
theorem cut_b0 : (f.cutAt x n).blocks[0]? = some (x.headAt n f.blocks.length) := by simp [BFunc.cutAt]
theorem cut_bi (hx : f.blocks[0]? = some x) {i : Nat} (h0 : i ≠ 0) (hi : i < f.blocks.length) : (f.cutAt x n).blocks[i]? = f.blocks[i]? := by
  unfold BFunc.cutAt
  obtain ⟨j, rfl⟩ : ∃ j, i = j + 1 := ⟨i - 1, by omega⟩
  rw [List.getElem?_append_left (by simp; omega), List.getElem?_cons_succ, List.getElem?_drop]
  congr 1; omega
theorem cut_bn (hx : f.blocks[0]? = some x) : (f.cutAt x n).blocks[f.blocks.length]? = some (x.tailAt n) := by
  have hlt := (List.getElem?_eq_some_iff.1 hx).1
  unfold BFunc.cutAt
  have hl : (x.headAt n f.blocks.length :: f.blocks.drop 1).length = f.blocks.length := by simp; omega
  rw [List.getElem?_append_right (by rw [hl]; exact Nat.le_refl _), hl, Nat.sub_self]; rfl
theorem cut_mem {y : Block} (hy : y ∈ (f.cutAt x n).blocks) : y = x.headAt n f.blocks.length ∨ y ∈ f.blocks ∨ y = x.tailAt n := by
  simp only [BFunc.cutAt, List.mem_append, List.mem_cons, List.mem_singleton, List.not_mem_nil, or_false] at hy
  rcases hy with (h | h) | h
  · exact .inl h
  · exact .inr (.inl (List.mem_of_mem_drop h))
  · exact .inr (.inr h)
theorem cut_right (hb : b.right = true) (hf : b.funcs[b.funcs.length - 1]? = some f) (hx : f.blocks[0]? = some x) : (b.cutAt f x n).right = true := by
  obtain ⟨h1, h2, h3, h4⟩ := right_spec hb
  have hlt := (List.getElem?_eq_some_iff.1 hf).1
  refine right_of h1 h2 (by simp [Blocks.cutAt]) fun i g hg => ?_
  rw [cut_get hf] at hg
  split at hg
  · rename_i e
    cases hg
    obtain ⟨k1, k2, k3, k4⟩ := one_spec (h4 _ f hf)
    rw [← e] at k4
    obtain ⟨x1, x2⟩ := k4 x (List.mem_of_getElem? hx)
    refine one_of k1 k2 (by simp [BFunc.cutAt]) fun y hy => ?_
    rw [cut_blen hx]
    rcases cut_mem hy with rfl | hy | rfl
    · refine ⟨?_, fun t ht => x2 t (List.mem_of_mem_take ht)⟩
      simp [Block.ends, Block.headAt, within]
      first | exact decide_eq_true (by omega) | exact ⟨decide_eq_true (by omega), decide_eq_true (by omega)⟩
    · obtain ⟨y1, y2⟩ := k4 y hy
      exact ⟨ends_mono (by omega) (Int.le_refl _) y1, y2⟩
    · exact ⟨ends_mono (x := x) (by omega) (Int.le_refl _) x1, fun t ht => x2 t (List.mem_of_mem_drop ht)⟩
  · exact h4 i g hg
theorem cut_insW (h : b.insW) (hf : b.funcs[b.funcs.length - 1]? = some f) (hx : f.blocks[0]? = some x) : (b.cutAt f x n).insW := fun g hg y hy t ht => by
  simp only [Blocks.cutAt, List.mem_append, List.mem_singleton] at hg
  rcases hg with hg | rfl
  · exact h g (List.mem_of_mem_take hg) y hy t ht
  · have hfm := List.mem_of_getElem? hf
    have hxm := List.mem_of_getElem? hx
    rcases cut_mem hy with rfl | hy | rfl
    · exact h f hfm x hxm t (List.mem_of_mem_take ht)
    · exact h f hfm y hy t ht
    · exact h f hfm x hxm t (List.mem_of_mem_drop ht)
def cutPos (L nb at' : Nat) (g : Nat) (i : Int) (a : Nat) (i' : Int) (a' : Nat) : Prop :=
  (i' = i ∧ a' = a ∧ (g = L → i = 0 → a ≤ at')) ∨ (g = L ∧ i = 0 ∧ at' ≤ a ∧ i' = (nb : Int) ∧ a' = a - at')
theorem cut_sim (hb : b.right = true) (hf : b.funcs[b.funcs.length - 1]? = some f) (hx : f.blocks[0]? = some x) (hn : n ≤ x.ins.length) : PSim true b (b.cutAt f x n) (fun _ r => r) (fun _ l l' => l' = l) (cutPos (b.funcs.length - 1) f.blocks.length n) where
  words := rfl
  len := cut_len (by have := (List.getElem?_eq_some_iff.1 hf).1; omega)
  get := fun g F l l' r _ hP _ _ => by subst hP; rfl
  set := fun g F l l' r v _ hP _ _ => by subst hP; rfl
  start := fun g F G hF hG => by
    rw [cut_get hf] at hG
    split at hG
    · rename_i e
      subst e
      rw [hf] at hF; cases hF; cases hG; rfl
    · rw [hF] at hG; cases hG; rfl
  pos0 := fun g => .inl ⟨rfl, rfl, fun _ _ => Nat.zero_le _⟩
  step := fun g F G i a i' a' k l l' hF hG hk hi ha hpos hP => by
    subst hP
    have hflt := (List.getElem?_eq_some_iff.1 hx).1
    have hend : ∀ to : Int, cutPos (b.funcs.length - 1) f.blocks.length n g to 0 to 0 := fun to => .inl ⟨rfl, rfl, fun _ _ => Nat.zero_le _⟩
    -- where both stand in the same block
    have same : ∀ (k2 : Block) (a2 : Nat), k2.ins[a2]? = k.ins[a]? → (a < k.ins.length → cutPos (b.funcs.length - 1) f.blocks.length n g i (a + 1) i' (a2 + 1)) → k2.fin = k.fin → k2.next l' = k.next l' →
        ((∃ t, k.ins[a]? = some t ∧ k2.ins[a2]? = some (t.ren (fun r => r)) ∧ cutPos (b.funcs.length - 1) f.blocks.length n g i (a + 1) i' (a2 + 1)) ∨
         (k.ins[a]? = none ∧ k2.ins[a2]? = none ∧ ((k.fin = 3 ∧ k2.fin = 3) ∨ (k.fin ≠ 3 ∧ k2.fin ≠ 3 ∧ cutPos (b.funcs.length - 1) f.blocks.length n g (k.next l') 0 (k2.next l') 0)))) := fun k2 a2 e1 e2 e3 e4 => by
      rw [e1, e3, e4]
      cases e : k.ins[a]? with
      | some t => exact .inl ⟨t, rfl, by rw [Tac.ren_id], e2 (List.getElem?_eq_some_iff.1 e).1⟩
      | none =>
        refine .inr ⟨rfl, rfl, ?_⟩
        by_cases h3 : k.fin = 3
        · exact .inl ⟨h3, h3⟩
        · exact .inr ⟨h3, h3, hend _⟩
    rw [cut_get hf] at hG
    split at hG
    · rename_i e
      subst e
      rw [hf] at hF; cases hF; cases hG
      by_cases h0 : i = 0
      · subst h0
        rw [Int.toNat_zero, hx] at hk
        cases hk
        have htail : (f.cutAt x n).blocks[((f.blocks.length : Nat) : Int).toNat]? = some (x.tailAt n) := cut_bn hx
        have inTail : n ≤ a → i' = ((f.blocks.length : Nat) : Int) → a' = a - n → ∃ (i2 : Int) (a2 : Nat) (l2 : List Int) (k2 : Block), silent true (f.cutAt x n) i' a' l' i2 a2 l2 ∧ l2 = l' ∧ (f.cutAt x n).blocks[i2.toNat]? = some k2 ∧
            ((∃ t, x.ins[a]? = some t ∧ k2.ins[a2]? = some (t.ren (fun r => r)) ∧ cutPos (b.funcs.length - 1) f.blocks.length n (b.funcs.length - 1) 0 (a + 1) i2 (a2 + 1)) ∨
             (x.ins[a]? = none ∧ k2.ins[a2]? = none ∧ ((x.fin = 3 ∧ k2.fin = 3) ∨ (x.fin ≠ 3 ∧ k2.fin ≠ 3 ∧ cutPos (b.funcs.length - 1) f.blocks.length n (b.funcs.length - 1) (x.next l') 0 (k2.next l2) 0)))) := fun g1 g2 g3 => by
          refine ⟨i', a', l', x.tailAt n, .inl ⟨rfl, rfl, rfl⟩, rfl, by rw [g2]; exact htail, ?_⟩
          refine same _ _ ?_ (fun _ => .inr ⟨rfl, rfl, by omega, g2, by omega⟩) rfl rfl
          show (x.ins.drop n)[a']? = _
          rw [List.getElem?_drop]; congr 1; omega
        rcases hpos with ⟨rfl, rfl, hle⟩ | ⟨_, _, h2, rfl, rfl⟩
        · have hle := hle rfl rfl
          by_cases hlt : a' < n
          · refine ⟨0, a', l', x.headAt n f.blocks.length, .inl ⟨rfl, rfl, rfl⟩, rfl, cut_b0, ?_⟩
            have hin : a' < x.ins.length := by omega
            obtain ⟨t, ht⟩ := get_of_lt hin
            refine .inl ⟨t, ht, ?_, .inl ⟨rfl, rfl, fun _ _ => by omega⟩⟩
            show (x.ins.take n)[a']? = _
            rw [List.getElem?_take_of_lt hlt, ht, Tac.ren_id]
          · obtain rfl : a' = n := by omega
            -- the jump
            have hsil : silent true (f.cutAt x a') 0 a' l' ((f.blocks.length : Nat) : Int) 0 l' := .inr ⟨rfl, _, cut_b0, .inr ⟨by show (x.ins.take a')[a']? = none; exact List.getElem?_eq_none (by simp; omega), by show (1 : Int) ≠ 3; decide, rfl, rfl, rfl⟩⟩
            refine ⟨((f.blocks.length : Nat) : Int), 0, l', x.tailAt a', hsil, rfl, htail, ?_⟩
            have hc : (x.tailAt a').ins[0]? = x.ins[a']? := by
              show (x.ins.drop a')[0]? = _
              rw [List.getElem?_drop]; rfl
            rw [hc]
            cases e : x.ins[a']? with
            | some t => exact .inl ⟨t, rfl, by rw [Tac.ren_id], .inr ⟨rfl, rfl, by omega, rfl, by omega⟩⟩
            | none =>
              refine .inr ⟨rfl, rfl, ?_⟩
              by_cases h3 : x.fin = 3
              · exact .inl ⟨h3, h3⟩
              · exact .inr ⟨h3, h3, hend _⟩
        · exact inTail h2 rfl rfl
      · rcases hpos with ⟨rfl, rfl, hle⟩ | ⟨_, h2, _⟩
        · have hil := (List.getElem?_eq_some_iff.1 hk).1
          refine ⟨i', a', l', k, .inl ⟨rfl, rfl, rfl⟩, rfl, by rw [cut_bi hx (by omega) hil]; exact hk, same k a' rfl (fun _ => .inl ⟨rfl, rfl, fun _ h => absurd h h0⟩) rfl rfl⟩
        · exact absurd h2 h0
    · rename_i e
      rw [hF] at hG; cases hG
      rcases hpos with ⟨rfl, rfl, hle⟩ | ⟨h1, _⟩
      · exact ⟨i', a', l', k, .inl ⟨rfl, rfl, rfl⟩, rfl, hk, same k a' rfl (fun _ => .inl ⟨rfl, rfl, fun h => absurd h e⟩) rfl rfl⟩
      · exact absurd h1 e
end
end Go.Proofs.Ytophfphgcbnafaa.Sv

namespace Go.Proofs.Ytophfphgcbnafaa.Sv
open Go
set_option linter.unusedVariables false
set_option linter.unusedSimpArgs false
section
variable {P : Program} {T : Nat → Option TyI} {o : Oper} {e : AEnv} {h : AHeap}
end
theorem eqBin_str {x y : ByteArray} (h : x = y) : evalBin .eql (.str x) (.str y) = some (.bool true) := by
  subst h
  show some (AV.bool (x.toList == x.toList)) = _
  rw [beq_self_eq_true]
theorem eqBin {x y : Int} (h : x = y) : evalBin .eql (.int .i64 x) (.int .i64 y) = some (.bool true) := by
  subst h; exact eqBin_self _
/-- two bytes -/
def pairCells (x y : Int) : List AV := [.int .u8 x, .int .u8 y]
end Go.Proofs.Ytophfphgcbnafaa.Sv

namespace Go.Proofs.Ytophfphgcbnafaa.Sv
open Go
set_option linter.unusedVariables false
set_option linter.unusedSimpArgs false
structure TacR (t : Tac) (r : Int) : Prop where
  d : setsOp t.op = true → 0 ≤ t.d ∧ t.d < r
  a : (use1 t.op || use2 t.op) = true → 0 ≤ t.a ∧ t.a < r
  b : use2 t.op = true → 0 ≤ t.b ∧ t.b < r
/-! ### what the laws need of the made programs -/
theorem cut_runs {b : Blocks} {f : BFunc} {x0 : Block} {at' : Nat} (hb : b.right = true) (hw : b.insW) (hf : b.funcs[b.funcs.length - 1]? = some f) (hx0 : f.blocks[0]? = some x0) (hn : at' ≤ x0.ins.length) (s : ByteArray) {x : Int} (hx : 0 ≤ x) (h5 : (mrun b s x).fin ≠ 5) :
    (mrun (b.cutAt f x0 at') s (2 * x + 2)).fin = (mrun b s x).fin ∧ (mrun (b.cutAt f x0 at') s (2 * x + 2)).out = (mrun b s x).out := by
  obtain ⟨n, rfl⟩ := Int.eq_ofNat_of_zero_le hx
  have h := mrun_sim (cut_sim hb hf hx0 hn) hb hw (cut_right hb hf hx0) (cut_insW hw hf hx0) s (n := n) (n' := 2 * n + 2) (by omega) h5
  have e : ((2 * n + 2 : Nat) : Int) = 2 * (n : Int) + 2 := by omega
  rw [e] at h
  exact ⟨h.1, h.2.1⟩
theorem mulBin {x y z : Int} (h1 : -9223372036854775808 ≤ x * y) (h2 : x * y ≤ 9223372036854775807) (hz : z = x * y) : evalBin .mul (.int .i64 x) (.int .i64 y) = some (.int .i64 z) := by
  subst hz
  show evalInt .mul .i64 x y = _
  simp only [evalInt]
  rw [wrap_i64 h1 h2]
theorem addBin {x y z : Int} (h1 : -9223372036854775808 ≤ x + y) (h2 : x + y ≤ 9223372036854775807) (hz : z = x + y) : evalBin .add (.int .i64 x) (.int .i64 y) = some (.int .i64 z) := by
  subst hz
  show evalInt .add .i64 x y = _
  simp only [evalInt]
  rw [wrap_i64 h1 h2]
theorem subBin {x y z : Int} (h1 : -9223372036854775808 ≤ x - y) (h2 : x - y ≤ 9223372036854775807) (hz : z = x - y) : evalBin .sub (.int .i64 x) (.int .i64 y) = some (.int .i64 z) := by
  subst hz
  show evalInt .sub .i64 x y = _
  simp only [evalInt]
  rw [wrap_i64 h1 h2]
theorem remBin {x : Int} {n : Nat} (hx : 0 ≤ x) : evalBin .rem (.int .i64 x) (.int .i64 ((n + 1 : Nat) : Int)) = some (.int .i64 ((x.toNat % (n + 1) : Nat) : Int)) := by
  show evalInt .rem .i64 x ((n + 1 : Nat) : Int) = _
  simp only [evalInt]
  rw [if_neg (by omega)]
  congr 2
  obtain ⟨m, rfl⟩ := Int.eq_ofNat_of_zero_le hx
  rw [Int.toNat_natCast]
  exact (Int.ofNat_tmod m (n + 1)).symm
theorem SmallB.cut_ins {b : Blocks} {s : ByteArray} (h : SmallB b s) {f : BFunc} {x0 : Block} {c : Nat} (hf : b.funcs[b.funcs.length - 1]? = some f) (hx : f.blocks[0]? = some x0) : ∀ g ∈ (b.cutAt f x0 c).funcs, ∀ x ∈ g.blocks, x.ins.length ≤ big := fun g hg y hy => by
  simp only [Blocks.cutAt, List.mem_append, List.mem_singleton] at hg
  have hfm := List.mem_of_getElem? hf
  have h0 := h.ins hfm (List.mem_of_getElem? hx)
  rcases hg with hg | rfl
  · exact h.insL g (List.mem_of_mem_take hg) y hy
  · rcases cut_mem hy with rfl | hy | rfl
    · simp only [Block.headAt, List.length_take, big]; omega
    · exact h.insL f hfm y hy
    · simp only [Block.tailAt, List.length_drop, big]; omega
theorem cut_fcells (f : BFunc) (x0 : Block) (c : Nat) : ([(x0.headAt c f.blocks.length).cells] ++ (f.blocks.map Block.cells).drop 1) ++ [(x0.tailAt c).cells] = (f.cutAt x0 c).blocks.map Block.cells := by
  simp [BFunc.cutAt]
theorem cut_bcells (b : Blocks) (f : BFunc) (x0 : Block) (c : Nat) : ([] ++ (b.funcs.map BFunc.cells).take (b.funcs.length - 1)) ++ [(f.cutAt x0 c).cells] = (b.cutAt f x0 c).funcs.map BFunc.cells := by
  simp [Blocks.cutAt]
theorem drop_take_all {α : Type} {l : List α} {n : Nat} (h : l.length ≤ n) : (l.drop 0).take n = l := by
  rw [List.drop_zero, List.take_of_length_le h]
end Go.Proofs.Ytophfphgcbnafaa.Sv

namespace Go.Proofs.Ytophfphgcbnafaa.Sv
open Go
set_option linter.unusedVariables false
set_option linter.unusedSimpArgs false

set_option maxRecDepth 100000 in
theorem blockSplits_ok (b : Blocks) (s : ByteArray) (x y : Int) (hb : b.Ok) (hx : 0 ≤ x ∧ x ≤ 255) (hy : 0 ≤ y ∧ y ≤ 255) : APure Try.prog 7 [.agg b.cells, .str s, .agg (pairCells x y)] (fun r => r = .bool true) := by
  refine APure.of_body (n := 134) tok Try.func7 rfl rfl ?_
  refine AGo.seq ?_
  refine AGo.region ?_
  refine AOps.x 3 rfl rfl rfl (o_box (sz := 2) 0 rfl rfl rfl rfl (Nat.zero_lt_succ _) rfl) ?_
  refine AOps.x 5 rfl rfl rfl (o_box (sz := 2) 1 rfl rfl rfl rfl (Nat.zero_lt_succ _) rfl) ?_
  refine AOps.s 6 rfl rfl rfl (q_move (.inr rfl) rfl) ?_
  refine AOps.nil ?_
  refine AGo.seq ?_
  refine AGo.seq ?_
  refine AGo.region ?_
  refine AOps.s 17 rfl rfl rfl (q_load tok rfl rfl rfl (by first | exact .loc _ | exact .ptr _ _ _ _ _ _ _ _ rfl rfl rfl) rfl) ?_
  refine AOps.s 18 rfl rfl rfl (q_move (.inl rfl) rfl) ?_
  refine AOps.x 19 rfl rfl rfl (o_pure rfl Try.func10 (by kernel_rfl) rfl rfl rfl (smallS_ok _ _ (by assumption))) ?_
  refine AOps.s 20 rfl rfl rfl (q_not rfl rfl) ?_
  refine AOps.nil ?_
  refine AGo.split 20 rfl (fun hb1 => ?_) (fun hb1 => ?_)
  · -- True
    refine AGo.cond_true true rfl rfl ?_
    refine AGo.seq ?_
    refine AGo.region ?_
    refine AOps.x 21 rfl rfl rfl (o_pure rfl Try.func11 (by kernel_rfl) rfl rfl rfl (awake_ok)) ?_
    refine AOps.s 6 rfl rfl rfl (q_move (.inr rfl) rfl) ?_
    refine AOps.nil ?_
    refine AGo.ret ?_
    refine ⟨[_], ⟨rfl, trivial⟩, ?_, rfl⟩
    rfl
  · -- False
    refine AGo.cond_false false rfl rfl ?_
    have hsm := smallS_spec (b := b) (s := s) (by simpa using hb1)
    have hfl := hsm.funcs
    have hsz := hsm.size
    have hrs := right_spec hsm.right
    have hbw := small_insWB hb
    have hne : 0 < b.funcs.length := List.length_pos_iff.2 hrs.2.2.1
    obtain ⟨f, hf⟩ := get_of_lt (l := b.funcs) (k := b.funcs.length - 1) (by omega)
    have hfm := List.mem_of_getElem? hf
    have hfo := one_spec (hrs.2.2.2 _ f hf)
    have hfp : 0 < f.blocks.length := List.length_pos_iff.2 hfo.2.2.1
    have hfb := hsm.blocks hfm
    obtain ⟨x0, hx0⟩ := get_of_lt (l := f.blocks) (k := 0) hfp
    have hxl := hsm.ins hfm (List.mem_of_getElem? hx0)
    obtain ⟨c, hc⟩ : ∃ c : Nat, c = x.toNat % (x0.ins.length + 1) := ⟨_, rfl⟩
    have hcl : c ≤ x0.ins.length := by have := Nat.mod_lt x.toNat (show 0 < x0.ins.length + 1 by omega); omega
    have hcr := cut_right (n := c) hsm.right hf hx0
    have hcn : (b.cutAt f x0 c).funcs.length = b.funcs.length := cut_len hne
    refine AGo.skip ?_
    refine AGo.seq ?_
    refine AGo.region ?_
    refine AOps.s 22 rfl rfl rfl (q_fieldAddr tok rfl rfl rfl rfl rfl rfl) ?_
    refine AOps.s 23 rfl rfl rfl (q_load tok rfl rfl rfl (by first | exact .loc _ | exact .ptr _ _ _ _ _ _ _ _ rfl rfl rfl) rfl) ?_
    refine AOps.s 24 rfl rfl rfl (q_len tok rfl rfl rfl rfl rfl) ?_
    refine AOps.s 25 rfl rfl rfl (q_bin (r := .int .i64 ((b.funcs.length - 1 : Nat) : Int)) rfl rfl rfl (by rw [List.length_map]; exact subBin (by omega) (by omega) (by omega))) ?_
    refine AOps.s 7 rfl rfl rfl (q_move (.inr rfl) rfl) ?_
    refine AOps.nil ?_
    refine AGo.seq ?_
    refine AGo.region ?_
    refine AOps.s 26 rfl rfl rfl (q_fieldAddr tok rfl rfl rfl rfl rfl rfl) ?_
    refine AOps.s 27 rfl rfl rfl (q_load tok rfl rfl rfl (by first | exact .loc _ | exact .ptr _ _ _ _ _ _ _ _ rfl rfl rfl) rfl) ?_
    refine AOps.s 28 rfl rfl rfl (q_move (.inl rfl) rfl) ?_
    refine AOps.s 29 rfl rfl rfl (q_index_lst tok rfl rfl rfl rfl rfl rfl (Int.natCast_nonneg _) (idx_map hf) rfl) ?_
    refine AOps.s 30 rfl rfl rfl (q_load tok rfl rfl rfl (by first | exact .loc _ | exact .ptr _ _ _ _ _ _ _ _ rfl rfl rfl) rfl) ?_
    refine AOps.x 8 rfl rfl rfl (o_alloc tok 2 rfl rfl rfl rfl (Nat.zero_lt_succ _) rfl) ?_
    refine AOps.w rfl rfl (o_store tok rfl rfl rfl rfl rfl rfl rfl rfl rfl (by decide) rfl (by first | exact fun _ => rfl | (intro h; cases h))) ?_
    refine AOps.nil ?_
    refine AGo.seq ?_
    refine AGo.draw mix ?_
    refine DOps.s 31 rfl rfl rfl (q_index_arr tok rfl rfl rfl rfl rfl rfl (by decide) (by decide) rfl) ?_
    refine DOps.s 32 rfl rfl rfl (q_load tok rfl rfl rfl (by first | exact .loc _ | exact .ptr _ _ _ _ _ _ _ _ rfl rfl rfl) rfl) ?_
    refine DOps.s 33 rfl rfl rfl (q_convTo tok rfl rfl rfl rfl rfl (r := x) (wrap_i64 (by omega) (by omega))) ?_
    refine DOps.s 34 rfl rfl rfl (q_fieldAddr tok rfl rfl rfl rfl rfl rfl) ?_
    refine DOps.s 35 rfl rfl rfl (q_load tok rfl rfl rfl (by first | exact .loc _ | exact .ptr _ _ _ _ _ _ _ _ rfl rfl rfl) rfl) ?_
    refine DOps.s 36 rfl rfl rfl (q_index_lst tok rfl rfl rfl rfl rfl rfl (by decide) (cs := x0.cells) (by show (f.blocks.map Block.cells)[0]? = some x0.cells; rw [List.getElem?_map, hx0]; rfl) rfl) ?_
    refine DOps.s 37 rfl rfl rfl (q_fieldAddr tok rfl rfl rfl rfl rfl rfl) ?_
    refine DOps.s 38 rfl rfl rfl (q_load tok rfl rfl rfl (by first | exact .loc _ | exact .ptr _ _ _ _ _ _ _ _ rfl rfl rfl) rfl) ?_
    refine DOps.s 39 rfl rfl rfl (q_len tok rfl rfl rfl rfl rfl) ?_
    refine DOps.s 40 rfl rfl rfl (q_bin (r := .int .i64 ((x0.ins.length + 1 : Nat) : Int)) rfl rfl rfl (by rw [List.length_map]; exact addBin (by omega) (by omega) (by omega))) ?_
    refine DOps.s 41 rfl rfl rfl (q_bin (r := .int .i64 (c : Int)) rfl rfl rfl (by rw [hc]; exact remBin hx.1)) ?_
    refine DOps.s 9 rfl rfl rfl (q_move (.inr rfl) rfl) ?_
    refine DOps.nil (by kernel_rfl) ?_
    refine AGo.seq ?_
    refine AGo.draw mix ?_
    refine DOps.s 42 rfl rfl rfl (q_fieldAddr tok rfl rfl rfl rfl rfl rfl) ?_
    refine DOps.s 43 rfl rfl rfl (q_load tok rfl rfl rfl (by first | exact .loc _ | exact .ptr _ _ _ _ _ _ _ _ rfl rfl rfl) rfl) ?_
    refine DOps.s 44 rfl rfl rfl (q_index_lst tok rfl rfl rfl rfl rfl rfl (by decide) (cs := x0.cells) (by show (f.blocks.map Block.cells)[0]? = some x0.cells; rw [List.getElem?_map, hx0]; rfl) rfl) ?_
    refine DOps.s 45 rfl rfl rfl (q_load tok rfl rfl rfl (by first | exact .loc _ | exact .ptr _ _ _ _ _ _ _ _ rfl rfl rfl) rfl) ?_
    refine DOps.s 46 rfl rfl rfl (q_fieldAddr tok rfl rfl rfl rfl rfl rfl) ?_
    refine DOps.s 47 rfl rfl rfl (q_load tok rfl rfl rfl (by first | exact .loc _ | exact .ptr _ _ _ _ _ _ _ _ rfl rfl rfl) rfl) ?_
    refine DOps.s 48 rfl rfl rfl (q_index_lst tok rfl rfl rfl rfl rfl rfl (by decide) (cs := x0.cells) (by show (f.blocks.map Block.cells)[0]? = some x0.cells; rw [List.getElem?_map, hx0]; rfl) rfl) ?_
    refine DOps.s 49 rfl rfl rfl (q_load tok rfl rfl rfl (by first | exact .loc _ | exact .ptr _ _ _ _ _ _ _ _ rfl rfl rfl) rfl) ?_
    refine DOps.x 10 rfl rfl rfl (o_alloc tok 3 rfl rfl rfl rfl (Nat.zero_lt_succ _) rfl) ?_
    refine DOps.x 11 rfl rfl rfl (o_alloc tok 4 rfl rfl rfl rfl (Nat.zero_lt_succ _) rfl) ?_
    refine DOps.w rfl rfl (o_store tok rfl rfl rfl rfl rfl rfl rfl rfl rfl (by decide) rfl (by first | exact fun _ => rfl | (intro h; cases h))) ?_
    refine DOps.w rfl rfl (o_store tok rfl rfl rfl rfl rfl rfl rfl rfl rfl (by decide) rfl (by first | exact fun _ => rfl | (intro h; cases h))) ?_
    refine DOps.nil (by kernel_rfl) ?_
    refine AGo.seq ?_
    refine AGo.region ?_
    refine AOps.s 50 rfl rfl rfl (q_fieldAddr tok rfl rfl rfl rfl rfl rfl) ?_
    refine AOps.s 51 rfl rfl rfl (q_load tok rfl rfl rfl (by first | exact .loc _ | exact .ptr _ _ _ _ _ _ _ _ rfl rfl rfl) rfl) ?_
    refine AOps.s 52 rfl rfl rfl (q_index_lst tok rfl rfl rfl rfl rfl rfl (by decide) (cs := x0.cells) (by show (f.blocks.map Block.cells)[0]? = some x0.cells; rw [List.getElem?_map, hx0]; rfl) rfl) ?_
    refine AOps.s 53 rfl rfl rfl (q_fieldAddr tok rfl rfl rfl rfl rfl rfl) ?_
    refine AOps.s 54 rfl rfl rfl (q_load tok rfl rfl rfl (by first | exact .loc _ | exact .ptr _ _ _ _ _ _ _ _ rfl rfl rfl) rfl) ?_
    refine AOps.s 55 rfl rfl rfl (q_move (.inl rfl) rfl) ?_
    refine AOps.s 56 rfl rfl rfl (q_back (m := c) tok rfl rfl rfl rfl rfl rfl (by rw [List.length_map]; exact hcl) (by intro cs h; simp at h; obtain ⟨v, _, rfl⟩ := h; rfl)) ?_
    refine AOps.s 57 rfl rfl rfl (q_fieldAddr tok rfl rfl rfl rfl rfl rfl) ?_
    refine AOps.w rfl rfl (o_store tok rfl rfl rfl rfl rfl rfl rfl rfl rfl (by decide) rfl (by first | exact fun _ => rfl | (intro h; cases h))) ?_
    refine AOps.nil ?_
    refine AGo.seq ?_
    refine AGo.region ?_
    refine AOps.s 58 rfl rfl rfl (q_fieldAddr tok rfl rfl rfl rfl rfl rfl) ?_
    refine AOps.s 59 rfl rfl rfl (q_load tok rfl rfl rfl (by first | exact .loc _ | exact .ptr _ _ _ _ _ _ _ _ rfl rfl rfl) rfl) ?_
    refine AOps.s 60 rfl rfl rfl (q_index_lst tok rfl rfl rfl rfl rfl rfl (by decide) (cs := x0.cells) (by show (f.blocks.map Block.cells)[0]? = some x0.cells; rw [List.getElem?_map, hx0]; rfl) rfl) ?_
    refine AOps.s 61 rfl rfl rfl (q_fieldAddr tok rfl rfl rfl rfl rfl rfl) ?_
    refine AOps.s 62 rfl rfl rfl (q_load tok rfl rfl rfl (by first | exact .loc _ | exact .ptr _ _ _ _ _ _ _ _ rfl rfl rfl) rfl) ?_
    refine AOps.s 63 rfl rfl rfl (q_move (.inl rfl) rfl) ?_
    refine AOps.s 64 rfl rfl rfl (q_front (m := c) tok rfl rfl rfl rfl rfl rfl (by rw [List.length_map]; exact hcl) (by intro cs h; simp at h; obtain ⟨v, _, rfl⟩ := h; rfl)) ?_
    refine AOps.s 65 rfl rfl rfl (q_fieldAddr tok rfl rfl rfl rfl rfl rfl) ?_
    refine AOps.w rfl rfl (o_store tok rfl rfl rfl rfl rfl rfl rfl rfl rfl (by decide) rfl (by first | exact fun _ => rfl | (intro h; cases h))) ?_
    refine AOps.nil ?_
    refine AGo.seq ?_
    refine AGo.draw mix ?_
    refine DOps.s 66 rfl rfl rfl (q_fieldAddr tok rfl rfl rfl rfl rfl rfl) ?_
    refine DOps.s 67 rfl rfl rfl (q_load tok rfl rfl rfl (by first | exact .loc _ | exact .ptr _ _ _ _ _ _ _ _ rfl rfl rfl) rfl) ?_
    refine DOps.s 68 rfl rfl rfl (q_len tok rfl rfl rfl rfl rfl) ?_
    refine DOps.s 69 rfl rfl rfl (q_fieldAddr tok rfl rfl rfl rfl rfl rfl) ?_
    refine DOps.w rfl rfl (o_store tok rfl rfl rfl rfl rfl rfl rfl rfl rfl (by decide) rfl (by first | exact fun _ => rfl | (intro h; cases h))) ?_
    refine DOps.s 70 rfl rfl rfl (q_fieldAddr tok rfl rfl rfl rfl rfl rfl) ?_
    refine DOps.w rfl rfl (o_store tok rfl rfl rfl rfl rfl rfl rfl rfl rfl (by decide) rfl (by first | exact fun _ => rfl | (intro h; cases h))) ?_
    refine DOps.s 71 rfl rfl rfl (q_fieldAddr tok rfl rfl rfl rfl rfl rfl) ?_
    refine DOps.w rfl rfl (o_store tok rfl rfl rfl rfl rfl rfl rfl rfl rfl (by decide) rfl (by first | exact fun _ => rfl | (intro h; cases h))) ?_
    refine DOps.s 72 rfl rfl rfl (q_fieldAddr tok rfl rfl rfl rfl rfl rfl) ?_
    refine DOps.w rfl rfl (o_store tok rfl rfl rfl rfl rfl rfl rfl rfl rfl (by decide) rfl (by first | exact fun _ => rfl | (intro h; cases h))) ?_
    refine DOps.nil (by kernel_rfl) ?_
    refine AGo.seq ?_
    refine AGo.sub (s' := ⟨134, (eput (eput (eput (eput (eput (eput (eput eNew 1 (.str s)) 3 (.ptr 0 1 0 0)) 5 (.ptr 1 1 0 0)) 7 (.int .i64 ((b.funcs.length - 1 : Nat) : Int))) 8 (.ptr 2 1 0 0)) 10 (.ptr 3 1 0 0)) 11 (.ptr 4 1 0 0)), (hput (hput (hput (hput (hput (hFrom 5) 0 (.row false 2 [b.cells])) 1 (.row false 2 [pairCells x y])) 2 (.row false 2 [f.cells])) 3 (.row false 5 [(x0.headAt c f.blocks.length).cells])) 4 (.row false 5 [(x0.tailAt c).cells]))⟩) (Sub.mk' (by repeat (first | exact ESub.new _ | refine ESub.put ?_ (by rfl))) (by repeat (first | exact HSub.refl _ | exact HSub.none _ | exact HSub.from_new _ | exact HSub.from_from (by first | decide | omega | (dsimp only; omega)) | refine HSub.put ?_ (by first | rfl | (show some (AObj.row false 5 [[.lst false ((x0.ins.map Tac.cells).take c), .int .i64 1, .int .i64 0, .int .i64 ((f.blocks.map Block.cells).length : Int), .int .i64 0]]) = some (AObj.row false 5 [(x0.headAt c f.blocks.length).cells]); rw [← List.map_take, List.length_map]; rfl) | (symm; (show some (AObj.row false 5 [[.lst false ((x0.ins.map Tac.cells).take c), .int .i64 1, .int .i64 0, .int .i64 ((f.blocks.map Block.cells).length : Int), .int .i64 0]]) = some (AObj.row false 5 [(x0.headAt c f.blocks.length).cells]); rw [← List.map_take, List.length_map]; rfl)) | (show some (AObj.row false 5 [[.lst false ((x0.ins.map Tac.cells).drop c), .int .i64 x0.fin, .int .i64 x0.v, .int .i64 x0.to, .int .i64 x0.els]]) = some (AObj.row false 5 [(x0.tailAt c).cells]); rw [← List.map_drop]; rfl) | (symm; (show some (AObj.row false 5 [[.lst false ((x0.ins.map Tac.cells).drop c), .int .i64 x0.fin, .int .i64 x0.v, .int .i64 x0.to, .int .i64 x0.els]]) = some (AObj.row false 5 [(x0.tailAt c).cells]); rw [← List.map_drop]; rfl))) | refine HSub.from_put ?_ (by first | decide | omega | (dsimp only; omega)) | refine HSub.from_rm ?_ (by decide)))) ?_
    refine AGo.draw mix ?_
    refine DOps.s 73 rfl rfl rfl (q_fieldAddr tok rfl rfl rfl rfl rfl rfl) ?_
    refine DOps.s 74 rfl rfl rfl (q_load tok rfl rfl rfl (by first | exact .loc _ | exact .ptr _ _ _ _ _ _ _ _ rfl rfl rfl) rfl) ?_
    refine DOps.s 75 rfl rfl rfl (q_load tok rfl rfl rfl (by first | exact .loc _ | exact .ptr _ _ _ _ _ _ _ _ rfl rfl rfl) rfl) ?_
    refine DOps.x 76 rfl rfl rfl (o_litRow tok 5 true rfl rfl rfl rfl rfl rfl (by decide) rfl rfl rfl rfl (by first | exact fun _ => rfl | (intro h; cases h)) rfl rfl) ?_
    refine DOps.s 77 rfl rfl rfl (q_fieldAddr tok rfl rfl rfl rfl rfl rfl) ?_
    refine DOps.s 78 rfl rfl rfl (q_load tok rfl rfl rfl (by first | exact .loc _ | exact .ptr _ _ _ _ _ _ _ _ rfl rfl rfl) rfl) ?_
    refine DOps.s 79 rfl rfl rfl (q_back (m := 1) tok rfl rfl rfl rfl rfl rfl (by rw [List.length_map]; omega) (by intro cs h; simp at h; obtain ⟨v, _, rfl⟩ := h; rfl)) ?_
    refine DOps.x 80 rfl rfl rfl (o_append tok (n := 1) (m := f.blocks.length - 1) rfl rfl rfl rfl rfl rfl rfl rfl rfl rfl rfl rfl (Nat.zero_lt_succ _) (.lst _ _) (by intro cs h; have h := List.mem_of_mem_drop h; simp at h; obtain ⟨v, _, rfl⟩ := h; rfl) (fun _ cs h => by have h := List.mem_of_mem_drop h; simp at h; obtain ⟨v, _, rfl⟩ := h; rfl) (by simp) (by simp [partVals]; show _ * 56 ≤ _; omega) (by simp [partVals]; simp only [maxLen]; omega)) ?_
    refine DOps.s 81 rfl rfl rfl (q_load tok rfl rfl rfl (by first | exact .loc _ | exact .ptr _ _ _ _ _ _ _ _ rfl rfl rfl) rfl) ?_
    refine DOps.x 82 rfl rfl rfl (o_lit' tok rfl rfl rfl rfl rfl rfl (by decide) rfl rfl rfl rfl rfl rfl) ?_
    refine DOps.x 83 rfl rfl rfl (o_append tok (n := 1 + (f.blocks.length - 1)) (m := 1) rfl rfl rfl rfl rfl rfl rfl rfl rfl (by first | (simp [partVals]; done) | (simp [partVals]; omega)) rfl rfl (Nat.zero_lt_succ _) (.lst _ _) (by intro cs h; simp [partVals] at h; subst h; rfl) (fun _ cs h => by simp [partVals] at h; subst h; rfl) rfl (by simp [partVals]; show _ * 56 ≤ _; omega) (by simp [partVals]; simp only [maxLen]; omega)) ?_
    refine DOps.s 84 rfl rfl rfl (q_build tok rfl rfl rfl rfl rfl (by decide) rfl rfl rfl) ?_
    refine DOps.x 12 rfl rfl rfl (o_alloc tok 6 rfl rfl rfl rfl (Nat.zero_lt_succ _) rfl) ?_
    refine DOps.w rfl rfl (o_store tok rfl rfl rfl rfl rfl rfl rfl rfl rfl (by decide) rfl (by first | exact fun _ => rfl | (intro h; cases h))) ?_
    refine DOps.nil (by kernel_rfl) ?_
    refine AGo.seq ?_
    refine AGo.ghost (.freezeCell 6 0 1 5 rfl rfl rfl rfl (by first | (simp [partVals]; done) | (simp [partVals]; omega)) (by decide)) ?_
    refine AGo.sub (s' := ⟨134, (eput (eput (eput (eput (eput eNew 1 (.str s)) 3 (.ptr 0 1 0 0)) 5 (.ptr 1 1 0 0)) 7 (.int .i64 ((b.funcs.length - 1 : Nat) : Int))) 12 (.ptr 6 1 0 0)), (hput (hput (hput (hFrom 7) 0 (.row false 2 [b.cells])) 1 (.row false 2 [pairCells x y])) 6 (.row false 2 [(f.cutAt x0 c).cells]))⟩) (Sub.mk' (by repeat (first | exact ESub.new _ | refine ESub.put ?_ (by rfl))) (by repeat (first | exact HSub.refl _ | exact HSub.none _ | exact HSub.from_new _ | exact HSub.from_from (by first | decide | omega | (dsimp only; omega)) | refine HSub.put ?_ (by first | rfl | exact congrArg (fun es => some (AObj.row false 2 [[.int .i64 f.regs, .lst false es]])) ((drop_take_all (by first | (simp [partVals]; done) | (simp [partVals]; omega))).trans (cut_fcells f x0 c))) | refine HSub.from_put ?_ (by first | decide | omega | (dsimp only; omega)) | refine HSub.from_rm ?_ (by decide)))) ?_
    refine AGo.draw mix ?_
    refine DOps.s 85 rfl rfl rfl (q_fieldAddr tok rfl rfl rfl rfl rfl rfl) ?_
    refine DOps.s 86 rfl rfl rfl (q_load tok rfl rfl rfl (by first | exact .loc _ | exact .ptr _ _ _ _ _ _ _ _ rfl rfl rfl) rfl) ?_
    refine DOps.x 87 rfl rfl rfl (o_litRow tok 7 true rfl rfl rfl rfl rfl rfl (by decide) rfl rfl rfl rfl (by first | exact fun _ => rfl | (intro h; cases h)) rfl rfl) ?_
    refine DOps.s 88 rfl rfl rfl (q_fieldAddr tok rfl rfl rfl rfl rfl rfl) ?_
    refine DOps.s 89 rfl rfl rfl (q_load tok rfl rfl rfl (by first | exact .loc _ | exact .ptr _ _ _ _ _ _ _ _ rfl rfl rfl) rfl) ?_
    refine DOps.s 90 rfl rfl rfl (q_move (.inl rfl) rfl) ?_
    refine DOps.s 91 rfl rfl rfl (q_front (m := b.funcs.length - 1) tok rfl rfl rfl rfl rfl rfl (by rw [List.length_map]; omega) (by intro cs h; simp at h; obtain ⟨v, _, rfl⟩ := h; rfl)) ?_
    refine DOps.x 92 rfl rfl rfl (o_append tok (n := 0) (m := b.funcs.length - 1) (es := []) rfl rfl rfl rfl rfl rfl rfl rfl rfl rfl rfl rfl (Nat.zero_lt_succ _) (.lst _ _) (by intro cs h; have h := List.mem_of_mem_take h; simp at h; obtain ⟨v, _, rfl⟩ := h; rfl) (fun _ cs h => by have h := List.mem_of_mem_take h; simp at h; obtain ⟨v, _, rfl⟩ := h; rfl) (by first | (simp; done) | (simp; omega)) (by simp; show _ * 32 ≤ _; omega) (by simp; simp only [maxLen]; omega)) ?_
    refine DOps.s 93 rfl rfl rfl (q_load tok rfl rfl rfl (by first | exact .loc _ | exact .ptr _ _ _ _ _ _ _ _ rfl rfl rfl) rfl) ?_
    refine DOps.x 94 rfl rfl rfl (o_lit' tok rfl rfl rfl rfl rfl rfl (by decide) rfl rfl rfl rfl rfl rfl) ?_
    refine DOps.x 95 rfl rfl rfl (o_append tok (n := 0 + (b.funcs.length - 1)) (m := 1) rfl rfl rfl rfl rfl rfl rfl rfl rfl (by first | (simp; done) | (simp; omega)) rfl rfl (Nat.zero_lt_succ _) (.lst _ _) (by intro cs h; simp [partVals] at h; subst h; rfl) (fun _ cs h => by simp [partVals] at h; subst h; rfl) rfl (by simp [partVals]; show _ * 32 ≤ _; omega) (by simp [partVals]; simp only [maxLen]; omega)) ?_
    refine DOps.s 96 rfl rfl rfl (q_build tok rfl rfl rfl rfl rfl (by decide) rfl rfl rfl) ?_
    refine DOps.x 13 rfl rfl rfl (o_alloc tok 8 rfl rfl rfl rfl (Nat.zero_lt_succ _) rfl) ?_
    refine DOps.w rfl rfl (o_store tok rfl rfl rfl rfl rfl rfl rfl rfl rfl (by decide) rfl (by first | exact fun _ => rfl | (intro h; cases h))) ?_
    refine DOps.nil (by kernel_rfl) ?_
    refine AGo.seq ?_
    refine AGo.ghost (.freezeCell 8 0 1 7 rfl rfl rfl rfl (by first | (simp [partVals]; done) | (simp [partVals]; omega)) (by decide)) ?_
    refine AGo.sub (s' := ⟨134, (eput (eput (eput (eput eNew 1 (.str s)) 3 (.ptr 0 1 0 0)) 5 (.ptr 1 1 0 0)) 13 (.ptr 8 1 0 0)), (hput (hput (hput (hFrom 9) 0 (.row false 2 [b.cells])) 1 (.row false 2 [pairCells x y])) 8 (.row false 2 [(b.cutAt f x0 c).cells]))⟩) (Sub.mk' (by repeat (first | exact ESub.new _ | refine ESub.put ?_ (by rfl))) (by repeat (first | exact HSub.refl _ | exact HSub.none _ | exact HSub.from_new _ | exact HSub.from_from (by first | decide | omega | (dsimp only; omega)) | refine HSub.put ?_ (by first | rfl | exact congrArg (fun es => some (AObj.row false 2 [[.int .i64 b.words, .lst false es]])) ((drop_take_all (by first | (simp [partVals]; done) | (simp [partVals]; omega))).trans (cut_bcells b f x0 c))) | refine HSub.from_put ?_ (by first | decide | omega | (dsimp only; omega)) | refine HSub.from_rm ?_ (by decide)))) ?_
    refine AGo.region ?_
    refine AOps.s 97 rfl rfl rfl (q_index_arr tok rfl rfl rfl rfl rfl rfl (by decide) (by decide) rfl) ?_
    refine AOps.s 98 rfl rfl rfl (q_load tok rfl rfl rfl (by first | exact .loc _ | exact .ptr _ _ _ _ _ _ _ _ rfl rfl rfl) rfl) ?_
    refine AOps.s 99 rfl rfl rfl (q_convTo tok rfl rfl rfl rfl rfl (r := y) (wrap_i64 (by omega) (by omega))) ?_
    refine AOps.s 14 rfl rfl rfl (q_move (.inr rfl) rfl) ?_
    refine AOps.nil ?_
    refine AGo.seq ?_
    refine AGo.draw mix ?_
    refine DOps.s 100 rfl rfl rfl (q_load tok rfl rfl rfl (by first | exact .loc _ | exact .ptr _ _ _ _ _ _ _ _ rfl rfl rfl) rfl) ?_
    refine DOps.s 101 rfl rfl rfl (q_move (.inl rfl) rfl) ?_
    refine DOps.s 102 rfl rfl rfl (q_move (.inl rfl) rfl) ?_
    refine DOps.x 103 rfl rfl rfl (o_pure rfl Try.func12 (by kernel_rfl) rfl rfl rfl (blockRun_ok b s (y) hsm.right hbw hsm.insL (by first | omega | (simp [Blocks.turn, Blocks.idle, Blocks.cutAt]; omega)) (by omega) (by omega))) ?_
    refine DOps.s 104 rfl rfl rfl (q_load tok rfl rfl rfl (by first | exact .loc _ | exact .ptr _ _ _ _ _ _ _ _ rfl rfl rfl) rfl) ?_
    refine DOps.s 105 rfl rfl rfl (q_move (.inl rfl) rfl) ?_
    refine DOps.s 106 rfl rfl rfl (q_move (.inl rfl) rfl) ?_
    refine DOps.s 107 rfl rfl rfl (q_bin (r := .int .i64 (2 * y)) rfl rfl rfl (mulBin (by omega) (by omega) rfl)) ?_
    refine DOps.s 108 rfl rfl rfl (q_bin (r := .int .i64 (2 * y + 2)) rfl rfl rfl (addBin (by omega) (by omega) rfl)) ?_
    refine DOps.x 109 rfl rfl rfl (o_pure rfl Try.func12 (by kernel_rfl) rfl rfl rfl (blockRun_ok (b.cutAt f x0 c) s (2 * y + 2) hcr (cut_insW hbw hf hx0) (hsm.cut_ins hf hx0) (by first | omega | (simp [Blocks.turn, Blocks.idle, Blocks.cutAt]; omega)) (by omega) (by omega))) ?_
    refine DOps.x 15 rfl rfl rfl (o_alloc tok 9 rfl rfl rfl rfl (Nat.zero_lt_succ _) rfl) ?_
    refine DOps.x 16 rfl rfl rfl (o_alloc tok 10 rfl rfl rfl rfl (Nat.zero_lt_succ _) rfl) ?_
    refine DOps.w rfl rfl (o_store tok rfl rfl rfl rfl rfl rfl rfl rfl rfl (by decide) rfl (by first | exact fun _ => rfl | (intro h; cases h))) ?_
    refine DOps.w rfl rfl (o_store tok rfl rfl rfl rfl rfl rfl rfl rfl rfl (by decide) rfl (by first | exact fun _ => rfl | (intro h; cases h))) ?_
    refine DOps.nil (by kernel_rfl) ?_
    refine AGo.seq ?_
    refine AGo.region ?_
    refine AOps.x 110 rfl rfl rfl (o_pure rfl Try.func11 (by kernel_rfl) rfl rfl rfl (awake_ok)) ?_
    refine AOps.s 111 rfl rfl rfl (q_move (.inl rfl) rfl) ?_
    refine AOps.s 112 rfl rfl rfl (q_load tok rfl rfl rfl (by first | exact .loc _ | exact .ptr _ _ _ _ _ _ _ _ rfl rfl rfl) rfl) ?_
    refine AOps.x 113 rfl rfl rfl (o_pure rfl Try.func15 (by kernel_rfl) rfl rfl rfl ((bright_ok (b.cutAt f x0 c)).mono (fun r h => by rw [h, hcr]))) ?_
    refine AOps.s 114 rfl rfl rfl (q_pick_true true rfl rfl rfl rfl) ?_
    refine AOps.s 115 rfl rfl rfl (q_move (.inl rfl) rfl) ?_
    refine AOps.s 116 rfl rfl rfl (q_fieldAddr tok rfl rfl rfl rfl rfl rfl) ?_
    refine AOps.s 117 rfl rfl rfl (q_load tok rfl rfl rfl (by first | exact .loc _ | exact .ptr _ _ _ _ _ _ _ _ rfl rfl rfl) rfl) ?_
    refine AOps.s 118 rfl rfl rfl (q_bin rfl rfl rfl rfl) ?_
    refine AOps.s 119 rfl rfl rfl (q_move (.inl rfl) rfl) ?_
    refine AOps.split 119 rfl (fun hb2 => ?_) (fun hb2 => ?_)
    · -- True
      refine AOps.k 120 rfl rfl rfl ?_
      refine AOps.k 121 rfl rfl rfl ?_
      refine AOps.k 122 rfl rfl rfl ?_
      refine AOps.k 123 rfl rfl rfl ?_
      refine AOps.k 124 rfl rfl rfl ?_
      refine AOps.k 125 rfl rfl rfl ?_
      refine AOps.k 126 rfl rfl rfl ?_
      refine AOps.k 127 rfl rfl rfl ?_
      refine AOps.k 128 rfl rfl rfl ?_
      refine AOps.k 129 rfl rfl rfl ?_
      refine AOps.k 130 rfl rfl rfl ?_
      refine AOps.k 131 rfl rfl rfl ?_
      refine AOps.s 132 rfl rfl rfl (q_pick_true true rfl rfl rfl rfl) ?_
      refine AOps.s 133 rfl rfl rfl (q_pick_true true rfl rfl rfl rfl) ?_
      refine AOps.s 6 rfl rfl rfl (q_move (.inr rfl) rfl) ?_
      refine AOps.nil ?_
      refine AGo.ret ?_
      refine ⟨[_], ⟨rfl, trivial⟩, ?_, rfl⟩
      rfl
    · -- False
      have h5 : (mrun b s y).fin ≠ 5 := by simpa using hb2
      have hrun := cut_runs hsm.right hbw hf hx0 hcl s hy.1 h5
      refine AOps.s 120 rfl rfl rfl (q_fieldAddr tok rfl rfl rfl rfl rfl rfl) ?_
      refine AOps.s 121 rfl rfl rfl (q_load tok rfl rfl rfl (by first | exact .loc _ | exact .ptr _ _ _ _ _ _ _ _ rfl rfl rfl) rfl) ?_
      refine AOps.s 122 rfl rfl rfl (q_fieldAddr tok rfl rfl rfl rfl rfl rfl) ?_
      refine AOps.s 123 rfl rfl rfl (q_load tok rfl rfl rfl (by first | exact .loc _ | exact .ptr _ _ _ _ _ _ _ _ rfl rfl rfl) rfl) ?_
      refine AOps.s 124 rfl rfl rfl (q_bin (r := .bool true) rfl rfl rfl (eqBin hrun.1)) ?_
      refine AOps.s 125 rfl rfl rfl (q_move (.inl rfl) rfl) ?_
      refine AOps.s 126 rfl rfl rfl (q_fieldAddr tok rfl rfl rfl rfl rfl rfl) ?_
      refine AOps.s 127 rfl rfl rfl (q_load tok rfl rfl rfl (by first | exact .loc _ | exact .ptr _ _ _ _ _ _ _ _ rfl rfl rfl) rfl) ?_
      refine AOps.s 128 rfl rfl rfl (q_fieldAddr tok rfl rfl rfl rfl rfl rfl) ?_
      refine AOps.s 129 rfl rfl rfl (q_load tok rfl rfl rfl (by first | exact .loc _ | exact .ptr _ _ _ _ _ _ _ _ rfl rfl rfl) rfl) ?_
      refine AOps.s 130 rfl rfl rfl (q_bin (r := .bool true) rfl rfl rfl (eqBin_str (by exact congrArg (fun l : List UInt8 => (⟨l.toArray⟩ : ByteArray)) hrun.2))) ?_
      refine AOps.s 131 rfl rfl rfl (q_pick_true true rfl rfl rfl rfl) ?_
      refine AOps.s 132 rfl rfl rfl (q_pick_false false rfl rfl rfl rfl) ?_
      refine AOps.s 133 rfl rfl rfl (q_pick_true true rfl rfl rfl rfl) ?_
      refine AOps.s 6 rfl rfl rfl (q_move (.inr rfl) rfl) ?_
      refine AOps.nil ?_
      refine AGo.ret ?_
      refine ⟨[_], ⟨rfl, trivial⟩, ?_, rfl⟩
      rfl

end Go.Proofs.Ytophfphgcbnafaa.Sv

namespace Go.Proofs.Ytophfphgcbnafaa
open Sv
theorem blockSplits_pair (b : Blocks) (s : ByteArray) (p : Pair8) (hb : b.Ok) (hp : p.Ok) : APure Try.prog 7 [.agg b.cells, .str s, .agg p.cells] (fun r => r = .bool true) := blockSplits_ok b s p.a p.b hb hp.1 hp.2
end Go.Proofs.Ytophfphgcbnafaa

namespace Go.Proofs.Ytophfphgcbnafaa
open Go.ChangeShapes Go.WideShapes Go.ChangeAt Go.RowKit Sv
set_option linter.unusedVariables false

set_option maxRecDepth 100000 in
theorem blockSplits_lifted (os : Os) (started : os.Started) (H : Type) (enc : TypeId × Value → H) :
    ReturnsInHanded {} Try.checked os 7 .any (Rows.blockSplitsSpec.pre6 enc Try.prog Try.f7 Rows.blockSplitsRow.domain false) (Rows.blockSplitsSpec.post enc Try.prog Try.f7 false true false false) := by
  refine returnsInHanded_of_change_sized (C := Try.checked) own' started (by kernel_rfl) Try.func7
    (ChangeSpec.witness6 (enc := enc) (C := Try.checked) false ⟨#[], #[.agg #[.int .i64 0, .slice none 0 0], .string ⟨#[]⟩, .agg #[.int .u8 0, .int .u8 0]], []⟩ 8 (by kernel_rfl) (by kernel_rfl) (by kernel_rfl) (by kernel_rfl)) ?_
  intro W base args ds gs before hval0 hW hcnd hwt0 hh
  have hval : ∀ (j : Nat) t v, Try.f7.params[j]? = some t → args[j]? = some v → Value.okWide Try.prog W .any base t v := hval0
  have hW' := hW
  obtain ⟨p, q, hA0, hV, rfl, hfz, hnd⟩ := hW
  have hA : DataW.TrodAll enc Try.prog W 0 (fun _ => true) true Try.f7.params.toList args.toList ds p := hA0
  have hwt : (DataW.weightsEach Try.prog (Try.f7.params.toList ++ Rows.blockSplitsSpec.plain.varTypes Try.prog) (ds ++ gs)).all (· ≤ reachBytes) = true := hwt0
  rw [Try.params7] at hA hval hwt
  obtain ⟨v0, vs0, d0, ds0, p0, q0, hargs, rfl, rfl, h0, r0⟩ := trodAll_cons hA
  obtain ⟨v1, vs1, d1, ds1, p1, q1, rfl, rfl, rfl, h1, r1⟩ := trodAll_cons r0
  obtain ⟨v2, vs2, d2, ds2, p2, q2, rfl, rfl, rfl, h2, r2⟩ := trodAll_cons r1
  obtain ⟨rfl, rfl, rfl⟩ := trodAll_nil r2
  obtain rfl : args = #[v0, v1, v2] := by cases args; simp_all
  obtain ⟨rfl, rfl⟩ := trodVars_none hV
  obtain ⟨x0, e0, g0⟩ := arg_one h0 (weightsEach_get hwt (i := 0) rfl rfl) decBlocks
  obtain ⟨x1, e1, g1⟩ := arg_one h1 (weightsEach_get hwt (i := 1) rfl rfl) decStr
  obtain ⟨x2, e2, g2⟩ := arg_one h2 (weightsEach_get hwt (i := 2) rfl rfl) decPair
  exact law_calls laidOut' rfl (by kernel_rfl) rfl bool' rfl rfl rfl hW' (.cons (e0.val (okWide_agg tok rfl rfl (hval 0 24 v0 rfl rfl))) (.cons (e1.val1 (okWide_cellS tok rfl rfl (hval 1 9 v1 rfl rfl))) (.cons (e2.val (okWide_aggA pairT (hval 2 31 v2 rfl rfl))) .nil))) (blockSplits_pair x0 x1 x2 g0 g2)

theorem blockSplits_holds : Rows.BlockSplitsSaid :=
  OpenClaim.holds_of_wide 7 Try.f7 rfl rfl rfl rfl rfl rfl rfl ⟨rfl, rfl, rfl, rfl, rfl⟩ rfl rfl rfl rfl rfl (by kernel_rfl) Try.func7 (by kernel_rfl)
    (of_decide_eq_true (by kernel_rfl)) (by unfold Func.isWrapper; first | (rw [if_pos (by decide +kernel)]; kernel_rfl) | (rw [if_neg (by decide +kernel)]; exact ⟨rfl, rfl⟩))
    (fun os started H enc _ => blockSplits_lifted os started H enc)

end Go.Proofs.Ytophfphgcbnafaa
