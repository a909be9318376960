/-
  WALKS: printed by a program of our own from the code's tree.
  Short names for the commonest steps of a walk (what is said of them is found by rfl).
  WALKS: printed by a program of our own from the code's tree.
  SMALL LEMMAS FOR THE WALKS OF FLOW: own work, over no program.
  WALKS: printed by a program of our own from the code's tree.
  WALKS: printed by a program of our own from the code's tree.
  WALKS IN A ROUND OF A RANGE OVER A FUNCTION: own work, over no program.
  A RANGE OVER A FUNCTION, AND THE END OF A FUNCTION THAT HAS ONE: own work, over no program.
  A FUNCTION WITH A RANGE OVER A FUNCTION, WALKED: own work, over no program.
  THE NUMBERS BELOW n, THE GREATEST FIRST: an iterator's contract. Own work.
  WALKS: printed by a program of our own from the code's tree.
  WALKS: printed by a program of our own from the code's tree.
  WALKS: printed by a program of our own from the code's tree.
-/
import Derived.Test.YtjmjmedjjbginaaPDeadRuns2
import Derived.Test.YtjmjmedjjbginaaPDeadRuns1
import Derived.Test.YtjmjmedjjbginaaPDeadRuns3
import Derived.RangeFuncFrom
import Derived.TacticsIn
import Derived.RangeFuncLeaves
import Derived.RangeFuncKeeps
import Derived.Shelf.Abstract
import Derived.WalkKit
import Derived.OwnWalkIn
import Derived.TacticsInMore
import Derived.LoopNIn
import Derived.LoopIn
namespace Go.Proofs.Ytjmjmedjjbginaa.Sv
open Go

set_option maxRecDepth 100000 in
theorem sets_ok (t : Tac) : APure Try.prog 55 [.agg t.cells] (fun r => r = .int .i64 t.sets) := by
  refine APure.of_body (n := 14) tok Try.func55 rfl rfl ?_
  refine AGo.seq ?_
  refine AGo.region ?_
  refine AOps.x 1 rfl rfl rfl (o_box (sz := 8) 0 rfl rfl rfl rfl (Nat.zero_lt_succ _) rfl) ?_
  refine AOps.s 2 rfl rfl rfl (q_move (.inr rfl) rfl) ?_
  refine AOps.nil ?_
  refine AGo.seq ?_
  refine AGo.seq ?_
  refine AGo.region ?_
  refine AOps.s 3 rfl rfl rfl (q_fieldAddr tok rfl rfl rfl rfl rfl rfl) ?_
  refine AOps.s 4 rfl rfl rfl (q_load tok rfl rfl rfl z54q rfl) ?_
  refine AOps.nil ?_
  refine AGo.block ?_
  refine AGo.seq ?_
  refine AGo.seq ?_
  refine AGo.region ?_
  refine AOps.s 6 rfl rfl rfl (q_bin rfl rfl rfl rfl) ?_
  refine AOps.s 5 rfl rfl rfl (q_move (.inr rfl) rfl) ?_
  refine AOps.nil ?_
  refine AGo.split 5 rfl (fun hb1 => ?_) (fun hb1 => ?_)
  · -- True
    refine AGo.cond_true true rfl rfl ?_
    refine AGo.skip ?_
    refine AGo.cond_true true rfl rfl ?_
    refine AGo.seq ?_
    refine AGo.region ?_
    refine AOps.s 12 rfl rfl rfl (q_fieldAddr tok rfl rfl rfl rfl rfl rfl) ?_
    refine AOps.s 13 rfl rfl rfl (q_load tok rfl rfl rfl z54q rfl) ?_
    refine AOps.s 2 rfl rfl rfl (q_move (.inr rfl) rfl) ?_
    refine AOps.nil ?_
    refine AGo.ret ?_
    refine ⟨[_], ⟨rfl, trivial⟩, ?_, rfl⟩
    show AV.int .i64 _ = AV.int .i64 _
    congr 1
    simp [Tac.sets, setsOp, *]
  · -- False
    refine AGo.cond_false false rfl rfl ?_
    refine AGo.seq ?_
    refine AGo.region ?_
    refine AOps.s 7 rfl rfl rfl (q_bin rfl rfl rfl rfl) ?_
    refine AOps.s 5 rfl rfl rfl (q_move (.inr rfl) rfl) ?_
    refine AOps.nil ?_
    refine AGo.split 5 rfl (fun hb2 => ?_) (fun hb2 => ?_)
    · -- True
      refine AGo.cond_true true rfl rfl ?_
      refine AGo.skip ?_
      refine AGo.cond_true true rfl rfl ?_
      refine AGo.seq ?_
      refine AGo.region ?_
      refine AOps.s 12 rfl rfl rfl (q_fieldAddr tok rfl rfl rfl rfl rfl rfl) ?_
      refine AOps.s 13 rfl rfl rfl (q_load tok rfl rfl rfl z54q rfl) ?_
      refine AOps.s 2 rfl rfl rfl (q_move (.inr rfl) rfl) ?_
      refine AOps.nil ?_
      refine AGo.ret ?_
      refine ⟨[_], ⟨rfl, trivial⟩, ?_, rfl⟩
      show AV.int .i64 _ = AV.int .i64 _
      congr 1
      simp [Tac.sets, setsOp, *]
    · -- False
      refine AGo.cond_false false rfl rfl ?_
      refine AGo.seq ?_
      refine AGo.region ?_
      refine AOps.s 8 rfl rfl rfl (q_bin rfl rfl rfl rfl) ?_
      refine AOps.s 5 rfl rfl rfl (q_move (.inr rfl) rfl) ?_
      refine AOps.nil ?_
      refine AGo.split 5 rfl (fun hb3 => ?_) (fun hb3 => ?_)
      · -- True
        refine AGo.cond_true true rfl rfl ?_
        refine AGo.skip ?_
        refine AGo.cond_true true rfl rfl ?_
        refine AGo.seq ?_
        refine AGo.region ?_
        refine AOps.s 12 rfl rfl rfl (q_fieldAddr tok rfl rfl rfl rfl rfl rfl) ?_
        refine AOps.s 13 rfl rfl rfl (q_load tok rfl rfl rfl z54q rfl) ?_
        refine AOps.s 2 rfl rfl rfl (q_move (.inr rfl) rfl) ?_
        refine AOps.nil ?_
        refine AGo.ret ?_
        refine ⟨[_], ⟨rfl, trivial⟩, ?_, rfl⟩
        show AV.int .i64 _ = AV.int .i64 _
        congr 1
        simp [Tac.sets, setsOp, *]
      · -- False
        refine AGo.cond_false false rfl rfl ?_
        refine AGo.seq ?_
        refine AGo.region ?_
        refine AOps.s 9 rfl rfl rfl (q_bin rfl rfl rfl rfl) ?_
        refine AOps.s 5 rfl rfl rfl (q_move (.inr rfl) rfl) ?_
        refine AOps.nil ?_
        refine AGo.split 5 rfl (fun hb4 => ?_) (fun hb4 => ?_)
        · -- True
          refine AGo.cond_true true rfl rfl ?_
          refine AGo.skip ?_
          refine AGo.cond_true true rfl rfl ?_
          refine AGo.seq ?_
          refine AGo.region ?_
          refine AOps.s 12 rfl rfl rfl (q_fieldAddr tok rfl rfl rfl rfl rfl rfl) ?_
          refine AOps.s 13 rfl rfl rfl (q_load tok rfl rfl rfl z54q rfl) ?_
          refine AOps.s 2 rfl rfl rfl (q_move (.inr rfl) rfl) ?_
          refine AOps.nil ?_
          refine AGo.ret ?_
          refine ⟨[_], ⟨rfl, trivial⟩, ?_, rfl⟩
          show AV.int .i64 _ = AV.int .i64 _
          congr 1
          simp [Tac.sets, setsOp, *]
        · -- False
          refine AGo.cond_false false rfl rfl ?_
          refine AGo.seq ?_
          refine AGo.region ?_
          refine AOps.s 10 rfl rfl rfl (q_bin rfl rfl rfl rfl) ?_
          refine AOps.s 5 rfl rfl rfl (q_move (.inr rfl) rfl) ?_
          refine AOps.nil ?_
          refine AGo.split 5 rfl (fun hb5 => ?_) (fun hb5 => ?_)
          · -- True
            refine AGo.cond_true true rfl rfl ?_
            refine AGo.skip ?_
            refine AGo.cond_true true rfl rfl ?_
            refine AGo.seq ?_
            refine AGo.region ?_
            refine AOps.s 12 rfl rfl rfl (q_fieldAddr tok rfl rfl rfl rfl rfl rfl) ?_
            refine AOps.s 13 rfl rfl rfl (q_load tok rfl rfl rfl z54q rfl) ?_
            refine AOps.s 2 rfl rfl rfl (q_move (.inr rfl) rfl) ?_
            refine AOps.nil ?_
            refine AGo.ret ?_
            refine ⟨[_], ⟨rfl, trivial⟩, ?_, rfl⟩
            show AV.int .i64 _ = AV.int .i64 _
            congr 1
            simp [Tac.sets, setsOp, *]
          · -- False
            refine AGo.cond_false false rfl rfl ?_
            refine AGo.region ?_
            refine AOps.s 11 rfl rfl rfl (q_bin rfl rfl rfl rfl) ?_
            refine AOps.s 5 rfl rfl rfl (q_move (.inr rfl) rfl) ?_
            refine AOps.nil ?_
            refine AGo.split 5 rfl (fun hb6 => ?_) (fun hb6 => ?_)
            · -- True
              refine AGo.cond_true true rfl rfl ?_
              refine AGo.seq ?_
              refine AGo.region ?_
              refine AOps.s 12 rfl rfl rfl (q_fieldAddr tok rfl rfl rfl rfl rfl rfl) ?_
              refine AOps.s 13 rfl rfl rfl (q_load tok rfl rfl rfl z54q rfl) ?_
              refine AOps.s 2 rfl rfl rfl (q_move (.inr rfl) rfl) ?_
              refine AOps.nil ?_
              refine AGo.ret ?_
              refine ⟨[_], ⟨rfl, trivial⟩, ?_, rfl⟩
              show AV.int .i64 _ = AV.int .i64 _
              congr 1
              simp [Tac.sets, setsOp, *]
            · -- False
              refine AGo.cond_false false rfl rfl ?_
              refine AGo.skip ?_
              refine AGo.seq ?_
              refine AGo.region ?_
              refine AOps.s 2 rfl rfl rfl (q_move (.inr rfl) rfl) ?_
              refine AOps.nil ?_
              refine AGo.ret ?_
              refine ⟨[_], ⟨rfl, trivial⟩, ?_, rfl⟩
              show AV.int .i64 _ = AV.int .i64 _
              congr 1
              simp [Tac.sets, setsOp, *]

set_option maxRecDepth 100000 in
theorem uses_ok (t : Tac) : APure Try.prog 63 [.agg t.cells] (fun r => r = intsAV t.uses) := by
  refine APure.of_body (n := 21) tok Try.func63 rfl rfl ?_
  refine AGo.seq ?_
  refine AGo.region ?_
  refine AOps.x 1 rfl rfl rfl (o_box (sz := 8) 0 rfl rfl rfl rfl (Nat.zero_lt_succ _) rfl) ?_
  refine AOps.s 2 rfl rfl rfl (q_move (.inr rfl) rfl) ?_
  refine AOps.nil ?_
  refine AGo.seq ?_
  refine AGo.seq ?_
  refine AGo.region ?_
  refine AOps.s 3 rfl rfl rfl (q_fieldAddr tok rfl rfl rfl rfl rfl rfl) ?_
  refine AOps.s 4 rfl rfl rfl (q_load tok rfl rfl rfl z54q rfl) ?_
  refine AOps.nil ?_
  refine AGo.block ?_
  refine AGo.seq ?_
  refine AGo.seq ?_
  refine AGo.region ?_
  refine AOps.s 6 rfl rfl rfl (q_bin rfl rfl rfl rfl) ?_
  refine AOps.s 5 rfl rfl rfl (q_move (.inr rfl) rfl) ?_
  refine AOps.nil ?_
  refine AGo.split 5 rfl (fun hb1 => ?_) (fun hb1 => ?_)
  · -- True
    refine AGo.cond_true true rfl rfl ?_
    refine AGo.skip ?_
    refine AGo.cond_true true rfl rfl ?_
    refine AGo.seq ?_
    refine AGo.region ?_
    refine AOps.s 10 rfl rfl rfl (q_fieldAddr tok rfl rfl rfl rfl rfl rfl) ?_
    refine AOps.s 11 rfl rfl rfl (q_load tok rfl rfl rfl z54q rfl) ?_
    refine AOps.x 12 rfl rfl rfl (o_lit' tok rfl rfl rfl rfl rfl rfl (by decide) rfl rfl rfl rfl rfl rfl) ?_
    refine AOps.s 2 rfl rfl rfl (q_move (.inr rfl) rfl) ?_
    refine AOps.nil ?_
    refine AGo.ret ?_
    refine ⟨[_], ⟨rfl, trivial⟩, ?_, rfl⟩
    show AV.lst false _ = _
    simp [Tac.uses, use1, use2, intsAV, partVals, AV.cells, *]
  · -- False
    refine AGo.cond_false false rfl rfl ?_
    refine AGo.seq ?_
    refine AGo.region ?_
    refine AOps.s 7 rfl rfl rfl (q_bin rfl rfl rfl rfl) ?_
    refine AOps.s 5 rfl rfl rfl (q_move (.inr rfl) rfl) ?_
    refine AOps.nil ?_
    refine AGo.split 5 rfl (fun hb2 => ?_) (fun hb2 => ?_)
    · -- True
      refine AGo.cond_true true rfl rfl ?_
      refine AGo.skip ?_
      refine AGo.cond_true true rfl rfl ?_
      refine AGo.seq ?_
      refine AGo.region ?_
      refine AOps.s 10 rfl rfl rfl (q_fieldAddr tok rfl rfl rfl rfl rfl rfl) ?_
      refine AOps.s 11 rfl rfl rfl (q_load tok rfl rfl rfl z54q rfl) ?_
      refine AOps.x 12 rfl rfl rfl (o_lit' tok rfl rfl rfl rfl rfl rfl (by decide) rfl rfl rfl rfl rfl rfl) ?_
      refine AOps.s 2 rfl rfl rfl (q_move (.inr rfl) rfl) ?_
      refine AOps.nil ?_
      refine AGo.ret ?_
      refine ⟨[_], ⟨rfl, trivial⟩, ?_, rfl⟩
      show AV.lst false _ = _
      simp [Tac.uses, use1, use2, intsAV, partVals, AV.cells, *]
    · -- False
      refine AGo.cond_false false rfl rfl ?_
      refine AGo.seq ?_
      refine AGo.region ?_
      refine AOps.s 8 rfl rfl rfl (q_bin rfl rfl rfl rfl) ?_
      refine AOps.s 5 rfl rfl rfl (q_move (.inr rfl) rfl) ?_
      refine AOps.nil ?_
      refine AGo.split 5 rfl (fun hb3 => ?_) (fun hb3 => ?_)
      · -- True
        refine AGo.cond_true true rfl rfl ?_
        refine AGo.skip ?_
        refine AGo.cond_true true rfl rfl ?_
        refine AGo.seq ?_
        refine AGo.region ?_
        refine AOps.s 10 rfl rfl rfl (q_fieldAddr tok rfl rfl rfl rfl rfl rfl) ?_
        refine AOps.s 11 rfl rfl rfl (q_load tok rfl rfl rfl z54q rfl) ?_
        refine AOps.x 12 rfl rfl rfl (o_lit' tok rfl rfl rfl rfl rfl rfl (by decide) rfl rfl rfl rfl rfl rfl) ?_
        refine AOps.s 2 rfl rfl rfl (q_move (.inr rfl) rfl) ?_
        refine AOps.nil ?_
        refine AGo.ret ?_
        refine ⟨[_], ⟨rfl, trivial⟩, ?_, rfl⟩
        show AV.lst false _ = _
        simp [Tac.uses, use1, use2, intsAV, partVals, AV.cells, *]
      · -- False
        refine AGo.cond_false false rfl rfl ?_
        refine AGo.region ?_
        refine AOps.s 9 rfl rfl rfl (q_bin rfl rfl rfl rfl) ?_
        refine AOps.s 5 rfl rfl rfl (q_move (.inr rfl) rfl) ?_
        refine AOps.nil ?_
        refine AGo.split 5 rfl (fun hb4 => ?_) (fun hb4 => ?_)
        · -- True
          refine AGo.cond_true true rfl rfl ?_
          refine AGo.seq ?_
          refine AGo.region ?_
          refine AOps.s 10 rfl rfl rfl (q_fieldAddr tok rfl rfl rfl rfl rfl rfl) ?_
          refine AOps.s 11 rfl rfl rfl (q_load tok rfl rfl rfl z54q rfl) ?_
          refine AOps.x 12 rfl rfl rfl (o_lit' tok rfl rfl rfl rfl rfl rfl (by decide) rfl rfl rfl rfl rfl rfl) ?_
          refine AOps.s 2 rfl rfl rfl (q_move (.inr rfl) rfl) ?_
          refine AOps.nil ?_
          refine AGo.ret ?_
          refine ⟨[_], ⟨rfl, trivial⟩, ?_, rfl⟩
          show AV.lst false _ = _
          simp [Tac.uses, use1, use2, intsAV, partVals, AV.cells, *]
        · -- False
          refine AGo.cond_false false rfl rfl ?_
          refine AGo.seq ?_
          refine AGo.seq ?_
          refine AGo.region ?_
          refine AOps.s 14 rfl rfl rfl (q_bin rfl rfl rfl rfl) ?_
          refine AOps.s 13 rfl rfl rfl (q_move (.inr rfl) rfl) ?_
          refine AOps.nil ?_
          refine AGo.split 13 rfl (fun hb5 => ?_) (fun hb5 => ?_)
          · -- True
            refine AGo.cond_true true rfl rfl ?_
            refine AGo.skip ?_
            refine AGo.cond_true true rfl rfl ?_
            refine AGo.seq ?_
            refine AGo.region ?_
            refine AOps.s 16 rfl rfl rfl (q_fieldAddr tok rfl rfl rfl rfl rfl rfl) ?_
            refine AOps.s 17 rfl rfl rfl (q_load tok rfl rfl rfl z54q rfl) ?_
            refine AOps.s 18 rfl rfl rfl (q_fieldAddr tok rfl rfl rfl rfl rfl rfl) ?_
            refine AOps.s 19 rfl rfl rfl (q_load tok rfl rfl rfl z54q rfl) ?_
            refine AOps.x 20 rfl rfl rfl (o_lit' tok rfl rfl rfl rfl rfl rfl (by decide) rfl rfl rfl rfl rfl rfl) ?_
            refine AOps.s 2 rfl rfl rfl (q_move (.inr rfl) rfl) ?_
            refine AOps.nil ?_
            refine AGo.ret ?_
            refine ⟨[_], ⟨rfl, trivial⟩, ?_, rfl⟩
            show AV.lst false _ = _
            simp [Tac.uses, use1, use2, intsAV, partVals, AV.cells, *]
          · -- False
            refine AGo.cond_false false rfl rfl ?_
            refine AGo.region ?_
            refine AOps.s 15 rfl rfl rfl (q_bin rfl rfl rfl rfl) ?_
            refine AOps.s 13 rfl rfl rfl (q_move (.inr rfl) rfl) ?_
            refine AOps.nil ?_
            refine AGo.split 13 rfl (fun hb6 => ?_) (fun hb6 => ?_)
            · -- True
              refine AGo.cond_true true rfl rfl ?_
              refine AGo.seq ?_
              refine AGo.region ?_
              refine AOps.s 16 rfl rfl rfl (q_fieldAddr tok rfl rfl rfl rfl rfl rfl) ?_
              refine AOps.s 17 rfl rfl rfl (q_load tok rfl rfl rfl z54q rfl) ?_
              refine AOps.s 18 rfl rfl rfl (q_fieldAddr tok rfl rfl rfl rfl rfl rfl) ?_
              refine AOps.s 19 rfl rfl rfl (q_load tok rfl rfl rfl z54q rfl) ?_
              refine AOps.x 20 rfl rfl rfl (o_lit' tok rfl rfl rfl rfl rfl rfl (by decide) rfl rfl rfl rfl rfl rfl) ?_
              refine AOps.s 2 rfl rfl rfl (q_move (.inr rfl) rfl) ?_
              refine AOps.nil ?_
              refine AGo.ret ?_
              refine ⟨[_], ⟨rfl, trivial⟩, ?_, rfl⟩
              show AV.lst false _ = _
              simp [Tac.uses, use1, use2, intsAV, partVals, AV.cells, *]
            · -- False
              refine AGo.cond_false false rfl rfl ?_
              refine AGo.skip ?_
              refine AGo.seq ?_
              refine AGo.region ?_
              refine AOps.s 2 rfl rfl rfl (q_move (.inr rfl) rfl) ?_
              refine AOps.nil ?_
              refine AGo.ghost (.empty 2 rfl) ?_
              refine AGo.ret ?_
              refine ⟨[_], ⟨rfl, trivial⟩, ?_, rfl⟩
              show AV.lst false _ = _
              simp [Tac.uses, use1, use2, intsAV, partVals, AV.cells, *]

set_option maxRecDepth 100000 in
theorem within_ok (i j : Int) : APure Try.prog 62 [.int .i64 i, .int .i64 j] (fun r => r = .bool (within i j)) := by
  refine APure.of_body (n := 12) tok Try.func62 rfl rfl ?_
  refine AGo.seq ?_
  refine AGo.region ?_
  refine AOps.s 4 rfl rfl rfl (q_move (.inr rfl) rfl) ?_
  refine AOps.nil ?_
  refine AGo.seq ?_
  refine AGo.region ?_
  refine AOps.s 5 rfl rfl rfl (q_move (.inl rfl) rfl) ?_
  refine AOps.s 6 rfl rfl rfl (q_bin rfl rfl rfl rfl) ?_
  refine AOps.s 7 rfl rfl rfl (q_move (.inl rfl) rfl) ?_
  refine AOps.split 7 rfl (fun hb1 => ?_) (fun hb1 => ?_)
  · -- True
    refine AOps.s 8 rfl rfl rfl (q_move (.inl rfl) rfl) ?_
    refine AOps.s 9 rfl rfl rfl (q_move (.inl rfl) rfl) ?_
    refine AOps.s 10 rfl rfl rfl (q_bin rfl rfl rfl rfl) ?_
    refine AOps.s 11 rfl rfl rfl (q_pick_true true rfl rfl rfl rfl) ?_
    refine AOps.s 4 rfl rfl rfl (q_move (.inr rfl) rfl) ?_
    refine AOps.nil ?_
    refine AGo.ret ?_
    refine ⟨[_], ⟨rfl, trivial⟩, ?_, rfl⟩
    show AV.bool _ = AV.bool _
    congr 1
    simp_all [within] <;> omega
  · -- False
    refine AOps.k 8 rfl rfl rfl ?_
    refine AOps.k 9 rfl rfl rfl ?_
    refine AOps.k 10 rfl rfl rfl ?_
    refine AOps.s 11 rfl rfl rfl (q_pick_false false rfl rfl rfl rfl) ?_
    refine AOps.s 4 rfl rfl rfl (q_move (.inr rfl) rfl) ?_
    refine AOps.nil ?_
    refine AGo.ret ?_
    refine ⟨[_], ⟨rfl, trivial⟩, ?_, rfl⟩
    show AV.bool _ = AV.bool _
    congr 1
    simp_all [within] <;> omega

set_option maxRecDepth 100000 in
theorem ends_ok (b : Block) (blocks regs : Int) : APure Try.prog 40 [.agg b.cells, .int .i64 blocks, .int .i64 regs] (fun r => r = .bool (b.ends blocks regs)) := by
  refine APure.of_body (n := 61) tok Try.func40 rfl rfl ?_
  refine AGo.seq ?_
  refine AGo.region ?_
  refine AOps.x 3 rfl rfl rfl (o_box (sz := 5) 0 rfl rfl rfl rfl (Nat.zero_lt_succ _) rfl) ?_
  refine AOps.s 6 rfl rfl rfl (q_move (.inr rfl) rfl) ?_
  refine AOps.nil ?_
  refine AGo.seq ?_
  refine AGo.seq ?_
  refine AGo.region ?_
  refine AOps.s 7 rfl rfl rfl (q_fieldAddr tok rfl rfl rfl rfl rfl rfl) ?_
  refine AOps.s 8 rfl rfl rfl (q_load tok rfl rfl rfl z54q rfl) ?_
  refine AOps.nil ?_
  refine AGo.block ?_
  refine AGo.seq ?_
  refine AGo.region ?_
  refine AOps.s 10 rfl rfl rfl (q_bin rfl rfl rfl rfl) ?_
  refine AOps.s 9 rfl rfl rfl (q_move (.inr rfl) rfl) ?_
  refine AOps.nil ?_
  refine AGo.split 9 rfl (fun hb1 => ?_) (fun hb1 => ?_)
  · -- True
    refine AGo.cond_true true rfl rfl ?_
    refine AGo.seq ?_
    refine AGo.region ?_
    refine AOps.s 11 rfl rfl rfl (q_fieldAddr tok rfl rfl rfl rfl rfl rfl) ?_
    refine AOps.s 12 rfl rfl rfl (q_load tok rfl rfl rfl z54q rfl) ?_
    refine AOps.s 13 rfl rfl rfl (q_move (.inl rfl) rfl) ?_
    refine AOps.x 14 rfl rfl rfl (o_pure rfl Try.func62 (by kernel_rfl) rfl rfl rfl (within_ok _ _)) ?_
    refine AOps.s 15 rfl rfl rfl (q_move (.inl rfl) rfl) ?_
    refine AOps.split 15 rfl (fun hb2 => ?_) (fun hb2 => ?_)
    · -- True
      refine AOps.s 16 rfl rfl rfl (q_fieldAddr tok rfl rfl rfl rfl rfl rfl) ?_
      refine AOps.s 17 rfl rfl rfl (q_load tok rfl rfl rfl z54q rfl) ?_
      refine AOps.s 18 rfl rfl rfl (q_bin rfl rfl rfl rfl) ?_
      refine AOps.s 19 rfl rfl rfl (q_pick_true true rfl rfl rfl rfl) ?_
      refine AOps.s 20 rfl rfl rfl (q_move (.inl rfl) rfl) ?_
      refine AOps.split 20 rfl (fun hb3 => ?_) (fun hb3 => ?_)
      · -- True
        refine AOps.s 21 rfl rfl rfl (q_fieldAddr tok rfl rfl rfl rfl rfl rfl) ?_
        refine AOps.s 22 rfl rfl rfl (q_load tok rfl rfl rfl z54q rfl) ?_
        refine AOps.s 23 rfl rfl rfl (q_bin rfl rfl rfl rfl) ?_
        refine AOps.s 24 rfl rfl rfl (q_pick_true true rfl rfl rfl rfl) ?_
        refine AOps.s 6 rfl rfl rfl (q_move (.inr rfl) rfl) ?_
        refine AOps.nil ?_
        refine AGo.ret ?_
        refine ⟨[_], ⟨rfl, trivial⟩, ?_, rfl⟩
        show AV.bool _ = AV.bool _
        congr 1
        simp_all [Block.ends]
      · -- False
        refine AOps.k 21 rfl rfl rfl ?_
        refine AOps.k 22 rfl rfl rfl ?_
        refine AOps.k 23 rfl rfl rfl ?_
        refine AOps.s 24 rfl rfl rfl (q_pick_false false rfl rfl rfl rfl) ?_
        refine AOps.s 6 rfl rfl rfl (q_move (.inr rfl) rfl) ?_
        refine AOps.nil ?_
        refine AGo.ret ?_
        refine ⟨[_], ⟨rfl, trivial⟩, ?_, rfl⟩
        show AV.bool _ = AV.bool _
        congr 1
        simp_all [Block.ends]
    · -- False
      refine AOps.k 16 rfl rfl rfl ?_
      refine AOps.k 17 rfl rfl rfl ?_
      refine AOps.k 18 rfl rfl rfl ?_
      refine AOps.s 19 rfl rfl rfl (q_pick_false false rfl rfl rfl rfl) ?_
      refine AOps.s 20 rfl rfl rfl (q_move (.inl rfl) rfl) ?_
      refine AOps.k 21 rfl rfl rfl ?_
      refine AOps.k 22 rfl rfl rfl ?_
      refine AOps.k 23 rfl rfl rfl ?_
      refine AOps.s 24 rfl rfl rfl (q_pick_false false rfl rfl rfl rfl) ?_
      refine AOps.s 6 rfl rfl rfl (q_move (.inr rfl) rfl) ?_
      refine AOps.nil ?_
      refine AGo.ret ?_
      refine ⟨[_], ⟨rfl, trivial⟩, ?_, rfl⟩
      show AV.bool _ = AV.bool _
      congr 1
      simp_all [Block.ends]
  · -- False
    refine AGo.cond_false false rfl rfl ?_
    refine AGo.seq ?_
    refine AGo.region ?_
    refine AOps.s 26 rfl rfl rfl (q_bin rfl rfl rfl rfl) ?_
    refine AOps.s 25 rfl rfl rfl (q_move (.inr rfl) rfl) ?_
    refine AOps.nil ?_
    refine AGo.split 25 rfl (fun hb4 => ?_) (fun hb4 => ?_)
    · -- True
      refine AGo.cond_true true rfl rfl ?_
      refine AGo.seq ?_
      refine AGo.region ?_
      refine AOps.s 27 rfl rfl rfl (q_fieldAddr tok rfl rfl rfl rfl rfl rfl) ?_
      refine AOps.s 28 rfl rfl rfl (q_load tok rfl rfl rfl z54q rfl) ?_
      refine AOps.s 29 rfl rfl rfl (q_move (.inl rfl) rfl) ?_
      refine AOps.x 30 rfl rfl rfl (o_pure rfl Try.func62 (by kernel_rfl) rfl rfl rfl (within_ok _ _)) ?_
      refine AOps.s 31 rfl rfl rfl (q_move (.inl rfl) rfl) ?_
      refine AOps.split 31 rfl (fun hb5 => ?_) (fun hb5 => ?_)
      · -- True
        refine AOps.s 32 rfl rfl rfl (q_fieldAddr tok rfl rfl rfl rfl rfl rfl) ?_
        refine AOps.s 33 rfl rfl rfl (q_load tok rfl rfl rfl z54q rfl) ?_
        refine AOps.s 34 rfl rfl rfl (q_move (.inl rfl) rfl) ?_
        refine AOps.x 35 rfl rfl rfl (o_pure rfl Try.func62 (by kernel_rfl) rfl rfl rfl (within_ok _ _)) ?_
        refine AOps.s 36 rfl rfl rfl (q_pick_true true rfl rfl rfl rfl) ?_
        refine AOps.s 37 rfl rfl rfl (q_move (.inl rfl) rfl) ?_
        refine AOps.split 37 rfl (fun hb6 => ?_) (fun hb6 => ?_)
        · -- True
          refine AOps.s 38 rfl rfl rfl (q_fieldAddr tok rfl rfl rfl rfl rfl rfl) ?_
          refine AOps.s 39 rfl rfl rfl (q_load tok rfl rfl rfl z54q rfl) ?_
          refine AOps.s 40 rfl rfl rfl (q_move (.inl rfl) rfl) ?_
          refine AOps.x 41 rfl rfl rfl (o_pure rfl Try.func62 (by kernel_rfl) rfl rfl rfl (within_ok _ _)) ?_
          refine AOps.s 42 rfl rfl rfl (q_pick_true true rfl rfl rfl rfl) ?_
          refine AOps.s 6 rfl rfl rfl (q_move (.inr rfl) rfl) ?_
          refine AOps.nil ?_
          refine AGo.ret ?_
          refine ⟨[_], ⟨rfl, trivial⟩, ?_, rfl⟩
          show AV.bool _ = AV.bool _
          congr 1
          simp_all [Block.ends]
        · -- False
          refine AOps.k 38 rfl rfl rfl ?_
          refine AOps.k 39 rfl rfl rfl ?_
          refine AOps.k 40 rfl rfl rfl ?_
          refine AOps.k 41 rfl rfl rfl ?_
          refine AOps.s 42 rfl rfl rfl (q_pick_false false rfl rfl rfl rfl) ?_
          refine AOps.s 6 rfl rfl rfl (q_move (.inr rfl) rfl) ?_
          refine AOps.nil ?_
          refine AGo.ret ?_
          refine ⟨[_], ⟨rfl, trivial⟩, ?_, rfl⟩
          show AV.bool _ = AV.bool _
          congr 1
          simp_all [Block.ends]
      · -- False
        refine AOps.k 32 rfl rfl rfl ?_
        refine AOps.k 33 rfl rfl rfl ?_
        refine AOps.k 34 rfl rfl rfl ?_
        refine AOps.k 35 rfl rfl rfl ?_
        refine AOps.s 36 rfl rfl rfl (q_pick_false false rfl rfl rfl rfl) ?_
        refine AOps.s 37 rfl rfl rfl (q_move (.inl rfl) rfl) ?_
        refine AOps.k 38 rfl rfl rfl ?_
        refine AOps.k 39 rfl rfl rfl ?_
        refine AOps.k 40 rfl rfl rfl ?_
        refine AOps.k 41 rfl rfl rfl ?_
        refine AOps.s 42 rfl rfl rfl (q_pick_false false rfl rfl rfl rfl) ?_
        refine AOps.s 6 rfl rfl rfl (q_move (.inr rfl) rfl) ?_
        refine AOps.nil ?_
        refine AGo.ret ?_
        refine ⟨[_], ⟨rfl, trivial⟩, ?_, rfl⟩
        show AV.bool _ = AV.bool _
        congr 1
        simp_all [Block.ends]
    · -- False
      refine AGo.cond_false false rfl rfl ?_
      refine AGo.skip ?_
      refine AGo.seq ?_
      refine AGo.region ?_
      refine AOps.s 43 rfl rfl rfl (q_fieldAddr tok rfl rfl rfl rfl rfl rfl) ?_
      refine AOps.s 44 rfl rfl rfl (q_load tok rfl rfl rfl z54q rfl) ?_
      refine AOps.s 45 rfl rfl rfl (q_bin rfl rfl rfl rfl) ?_
      refine AOps.s 46 rfl rfl rfl (q_move (.inl rfl) rfl) ?_
      refine AOps.split 46 rfl (fun hb7 => ?_) (fun hb7 => ?_)
      · -- True
        refine AOps.s 47 rfl rfl rfl (q_fieldAddr tok rfl rfl rfl rfl rfl rfl) ?_
        refine AOps.s 48 rfl rfl rfl (q_load tok rfl rfl rfl z54q rfl) ?_
        refine AOps.s 49 rfl rfl rfl (q_bin rfl rfl rfl rfl) ?_
        refine AOps.s 50 rfl rfl rfl (q_pick_true true rfl rfl rfl rfl) ?_
        refine AOps.s 51 rfl rfl rfl (q_move (.inl rfl) rfl) ?_
        refine AOps.split 51 rfl (fun hb8 => ?_) (fun hb8 => ?_)
        · -- True
          refine AOps.s 52 rfl rfl rfl (q_fieldAddr tok rfl rfl rfl rfl rfl rfl) ?_
          refine AOps.s 53 rfl rfl rfl (q_load tok rfl rfl rfl z54q rfl) ?_
          refine AOps.s 54 rfl rfl rfl (q_bin rfl rfl rfl rfl) ?_
          refine AOps.s 55 rfl rfl rfl (q_pick_true true rfl rfl rfl rfl) ?_
          refine AOps.s 56 rfl rfl rfl (q_move (.inl rfl) rfl) ?_
          refine AOps.split 56 rfl (fun hb9 => ?_) (fun hb9 => ?_)
          · -- True
            refine AOps.s 57 rfl rfl rfl (q_fieldAddr tok rfl rfl rfl rfl rfl rfl) ?_
            refine AOps.s 58 rfl rfl rfl (q_load tok rfl rfl rfl z54q rfl) ?_
            refine AOps.s 59 rfl rfl rfl (q_bin rfl rfl rfl rfl) ?_
            refine AOps.s 60 rfl rfl rfl (q_pick_true true rfl rfl rfl rfl) ?_
            refine AOps.s 6 rfl rfl rfl (q_move (.inr rfl) rfl) ?_
            refine AOps.nil ?_
            refine AGo.ret ?_
            refine ⟨[_], ⟨rfl, trivial⟩, ?_, rfl⟩
            show AV.bool _ = AV.bool _
            congr 1
            simp_all [Block.ends]
          · -- False
            refine AOps.k 57 rfl rfl rfl ?_
            refine AOps.k 58 rfl rfl rfl ?_
            refine AOps.k 59 rfl rfl rfl ?_
            refine AOps.s 60 rfl rfl rfl (q_pick_false false rfl rfl rfl rfl) ?_
            refine AOps.s 6 rfl rfl rfl (q_move (.inr rfl) rfl) ?_
            refine AOps.nil ?_
            refine AGo.ret ?_
            refine ⟨[_], ⟨rfl, trivial⟩, ?_, rfl⟩
            show AV.bool _ = AV.bool _
            congr 1
            simp_all [Block.ends]
        · -- False
          refine AOps.k 52 rfl rfl rfl ?_
          refine AOps.k 53 rfl rfl rfl ?_
          refine AOps.k 54 rfl rfl rfl ?_
          refine AOps.s 55 rfl rfl rfl (q_pick_false false rfl rfl rfl rfl) ?_
          refine AOps.s 56 rfl rfl rfl (q_move (.inl rfl) rfl) ?_
          refine AOps.k 57 rfl rfl rfl ?_
          refine AOps.k 58 rfl rfl rfl ?_
          refine AOps.k 59 rfl rfl rfl ?_
          refine AOps.s 60 rfl rfl rfl (q_pick_false false rfl rfl rfl rfl) ?_
          refine AOps.s 6 rfl rfl rfl (q_move (.inr rfl) rfl) ?_
          refine AOps.nil ?_
          refine AGo.ret ?_
          refine ⟨[_], ⟨rfl, trivial⟩, ?_, rfl⟩
          show AV.bool _ = AV.bool _
          congr 1
          simp_all [Block.ends]
      · -- False
        refine AOps.k 47 rfl rfl rfl ?_
        refine AOps.k 48 rfl rfl rfl ?_
        refine AOps.k 49 rfl rfl rfl ?_
        refine AOps.s 50 rfl rfl rfl (q_pick_false false rfl rfl rfl rfl) ?_
        refine AOps.s 51 rfl rfl rfl (q_move (.inl rfl) rfl) ?_
        refine AOps.k 52 rfl rfl rfl ?_
        refine AOps.k 53 rfl rfl rfl ?_
        refine AOps.k 54 rfl rfl rfl ?_
        refine AOps.s 55 rfl rfl rfl (q_pick_false false rfl rfl rfl rfl) ?_
        refine AOps.s 56 rfl rfl rfl (q_move (.inl rfl) rfl) ?_
        refine AOps.k 57 rfl rfl rfl ?_
        refine AOps.k 58 rfl rfl rfl ?_
        refine AOps.k 59 rfl rfl rfl ?_
        refine AOps.s 60 rfl rfl rfl (q_pick_false false rfl rfl rfl rfl) ?_
        refine AOps.s 6 rfl rfl rfl (q_move (.inr rfl) rfl) ?_
        refine AOps.nil ?_
        refine AGo.ret ?_
        refine ⟨[_], ⟨rfl, trivial⟩, ?_, rfl⟩
        show AV.bool _ = AV.bool _
        congr 1
        simp_all [Block.ends]

set_option maxRecDepth 100000 in
theorem fits_ok (t : Tac) (f regs words : Int) (hw : 0 ≤ words) (hw2 : words ≤ 1048576) : APure Try.prog 41 [.agg t.cells, .int .i64 f, .int .i64 regs, .int .i64 words] (fun r => r = .bool (t.fits f regs words)) := by
  refine APure.of_body (n := 166) tok Try.func41 rfl rfl ?_
  refine AGo.seq ?_
  refine AGo.region ?_
  refine AOps.x 4 rfl rfl rfl (o_box (sz := 8) 0 rfl rfl rfl rfl (Nat.zero_lt_succ _) rfl) ?_
  refine AOps.s 8 rfl rfl rfl (q_move (.inr rfl) rfl) ?_
  refine AOps.nil ?_
  refine AGo.seq ?_
  refine AGo.seq ?_
  refine AGo.region ?_
  refine AOps.s 12 rfl rfl rfl (q_fieldAddr tok rfl rfl rfl rfl rfl rfl) ?_
  refine AOps.s 13 rfl rfl rfl (q_load tok rfl rfl rfl z54q rfl) ?_
  refine AOps.s 14 rfl rfl rfl (q_bin rfl rfl rfl rfl) ?_
  refine AOps.s 15 rfl rfl rfl (q_move (.inl rfl) rfl) ?_
  refine AOps.split 15 rfl (fun hb1 => ?_) (fun hb1 => ?_)
  · -- True
    refine AOps.k 16 rfl rfl rfl ?_
    refine AOps.k 17 rfl rfl rfl ?_
    refine AOps.k 18 rfl rfl rfl ?_
    refine AOps.s 19 rfl rfl rfl (q_pick_true true rfl rfl rfl rfl) ?_
    refine AOps.nil ?_
    refine AGo.cond_true true rfl rfl ?_
    refine AGo.seq ?_
    refine AGo.region ?_
    refine AOps.s 8 rfl rfl rfl (q_move (.inr rfl) rfl) ?_
    refine AOps.nil ?_
    refine AGo.ret ?_
    refine ⟨[_], ⟨rfl, trivial⟩, ?_, rfl⟩
    show AV.bool _ = AV.bool _
    congr 1
    exact (fits_op (by simp_all <;> omega)).symm
  · -- False
    refine AOps.s 16 rfl rfl rfl (q_fieldAddr tok rfl rfl rfl rfl rfl rfl) ?_
    refine AOps.s 17 rfl rfl rfl (q_load tok rfl rfl rfl z54q rfl) ?_
    refine AOps.s 18 rfl rfl rfl (q_bin rfl rfl rfl rfl) ?_
    refine AOps.s 19 rfl rfl rfl (q_pick_false false rfl rfl rfl rfl) ?_
    refine AOps.nil ?_
    refine AGo.split 19 rfl (fun hb2 => ?_) (fun hb2 => ?_)
    · -- True
      refine AGo.cond_true true rfl rfl ?_
      refine AGo.seq ?_
      refine AGo.region ?_
      refine AOps.s 8 rfl rfl rfl (q_move (.inr rfl) rfl) ?_
      refine AOps.nil ?_
      refine AGo.ret ?_
      refine ⟨[_], ⟨rfl, trivial⟩, ?_, rfl⟩
      show AV.bool _ = AV.bool _
      congr 1
      exact (fits_op (by simp_all <;> omega)).symm
    · -- False
      refine AGo.cond_false false rfl rfl ?_
      refine AGo.skip ?_
      refine AGo.seq ?_
      refine AGo.region ?_
      refine AOps.s 20 rfl rfl rfl (q_fieldAddr tok rfl rfl rfl rfl rfl rfl) ?_
      refine AOps.s 21 rfl rfl rfl (q_load tok rfl rfl rfl z54q rfl) ?_
      refine AOps.s 22 rfl rfl rfl (q_build tok rfl rfl rfl rfl rfl (by decide) rfl rfl rfl) ?_
      refine AOps.x 9 rfl rfl rfl (o_alloc tok 1 rfl rfl rfl rfl (Nat.zero_lt_succ _) rfl) ?_
      refine AOps.w rfl rfl (o_store tok rfl rfl rfl rfl rfl rfl rfl rfl rfl (by decide) rfl z61q) ?_
      refine AOps.nil ?_
      refine AGo.seq ?_
      refine AGo.join (γ := Int) (fun d => ⟨166, (eput (eput (eput (eput (eput eNew 1 (.int .i64 f)) 2 (.int .i64 regs)) 3 (.int .i64 words)) 4 (.ptr 0 1 0 0)) 9 (.ptr 1 1 0 0)), (hput (hput (hFrom 2) 0 (.row false 8 [t.cells])) 1 (.row false 8 [[.int .i64 t.op, .int .i64 d, .int .i64 0, .int .i64 0, .int .i64 0, .int .i64 0, .int .i64 0, .int .u32 0]]))⟩) (fun d => (!setsOp t.op || within t.d regs) = true ∧ d = bif setsOp t.op then t.d else 0) ?_ ?_
      · -- to the join
        refine AGo.seq ?_
        refine AGo.region ?_
        refine AOps.s 23 rfl rfl rfl (q_load tok rfl rfl rfl z54q rfl) ?_
        refine AOps.x 24 rfl rfl rfl (o_pure rfl Try.func55 (by kernel_rfl) rfl rfl rfl (sets_ok _)) ?_
        refine AOps.s 25 rfl rfl rfl (q_bin rfl rfl rfl rfl) ?_
        refine AOps.s 26 rfl rfl rfl (q_move (.inl rfl) rfl) ?_
        refine AOps.split 26 rfl (fun hb3 => ?_) (fun hb3 => ?_)
        · -- True
          refine AOps.k 27 rfl rfl rfl ?_
          refine AOps.k 28 rfl rfl rfl ?_
          refine AOps.k 29 rfl rfl rfl ?_
          refine AOps.s 30 rfl rfl rfl (q_pick_true true rfl rfl rfl rfl) ?_
          refine AOps.s 31 rfl rfl rfl (q_move (.inl rfl) rfl) ?_
          refine AOps.k 32 rfl rfl rfl ?_
          refine AOps.k 33 rfl rfl rfl ?_
          refine AOps.k 34 rfl rfl rfl ?_
          refine AOps.s 35 rfl rfl rfl (q_pick_true true rfl rfl rfl rfl) ?_
          refine AOps.s 36 rfl rfl rfl (q_move (.inl rfl) rfl) ?_
          refine AOps.k 37 rfl rfl rfl ?_
          refine AOps.k 38 rfl rfl rfl ?_
          refine AOps.k 39 rfl rfl rfl ?_
          refine AOps.s 40 rfl rfl rfl (q_pick_true true rfl rfl rfl rfl) ?_
          refine AOps.s 41 rfl rfl rfl (q_move (.inl rfl) rfl) ?_
          refine AOps.k 42 rfl rfl rfl ?_
          refine AOps.k 43 rfl rfl rfl ?_
          refine AOps.k 44 rfl rfl rfl ?_
          refine AOps.s 45 rfl rfl rfl (q_pick_true true rfl rfl rfl rfl) ?_
          refine AOps.s 46 rfl rfl rfl (q_move (.inl rfl) rfl) ?_
          refine AOps.k 47 rfl rfl rfl ?_
          refine AOps.k 48 rfl rfl rfl ?_
          refine AOps.k 49 rfl rfl rfl ?_
          refine AOps.s 50 rfl rfl rfl (q_pick_true true rfl rfl rfl rfl) ?_
          refine AOps.s 51 rfl rfl rfl (q_move (.inl rfl) rfl) ?_
          refine AOps.k 52 rfl rfl rfl ?_
          refine AOps.k 53 rfl rfl rfl ?_
          refine AOps.k 54 rfl rfl rfl ?_
          refine AOps.s 55 rfl rfl rfl (q_pick_true true rfl rfl rfl rfl) ?_
          refine AOps.nil ?_
          refine AGo.cond_true true rfl rfl ?_
          refine AGo.seq ?_
          refine AGo.region ?_
          refine AOps.s 56 rfl rfl rfl (q_fieldAddr tok rfl rfl rfl rfl rfl rfl) ?_
          refine AOps.s 57 rfl rfl rfl (q_load tok rfl rfl rfl z54q rfl) ?_
          refine AOps.s 58 rfl rfl rfl (q_fieldAddr tok rfl rfl rfl rfl rfl rfl) ?_
          refine AOps.w rfl rfl (o_store tok rfl rfl rfl rfl rfl rfl rfl rfl rfl (by decide) rfl z61q) ?_
          refine AOps.nil ?_
          refine AGo.seq ?_
          refine AGo.region ?_
          refine AOps.s 59 rfl rfl rfl (q_fieldAddr tok rfl rfl rfl rfl rfl rfl) ?_
          refine AOps.s 60 rfl rfl rfl (q_load tok rfl rfl rfl z54q rfl) ?_
          refine AOps.s 61 rfl rfl rfl (q_move (.inl rfl) rfl) ?_
          refine AOps.x 62 rfl rfl rfl (o_pure rfl Try.func62 (by kernel_rfl) rfl rfl rfl (within_ok _ _)) ?_
          refine AOps.s 63 rfl rfl rfl (q_not rfl rfl) ?_
          refine AOps.nil ?_
          refine AGo.split 63 rfl (fun hb4 => ?_) (fun hb4 => ?_)
          · -- True
            refine AGo.cond_true true rfl rfl ?_
            refine AGo.seq ?_
            refine AGo.region ?_
            refine AOps.s 8 rfl rfl rfl (q_move (.inr rfl) rfl) ?_
            refine AOps.nil ?_
            refine AGo.ret ?_
            refine ⟨[_], ⟨rfl, trivial⟩, ?_, rfl⟩
            show AV.bool _ = AV.bool _
            congr 1
            exact (fits_d z57q z65q).symm
          · -- False
            refine AGo.cond_false false rfl rfl ?_
            refine AGo.skip ?_
            exact ⟨t.d, Sub.mk' z53q z36q, ⟨by have h := ‹(!within t.d regs) = false›; simp at h; simp [h], by first | (simp [setsOp, *]; done) | simp [sets_pos ‹_›]⟩⟩
        · -- False
          refine AOps.s 27 rfl rfl rfl (q_fieldAddr tok rfl rfl rfl rfl rfl rfl) ?_
          refine AOps.s 28 rfl rfl rfl (q_load tok rfl rfl rfl z54q rfl) ?_
          refine AOps.s 29 rfl rfl rfl (q_bin rfl rfl rfl rfl) ?_
          refine AOps.s 30 rfl rfl rfl (q_pick_false false rfl rfl rfl rfl) ?_
          refine AOps.s 31 rfl rfl rfl (q_move (.inl rfl) rfl) ?_
          refine AOps.split 31 rfl (fun hb5 => ?_) (fun hb5 => ?_)
          · -- True
            refine AOps.k 32 rfl rfl rfl ?_
            refine AOps.k 33 rfl rfl rfl ?_
            refine AOps.k 34 rfl rfl rfl ?_
            refine AOps.s 35 rfl rfl rfl (q_pick_true true rfl rfl rfl rfl) ?_
            refine AOps.s 36 rfl rfl rfl (q_move (.inl rfl) rfl) ?_
            refine AOps.k 37 rfl rfl rfl ?_
            refine AOps.k 38 rfl rfl rfl ?_
            refine AOps.k 39 rfl rfl rfl ?_
            refine AOps.s 40 rfl rfl rfl (q_pick_true true rfl rfl rfl rfl) ?_
            refine AOps.s 41 rfl rfl rfl (q_move (.inl rfl) rfl) ?_
            refine AOps.k 42 rfl rfl rfl ?_
            refine AOps.k 43 rfl rfl rfl ?_
            refine AOps.k 44 rfl rfl rfl ?_
            refine AOps.s 45 rfl rfl rfl (q_pick_true true rfl rfl rfl rfl) ?_
            refine AOps.s 46 rfl rfl rfl (q_move (.inl rfl) rfl) ?_
            refine AOps.k 47 rfl rfl rfl ?_
            refine AOps.k 48 rfl rfl rfl ?_
            refine AOps.k 49 rfl rfl rfl ?_
            refine AOps.s 50 rfl rfl rfl (q_pick_true true rfl rfl rfl rfl) ?_
            refine AOps.s 51 rfl rfl rfl (q_move (.inl rfl) rfl) ?_
            refine AOps.k 52 rfl rfl rfl ?_
            refine AOps.k 53 rfl rfl rfl ?_
            refine AOps.k 54 rfl rfl rfl ?_
            refine AOps.s 55 rfl rfl rfl (q_pick_true true rfl rfl rfl rfl) ?_
            refine AOps.nil ?_
            refine AGo.cond_true true rfl rfl ?_
            refine AGo.seq ?_
            refine AGo.region ?_
            refine AOps.s 56 rfl rfl rfl (q_fieldAddr tok rfl rfl rfl rfl rfl rfl) ?_
            refine AOps.s 57 rfl rfl rfl (q_load tok rfl rfl rfl z54q rfl) ?_
            refine AOps.s 58 rfl rfl rfl (q_fieldAddr tok rfl rfl rfl rfl rfl rfl) ?_
            refine AOps.w rfl rfl (o_store tok rfl rfl rfl rfl rfl rfl rfl rfl rfl (by decide) rfl z61q) ?_
            refine AOps.nil ?_
            refine AGo.seq ?_
            refine AGo.region ?_
            refine AOps.s 59 rfl rfl rfl (q_fieldAddr tok rfl rfl rfl rfl rfl rfl) ?_
            refine AOps.s 60 rfl rfl rfl (q_load tok rfl rfl rfl z54q rfl) ?_
            refine AOps.s 61 rfl rfl rfl (q_move (.inl rfl) rfl) ?_
            refine AOps.x 62 rfl rfl rfl (o_pure rfl Try.func62 (by kernel_rfl) rfl rfl rfl (within_ok _ _)) ?_
            refine AOps.s 63 rfl rfl rfl (q_not rfl rfl) ?_
            refine AOps.nil ?_
            refine AGo.split 63 rfl (fun hb6 => ?_) (fun hb6 => ?_)
            · -- True
              refine AGo.cond_true true rfl rfl ?_
              refine AGo.seq ?_
              refine AGo.region ?_
              refine AOps.s 8 rfl rfl rfl (q_move (.inr rfl) rfl) ?_
              refine AOps.nil ?_
              refine AGo.ret ?_
              refine ⟨[_], ⟨rfl, trivial⟩, ?_, rfl⟩
              show AV.bool _ = AV.bool _
              congr 1
              exact (fits_d z57q z65q).symm
            · -- False
              refine AGo.cond_false false rfl rfl ?_
              refine AGo.skip ?_
              exact ⟨t.d, Sub.mk' z53q z36q, ⟨by have h := ‹(!within t.d regs) = false›; simp at h; simp [h], by first | (simp [setsOp, *]; done) | simp [sets_pos ‹_›]⟩⟩
          · -- False
            refine AOps.s 32 rfl rfl rfl (q_fieldAddr tok rfl rfl rfl rfl rfl rfl) ?_
            refine AOps.s 33 rfl rfl rfl (q_load tok rfl rfl rfl z54q rfl) ?_
            refine AOps.s 34 rfl rfl rfl (q_bin rfl rfl rfl rfl) ?_
            refine AOps.s 35 rfl rfl rfl (q_pick_false false rfl rfl rfl rfl) ?_
            refine AOps.s 36 rfl rfl rfl (q_move (.inl rfl) rfl) ?_
            refine AOps.split 36 rfl (fun hb7 => ?_) (fun hb7 => ?_)
            · -- True
              refine AOps.k 37 rfl rfl rfl ?_
              refine AOps.k 38 rfl rfl rfl ?_
              refine AOps.k 39 rfl rfl rfl ?_
              refine AOps.s 40 rfl rfl rfl (q_pick_true true rfl rfl rfl rfl) ?_
              refine AOps.s 41 rfl rfl rfl (q_move (.inl rfl) rfl) ?_
              refine AOps.k 42 rfl rfl rfl ?_
              refine AOps.k 43 rfl rfl rfl ?_
              refine AOps.k 44 rfl rfl rfl ?_
              refine AOps.s 45 rfl rfl rfl (q_pick_true true rfl rfl rfl rfl) ?_
              refine AOps.s 46 rfl rfl rfl (q_move (.inl rfl) rfl) ?_
              refine AOps.k 47 rfl rfl rfl ?_
              refine AOps.k 48 rfl rfl rfl ?_
              refine AOps.k 49 rfl rfl rfl ?_
              refine AOps.s 50 rfl rfl rfl (q_pick_true true rfl rfl rfl rfl) ?_
              refine AOps.s 51 rfl rfl rfl (q_move (.inl rfl) rfl) ?_
              refine AOps.k 52 rfl rfl rfl ?_
              refine AOps.k 53 rfl rfl rfl ?_
              refine AOps.k 54 rfl rfl rfl ?_
              refine AOps.s 55 rfl rfl rfl (q_pick_true true rfl rfl rfl rfl) ?_
              refine AOps.nil ?_
              refine AGo.cond_true true rfl rfl ?_
              refine AGo.seq ?_
              refine AGo.region ?_
              refine AOps.s 56 rfl rfl rfl (q_fieldAddr tok rfl rfl rfl rfl rfl rfl) ?_
              refine AOps.s 57 rfl rfl rfl (q_load tok rfl rfl rfl z54q rfl) ?_
              refine AOps.s 58 rfl rfl rfl (q_fieldAddr tok rfl rfl rfl rfl rfl rfl) ?_
              refine AOps.w rfl rfl (o_store tok rfl rfl rfl rfl rfl rfl rfl rfl rfl (by decide) rfl z61q) ?_
              refine AOps.nil ?_
              refine AGo.seq ?_
              refine AGo.region ?_
              refine AOps.s 59 rfl rfl rfl (q_fieldAddr tok rfl rfl rfl rfl rfl rfl) ?_
              refine AOps.s 60 rfl rfl rfl (q_load tok rfl rfl rfl z54q rfl) ?_
              refine AOps.s 61 rfl rfl rfl (q_move (.inl rfl) rfl) ?_
              refine AOps.x 62 rfl rfl rfl (o_pure rfl Try.func62 (by kernel_rfl) rfl rfl rfl (within_ok _ _)) ?_
              refine AOps.s 63 rfl rfl rfl (q_not rfl rfl) ?_
              refine AOps.nil ?_
              refine AGo.split 63 rfl (fun hb8 => ?_) (fun hb8 => ?_)
              · -- True
                refine AGo.cond_true true rfl rfl ?_
                refine AGo.seq ?_
                refine AGo.region ?_
                refine AOps.s 8 rfl rfl rfl (q_move (.inr rfl) rfl) ?_
                refine AOps.nil ?_
                refine AGo.ret ?_
                refine ⟨[_], ⟨rfl, trivial⟩, ?_, rfl⟩
                show AV.bool _ = AV.bool _
                congr 1
                exact (fits_d z57q z65q).symm
              · -- False
                refine AGo.cond_false false rfl rfl ?_
                refine AGo.skip ?_
                exact ⟨t.d, Sub.mk' z53q z36q, ⟨by have h := ‹(!within t.d regs) = false›; simp at h; simp [h], by first | (simp [setsOp, *]; done) | simp [sets_pos ‹_›]⟩⟩
            · -- False
              refine AOps.s 37 rfl rfl rfl (q_fieldAddr tok rfl rfl rfl rfl rfl rfl) ?_
              refine AOps.s 38 rfl rfl rfl (q_load tok rfl rfl rfl z54q rfl) ?_
              refine AOps.s 39 rfl rfl rfl (q_bin rfl rfl rfl rfl) ?_
              refine AOps.s 40 rfl rfl rfl (q_pick_false false rfl rfl rfl rfl) ?_
              refine AOps.s 41 rfl rfl rfl (q_move (.inl rfl) rfl) ?_
              refine AOps.split 41 rfl (fun hb9 => ?_) (fun hb9 => ?_)
              · -- True
                refine AOps.k 42 rfl rfl rfl ?_
                refine AOps.k 43 rfl rfl rfl ?_
                refine AOps.k 44 rfl rfl rfl ?_
                refine AOps.s 45 rfl rfl rfl (q_pick_true true rfl rfl rfl rfl) ?_
                refine AOps.s 46 rfl rfl rfl (q_move (.inl rfl) rfl) ?_
                refine AOps.k 47 rfl rfl rfl ?_
                refine AOps.k 48 rfl rfl rfl ?_
                refine AOps.k 49 rfl rfl rfl ?_
                refine AOps.s 50 rfl rfl rfl (q_pick_true true rfl rfl rfl rfl) ?_
                refine AOps.s 51 rfl rfl rfl (q_move (.inl rfl) rfl) ?_
                refine AOps.k 52 rfl rfl rfl ?_
                refine AOps.k 53 rfl rfl rfl ?_
                refine AOps.k 54 rfl rfl rfl ?_
                refine AOps.s 55 rfl rfl rfl (q_pick_true true rfl rfl rfl rfl) ?_
                refine AOps.nil ?_
                refine AGo.cond_true true rfl rfl ?_
                refine AGo.seq ?_
                refine AGo.region ?_
                refine AOps.s 56 rfl rfl rfl (q_fieldAddr tok rfl rfl rfl rfl rfl rfl) ?_
                refine AOps.s 57 rfl rfl rfl (q_load tok rfl rfl rfl z54q rfl) ?_
                refine AOps.s 58 rfl rfl rfl (q_fieldAddr tok rfl rfl rfl rfl rfl rfl) ?_
                refine AOps.w rfl rfl (o_store tok rfl rfl rfl rfl rfl rfl rfl rfl rfl (by decide) rfl z61q) ?_
                refine AOps.nil ?_
                refine AGo.seq ?_
                refine AGo.region ?_
                refine AOps.s 59 rfl rfl rfl (q_fieldAddr tok rfl rfl rfl rfl rfl rfl) ?_
                refine AOps.s 60 rfl rfl rfl (q_load tok rfl rfl rfl z54q rfl) ?_
                refine AOps.s 61 rfl rfl rfl (q_move (.inl rfl) rfl) ?_
                refine AOps.x 62 rfl rfl rfl (o_pure rfl Try.func62 (by kernel_rfl) rfl rfl rfl (within_ok _ _)) ?_
                refine AOps.s 63 rfl rfl rfl (q_not rfl rfl) ?_
                refine AOps.nil ?_
                refine AGo.split 63 rfl (fun hb10 => ?_) (fun hb10 => ?_)
                · -- True
                  refine AGo.cond_true true rfl rfl ?_
                  refine AGo.seq ?_
                  refine AGo.region ?_
                  refine AOps.s 8 rfl rfl rfl (q_move (.inr rfl) rfl) ?_
                  refine AOps.nil ?_
                  refine AGo.ret ?_
                  refine ⟨[_], ⟨rfl, trivial⟩, ?_, rfl⟩
                  show AV.bool _ = AV.bool _
                  congr 1
                  exact (fits_d z57q z65q).symm
                · -- False
                  refine AGo.cond_false false rfl rfl ?_
                  refine AGo.skip ?_
                  exact ⟨t.d, Sub.mk' z53q z36q, ⟨by have h := ‹(!within t.d regs) = false›; simp at h; simp [h], by first | (simp [setsOp, *]; done) | simp [sets_pos ‹_›]⟩⟩
              · -- False
                refine AOps.s 42 rfl rfl rfl (q_fieldAddr tok rfl rfl rfl rfl rfl rfl) ?_
                refine AOps.s 43 rfl rfl rfl (q_load tok rfl rfl rfl z54q rfl) ?_
                refine AOps.s 44 rfl rfl rfl (q_bin rfl rfl rfl rfl) ?_
                refine AOps.s 45 rfl rfl rfl (q_pick_false false rfl rfl rfl rfl) ?_
                refine AOps.s 46 rfl rfl rfl (q_move (.inl rfl) rfl) ?_
                refine AOps.split 46 rfl (fun hb11 => ?_) (fun hb11 => ?_)
                · -- True
                  refine AOps.k 47 rfl rfl rfl ?_
                  refine AOps.k 48 rfl rfl rfl ?_
                  refine AOps.k 49 rfl rfl rfl ?_
                  refine AOps.s 50 rfl rfl rfl (q_pick_true true rfl rfl rfl rfl) ?_
                  refine AOps.s 51 rfl rfl rfl (q_move (.inl rfl) rfl) ?_
                  refine AOps.k 52 rfl rfl rfl ?_
                  refine AOps.k 53 rfl rfl rfl ?_
                  refine AOps.k 54 rfl rfl rfl ?_
                  refine AOps.s 55 rfl rfl rfl (q_pick_true true rfl rfl rfl rfl) ?_
                  refine AOps.nil ?_
                  refine AGo.cond_true true rfl rfl ?_
                  refine AGo.seq ?_
                  refine AGo.region ?_
                  refine AOps.s 56 rfl rfl rfl (q_fieldAddr tok rfl rfl rfl rfl rfl rfl) ?_
                  refine AOps.s 57 rfl rfl rfl (q_load tok rfl rfl rfl z54q rfl) ?_
                  refine AOps.s 58 rfl rfl rfl (q_fieldAddr tok rfl rfl rfl rfl rfl rfl) ?_
                  refine AOps.w rfl rfl (o_store tok rfl rfl rfl rfl rfl rfl rfl rfl rfl (by decide) rfl z61q) ?_
                  refine AOps.nil ?_
                  refine AGo.seq ?_
                  refine AGo.region ?_
                  refine AOps.s 59 rfl rfl rfl (q_fieldAddr tok rfl rfl rfl rfl rfl rfl) ?_
                  refine AOps.s 60 rfl rfl rfl (q_load tok rfl rfl rfl z54q rfl) ?_
                  refine AOps.s 61 rfl rfl rfl (q_move (.inl rfl) rfl) ?_
                  refine AOps.x 62 rfl rfl rfl (o_pure rfl Try.func62 (by kernel_rfl) rfl rfl rfl (within_ok _ _)) ?_
                  refine AOps.s 63 rfl rfl rfl (q_not rfl rfl) ?_
                  refine AOps.nil ?_
                  refine AGo.split 63 rfl (fun hb12 => ?_) (fun hb12 => ?_)
                  · -- True
                    refine AGo.cond_true true rfl rfl ?_
                    refine AGo.seq ?_
                    refine AGo.region ?_
                    refine AOps.s 8 rfl rfl rfl (q_move (.inr rfl) rfl) ?_
                    refine AOps.nil ?_
                    refine AGo.ret ?_
                    refine ⟨[_], ⟨rfl, trivial⟩, ?_, rfl⟩
                    show AV.bool _ = AV.bool _
                    congr 1
                    exact (fits_d z57q z65q).symm
                  · -- False
                    refine AGo.cond_false false rfl rfl ?_
                    refine AGo.skip ?_
                    exact ⟨t.d, Sub.mk' z53q z36q, ⟨by have h := ‹(!within t.d regs) = false›; simp at h; simp [h], by first | (simp [setsOp, *]; done) | simp [sets_pos ‹_›]⟩⟩
                · -- False
                  refine AOps.s 47 rfl rfl rfl (q_fieldAddr tok rfl rfl rfl rfl rfl rfl) ?_
                  refine AOps.s 48 rfl rfl rfl (q_load tok rfl rfl rfl z54q rfl) ?_
                  refine AOps.s 49 rfl rfl rfl (q_bin rfl rfl rfl rfl) ?_
                  refine AOps.s 50 rfl rfl rfl (q_pick_false false rfl rfl rfl rfl) ?_
                  refine AOps.s 51 rfl rfl rfl (q_move (.inl rfl) rfl) ?_
                  refine AOps.split 51 rfl (fun hb13 => ?_) (fun hb13 => ?_)
                  · -- True
                    refine AOps.k 52 rfl rfl rfl ?_
                    refine AOps.k 53 rfl rfl rfl ?_
                    refine AOps.k 54 rfl rfl rfl ?_
                    refine AOps.s 55 rfl rfl rfl (q_pick_true true rfl rfl rfl rfl) ?_
                    refine AOps.nil ?_
                    refine AGo.cond_true true rfl rfl ?_
                    refine AGo.seq ?_
                    refine AGo.region ?_
                    refine AOps.s 56 rfl rfl rfl (q_fieldAddr tok rfl rfl rfl rfl rfl rfl) ?_
                    refine AOps.s 57 rfl rfl rfl (q_load tok rfl rfl rfl z54q rfl) ?_
                    refine AOps.s 58 rfl rfl rfl (q_fieldAddr tok rfl rfl rfl rfl rfl rfl) ?_
                    refine AOps.w rfl rfl (o_store tok rfl rfl rfl rfl rfl rfl rfl rfl rfl (by decide) rfl z61q) ?_
                    refine AOps.nil ?_
                    refine AGo.seq ?_
                    refine AGo.region ?_
                    refine AOps.s 59 rfl rfl rfl (q_fieldAddr tok rfl rfl rfl rfl rfl rfl) ?_
                    refine AOps.s 60 rfl rfl rfl (q_load tok rfl rfl rfl z54q rfl) ?_
                    refine AOps.s 61 rfl rfl rfl (q_move (.inl rfl) rfl) ?_
                    refine AOps.x 62 rfl rfl rfl (o_pure rfl Try.func62 (by kernel_rfl) rfl rfl rfl (within_ok _ _)) ?_
                    refine AOps.s 63 rfl rfl rfl (q_not rfl rfl) ?_
                    refine AOps.nil ?_
                    refine AGo.split 63 rfl (fun hb14 => ?_) (fun hb14 => ?_)
                    · -- True
                      refine AGo.cond_true true rfl rfl ?_
                      refine AGo.seq ?_
                      refine AGo.region ?_
                      refine AOps.s 8 rfl rfl rfl (q_move (.inr rfl) rfl) ?_
                      refine AOps.nil ?_
                      refine AGo.ret ?_
                      refine ⟨[_], ⟨rfl, trivial⟩, ?_, rfl⟩
                      show AV.bool _ = AV.bool _
                      congr 1
                      exact (fits_d z57q z65q).symm
                    · -- False
                      refine AGo.cond_false false rfl rfl ?_
                      refine AGo.skip ?_
                      exact ⟨t.d, Sub.mk' z53q z36q, ⟨by have h := ‹(!within t.d regs) = false›; simp at h; simp [h], by first | (simp [setsOp, *]; done) | simp [sets_pos ‹_›]⟩⟩
                  · -- False
                    refine AOps.s 52 rfl rfl rfl (q_fieldAddr tok rfl rfl rfl rfl rfl rfl) ?_
                    refine AOps.s 53 rfl rfl rfl (q_load tok rfl rfl rfl z54q rfl) ?_
                    refine AOps.s 54 rfl rfl rfl (q_bin rfl rfl rfl rfl) ?_
                    refine AOps.s 55 rfl rfl rfl (q_pick_false false rfl rfl rfl rfl) ?_
                    refine AOps.nil ?_
                    refine AGo.split 55 rfl (fun hb15 => ?_) (fun hb15 => ?_)
                    · -- True
                      refine AGo.cond_true true rfl rfl ?_
                      refine AGo.seq ?_
                      refine AGo.region ?_
                      refine AOps.s 56 rfl rfl rfl (q_fieldAddr tok rfl rfl rfl rfl rfl rfl) ?_
                      refine AOps.s 57 rfl rfl rfl (q_load tok rfl rfl rfl z54q rfl) ?_
                      refine AOps.s 58 rfl rfl rfl (q_fieldAddr tok rfl rfl rfl rfl rfl rfl) ?_
                      refine AOps.w rfl rfl (o_store tok rfl rfl rfl rfl rfl rfl rfl rfl rfl (by decide) rfl z61q) ?_
                      refine AOps.nil ?_
                      refine AGo.seq ?_
                      refine AGo.region ?_
                      refine AOps.s 59 rfl rfl rfl (q_fieldAddr tok rfl rfl rfl rfl rfl rfl) ?_
                      refine AOps.s 60 rfl rfl rfl (q_load tok rfl rfl rfl z54q rfl) ?_
                      refine AOps.s 61 rfl rfl rfl (q_move (.inl rfl) rfl) ?_
                      refine AOps.x 62 rfl rfl rfl (o_pure rfl Try.func62 (by kernel_rfl) rfl rfl rfl (within_ok _ _)) ?_
                      refine AOps.s 63 rfl rfl rfl (q_not rfl rfl) ?_
                      refine AOps.nil ?_
                      refine AGo.split 63 rfl (fun hb16 => ?_) (fun hb16 => ?_)
                      · -- True
                        refine AGo.cond_true true rfl rfl ?_
                        refine AGo.seq ?_
                        refine AGo.region ?_
                        refine AOps.s 8 rfl rfl rfl (q_move (.inr rfl) rfl) ?_
                        refine AOps.nil ?_
                        refine AGo.ret ?_
                        refine ⟨[_], ⟨rfl, trivial⟩, ?_, rfl⟩
                        show AV.bool _ = AV.bool _
                        congr 1
                        exact (fits_d z57q z65q).symm
                      · -- False
                        refine AGo.cond_false false rfl rfl ?_
                        refine AGo.skip ?_
                        exact ⟨t.d, Sub.mk' z53q z36q, ⟨by have h := ‹(!within t.d regs) = false›; simp at h; simp [h], by first | (simp [setsOp, *]; done) | simp [sets_pos ‹_›]⟩⟩
                    · -- False
                      refine AGo.cond_false false rfl rfl ?_
                      refine AGo.skip ?_
                      exact ⟨0, Sub.mk' z53q z36q, ⟨by simp [setsOp, *], by simp [setsOp, *]⟩⟩
      intro d ⟨hd, hdd⟩
      refine AGo.seq ?_
      refine AGo.region ?_
      refine AOps.s 64 rfl rfl rfl (q_load tok rfl rfl rfl z54q rfl) ?_
      refine AOps.x 65 rfl rfl rfl (o_pure rfl Try.func63 (by kernel_rfl) rfl rfl rfl (uses_ok _)) ?_
      refine AOps.s 10 rfl rfl rfl (q_move (.inr rfl) rfl) ?_
      refine AOps.nil ?_
      refine AGo.seq ?_
      refine AGo.seq ?_
      refine AGo.region ?_
      refine AOps.s 11 rfl rfl rfl (q_move (.inr rfl) rfl) ?_
      refine AOps.nil ?_
      refine AGo.block ?_
      refine AGo.loopD (γ := Nat) 2 (fun j => ⟨166, (eput (eput (eput (eput (eput (eput (eput eNew 1 (.int .i64 f)) 2 (.int .i64 regs)) 3 (.int .i64 words)) 4 (.ptr 0 1 0 0)) 9 (.ptr 1 1 0 0)) 10 (intsAV t.uses)) 11 (.int .i64 (j : Int))), (hput (hput (hFrom 2) 0 (.row false 8 [t.cells])) 1 (.row false 8 [[.int .i64 t.op, .int .i64 d, .int .i64 0, .int .i64 0, .int .i64 0, .int .i64 0, .int .i64 0, .int .u32 0]]))⟩) (fun j => (t.uses.take j).all (fun r => within r regs) = true) (fun j => t.uses.length - j) 0 (Sub.mk' z53q z36q) rfl (fun _ => hput_free (hput_free (fun b hb => hFrom_free hb) rfl) rfl) ?_
      intro j hj
      refine AGo.seq ?_
      refine AGo.seq ?_
      refine AGo.region ?_
      refine AOps.s 66 rfl rfl rfl (q_move (.inl rfl) rfl) ?_
      refine AOps.s 67 rfl rfl rfl (q_move (.inl rfl) rfl) ?_
      refine AOps.s 68 rfl rfl rfl (q_len tok rfl rfl rfl rfl rfl) ?_
      refine AOps.s 69 rfl rfl rfl (q_bin rfl rfl rfl rfl) ?_
      refine AOps.nil ?_
      refine AGo.split 69 rfl (fun hb17 => ?_) (fun hb17 => ?_)
      · -- True
        refine AGo.cond_true true rfl rfl ?_
        have hjl : j < t.uses.length := lt_of_idx hb17
        obtain ⟨u, hu⟩ := get_of_lt hjl
        refine AGo.skip ?_
        refine AGo.seq ?_
        refine AGo.block ?_
        refine AGo.seq ?_
        refine AGo.region ?_
        refine AOps.s 72 rfl rfl rfl (q_move (.inl rfl) rfl) ?_
        refine AOps.s 73 rfl rfl rfl (q_move (.inl rfl) rfl) ?_
        refine AOps.s 74 rfl rfl rfl (q_index_lst tok rfl rfl rfl rfl rfl rfl (Int.natCast_nonneg _) (idx_map (by assumption)) rfl) ?_
        refine AOps.s 75 rfl rfl rfl (q_load tok rfl rfl rfl z54q rfl) ?_
        refine AOps.s 76 rfl rfl rfl (q_move (.inl rfl) rfl) ?_
        refine AOps.x 77 rfl rfl rfl (o_pure rfl Try.func62 (by kernel_rfl) rfl rfl rfl (within_ok _ _)) ?_
        refine AOps.s 78 rfl rfl rfl (q_not rfl rfl) ?_
        refine AOps.nil ?_
        refine AGo.split 78 rfl (fun hb18 => ?_) (fun hb18 => ?_)
        · -- True
          refine AGo.cond_true true rfl rfl ?_
          have hbw := hb18
          refine AGo.seq ?_
          refine AGo.region ?_
          refine AOps.s 8 rfl rfl rfl (q_move (.inr rfl) rfl) ?_
          refine AOps.nil ?_
          refine AGo.ret ?_
          refine ⟨[_], ⟨rfl, trivial⟩, ?_, rfl⟩
          show AV.bool _ = AV.bool _
          congr 1
          exact (fits_use (all_bad hu (by simpa using hbw))).symm
        · -- False
          refine AGo.cond_false false rfl rfl ?_
          have hbw := hb18
          refine AGo.skip ?_
          refine AGo.region ?_
          refine AOps.s 70 rfl rfl rfl (q_move (.inl rfl) rfl) ?_
          refine AOps.s 71 rfl rfl rfl (q_inc rfl rfl hjl (Nat.le_trans (uses_len t) (by decide))) ?_
          refine AOps.s 11 rfl rfl rfl (q_move (.inr rfl) rfl) ?_
          refine AOps.nil ?_
          exact ⟨j+1, Drop.mk' (by repeat (first | exact EDrop.new _ _ | refine EDrop.put ?_ (by rfl) rfl)) z49q, all_succ hu hj (by simpa using hbw), by omega⟩
      · -- False
        refine AGo.cond_false false rfl rfl ?_
        have hall := all_end hj (ge_of_idx hb17)
        refine AGo.exit ?_
        refine AGo.seq ?_
        refine AGo.join (γ := Int) (fun a => ⟨166, (eput (eput (eput (eput (eput (eput eNew 1 (.int .i64 f)) 2 (.int .i64 regs)) 3 (.int .i64 words)) 4 (.ptr 0 1 0 0)) 9 (.ptr 1 1 0 0)) 10 (intsAV t.uses)), (hput (hput (hFrom 2) 0 (.row false 8 [t.cells])) 1 (.row false 8 [[.int .i64 t.op, .int .i64 d, .int .i64 a, .int .i64 0, .int .i64 0, .int .i64 0, .int .i64 0, .int .u32 0]]))⟩) (fun a => a = bif use1 t.op || use2 t.op then t.a else 0) ?_ ?_
        · -- to the join
          refine AGo.seq ?_
          refine AGo.region ?_
          refine AOps.s 79 rfl rfl rfl (q_move (.inl rfl) rfl) ?_
          refine AOps.s 80 rfl rfl rfl (q_len tok rfl rfl rfl rfl rfl) ?_
          refine AOps.s 81 rfl rfl rfl (q_bin rfl rfl rfl rfl) ?_
          refine AOps.nil ?_
          refine AGo.split 81 rfl (fun hb19 => ?_) (fun hb19 => ?_)
          · -- True
            refine AGo.cond_true true rfl rfl ?_
            refine AGo.region ?_
            refine AOps.s 82 rfl rfl rfl (q_fieldAddr tok rfl rfl rfl rfl rfl rfl) ?_
            refine AOps.s 83 rfl rfl rfl (q_load tok rfl rfl rfl z54q rfl) ?_
            refine AOps.s 84 rfl rfl rfl (q_fieldAddr tok rfl rfl rfl rfl rfl rfl) ?_
            refine AOps.w rfl rfl (o_store tok rfl rfl rfl rfl rfl rfl rfl rfl rfl (by decide) rfl z61q) ?_
            refine AOps.nil ?_
            exact ⟨t.a, Sub.mk' z53q z36q, by have h3 := use12 t.op; cases h1 : use1 t.op <;> cases h2 : use2 t.op <;> simp_all [Tac.uses]⟩
          · -- False
            refine AGo.cond_false false rfl rfl ?_
            refine AGo.skip ?_
            exact ⟨0, Sub.mk' z53q z36q, by have h3 := use12 t.op; cases h1 : use1 t.op <;> cases h2 : use2 t.op <;> simp_all [Tac.uses]⟩
        intro a haa
        refine AGo.seq ?_
        refine AGo.join (γ := Int) (fun b => ⟨166, (eput (eput (eput (eput (eput eNew 1 (.int .i64 f)) 2 (.int .i64 regs)) 3 (.int .i64 words)) 4 (.ptr 0 1 0 0)) 9 (.ptr 1 1 0 0)), (hput (hput (hFrom 2) 0 (.row false 8 [t.cells])) 1 (.row false 8 [[.int .i64 t.op, .int .i64 d, .int .i64 a, .int .i64 b, .int .i64 0, .int .i64 0, .int .i64 0, .int .u32 0]]))⟩) (fun b => b = bif use2 t.op then t.b else 0) ?_ ?_
        · -- to the join
          refine AGo.seq ?_
          refine AGo.region ?_
          refine AOps.s 85 rfl rfl rfl (q_move (.inl rfl) rfl) ?_
          refine AOps.s 86 rfl rfl rfl (q_len tok rfl rfl rfl rfl rfl) ?_
          refine AOps.s 87 rfl rfl rfl (q_bin rfl rfl rfl rfl) ?_
          refine AOps.nil ?_
          refine AGo.split 87 rfl (fun hb20 => ?_) (fun hb20 => ?_)
          · -- True
            refine AGo.cond_true true rfl rfl ?_
            refine AGo.region ?_
            refine AOps.s 88 rfl rfl rfl (q_fieldAddr tok rfl rfl rfl rfl rfl rfl) ?_
            refine AOps.s 89 rfl rfl rfl (q_load tok rfl rfl rfl z54q rfl) ?_
            refine AOps.s 90 rfl rfl rfl (q_fieldAddr tok rfl rfl rfl rfl rfl rfl) ?_
            refine AOps.w rfl rfl (o_store tok rfl rfl rfl rfl rfl rfl rfl rfl rfl (by decide) rfl z61q) ?_
            refine AOps.nil ?_
            exact ⟨t.b, Sub.mk' z53q z36q, by have h3 := use12 t.op; cases h1 : use1 t.op <;> cases h2 : use2 t.op <;> simp_all [Tac.uses]⟩
          · -- False
            refine AGo.cond_false false rfl rfl ?_
            refine AGo.skip ?_
            exact ⟨0, Sub.mk' z53q z36q, by have h3 := use12 t.op; cases h1 : use1 t.op <;> cases h2 : use2 t.op <;> simp_all [Tac.uses]⟩
        intro b hbb
        refine AGo.seq ?_
        refine AGo.seq ?_
        refine AGo.region ?_
        refine AOps.s 91 rfl rfl rfl (q_fieldAddr tok rfl rfl rfl rfl rfl rfl) ?_
        refine AOps.s 92 rfl rfl rfl (q_load tok rfl rfl rfl z54q rfl) ?_
        refine AOps.nil ?_
        refine AGo.block ?_
        refine AGo.seq ?_
        refine AGo.region ?_
        refine AOps.s 94 rfl rfl rfl (q_bin rfl rfl rfl rfl) ?_
        refine AOps.s 93 rfl rfl rfl (q_move (.inr rfl) rfl) ?_
        refine AOps.nil ?_
        refine AGo.split 93 rfl (fun hb21 => ?_) (fun hb21 => ?_)
        · -- True
          refine AGo.cond_true true rfl rfl ?_
          refine AGo.region ?_
          refine AOps.s 95 rfl rfl rfl (q_fieldAddr tok rfl rfl rfl rfl rfl rfl) ?_
          refine AOps.s 96 rfl rfl rfl (q_load tok rfl rfl rfl z54q rfl) ?_
          refine AOps.s 97 rfl rfl rfl (q_fieldAddr tok rfl rfl rfl rfl rfl rfl) ?_
          refine AOps.w rfl rfl (o_store tok rfl rfl rfl rfl rfl rfl rfl rfl rfl (by decide) rfl z61q) ?_
          refine AOps.nil ?_
          refine AGo.seq ?_
          refine AGo.region ?_
          refine AOps.s 163 rfl rfl rfl (q_load tok rfl rfl rfl z54q rfl) ?_
          refine AOps.s 164 rfl rfl rfl (q_load tok rfl rfl rfl z54q rfl) ?_
          refine AOps.s 165 rfl rfl rfl (q_eqStruct tok false rfl rfl rfl (by kernel_rfl) rfl rfl rfl rfl rfl) ?_
          refine AOps.s 8 rfl rfl rfl (q_move (.inr rfl) rfl) ?_
          refine AOps.nil ?_
          refine AGo.ret ?_
          refine ⟨[_], ⟨rfl, trivial⟩, ?_, rfl⟩
          show AV.bool _ = AV.bool _
          congr 1
          have hwr : 1 ≤ t.size → t.size ≤ 4096 → IntKind.i64.wrap (words - t.size) = words - t.size := fun h1 h2 => wrap_i64 (by omega) (by omega)
          rw [fits_same hb1 hb2 hd hall z62q]
          subst hdd haa hbb
          clear hd hj hall hwr hw hw2 hb1 hb2
          first | (simp_all [Tac.same, Tac.want, baseOp, arrOp, setsOp, use1, use2]; done) | simp [Tac.same, Tac.want, baseOp, arrOp, *]
        · -- False
          refine AGo.cond_false false rfl rfl ?_
          refine AGo.seq ?_
          refine AGo.region ?_
          refine AOps.s 99 rfl rfl rfl (q_bin rfl rfl rfl rfl) ?_
          refine AOps.s 98 rfl rfl rfl (q_move (.inr rfl) rfl) ?_
          refine AOps.nil ?_
          refine AGo.split 98 rfl (fun hb22 => ?_) (fun hb22 => ?_)
          · -- True
            refine AGo.cond_true true rfl rfl ?_
            refine AGo.seq ?_
            refine AGo.region ?_
            refine AOps.s 100 rfl rfl rfl (q_fieldAddr tok rfl rfl rfl rfl rfl rfl) ?_
            refine AOps.s 101 rfl rfl rfl (q_load tok rfl rfl rfl z54q rfl) ?_
            refine AOps.s 102 rfl rfl rfl (q_fieldAddr tok rfl rfl rfl rfl rfl rfl) ?_
            refine AOps.w rfl rfl (o_store tok rfl rfl rfl rfl rfl rfl rfl rfl rfl (by decide) rfl z61q) ?_
            refine AOps.nil ?_
            refine AGo.seq ?_
            refine AGo.region ?_
            refine AOps.s 103 rfl rfl rfl (q_fieldAddr tok rfl rfl rfl rfl rfl rfl) ?_
            refine AOps.s 104 rfl rfl rfl (q_load tok rfl rfl rfl z54q rfl) ?_
            refine AOps.s 105 rfl rfl rfl (q_bin rfl rfl rfl rfl) ?_
            refine AOps.s 106 rfl rfl rfl (q_move (.inl rfl) rfl) ?_
            refine AOps.split 106 rfl (fun hb23 => ?_) (fun hb23 => ?_)
            · -- True
              refine AOps.k 107 rfl rfl rfl ?_
              refine AOps.k 108 rfl rfl rfl ?_
              refine AOps.k 109 rfl rfl rfl ?_
              refine AOps.s 110 rfl rfl rfl (q_pick_true true rfl rfl rfl rfl) ?_
              refine AOps.nil ?_
              refine AGo.cond_true true rfl rfl ?_
              refine AGo.seq ?_
              refine AGo.region ?_
              refine AOps.s 8 rfl rfl rfl (q_move (.inr rfl) rfl) ?_
              refine AOps.nil ?_
              refine AGo.ret ?_
              refine ⟨[_], ⟨rfl, trivial⟩, ?_, rfl⟩
              show AV.bool _ = AV.bool _
              congr 1
              exact (fits_rest z62q).symm
            · -- False
              refine AOps.s 107 rfl rfl rfl (q_fieldAddr tok rfl rfl rfl rfl rfl rfl) ?_
              refine AOps.s 108 rfl rfl rfl (q_load tok rfl rfl rfl z54q rfl) ?_
              refine AOps.s 109 rfl rfl rfl (q_bin rfl rfl rfl rfl) ?_
              refine AOps.s 110 rfl rfl rfl (q_pick_false false rfl rfl rfl rfl) ?_
              refine AOps.nil ?_
              refine AGo.split 110 rfl (fun hb24 => ?_) (fun hb24 => ?_)
              · -- True
                refine AGo.cond_true true rfl rfl ?_
                refine AGo.seq ?_
                refine AGo.region ?_
                refine AOps.s 8 rfl rfl rfl (q_move (.inr rfl) rfl) ?_
                refine AOps.nil ?_
                refine AGo.ret ?_
                refine ⟨[_], ⟨rfl, trivial⟩, ?_, rfl⟩
                show AV.bool _ = AV.bool _
                congr 1
                exact (fits_rest z62q).symm
              · -- False
                refine AGo.cond_false false rfl rfl ?_
                refine AGo.skip ?_
                refine AGo.seq ?_
                refine AGo.region ?_
                refine AOps.s 163 rfl rfl rfl (q_load tok rfl rfl rfl z54q rfl) ?_
                refine AOps.s 164 rfl rfl rfl (q_load tok rfl rfl rfl z54q rfl) ?_
                refine AOps.s 165 rfl rfl rfl (q_eqStruct tok false rfl rfl rfl (by kernel_rfl) rfl rfl rfl rfl rfl) ?_
                refine AOps.s 8 rfl rfl rfl (q_move (.inr rfl) rfl) ?_
                refine AOps.nil ?_
                refine AGo.ret ?_
                refine ⟨[_], ⟨rfl, trivial⟩, ?_, rfl⟩
                show AV.bool _ = AV.bool _
                congr 1
                have hwr : 1 ≤ t.size → t.size ≤ 4096 → IntKind.i64.wrap (words - t.size) = words - t.size := fun h1 h2 => wrap_i64 (by omega) (by omega)
                rw [fits_same hb1 hb2 hd hall z62q]
                subst hdd haa hbb
                clear hd hj hall hwr hw hw2 hb1 hb2
                first | (simp_all [Tac.same, Tac.want, baseOp, arrOp, setsOp, use1, use2]; done) | simp [Tac.same, Tac.want, baseOp, arrOp, *]
          · -- False
            refine AGo.cond_false false rfl rfl ?_
            refine AGo.seq ?_
            refine AGo.seq ?_
            refine AGo.region ?_
            refine AOps.s 112 rfl rfl rfl (q_bin rfl rfl rfl rfl) ?_
            refine AOps.s 111 rfl rfl rfl (q_move (.inr rfl) rfl) ?_
            refine AOps.nil ?_
            refine AGo.split 111 rfl (fun hb25 => ?_) (fun hb25 => ?_)
            · -- True
              refine AGo.cond_true true rfl rfl ?_
              refine AGo.skip ?_
              refine AGo.cond_true true rfl rfl ?_
              refine AGo.seq ?_
              refine AGo.region ?_
              refine AOps.s 114 rfl rfl rfl (q_fieldAddr tok rfl rfl rfl rfl rfl rfl) ?_
              refine AOps.s 115 rfl rfl rfl (q_load tok rfl rfl rfl z54q rfl) ?_
              refine AOps.s 116 rfl rfl rfl (q_fieldAddr tok rfl rfl rfl rfl rfl rfl) ?_
              refine AOps.w rfl rfl (o_store tok rfl rfl rfl rfl rfl rfl rfl rfl rfl (by decide) rfl z61q) ?_
              refine AOps.nil ?_
              refine AGo.seq ?_
              refine AGo.region ?_
              refine AOps.s 117 rfl rfl rfl (q_fieldAddr tok rfl rfl rfl rfl rfl rfl) ?_
              refine AOps.s 118 rfl rfl rfl (q_load tok rfl rfl rfl z54q rfl) ?_
              refine AOps.s 119 rfl rfl rfl (q_move (.inl rfl) rfl) ?_
              refine AOps.x 120 rfl rfl rfl (o_pure rfl Try.func62 (by kernel_rfl) rfl rfl rfl (within_ok _ _)) ?_
              refine AOps.s 121 rfl rfl rfl (q_not rfl rfl) ?_
              refine AOps.nil ?_
              refine AGo.split 121 rfl (fun hb26 => ?_) (fun hb26 => ?_)
              · -- True
                refine AGo.cond_true true rfl rfl ?_
                refine AGo.seq ?_
                refine AGo.region ?_
                refine AOps.s 8 rfl rfl rfl (q_move (.inr rfl) rfl) ?_
                refine AOps.nil ?_
                refine AGo.ret ?_
                refine ⟨[_], ⟨rfl, trivial⟩, ?_, rfl⟩
                show AV.bool _ = AV.bool _
                congr 1
                exact (fits_rest z62q).symm
              · -- False
                refine AGo.cond_false false rfl rfl ?_
                refine AGo.skip ?_
                refine AGo.seq ?_
                refine AGo.region ?_
                refine AOps.s 163 rfl rfl rfl (q_load tok rfl rfl rfl z54q rfl) ?_
                refine AOps.s 164 rfl rfl rfl (q_load tok rfl rfl rfl z54q rfl) ?_
                refine AOps.s 165 rfl rfl rfl (q_eqStruct tok false rfl rfl rfl (by kernel_rfl) rfl rfl rfl rfl rfl) ?_
                refine AOps.s 8 rfl rfl rfl (q_move (.inr rfl) rfl) ?_
                refine AOps.nil ?_
                refine AGo.ret ?_
                refine ⟨[_], ⟨rfl, trivial⟩, ?_, rfl⟩
                show AV.bool _ = AV.bool _
                congr 1
                have hwr : 1 ≤ t.size → t.size ≤ 4096 → IntKind.i64.wrap (words - t.size) = words - t.size := fun h1 h2 => wrap_i64 (by omega) (by omega)
                rw [fits_same hb1 hb2 hd hall z62q]
                subst hdd haa hbb
                clear hd hj hall hwr hw hw2 hb1 hb2
                first | (simp_all [Tac.same, Tac.want, baseOp, arrOp, setsOp, use1, use2]; done) | simp [Tac.same, Tac.want, baseOp, arrOp, *]
            · -- False
              refine AGo.cond_false false rfl rfl ?_
              refine AGo.region ?_
              refine AOps.s 113 rfl rfl rfl (q_bin rfl rfl rfl rfl) ?_
              refine AOps.s 111 rfl rfl rfl (q_move (.inr rfl) rfl) ?_
              refine AOps.nil ?_
              refine AGo.split 111 rfl (fun hb27 => ?_) (fun hb27 => ?_)
              · -- True
                refine AGo.cond_true true rfl rfl ?_
                refine AGo.seq ?_
                refine AGo.region ?_
                refine AOps.s 114 rfl rfl rfl (q_fieldAddr tok rfl rfl rfl rfl rfl rfl) ?_
                refine AOps.s 115 rfl rfl rfl (q_load tok rfl rfl rfl z54q rfl) ?_
                refine AOps.s 116 rfl rfl rfl (q_fieldAddr tok rfl rfl rfl rfl rfl rfl) ?_
                refine AOps.w rfl rfl (o_store tok rfl rfl rfl rfl rfl rfl rfl rfl rfl (by decide) rfl z61q) ?_
                refine AOps.nil ?_
                refine AGo.seq ?_
                refine AGo.region ?_
                refine AOps.s 117 rfl rfl rfl (q_fieldAddr tok rfl rfl rfl rfl rfl rfl) ?_
                refine AOps.s 118 rfl rfl rfl (q_load tok rfl rfl rfl z54q rfl) ?_
                refine AOps.s 119 rfl rfl rfl (q_move (.inl rfl) rfl) ?_
                refine AOps.x 120 rfl rfl rfl (o_pure rfl Try.func62 (by kernel_rfl) rfl rfl rfl (within_ok _ _)) ?_
                refine AOps.s 121 rfl rfl rfl (q_not rfl rfl) ?_
                refine AOps.nil ?_
                refine AGo.split 121 rfl (fun hb28 => ?_) (fun hb28 => ?_)
                · -- True
                  refine AGo.cond_true true rfl rfl ?_
                  refine AGo.seq ?_
                  refine AGo.region ?_
                  refine AOps.s 8 rfl rfl rfl (q_move (.inr rfl) rfl) ?_
                  refine AOps.nil ?_
                  refine AGo.ret ?_
                  refine ⟨[_], ⟨rfl, trivial⟩, ?_, rfl⟩
                  show AV.bool _ = AV.bool _
                  congr 1
                  exact (fits_rest z62q).symm
                · -- False
                  refine AGo.cond_false false rfl rfl ?_
                  refine AGo.skip ?_
                  refine AGo.seq ?_
                  refine AGo.region ?_
                  refine AOps.s 163 rfl rfl rfl (q_load tok rfl rfl rfl z54q rfl) ?_
                  refine AOps.s 164 rfl rfl rfl (q_load tok rfl rfl rfl z54q rfl) ?_
                  refine AOps.s 165 rfl rfl rfl (q_eqStruct tok false rfl rfl rfl (by kernel_rfl) rfl rfl rfl rfl rfl) ?_
                  refine AOps.s 8 rfl rfl rfl (q_move (.inr rfl) rfl) ?_
                  refine AOps.nil ?_
                  refine AGo.ret ?_
                  refine ⟨[_], ⟨rfl, trivial⟩, ?_, rfl⟩
                  show AV.bool _ = AV.bool _
                  congr 1
                  have hwr : 1 ≤ t.size → t.size ≤ 4096 → IntKind.i64.wrap (words - t.size) = words - t.size := fun h1 h2 => wrap_i64 (by omega) (by omega)
                  rw [fits_same hb1 hb2 hd hall z62q]
                  subst hdd haa hbb
                  clear hd hj hall hwr hw hw2 hb1 hb2
                  first | (simp_all [Tac.same, Tac.want, baseOp, arrOp, setsOp, use1, use2]; done) | simp [Tac.same, Tac.want, baseOp, arrOp, *]
              · -- False
                refine AGo.cond_false false rfl rfl ?_
                refine AGo.seq ?_
                refine AGo.seq ?_
                refine AGo.region ?_
                refine AOps.s 123 rfl rfl rfl (q_bin rfl rfl rfl rfl) ?_
                refine AOps.s 122 rfl rfl rfl (q_move (.inr rfl) rfl) ?_
                refine AOps.nil ?_
                refine AGo.split 122 rfl (fun hb29 => ?_) (fun hb29 => ?_)
                · -- True
                  refine AGo.cond_true true rfl rfl ?_
                  refine AGo.skip ?_
                  refine AGo.cond_true true rfl rfl ?_
                  refine AGo.seq ?_
                  refine AGo.draw mix ?_
                  refine DOps.s 125 rfl rfl rfl (q_fieldAddr tok rfl rfl rfl rfl rfl rfl) ?_
                  refine DOps.s 126 rfl rfl rfl (q_load tok rfl rfl rfl z54q rfl) ?_
                  refine DOps.s 127 rfl rfl rfl (q_fieldAddr tok rfl rfl rfl rfl rfl rfl) ?_
                  refine DOps.s 128 rfl rfl rfl (q_load tok rfl rfl rfl z54q rfl) ?_
                  refine DOps.s 129 rfl rfl rfl (q_fieldAddr tok rfl rfl rfl rfl rfl rfl) ?_
                  refine DOps.w rfl rfl (o_store tok rfl rfl rfl rfl rfl rfl rfl rfl rfl (by decide) rfl z61q) ?_
                  refine DOps.s 130 rfl rfl rfl (q_fieldAddr tok rfl rfl rfl rfl rfl rfl) ?_
                  refine DOps.w rfl rfl (o_store tok rfl rfl rfl rfl rfl rfl rfl rfl rfl (by decide) rfl z61q) ?_
                  refine DOps.nil (by kernel_rfl) ?_
                  refine AGo.seq ?_
                  refine AGo.region ?_
                  refine AOps.s 131 rfl rfl rfl (q_fieldAddr tok rfl rfl rfl rfl rfl rfl) ?_
                  refine AOps.s 132 rfl rfl rfl (q_load tok rfl rfl rfl z54q rfl) ?_
                  refine AOps.s 133 rfl rfl rfl (q_bin rfl rfl rfl rfl) ?_
                  refine AOps.s 134 rfl rfl rfl (q_move (.inl rfl) rfl) ?_
                  refine AOps.split 134 rfl (fun hb30 => ?_) (fun hb30 => ?_)
                  · -- True
                    refine AOps.k 135 rfl rfl rfl ?_
                    refine AOps.k 136 rfl rfl rfl ?_
                    refine AOps.k 137 rfl rfl rfl ?_
                    refine AOps.s 138 rfl rfl rfl (q_pick_true true rfl rfl rfl rfl) ?_
                    refine AOps.s 139 rfl rfl rfl (q_move (.inl rfl) rfl) ?_
                    refine AOps.k 140 rfl rfl rfl ?_
                    refine AOps.k 141 rfl rfl rfl ?_
                    refine AOps.k 142 rfl rfl rfl ?_
                    refine AOps.s 143 rfl rfl rfl (q_pick_true true rfl rfl rfl rfl) ?_
                    refine AOps.s 144 rfl rfl rfl (q_move (.inl rfl) rfl) ?_
                    refine AOps.k 145 rfl rfl rfl ?_
                    refine AOps.k 146 rfl rfl rfl ?_
                    refine AOps.k 147 rfl rfl rfl ?_
                    refine AOps.k 148 rfl rfl rfl ?_
                    refine AOps.k 149 rfl rfl rfl ?_
                    refine AOps.k 150 rfl rfl rfl ?_
                    refine AOps.k 151 rfl rfl rfl ?_
                    refine AOps.s 152 rfl rfl rfl (q_pick_true true rfl rfl rfl rfl) ?_
                    refine AOps.nil ?_
                    refine AGo.cond_true true rfl rfl ?_
                    refine AGo.seq ?_
                    refine AGo.region ?_
                    refine AOps.s 8 rfl rfl rfl (q_move (.inr rfl) rfl) ?_
                    refine AOps.nil ?_
                    refine AGo.ret ?_
                    refine ⟨[_], ⟨rfl, trivial⟩, ?_, rfl⟩
                    show AV.bool _ = AV.bool _
                    congr 1
                    have hwr : 1 ≤ t.size → t.size ≤ 4096 → IntKind.i64.wrap (words - t.size) = words - t.size := fun h1 h2 => wrap_i64 (by omega) (by omega)
                    exact (fits_rest z62q).symm
                  · -- False
                    refine AOps.s 135 rfl rfl rfl (q_fieldAddr tok rfl rfl rfl rfl rfl rfl) ?_
                    refine AOps.s 136 rfl rfl rfl (q_load tok rfl rfl rfl z54q rfl) ?_
                    refine AOps.s 137 rfl rfl rfl (q_bin rfl rfl rfl rfl) ?_
                    refine AOps.s 138 rfl rfl rfl (q_pick_false false rfl rfl rfl rfl) ?_
                    refine AOps.s 139 rfl rfl rfl (q_move (.inl rfl) rfl) ?_
                    refine AOps.split 139 rfl (fun hb31 => ?_) (fun hb31 => ?_)
                    · -- True
                      refine AOps.k 140 rfl rfl rfl ?_
                      refine AOps.k 141 rfl rfl rfl ?_
                      refine AOps.k 142 rfl rfl rfl ?_
                      refine AOps.s 143 rfl rfl rfl (q_pick_true true rfl rfl rfl rfl) ?_
                      refine AOps.s 144 rfl rfl rfl (q_move (.inl rfl) rfl) ?_
                      refine AOps.k 145 rfl rfl rfl ?_
                      refine AOps.k 146 rfl rfl rfl ?_
                      refine AOps.k 147 rfl rfl rfl ?_
                      refine AOps.k 148 rfl rfl rfl ?_
                      refine AOps.k 149 rfl rfl rfl ?_
                      refine AOps.k 150 rfl rfl rfl ?_
                      refine AOps.k 151 rfl rfl rfl ?_
                      refine AOps.s 152 rfl rfl rfl (q_pick_true true rfl rfl rfl rfl) ?_
                      refine AOps.nil ?_
                      refine AGo.cond_true true rfl rfl ?_
                      refine AGo.seq ?_
                      refine AGo.region ?_
                      refine AOps.s 8 rfl rfl rfl (q_move (.inr rfl) rfl) ?_
                      refine AOps.nil ?_
                      refine AGo.ret ?_
                      refine ⟨[_], ⟨rfl, trivial⟩, ?_, rfl⟩
                      show AV.bool _ = AV.bool _
                      congr 1
                      have hwr : 1 ≤ t.size → t.size ≤ 4096 → IntKind.i64.wrap (words - t.size) = words - t.size := fun h1 h2 => wrap_i64 (by omega) (by omega)
                      exact (fits_rest z62q).symm
                    · -- False
                      refine AOps.s 140 rfl rfl rfl (q_fieldAddr tok rfl rfl rfl rfl rfl rfl) ?_
                      refine AOps.s 141 rfl rfl rfl (q_load tok rfl rfl rfl z54q rfl) ?_
                      refine AOps.s 142 rfl rfl rfl (q_bin rfl rfl rfl rfl) ?_
                      refine AOps.s 143 rfl rfl rfl (q_pick_false false rfl rfl rfl rfl) ?_
                      refine AOps.s 144 rfl rfl rfl (q_move (.inl rfl) rfl) ?_
                      refine AOps.split 144 rfl (fun hb32 => ?_) (fun hb32 => ?_)
                      · -- True
                        refine AOps.k 145 rfl rfl rfl ?_
                        refine AOps.k 146 rfl rfl rfl ?_
                        refine AOps.k 147 rfl rfl rfl ?_
                        refine AOps.k 148 rfl rfl rfl ?_
                        refine AOps.k 149 rfl rfl rfl ?_
                        refine AOps.k 150 rfl rfl rfl ?_
                        refine AOps.k 151 rfl rfl rfl ?_
                        refine AOps.s 152 rfl rfl rfl (q_pick_true true rfl rfl rfl rfl) ?_
                        refine AOps.nil ?_
                        refine AGo.cond_true true rfl rfl ?_
                        refine AGo.seq ?_
                        refine AGo.region ?_
                        refine AOps.s 8 rfl rfl rfl (q_move (.inr rfl) rfl) ?_
                        refine AOps.nil ?_
                        refine AGo.ret ?_
                        refine ⟨[_], ⟨rfl, trivial⟩, ?_, rfl⟩
                        show AV.bool _ = AV.bool _
                        congr 1
                        have hwr : 1 ≤ t.size → t.size ≤ 4096 → IntKind.i64.wrap (words - t.size) = words - t.size := fun h1 h2 => wrap_i64 (by omega) (by omega)
                        exact (fits_rest z62q).symm
                      · -- False
                        refine AOps.s 145 rfl rfl rfl (q_fieldAddr tok rfl rfl rfl rfl rfl rfl) ?_
                        refine AOps.s 146 rfl rfl rfl (q_load tok rfl rfl rfl z54q rfl) ?_
                        refine AOps.s 147 rfl rfl rfl (q_move (.inl rfl) rfl) ?_
                        refine AOps.s 148 rfl rfl rfl (q_fieldAddr tok rfl rfl rfl rfl rfl rfl) ?_
                        refine AOps.s 149 rfl rfl rfl (q_load tok rfl rfl rfl z54q rfl) ?_
                        refine AOps.s 150 rfl rfl rfl (q_bin rfl rfl rfl rfl) ?_
                        refine AOps.s 151 rfl rfl rfl (q_bin rfl rfl rfl rfl) ?_
                        refine AOps.s 152 rfl rfl rfl (q_pick_false false rfl rfl rfl rfl) ?_
                        refine AOps.nil ?_
                        refine AGo.split 152 rfl (fun hb33 => ?_) (fun hb33 => ?_)
                        · -- True
                          refine AGo.cond_true true rfl rfl ?_
                          refine AGo.seq ?_
                          refine AGo.region ?_
                          refine AOps.s 8 rfl rfl rfl (q_move (.inr rfl) rfl) ?_
                          refine AOps.nil ?_
                          refine AGo.ret ?_
                          refine ⟨[_], ⟨rfl, trivial⟩, ?_, rfl⟩
                          show AV.bool _ = AV.bool _
                          congr 1
                          have hwr : 1 ≤ t.size → t.size ≤ 4096 → IntKind.i64.wrap (words - t.size) = words - t.size := fun h1 h2 => wrap_i64 (by omega) (by omega)
                          exact (fits_rest z62q).symm
                        · -- False
                          refine AGo.cond_false false rfl rfl ?_
                          refine AGo.skip ?_
                          refine AGo.seq ?_
                          refine AGo.region ?_
                          refine AOps.s 163 rfl rfl rfl (q_load tok rfl rfl rfl z54q rfl) ?_
                          refine AOps.s 164 rfl rfl rfl (q_load tok rfl rfl rfl z54q rfl) ?_
                          refine AOps.s 165 rfl rfl rfl (q_eqStruct tok false rfl rfl rfl (by kernel_rfl) rfl rfl rfl rfl rfl) ?_
                          refine AOps.s 8 rfl rfl rfl (q_move (.inr rfl) rfl) ?_
                          refine AOps.nil ?_
                          refine AGo.ret ?_
                          refine ⟨[_], ⟨rfl, trivial⟩, ?_, rfl⟩
                          show AV.bool _ = AV.bool _
                          congr 1
                          have hwr : 1 ≤ t.size → t.size ≤ 4096 → IntKind.i64.wrap (words - t.size) = words - t.size := fun h1 h2 => wrap_i64 (by omega) (by omega)
                          rw [fits_same hb1 hb2 hd hall z62q]
                          subst hdd haa hbb
                          clear hd hj hall hwr hw hw2 hb1 hb2
                          first | (simp_all [Tac.same, Tac.want, baseOp, arrOp, setsOp, use1, use2]; done) | simp [Tac.same, Tac.want, baseOp, arrOp, *]
                · -- False
                  refine AGo.cond_false false rfl rfl ?_
                  refine AGo.region ?_
                  refine AOps.s 124 rfl rfl rfl (q_bin rfl rfl rfl rfl) ?_
                  refine AOps.s 122 rfl rfl rfl (q_move (.inr rfl) rfl) ?_
                  refine AOps.nil ?_
                  refine AGo.split 122 rfl (fun hb34 => ?_) (fun hb34 => ?_)
                  · -- True
                    refine AGo.cond_true true rfl rfl ?_
                    refine AGo.seq ?_
                    refine AGo.draw mix ?_
                    refine DOps.s 125 rfl rfl rfl (q_fieldAddr tok rfl rfl rfl rfl rfl rfl) ?_
                    refine DOps.s 126 rfl rfl rfl (q_load tok rfl rfl rfl z54q rfl) ?_
                    refine DOps.s 127 rfl rfl rfl (q_fieldAddr tok rfl rfl rfl rfl rfl rfl) ?_
                    refine DOps.s 128 rfl rfl rfl (q_load tok rfl rfl rfl z54q rfl) ?_
                    refine DOps.s 129 rfl rfl rfl (q_fieldAddr tok rfl rfl rfl rfl rfl rfl) ?_
                    refine DOps.w rfl rfl (o_store tok rfl rfl rfl rfl rfl rfl rfl rfl rfl (by decide) rfl z61q) ?_
                    refine DOps.s 130 rfl rfl rfl (q_fieldAddr tok rfl rfl rfl rfl rfl rfl) ?_
                    refine DOps.w rfl rfl (o_store tok rfl rfl rfl rfl rfl rfl rfl rfl rfl (by decide) rfl z61q) ?_
                    refine DOps.nil (by kernel_rfl) ?_
                    refine AGo.seq ?_
                    refine AGo.region ?_
                    refine AOps.s 131 rfl rfl rfl (q_fieldAddr tok rfl rfl rfl rfl rfl rfl) ?_
                    refine AOps.s 132 rfl rfl rfl (q_load tok rfl rfl rfl z54q rfl) ?_
                    refine AOps.s 133 rfl rfl rfl (q_bin rfl rfl rfl rfl) ?_
                    refine AOps.s 134 rfl rfl rfl (q_move (.inl rfl) rfl) ?_
                    refine AOps.split 134 rfl (fun hb35 => ?_) (fun hb35 => ?_)
                    · -- True
                      refine AOps.k 135 rfl rfl rfl ?_
                      refine AOps.k 136 rfl rfl rfl ?_
                      refine AOps.k 137 rfl rfl rfl ?_
                      refine AOps.s 138 rfl rfl rfl (q_pick_true true rfl rfl rfl rfl) ?_
                      refine AOps.s 139 rfl rfl rfl (q_move (.inl rfl) rfl) ?_
                      refine AOps.k 140 rfl rfl rfl ?_
                      refine AOps.k 141 rfl rfl rfl ?_
                      refine AOps.k 142 rfl rfl rfl ?_
                      refine AOps.s 143 rfl rfl rfl (q_pick_true true rfl rfl rfl rfl) ?_
                      refine AOps.s 144 rfl rfl rfl (q_move (.inl rfl) rfl) ?_
                      refine AOps.k 145 rfl rfl rfl ?_
                      refine AOps.k 146 rfl rfl rfl ?_
                      refine AOps.k 147 rfl rfl rfl ?_
                      refine AOps.k 148 rfl rfl rfl ?_
                      refine AOps.k 149 rfl rfl rfl ?_
                      refine AOps.k 150 rfl rfl rfl ?_
                      refine AOps.k 151 rfl rfl rfl ?_
                      refine AOps.s 152 rfl rfl rfl (q_pick_true true rfl rfl rfl rfl) ?_
                      refine AOps.nil ?_
                      refine AGo.cond_true true rfl rfl ?_
                      refine AGo.seq ?_
                      refine AGo.region ?_
                      refine AOps.s 8 rfl rfl rfl (q_move (.inr rfl) rfl) ?_
                      refine AOps.nil ?_
                      refine AGo.ret ?_
                      refine ⟨[_], ⟨rfl, trivial⟩, ?_, rfl⟩
                      show AV.bool _ = AV.bool _
                      congr 1
                      have hwr : 1 ≤ t.size → t.size ≤ 4096 → IntKind.i64.wrap (words - t.size) = words - t.size := fun h1 h2 => wrap_i64 (by omega) (by omega)
                      exact (fits_rest z62q).symm
                    · -- False
                      refine AOps.s 135 rfl rfl rfl (q_fieldAddr tok rfl rfl rfl rfl rfl rfl) ?_
                      refine AOps.s 136 rfl rfl rfl (q_load tok rfl rfl rfl z54q rfl) ?_
                      refine AOps.s 137 rfl rfl rfl (q_bin rfl rfl rfl rfl) ?_
                      refine AOps.s 138 rfl rfl rfl (q_pick_false false rfl rfl rfl rfl) ?_
                      refine AOps.s 139 rfl rfl rfl (q_move (.inl rfl) rfl) ?_
                      refine AOps.split 139 rfl (fun hb36 => ?_) (fun hb36 => ?_)
                      · -- True
                        refine AOps.k 140 rfl rfl rfl ?_
                        refine AOps.k 141 rfl rfl rfl ?_
                        refine AOps.k 142 rfl rfl rfl ?_
                        refine AOps.s 143 rfl rfl rfl (q_pick_true true rfl rfl rfl rfl) ?_
                        refine AOps.s 144 rfl rfl rfl (q_move (.inl rfl) rfl) ?_
                        refine AOps.k 145 rfl rfl rfl ?_
                        refine AOps.k 146 rfl rfl rfl ?_
                        refine AOps.k 147 rfl rfl rfl ?_
                        refine AOps.k 148 rfl rfl rfl ?_
                        refine AOps.k 149 rfl rfl rfl ?_
                        refine AOps.k 150 rfl rfl rfl ?_
                        refine AOps.k 151 rfl rfl rfl ?_
                        refine AOps.s 152 rfl rfl rfl (q_pick_true true rfl rfl rfl rfl) ?_
                        refine AOps.nil ?_
                        refine AGo.cond_true true rfl rfl ?_
                        refine AGo.seq ?_
                        refine AGo.region ?_
                        refine AOps.s 8 rfl rfl rfl (q_move (.inr rfl) rfl) ?_
                        refine AOps.nil ?_
                        refine AGo.ret ?_
                        refine ⟨[_], ⟨rfl, trivial⟩, ?_, rfl⟩
                        show AV.bool _ = AV.bool _
                        congr 1
                        have hwr : 1 ≤ t.size → t.size ≤ 4096 → IntKind.i64.wrap (words - t.size) = words - t.size := fun h1 h2 => wrap_i64 (by omega) (by omega)
                        exact (fits_rest z62q).symm
                      · -- False
                        refine AOps.s 140 rfl rfl rfl (q_fieldAddr tok rfl rfl rfl rfl rfl rfl) ?_
                        refine AOps.s 141 rfl rfl rfl (q_load tok rfl rfl rfl z54q rfl) ?_
                        refine AOps.s 142 rfl rfl rfl (q_bin rfl rfl rfl rfl) ?_
                        refine AOps.s 143 rfl rfl rfl (q_pick_false false rfl rfl rfl rfl) ?_
                        refine AOps.s 144 rfl rfl rfl (q_move (.inl rfl) rfl) ?_
                        refine AOps.split 144 rfl (fun hb37 => ?_) (fun hb37 => ?_)
                        · -- True
                          refine AOps.k 145 rfl rfl rfl ?_
                          refine AOps.k 146 rfl rfl rfl ?_
                          refine AOps.k 147 rfl rfl rfl ?_
                          refine AOps.k 148 rfl rfl rfl ?_
                          refine AOps.k 149 rfl rfl rfl ?_
                          refine AOps.k 150 rfl rfl rfl ?_
                          refine AOps.k 151 rfl rfl rfl ?_
                          refine AOps.s 152 rfl rfl rfl (q_pick_true true rfl rfl rfl rfl) ?_
                          refine AOps.nil ?_
                          refine AGo.cond_true true rfl rfl ?_
                          refine AGo.seq ?_
                          refine AGo.region ?_
                          refine AOps.s 8 rfl rfl rfl (q_move (.inr rfl) rfl) ?_
                          refine AOps.nil ?_
                          refine AGo.ret ?_
                          refine ⟨[_], ⟨rfl, trivial⟩, ?_, rfl⟩
                          show AV.bool _ = AV.bool _
                          congr 1
                          have hwr : 1 ≤ t.size → t.size ≤ 4096 → IntKind.i64.wrap (words - t.size) = words - t.size := fun h1 h2 => wrap_i64 (by omega) (by omega)
                          exact (fits_rest z62q).symm
                        · -- False
                          refine AOps.s 145 rfl rfl rfl (q_fieldAddr tok rfl rfl rfl rfl rfl rfl) ?_
                          refine AOps.s 146 rfl rfl rfl (q_load tok rfl rfl rfl z54q rfl) ?_
                          refine AOps.s 147 rfl rfl rfl (q_move (.inl rfl) rfl) ?_
                          refine AOps.s 148 rfl rfl rfl (q_fieldAddr tok rfl rfl rfl rfl rfl rfl) ?_
                          refine AOps.s 149 rfl rfl rfl (q_load tok rfl rfl rfl z54q rfl) ?_
                          refine AOps.s 150 rfl rfl rfl (q_bin rfl rfl rfl rfl) ?_
                          refine AOps.s 151 rfl rfl rfl (q_bin rfl rfl rfl rfl) ?_
                          refine AOps.s 152 rfl rfl rfl (q_pick_false false rfl rfl rfl rfl) ?_
                          refine AOps.nil ?_
                          refine AGo.split 152 rfl (fun hb38 => ?_) (fun hb38 => ?_)
                          · -- True
                            refine AGo.cond_true true rfl rfl ?_
                            refine AGo.seq ?_
                            refine AGo.region ?_
                            refine AOps.s 8 rfl rfl rfl (q_move (.inr rfl) rfl) ?_
                            refine AOps.nil ?_
                            refine AGo.ret ?_
                            refine ⟨[_], ⟨rfl, trivial⟩, ?_, rfl⟩
                            show AV.bool _ = AV.bool _
                            congr 1
                            have hwr : 1 ≤ t.size → t.size ≤ 4096 → IntKind.i64.wrap (words - t.size) = words - t.size := fun h1 h2 => wrap_i64 (by omega) (by omega)
                            exact (fits_rest z62q).symm
                          · -- False
                            refine AGo.cond_false false rfl rfl ?_
                            refine AGo.skip ?_
                            refine AGo.seq ?_
                            refine AGo.region ?_
                            refine AOps.s 163 rfl rfl rfl (q_load tok rfl rfl rfl z54q rfl) ?_
                            refine AOps.s 164 rfl rfl rfl (q_load tok rfl rfl rfl z54q rfl) ?_
                            refine AOps.s 165 rfl rfl rfl (q_eqStruct tok false rfl rfl rfl (by kernel_rfl) rfl rfl rfl rfl rfl) ?_
                            refine AOps.s 8 rfl rfl rfl (q_move (.inr rfl) rfl) ?_
                            refine AOps.nil ?_
                            refine AGo.ret ?_
                            refine ⟨[_], ⟨rfl, trivial⟩, ?_, rfl⟩
                            show AV.bool _ = AV.bool _
                            congr 1
                            have hwr : 1 ≤ t.size → t.size ≤ 4096 → IntKind.i64.wrap (words - t.size) = words - t.size := fun h1 h2 => wrap_i64 (by omega) (by omega)
                            rw [fits_same hb1 hb2 hd hall z62q]
                            subst hdd haa hbb
                            clear hd hj hall hwr hw hw2 hb1 hb2
                            first | (simp_all [Tac.same, Tac.want, baseOp, arrOp, setsOp, use1, use2]; done) | simp [Tac.same, Tac.want, baseOp, arrOp, *]
                  · -- False
                    refine AGo.cond_false false rfl rfl ?_
                    refine AGo.seq ?_
                    refine AGo.region ?_
                    refine AOps.s 154 rfl rfl rfl (q_bin rfl rfl rfl rfl) ?_
                    refine AOps.s 153 rfl rfl rfl (q_move (.inr rfl) rfl) ?_
                    refine AOps.nil ?_
                    refine AGo.split 153 rfl (fun hb39 => ?_) (fun hb39 => ?_)
                    · -- True
                      refine AGo.cond_true true rfl rfl ?_
                      refine AGo.seq ?_
                      refine AGo.region ?_
                      refine AOps.s 155 rfl rfl rfl (q_fieldAddr tok rfl rfl rfl rfl rfl rfl) ?_
                      refine AOps.s 156 rfl rfl rfl (q_load tok rfl rfl rfl z54q rfl) ?_
                      refine AOps.s 157 rfl rfl rfl (q_fieldAddr tok rfl rfl rfl rfl rfl rfl) ?_
                      refine AOps.w rfl rfl (o_store tok rfl rfl rfl rfl rfl rfl rfl rfl rfl (by decide) rfl z61q) ?_
                      refine AOps.nil ?_
                      refine AGo.seq ?_
                      refine AGo.region ?_
                      refine AOps.s 158 rfl rfl rfl (q_fieldAddr tok rfl rfl rfl rfl rfl rfl) ?_
                      refine AOps.s 159 rfl rfl rfl (q_load tok rfl rfl rfl z54q rfl) ?_
                      refine AOps.s 160 rfl rfl rfl (q_move (.inl rfl) rfl) ?_
                      refine AOps.x 161 rfl rfl rfl (o_pure rfl Try.func62 (by kernel_rfl) rfl rfl rfl (within_ok _ _)) ?_
                      refine AOps.s 162 rfl rfl rfl (q_not rfl rfl) ?_
                      refine AOps.nil ?_
                      refine AGo.split 162 rfl (fun hb40 => ?_) (fun hb40 => ?_)
                      · -- True
                        refine AGo.cond_true true rfl rfl ?_
                        refine AGo.seq ?_
                        refine AGo.region ?_
                        refine AOps.s 8 rfl rfl rfl (q_move (.inr rfl) rfl) ?_
                        refine AOps.nil ?_
                        refine AGo.ret ?_
                        refine ⟨[_], ⟨rfl, trivial⟩, ?_, rfl⟩
                        show AV.bool _ = AV.bool _
                        congr 1
                        exact (fits_rest z62q).symm
                      · -- False
                        refine AGo.cond_false false rfl rfl ?_
                        refine AGo.skip ?_
                        refine AGo.seq ?_
                        refine AGo.region ?_
                        refine AOps.s 163 rfl rfl rfl (q_load tok rfl rfl rfl z54q rfl) ?_
                        refine AOps.s 164 rfl rfl rfl (q_load tok rfl rfl rfl z54q rfl) ?_
                        refine AOps.s 165 rfl rfl rfl (q_eqStruct tok false rfl rfl rfl (by kernel_rfl) rfl rfl rfl rfl rfl) ?_
                        refine AOps.s 8 rfl rfl rfl (q_move (.inr rfl) rfl) ?_
                        refine AOps.nil ?_
                        refine AGo.ret ?_
                        refine ⟨[_], ⟨rfl, trivial⟩, ?_, rfl⟩
                        show AV.bool _ = AV.bool _
                        congr 1
                        have hwr : 1 ≤ t.size → t.size ≤ 4096 → IntKind.i64.wrap (words - t.size) = words - t.size := fun h1 h2 => wrap_i64 (by omega) (by omega)
                        rw [fits_same hb1 hb2 hd hall z62q]
                        subst hdd haa hbb
                        clear hd hj hall hwr hw hw2 hb1 hb2
                        first | (simp_all [Tac.same, Tac.want, baseOp, arrOp, setsOp, use1, use2]; done) | simp [Tac.same, Tac.want, baseOp, arrOp, *]
                    · -- False
                      refine AGo.cond_false false rfl rfl ?_
                      refine AGo.skip ?_
                      refine AGo.seq ?_
                      refine AGo.region ?_
                      refine AOps.s 163 rfl rfl rfl (q_load tok rfl rfl rfl z54q rfl) ?_
                      refine AOps.s 164 rfl rfl rfl (q_load tok rfl rfl rfl z54q rfl) ?_
                      refine AOps.s 165 rfl rfl rfl (q_eqStruct tok false rfl rfl rfl (by kernel_rfl) rfl rfl rfl rfl rfl) ?_
                      refine AOps.s 8 rfl rfl rfl (q_move (.inr rfl) rfl) ?_
                      refine AOps.nil ?_
                      refine AGo.ret ?_
                      refine ⟨[_], ⟨rfl, trivial⟩, ?_, rfl⟩
                      show AV.bool _ = AV.bool _
                      congr 1
                      have hwr : 1 ≤ t.size → t.size ≤ 4096 → IntKind.i64.wrap (words - t.size) = words - t.size := fun h1 h2 => wrap_i64 (by omega) (by omega)
                      rw [fits_same hb1 hb2 hd hall z62q]
                      subst hdd haa hbb
                      clear hd hj hall hwr hw hw2 hb1 hb2
                      first | (simp_all [Tac.same, Tac.want, baseOp, arrOp, setsOp, use1, use2]; done) | simp [Tac.same, Tac.want, baseOp, arrOp, *]

set_option maxRecDepth 100000 in
theorem one_ok (f : BFunc) (number words : Int) (hw : 0 ≤ words) (hw2 : words ≤ 1048576) : APure Try.prog 25 [.agg f.cells, .int .i64 number, .int .i64 words] (fun r => r = .bool (f.one number words)) := by
  refine APure.of_body (n := 68) tok Try.func25 rfl rfl ?_
  refine AGo.seq ?_
  refine AGo.slot 0 rfl (fun H ι v => rel_bfunc) (fun hfit => ?_)
  refine AGo.region ?_
  refine AOps.x 3 rfl rfl rfl (o_box (sz := 2) 0 rfl rfl rfl rfl (Nat.zero_lt_succ _) rfl) ?_
  refine AOps.s 6 rfl rfl rfl (q_move (.inr rfl) rfl) ?_
  refine AOps.nil ?_
  refine AGo.seq ?_
  refine AGo.seq ?_
  refine AGo.region ?_
  refine AOps.s 9 rfl rfl rfl (q_fieldAddr tok rfl rfl rfl rfl rfl rfl) ?_
  refine AOps.s 10 rfl rfl rfl (q_load tok rfl rfl rfl z54q rfl) ?_
  refine AOps.s 11 rfl rfl rfl (q_bin rfl rfl rfl rfl) ?_
  refine AOps.s 12 rfl rfl rfl (q_move (.inl rfl) rfl) ?_
  refine AOps.split 12 rfl (fun hb1 => ?_) (fun hb1 => ?_)
  · -- True
    refine AOps.k 13 rfl rfl rfl ?_
    refine AOps.k 14 rfl rfl rfl ?_
    refine AOps.k 15 rfl rfl rfl ?_
    refine AOps.s 16 rfl rfl rfl (q_pick_true true rfl rfl rfl rfl) ?_
    refine AOps.s 17 rfl rfl rfl (q_move (.inl rfl) rfl) ?_
    refine AOps.k 18 rfl rfl rfl ?_
    refine AOps.k 19 rfl rfl rfl ?_
    refine AOps.k 20 rfl rfl rfl ?_
    refine AOps.k 21 rfl rfl rfl ?_
    refine AOps.s 22 rfl rfl rfl (q_pick_true true rfl rfl rfl rfl) ?_
    refine AOps.nil ?_
    refine AGo.cond_true true rfl rfl ?_
    refine AGo.seq ?_
    refine AGo.region ?_
    refine AOps.s 6 rfl rfl rfl (q_move (.inr rfl) rfl) ?_
    refine AOps.nil ?_
    refine AGo.ret ?_
    refine ⟨[_], ⟨rfl, trivial⟩, ?_, rfl⟩
    show AV.bool _ = AV.bool _
    congr 1
    exact (one_bad (by simp_all <;> omega)).symm
  · -- False
    refine AOps.s 13 rfl rfl rfl (q_fieldAddr tok rfl rfl rfl rfl rfl rfl) ?_
    refine AOps.s 14 rfl rfl rfl (q_load tok rfl rfl rfl z54q rfl) ?_
    refine AOps.s 15 rfl rfl rfl (q_bin rfl rfl rfl rfl) ?_
    refine AOps.s 16 rfl rfl rfl (q_pick_false false rfl rfl rfl rfl) ?_
    refine AOps.s 17 rfl rfl rfl (q_move (.inl rfl) rfl) ?_
    refine AOps.split 17 rfl (fun hb2 => ?_) (fun hb2 => ?_)
    · -- True
      refine AOps.k 18 rfl rfl rfl ?_
      refine AOps.k 19 rfl rfl rfl ?_
      refine AOps.k 20 rfl rfl rfl ?_
      refine AOps.k 21 rfl rfl rfl ?_
      refine AOps.s 22 rfl rfl rfl (q_pick_true true rfl rfl rfl rfl) ?_
      refine AOps.nil ?_
      refine AGo.cond_true true rfl rfl ?_
      refine AGo.seq ?_
      refine AGo.region ?_
      refine AOps.s 6 rfl rfl rfl (q_move (.inr rfl) rfl) ?_
      refine AOps.nil ?_
      refine AGo.ret ?_
      refine ⟨[_], ⟨rfl, trivial⟩, ?_, rfl⟩
      show AV.bool _ = AV.bool _
      congr 1
      exact (one_bad (by simp_all <;> omega)).symm
    · -- False
      refine AOps.s 18 rfl rfl rfl (q_fieldAddr tok rfl rfl rfl rfl rfl rfl) ?_
      refine AOps.s 19 rfl rfl rfl (q_load tok rfl rfl rfl z54q rfl) ?_
      refine AOps.s 20 rfl rfl rfl (q_len tok rfl rfl rfl rfl rfl) ?_
      refine AOps.s 21 rfl rfl rfl (q_bin rfl rfl rfl rfl) ?_
      refine AOps.s 22 rfl rfl rfl (q_pick_false false rfl rfl rfl rfl) ?_
      refine AOps.nil ?_
      refine AGo.split 22 rfl (fun hb3 => ?_) (fun hb3 => ?_)
      · -- True
        refine AGo.cond_true true rfl rfl ?_
        refine AGo.seq ?_
        refine AGo.region ?_
        refine AOps.s 6 rfl rfl rfl (q_move (.inr rfl) rfl) ?_
        refine AOps.nil ?_
        refine AGo.ret ?_
        refine ⟨[_], ⟨rfl, trivial⟩, ?_, rfl⟩
        show AV.bool _ = AV.bool _
        congr 1
        exact (one_bad (by simp_all <;> omega)).symm
      · -- False
        refine AGo.cond_false false rfl rfl ?_
        have h0 : 0 ≤ f.regs ∧ f.regs ≤ 4000 ∧ f.blocks.length ≠ 0 := by simp_all <;> omega
        refine AGo.skip ?_
        refine AGo.seq ?_
        refine AGo.seq ?_
        refine AGo.region ?_
        refine AOps.s 7 rfl rfl rfl (q_move (.inr rfl) rfl) ?_
        refine AOps.nil ?_
        refine AGo.block ?_
        refine AGo.loopD (γ := Nat) 1 (fun k => ⟨68, (eput (eput (eput (eput eNew 1 (.int .i64 number)) 2 (.int .i64 words)) 3 (.ptr 0 1 0 0)) 7 (.int .i64 (k : Int))), (hput (hFrom 1) 0 (.row false 2 [f.cells]))⟩) (fun k => (f.blocks.take k).all (fun x => x.ok f.blocks.length f.regs number words) = true) (fun k => f.blocks.length - k) 0 (Sub.mk' z53q z36q) rfl (fun _ => hput_free (fun b hb => hFrom_free hb) rfl) ?_
        intro k hk
        refine AGo.seq ?_
        refine AGo.seq ?_
        refine AGo.region ?_
        refine AOps.s 23 rfl rfl rfl (q_move (.inl rfl) rfl) ?_
        refine AOps.s 24 rfl rfl rfl (q_fieldAddr tok rfl rfl rfl rfl rfl rfl) ?_
        refine AOps.s 25 rfl rfl rfl (q_load tok rfl rfl rfl z54q rfl) ?_
        refine AOps.s 26 rfl rfl rfl (q_len tok rfl rfl rfl rfl rfl) ?_
        refine AOps.s 27 rfl rfl rfl (q_bin rfl rfl rfl rfl) ?_
        refine AOps.nil ?_
        refine AGo.split 27 rfl (fun hb4 => ?_) (fun hb4 => ?_)
        · -- True
          refine AGo.cond_true true rfl rfl ?_
          have hkl : k < f.blocks.length := lt_of_idx hb4
          obtain ⟨x, hx⟩ := get_of_lt hkl
          refine AGo.skip ?_
          refine AGo.seq ?_
          refine AGo.block ?_
          refine AGo.seq ?_
          refine AGo.seq ?_
          refine AGo.draw mix ?_
          refine DOps.s 30 rfl rfl rfl (q_fieldAddr tok rfl rfl rfl rfl rfl rfl) ?_
          refine DOps.s 31 rfl rfl rfl (q_load tok rfl rfl rfl z54q rfl) ?_
          refine DOps.s 32 rfl rfl rfl (q_move (.inl rfl) rfl) ?_
          refine DOps.s 33 rfl rfl rfl (q_index_lst tok rfl rfl rfl rfl rfl rfl (Int.natCast_nonneg _) (idx_map (by assumption)) rfl) ?_
          refine DOps.s 34 rfl rfl rfl (q_load tok rfl rfl rfl z54q rfl) ?_
          refine DOps.s 35 rfl rfl rfl (q_fieldAddr tok rfl rfl rfl rfl rfl rfl) ?_
          refine DOps.s 36 rfl rfl rfl (q_load tok rfl rfl rfl z54q rfl) ?_
          refine DOps.s 37 rfl rfl rfl (q_len tok rfl rfl rfl rfl rfl) ?_
          refine DOps.s 38 rfl rfl rfl (q_fieldAddr tok rfl rfl rfl rfl rfl rfl) ?_
          refine DOps.s 39 rfl rfl rfl (q_load tok rfl rfl rfl z54q rfl) ?_
          refine DOps.x 40 rfl rfl rfl (o_pure rfl Try.func40 (by kernel_rfl) rfl rfl rfl (ends_ok x _ _)) ?_
          refine DOps.s 41 rfl rfl rfl (q_not rfl rfl) ?_
          refine DOps.nil (by kernel_rfl) ?_
          refine AGo.split 41 rfl (fun hb5 => ?_) (fun hb5 => ?_)
          · -- True
            refine AGo.cond_true true rfl rfl ?_
            have hends : x.ends f.blocks.length f.regs = false := by simpa using hb5
            refine AGo.seq ?_
            refine AGo.region ?_
            refine AOps.s 6 rfl rfl rfl (q_move (.inr rfl) rfl) ?_
            refine AOps.nil ?_
            refine AGo.ret ?_
            refine ⟨[_], ⟨rfl, trivial⟩, ?_, rfl⟩
            show AV.bool _ = AV.bool _
            congr 1
            rw [one_all h0.1 h0.2.1 h0.2.2, all_bad hx (by simp [Block.ok, hends])]
          · -- False
            refine AGo.cond_false false rfl rfl ?_
            have hends : x.ends f.blocks.length f.regs = true := by simpa using hb5
            refine AGo.skip ?_
            refine AGo.seq ?_
            refine AGo.region ?_
            refine AOps.s 8 rfl rfl rfl (q_move (.inr rfl) rfl) ?_
            refine AOps.nil ?_
            refine AGo.block ?_
            refine AGo.loopD (γ := Nat) 1 (fun j => ⟨68, (eput (eput (eput (eput (eput eNew 1 (.int .i64 number)) 2 (.int .i64 words)) 3 (.ptr 0 1 0 0)) 7 (.int .i64 (k : Int))) 8 (.int .i64 (j : Int))), (hput (hFrom 1) 0 (.row false 2 [f.cells]))⟩) (fun j => (x.ins.take j).all (fun t => t.fits number f.regs words) = true) (fun j => x.ins.length - j) 0 (Sub.mk' z53q z36q) rfl (fun _ => hput_free (fun b hb => hFrom_free hb) rfl) ?_
            intro j hj
            refine AGo.seq ?_
            refine AGo.seq ?_
            refine AGo.region ?_
            refine AOps.s 42 rfl rfl rfl (q_move (.inl rfl) rfl) ?_
            refine AOps.s 43 rfl rfl rfl (q_fieldAddr tok rfl rfl rfl rfl rfl rfl) ?_
            refine AOps.s 44 rfl rfl rfl (q_load tok rfl rfl rfl z54q rfl) ?_
            refine AOps.s 45 rfl rfl rfl (q_move (.inl rfl) rfl) ?_
            refine AOps.s 46 rfl rfl rfl (q_index_lst tok rfl rfl rfl rfl rfl rfl (Int.natCast_nonneg _) (idx_map (by assumption)) rfl) ?_
            refine AOps.s 47 rfl rfl rfl (q_fieldAddr tok rfl rfl rfl rfl rfl rfl) ?_
            refine AOps.s 48 rfl rfl rfl (q_load tok rfl rfl rfl z54q rfl) ?_
            refine AOps.s 49 rfl rfl rfl (q_len tok rfl rfl rfl rfl rfl) ?_
            refine AOps.s 50 rfl rfl rfl (q_bin rfl rfl rfl rfl) ?_
            refine AOps.nil ?_
            refine AGo.split 50 rfl (fun hb6 => ?_) (fun hb6 => ?_)
            · -- True
              refine AGo.cond_true true rfl rfl ?_
              have hjl : j < x.ins.length := lt_of_idx hb6
              obtain ⟨u, hu⟩ := get_of_lt hjl
              refine AGo.skip ?_
              refine AGo.seq ?_
              refine AGo.block ?_
              refine AGo.seq ?_
              refine AGo.draw mix ?_
              refine DOps.s 53 rfl rfl rfl (q_fieldAddr tok rfl rfl rfl rfl rfl rfl) ?_
              refine DOps.s 54 rfl rfl rfl (q_load tok rfl rfl rfl z54q rfl) ?_
              refine DOps.s 55 rfl rfl rfl (q_move (.inl rfl) rfl) ?_
              refine DOps.s 56 rfl rfl rfl (q_index_lst tok rfl rfl rfl rfl rfl rfl (Int.natCast_nonneg _) (idx_map (by assumption)) rfl) ?_
              refine DOps.s 57 rfl rfl rfl (q_fieldAddr tok rfl rfl rfl rfl rfl rfl) ?_
              refine DOps.s 58 rfl rfl rfl (q_load tok rfl rfl rfl z54q rfl) ?_
              refine DOps.s 59 rfl rfl rfl (q_move (.inl rfl) rfl) ?_
              refine DOps.s 60 rfl rfl rfl (q_index_lst tok rfl rfl rfl rfl rfl rfl (Int.natCast_nonneg _) (idx_map (by assumption)) rfl) ?_
              refine DOps.s 61 rfl rfl rfl (q_load tok rfl rfl rfl z54q rfl) ?_
              refine DOps.s 62 rfl rfl rfl (q_move (.inl rfl) rfl) ?_
              refine DOps.s 63 rfl rfl rfl (q_fieldAddr tok rfl rfl rfl rfl rfl rfl) ?_
              refine DOps.s 64 rfl rfl rfl (q_load tok rfl rfl rfl z54q rfl) ?_
              refine DOps.s 65 rfl rfl rfl (q_move (.inl rfl) rfl) ?_
              refine DOps.x 66 rfl rfl rfl (o_pure rfl Try.func41 (by kernel_rfl) rfl rfl rfl (fits_ok u _ _ _ hw hw2)) ?_
              refine DOps.s 67 rfl rfl rfl (q_not rfl rfl) ?_
              refine DOps.nil (by kernel_rfl) ?_
              refine AGo.split 67 rfl (fun hb7 => ?_) (fun hb7 => ?_)
              · -- True
                refine AGo.cond_true true rfl rfl ?_
                have hbw := hb7
                refine AGo.seq ?_
                refine AGo.region ?_
                refine AOps.s 6 rfl rfl rfl (q_move (.inr rfl) rfl) ?_
                refine AOps.nil ?_
                refine AGo.ret ?_
                refine ⟨[_], ⟨rfl, trivial⟩, ?_, rfl⟩
                show AV.bool _ = AV.bool _
                congr 1
                rw [one_all h0.1 h0.2.1 h0.2.2, all_bad hx (by simp only [Block.ok, all_bad (p := fun t => Tac.fits t number f.regs words) hu (by simpa using hbw), Bool.and_false])]
              · -- False
                refine AGo.cond_false false rfl rfl ?_
                have hbw := hb7
                refine AGo.skip ?_
                refine AGo.region ?_
                refine AOps.s 51 rfl rfl rfl (q_move (.inl rfl) rfl) ?_
                refine AOps.s 52 rfl rfl rfl (q_inc rfl rfl hjl (hfit.2 x (List.mem_of_getElem? hx))) ?_
                refine AOps.s 8 rfl rfl rfl (q_move (.inr rfl) rfl) ?_
                refine AOps.nil ?_
                exact ⟨j+1, Drop.mk' (by repeat (first | exact EDrop.new _ _ | refine EDrop.put ?_ (by rfl) rfl)) z49q, all_succ hu hj (by simpa using hbw), by omega⟩
            · -- False
              refine AGo.cond_false false rfl rfl ?_
              have hins := all_end hj (ge_of_idx hb6)
              refine AGo.exit ?_
              refine AGo.region ?_
              refine AOps.s 28 rfl rfl rfl (q_move (.inl rfl) rfl) ?_
              refine AOps.s 29 rfl rfl rfl (q_inc rfl rfl hkl hfit.1) ?_
              refine AOps.s 7 rfl rfl rfl (q_move (.inr rfl) rfl) ?_
              refine AOps.nil ?_
              exact ⟨k+1, Drop.mk' (by repeat (first | exact EDrop.new _ _ | refine EDrop.put ?_ (by rfl) rfl)) z49q, all_succ hx hk (by simp [Block.ok, hends, hins]), by omega⟩
        · -- False
          refine AGo.cond_false false rfl rfl ?_
          have hall := all_end hk (ge_of_idx hb4)
          refine AGo.exit ?_
          refine AGo.seq ?_
          refine AGo.region ?_
          refine AOps.s 6 rfl rfl rfl (q_move (.inr rfl) rfl) ?_
          refine AOps.nil ?_
          refine AGo.ret ?_
          refine ⟨[_], ⟨rfl, trivial⟩, ?_, rfl⟩
          show AV.bool _ = AV.bool _
          congr 1
          rw [one_all h0.1 h0.2.1 h0.2.2, hall]

set_option maxRecDepth 100000 in
theorem right_ok (b : Blocks) : APure Try.prog 21 [.agg b.cells] (fun r => r = .bool b.right) := by
  refine APure.of_body (n := 35) tok Try.func21 rfl rfl ?_
  refine AGo.seq ?_
  refine AGo.slot 0 rfl (fun H ι v => rel_prog) (fun hfit => ?_)
  refine AGo.region ?_
  refine AOps.x 1 rfl rfl rfl (o_box (sz := 2) 0 rfl rfl rfl rfl (Nat.zero_lt_succ _) rfl) ?_
  refine AOps.s 2 rfl rfl rfl (q_move (.inr rfl) rfl) ?_
  refine AOps.nil ?_
  refine AGo.seq ?_
  refine AGo.seq ?_
  refine AGo.region ?_
  refine AOps.s 4 rfl rfl rfl (q_fieldAddr tok rfl rfl rfl rfl rfl rfl) ?_
  refine AOps.s 5 rfl rfl rfl (q_load tok rfl rfl rfl z54q rfl) ?_
  refine AOps.s 6 rfl rfl rfl (q_bin rfl rfl rfl rfl) ?_
  refine AOps.s 7 rfl rfl rfl (q_move (.inl rfl) rfl) ?_
  refine AOps.split 7 rfl (fun hb1 => ?_) (fun hb1 => ?_)
  · -- True
    refine AOps.k 8 rfl rfl rfl ?_
    refine AOps.k 9 rfl rfl rfl ?_
    refine AOps.k 10 rfl rfl rfl ?_
    refine AOps.s 11 rfl rfl rfl (q_pick_true true rfl rfl rfl rfl) ?_
    refine AOps.s 12 rfl rfl rfl (q_move (.inl rfl) rfl) ?_
    refine AOps.k 13 rfl rfl rfl ?_
    refine AOps.k 14 rfl rfl rfl ?_
    refine AOps.k 15 rfl rfl rfl ?_
    refine AOps.k 16 rfl rfl rfl ?_
    refine AOps.s 17 rfl rfl rfl (q_pick_true true rfl rfl rfl rfl) ?_
    refine AOps.nil ?_
    refine AGo.cond_true true rfl rfl ?_
    refine AGo.seq ?_
    refine AGo.region ?_
    refine AOps.s 2 rfl rfl rfl (q_move (.inr rfl) rfl) ?_
    refine AOps.nil ?_
    refine AGo.ret ?_
    refine ⟨[_], ⟨rfl, trivial⟩, ?_, rfl⟩
    show AV.bool _ = AV.bool _
    congr 1
    exact (right_bad (by simp_all <;> omega)).symm
  · -- False
    refine AOps.s 8 rfl rfl rfl (q_fieldAddr tok rfl rfl rfl rfl rfl rfl) ?_
    refine AOps.s 9 rfl rfl rfl (q_load tok rfl rfl rfl z54q rfl) ?_
    refine AOps.s 10 rfl rfl rfl (q_bin rfl rfl rfl rfl) ?_
    refine AOps.s 11 rfl rfl rfl (q_pick_false false rfl rfl rfl rfl) ?_
    refine AOps.s 12 rfl rfl rfl (q_move (.inl rfl) rfl) ?_
    refine AOps.split 12 rfl (fun hb2 => ?_) (fun hb2 => ?_)
    · -- True
      refine AOps.k 13 rfl rfl rfl ?_
      refine AOps.k 14 rfl rfl rfl ?_
      refine AOps.k 15 rfl rfl rfl ?_
      refine AOps.k 16 rfl rfl rfl ?_
      refine AOps.s 17 rfl rfl rfl (q_pick_true true rfl rfl rfl rfl) ?_
      refine AOps.nil ?_
      refine AGo.cond_true true rfl rfl ?_
      refine AGo.seq ?_
      refine AGo.region ?_
      refine AOps.s 2 rfl rfl rfl (q_move (.inr rfl) rfl) ?_
      refine AOps.nil ?_
      refine AGo.ret ?_
      refine ⟨[_], ⟨rfl, trivial⟩, ?_, rfl⟩
      show AV.bool _ = AV.bool _
      congr 1
      exact (right_bad (by simp_all <;> omega)).symm
    · -- False
      refine AOps.s 13 rfl rfl rfl (q_fieldAddr tok rfl rfl rfl rfl rfl rfl) ?_
      refine AOps.s 14 rfl rfl rfl (q_load tok rfl rfl rfl z54q rfl) ?_
      refine AOps.s 15 rfl rfl rfl (q_len tok rfl rfl rfl rfl rfl) ?_
      refine AOps.s 16 rfl rfl rfl (q_bin rfl rfl rfl rfl) ?_
      refine AOps.s 17 rfl rfl rfl (q_pick_false false rfl rfl rfl rfl) ?_
      refine AOps.nil ?_
      refine AGo.split 17 rfl (fun hb3 => ?_) (fun hb3 => ?_)
      · -- True
        refine AGo.cond_true true rfl rfl ?_
        refine AGo.seq ?_
        refine AGo.region ?_
        refine AOps.s 2 rfl rfl rfl (q_move (.inr rfl) rfl) ?_
        refine AOps.nil ?_
        refine AGo.ret ?_
        refine ⟨[_], ⟨rfl, trivial⟩, ?_, rfl⟩
        show AV.bool _ = AV.bool _
        congr 1
        exact (right_bad (by simp_all <;> omega)).symm
      · -- False
        refine AGo.cond_false false rfl rfl ?_
        have h0 : 0 ≤ b.words ∧ b.words ≤ 1048576 ∧ b.funcs.length ≠ 0 := by simp_all <;> omega
        refine AGo.skip ?_
        refine AGo.seq ?_
        refine AGo.seq ?_
        refine AGo.region ?_
        refine AOps.s 3 rfl rfl rfl (q_move (.inr rfl) rfl) ?_
        refine AOps.nil ?_
        refine AGo.block ?_
        refine AGo.loopD (γ := Nat) 1 (fun k => ⟨35, (eput (eput eNew 1 (.ptr 0 1 0 0)) 3 (.int .i64 (k : Int))), (hput (hFrom 1) 0 (.row false 2 [b.cells]))⟩) (fun k => (b.funcs.zipIdx.take k).all (fun p => p.1.one (p.2 : Int) b.words) = true) (fun k => b.funcs.length - k) 0 (Sub.mk' z53q z36q) rfl (fun _ => hput_free (fun b hb => hFrom_free hb) rfl) ?_
        intro k hk
        refine AGo.seq ?_
        refine AGo.seq ?_
        refine AGo.region ?_
        refine AOps.s 18 rfl rfl rfl (q_move (.inl rfl) rfl) ?_
        refine AOps.s 19 rfl rfl rfl (q_fieldAddr tok rfl rfl rfl rfl rfl rfl) ?_
        refine AOps.s 20 rfl rfl rfl (q_load tok rfl rfl rfl z54q rfl) ?_
        refine AOps.s 21 rfl rfl rfl (q_len tok rfl rfl rfl rfl rfl) ?_
        refine AOps.s 22 rfl rfl rfl (q_bin rfl rfl rfl rfl) ?_
        refine AOps.nil ?_
        refine AGo.split 22 rfl (fun hb4 => ?_) (fun hb4 => ?_)
        · -- True
          refine AGo.cond_true true rfl rfl ?_
          have hkl : k < b.funcs.length := lt_of_idx hb4
          obtain ⟨x, hx⟩ := get_of_lt hkl
          refine AGo.skip ?_
          refine AGo.seq ?_
          refine AGo.block ?_
          refine AGo.seq ?_
          refine AGo.draw mix ?_
          refine DOps.s 25 rfl rfl rfl (q_fieldAddr tok rfl rfl rfl rfl rfl rfl) ?_
          refine DOps.s 26 rfl rfl rfl (q_load tok rfl rfl rfl z54q rfl) ?_
          refine DOps.s 27 rfl rfl rfl (q_move (.inl rfl) rfl) ?_
          refine DOps.s 28 rfl rfl rfl (q_index_lst tok rfl rfl rfl rfl rfl rfl (Int.natCast_nonneg _) (idx_map (by assumption)) rfl) ?_
          refine DOps.s 29 rfl rfl rfl (q_load tok rfl rfl rfl z54q rfl) ?_
          refine DOps.s 30 rfl rfl rfl (q_move (.inl rfl) rfl) ?_
          refine DOps.s 31 rfl rfl rfl (q_fieldAddr tok rfl rfl rfl rfl rfl rfl) ?_
          refine DOps.s 32 rfl rfl rfl (q_load tok rfl rfl rfl z54q rfl) ?_
          refine DOps.x 33 rfl rfl rfl (o_pure rfl Try.func25 (by kernel_rfl) rfl rfl rfl (one_ok x _ _ h0.1 h0.2.1)) ?_
          refine DOps.s 34 rfl rfl rfl (q_not rfl rfl) ?_
          refine DOps.nil (by kernel_rfl) ?_
          refine AGo.split 34 rfl (fun hb5 => ?_) (fun hb5 => ?_)
          · -- True
            refine AGo.cond_true true rfl rfl ?_
            have hone := hb5
            refine AGo.seq ?_
            refine AGo.region ?_
            refine AOps.s 2 rfl rfl rfl (q_move (.inr rfl) rfl) ?_
            refine AOps.nil ?_
            refine AGo.ret ?_
            refine ⟨[_], ⟨rfl, trivial⟩, ?_, rfl⟩
            show AV.bool _ = AV.bool _
            congr 1
            rw [right_all h0.1 h0.2.1 h0.2.2, all_bad (zipIdx_get hx) (by simpa using hone)]
          · -- False
            refine AGo.cond_false false rfl rfl ?_
            have hone := hb5
            refine AGo.skip ?_
            refine AGo.region ?_
            refine AOps.s 23 rfl rfl rfl (q_move (.inl rfl) rfl) ?_
            refine AOps.s 24 rfl rfl rfl (q_inc rfl rfl hkl hfit.1) ?_
            refine AOps.s 3 rfl rfl rfl (q_move (.inr rfl) rfl) ?_
            refine AOps.nil ?_
            exact ⟨k+1, Drop.mk' (by repeat (first | exact EDrop.new _ _ | refine EDrop.put ?_ (by rfl) rfl)) z49q, all_succ (zipIdx_get hx) hk (by simpa using hone), by omega⟩
        · -- False
          refine AGo.cond_false false rfl rfl ?_
          have hall := all_end hk (by rw [List.length_zipIdx]; exact ge_of_idx hb4)
          refine AGo.exit ?_
          refine AGo.seq ?_
          refine AGo.region ?_
          refine AOps.s 2 rfl rfl rfl (q_move (.inr rfl) rfl) ?_
          refine AOps.nil ?_
          refine AGo.ret ?_
          refine ⟨[_], ⟨rfl, trivial⟩, ?_, rfl⟩
          show AV.bool _ = AV.bool _
          congr 1
          rw [right_all h0.1 h0.2.1 h0.2.2, hall]

end Go.Proofs.Ytjmjmedjjbginaa.Sv

namespace Go.Proofs.Ytjmjmedjjbginaa.Sv
open Go
variable {P : Program} {T : Nat → Option TyI} {ops : Array Oper} {rest : List Oper} {n : Nat} {e : AEnv} {h : AHeap} {o : Oper} {K : AState → Prop} {acc : List (List Nat × List Nat)} {R : List Nat} {W : List (Nat × AObj)} {r p : AV}
theorem aq (d : Nat) (hq : QLoc P o e h R r) (hr : AOps P ops rest ⟨n, eput e d r, h⟩ K) (hd : o.dst = some d := by exact rfl) (hb : Nat.blt d n = true := by exact rfl) (hg : guardIs ops o e = some true := by exact rfl) : AOps P ops (o :: rest) ⟨n, e, h⟩ K := AOps.s d hd hb hg hq hr
theorem ax (d : Nat) (hq : OLoc P o e h R W (some r)) (hr : AOps P ops rest ⟨n, eput e d r, (hputs h W)⟩ K) (hd : o.dst = some d := by exact rfl) (hb : Nat.blt d n = true := by exact rfl) (hg : guardIs ops o e = some true := by exact rfl) : AOps P ops (o :: rest) ⟨n, e, h⟩ K := AOps.x d hd hb hg hq hr
theorem ak (d : Nat) (hr : AOps P ops rest ⟨n, eput e d (.tup []), h⟩ K) (hd : o.dst = some d := by exact rfl) (hb : Nat.blt d n = true := by exact rfl) (hg : guardIs ops o e = some false := by exact rfl) : AOps P ops (o :: rest) ⟨n, e, h⟩ K := AOps.k d hd hb hg hr
theorem am (d : Nat) {x : Operand} (hr : AOps P ops rest ⟨n, eput e d r, h⟩ K) (hd : o.dst = some d := by exact rfl) (hb : Nat.blt d n = true := by exact rfl) (hg : guardIs ops o e = some true := by exact rfl) (ho : o.op = .move x := by exact rfl) (hx : look e x = some r := by exact rfl) : AOps P ops (o :: rest) ⟨n, e, h⟩ K := AOps.s d hd hb hg (q_move (.inl ho) hx) hr
theorem aa (d : Nat) {x : Operand} (hr : AOps P ops rest ⟨n, eput e d r, h⟩ K) (hd : o.dst = some d := by exact rfl) (hb : Nat.blt d n = true := by exact rfl) (hg : guardIs ops o e = some true := by exact rfl) (ho : o.op = .assign x := by exact rfl) (hx : look e x = some r := by exact rfl) : AOps P ops (o :: rest) ⟨n, e, h⟩ K := AOps.s d hd hb hg (q_move (.inr ho) hx) hr
theorem al (d : Nat) {t : TypeId} {x : Operand} {i : TyI} {cs : List AV} (hT : TOk P T) (hr : AOps P ops rest ⟨n, eput e d r, h⟩ K) (hd : o.dst = some d := by exact rfl) (hb : Nat.blt d n = true := by exact rfl) (hg : guardIs ops o e = some true := by exact rfl) (ho : o.op = .load t x := by exact rfl) (hx : look e x = some p := by exact rfl) (hi : T t = some i := by exact rfl) (hp : PtsTo h p R cs := by first | exact .loc _ | exact .ptr _ _ _ _ _ _ _ _ rfl rfl rfl) (hl : loadAV i cs = some r := by exact rfl) : AOps P ops (o :: rest) ⟨n, e, h⟩ K := AOps.s d hd hb hg (q_load hT ho hx hi hp hl) hr
theorem af (d : Nat) {t : TypeId} {x : Operand} {f off u : Nat} {i : TyI} {fs : List (Nat × Nat)} (hT : TOk P T) (hr : AOps P ops rest ⟨n, eput e d r, h⟩ K) (hd : o.dst = some d := by exact rfl) (hb : Nat.blt d n = true := by exact rfl) (hg : guardIs ops o e = some true := by exact rfl) (ho : o.op = .fieldAddr t x f := by exact rfl) (hx : look e x = some p := by exact rfl) (hi : T t = some i := by exact rfl) (hk : i.k = .struct fs := by exact rfl) (hf : fs[f]? = some (off, u) := by exact rfl) (hm : moveAV p off = some r := by exact rfl) : AOps P ops (o :: rest) ⟨n, e, h⟩ K := AOps.s d hd hb hg (q_fieldAddr hT ho hx hi hk hf hm) hr
theorem dq (d : Nat) (hq : QLoc P o e h R r) (hr : DOps P ops n rest (eput e d r) h (acc ++ [(R, [])]) K) (hd : o.dst = some d := by exact rfl) (hb : Nat.blt d n = true := by exact rfl) (hg : guardIs ops o e = some true := by exact rfl) : DOps P ops n (o :: rest) e h acc K := DOps.s d hd hb hg hq hr
theorem dx (d : Nat) (hq : OLoc P o e h R W (some r)) (hr : DOps P ops n rest (eput e d r) (hputs h W) (acc ++ [(R, W.map (·.1))]) K) (hd : o.dst = some d := by exact rfl) (hb : Nat.blt d n = true := by exact rfl) (hg : guardIs ops o e = some true := by exact rfl) : DOps P ops n (o :: rest) e h acc K := DOps.x d hd hb hg hq hr
theorem dk (d : Nat) (hr : DOps P ops n rest (eput e d (.tup [])) h (acc ++ [([], [])]) K) (hd : o.dst = some d := by exact rfl) (hb : Nat.blt d n = true := by exact rfl) (hg : guardIs ops o e = some false := by exact rfl) : DOps P ops n (o :: rest) e h acc K := DOps.u d hd hb hg hr
theorem dm (d : Nat) {x : Operand} (hr : DOps P ops n rest (eput e d r) h (acc ++ [([], [])]) K) (hd : o.dst = some d := by exact rfl) (hb : Nat.blt d n = true := by exact rfl) (hg : guardIs ops o e = some true := by exact rfl) (ho : o.op = .move x := by exact rfl) (hx : look e x = some r := by exact rfl) : DOps P ops n (o :: rest) e h acc K := DOps.s d hd hb hg (q_move (.inl ho) hx) hr
theorem da (d : Nat) {x : Operand} (hr : DOps P ops n rest (eput e d r) h (acc ++ [([], [])]) K) (hd : o.dst = some d := by exact rfl) (hb : Nat.blt d n = true := by exact rfl) (hg : guardIs ops o e = some true := by exact rfl) (ho : o.op = .assign x := by exact rfl) (hx : look e x = some r := by exact rfl) : DOps P ops n (o :: rest) e h acc K := DOps.s d hd hb hg (q_move (.inr ho) hx) hr
theorem dl (d : Nat) {t : TypeId} {x : Operand} {i : TyI} {cs : List AV} (hT : TOk P T) (hr : DOps P ops n rest (eput e d r) h (acc ++ [(R, [])]) K) (hd : o.dst = some d := by exact rfl) (hb : Nat.blt d n = true := by exact rfl) (hg : guardIs ops o e = some true := by exact rfl) (ho : o.op = .load t x := by exact rfl) (hx : look e x = some p := by exact rfl) (hi : T t = some i := by exact rfl) (hp : PtsTo h p R cs := by first | exact .loc _ | exact .ptr _ _ _ _ _ _ _ _ rfl rfl rfl) (hl : loadAV i cs = some r := by exact rfl) : DOps P ops n (o :: rest) e h acc K := DOps.s d hd hb hg (q_load hT ho hx hi hp hl) hr
theorem df (d : Nat) {t : TypeId} {x : Operand} {f off u : Nat} {i : TyI} {fs : List (Nat × Nat)} (hT : TOk P T) (hr : DOps P ops n rest (eput e d r) h (acc ++ [([], [])]) K) (hd : o.dst = some d := by exact rfl) (hb : Nat.blt d n = true := by exact rfl) (hg : guardIs ops o e = some true := by exact rfl) (ho : o.op = .fieldAddr t x f := by exact rfl) (hx : look e x = some p := by exact rfl) (hi : T t = some i := by exact rfl) (hk : i.k = .struct fs := by exact rfl) (hf : fs[f]? = some (off, u) := by exact rfl) (hm : moveAV p off = some r := by exact rfl) : DOps P ops n (o :: rest) e h acc K := DOps.s d hd hb hg (q_fieldAddr hT ho hx hi hk hf hm) hr
end Go.Proofs.Ytjmjmedjjbginaa.Sv

namespace Go.Proofs.Ytjmjmedjjbginaa.Sv
open Go

set_option maxRecDepth 100000 in
theorem few32_ok (f : BFunc) (hf : f.Ok) : APure Try.prog 12 [.agg f.cells] (fun r => r = .bool (few32 f)) := by
 have hbg := hf.big32
 refine APure.of_body (n := 34) tok Try.func12 rfl rfl ?_
 refine AGo.seq ?_
 refine AGo.region ?_
 refine ax 1 (o_box (sz := 2) 0 rfl rfl rfl rfl (Nat.zero_lt_succ _) rfl) ?_
 refine aa 2 ?_
 refine AOps.nil ?_
 refine AGo.seq ?_
 refine AGo.seq ?_
 refine AGo.region ?_
 refine af 5 tok ?_
 refine al 6 tok ?_
 refine aq 7 (q_len tok rfl rfl rfl rfl rfl) ?_
 refine aq 8 (q_bin rfl rfl rfl rfl) ?_
 refine am 9 ?_
 refine AOps.split 9 rfl (fun hb1 => ?_) (fun hb1 => ?_)
 ·
  refine ak 10 ?_
  refine ak 11 ?_
  refine ak 12 ?_
  refine aq 13 (q_pick_true true rfl rfl rfl rfl) ?_
  refine AOps.nil ?_
  refine AGo.cond_true true rfl rfl ?_
  refine AGo.seq ?_
  refine AGo.region ?_
  refine aa 2 ?_
  refine AOps.nil ?_
  refine AGo.ret ?_
  refine ⟨[_], ⟨rfl, trivial⟩, ?_, rfl⟩
  show AV.bool _ = AV.bool _
  congr 1
  simp_all [few32]; try omega
 ·
  refine af 10 tok ?_
  refine al 11 tok ?_
  refine aq 12 (q_bin rfl rfl rfl rfl) ?_
  refine aq 13 (q_pick_false false rfl rfl rfl rfl) ?_
  refine AOps.nil ?_
  refine AGo.split 13 rfl (fun hb2 => ?_) (fun hb2 => ?_)
  ·
   refine AGo.cond_true true rfl rfl ?_
   refine AGo.seq ?_
   refine AGo.region ?_
   refine aa 2 ?_
   refine AOps.nil ?_
   refine AGo.ret ?_
   refine ⟨[_], ⟨rfl, trivial⟩, ?_, rfl⟩
   show AV.bool _ = AV.bool _
   congr 1
   simp_all [few32]; try omega
  ·
   refine AGo.cond_false false rfl rfl ?_
   have hg1 : f.blocks.length ≤ 30 := by have h := hb1; simp only [List.length_map, decide_eq_false_iff_not] at h; omega
   have hg2 : f.regs ≤ 20 := by have h := hb2; simp only [decide_eq_false_iff_not] at h; omega
   refine AGo.skip ?_
   refine AGo.seq ?_
   refine AGo.region ?_
   refine aa 3 ?_
   refine AOps.nil ?_
   refine AGo.seq ?_
   refine AGo.seq ?_
   refine AGo.region ?_
   refine aa 4 ?_
   refine AOps.nil ?_
   refine AGo.block ?_
   refine AGo.loopD (γ := Nat) 1 (fun k => ⟨34, (eput (eput (eput eNew 1 (.ptr 0 1 0 0)) 3 (.int .i64 ((insSumB (f.blocks.take k) : Nat) : Int))) 4 (.int .i64 (k : Int))), (hput (hFrom 1) 0 (.row false 2 [f.cells]))⟩) (fun k => k ≤ f.blocks.length ∧ insSumB (f.blocks.take k) ≤ 150) (fun k => f.blocks.length - k) 0 (Sub.mk' (by repeat (first | exact ESub.new _ | refine ESub.put ?_ (by first | rfl | exact congrArg (fun n : Int => some (AV.int .i64 n)) (by simp [insSumB])))) z18q) ⟨Nat.zero_le _, by simp [insSumB]⟩ (fun _ => hput_free (fun b hb => hFrom_free hb) rfl) ?_
   intro k hF
   refine AGo.seq ?_
   refine AGo.seq ?_
   refine AGo.region ?_
   refine am 14 ?_
   refine af 15 tok ?_
   refine al 16 tok ?_
   refine aq 17 (q_len tok rfl rfl rfl rfl rfl) ?_
   refine aq 18 (q_bin rfl rfl rfl rfl) ?_
   refine AOps.nil ?_
   refine AGo.split 18 rfl (fun hb3 => ?_) (fun hb3 => ?_)
   ·
    refine AGo.cond_true true rfl rfl ?_
    have hkl := lt_of_idx hb3
    obtain ⟨x, hx⟩ := get_of_lt hkl
    have hxb := hbg.2 x (List.mem_of_getElem? hx)
    have hsx := insSumB_succ hx
    simp only [big] at hxb
    refine AGo.skip ?_
    refine AGo.seq ?_
    refine AGo.block ?_
    refine AGo.seq ?_
    refine AGo.region ?_
    refine am 21 ?_
    refine af 22 tok ?_
    refine al 23 tok ?_
    refine am 24 ?_
    refine aq 25 (q_index_lst tok rfl rfl rfl rfl rfl rfl (Int.natCast_nonneg _) (idx_map hx) rfl) ?_
    refine af 26 tok ?_
    refine al 27 tok ?_
    refine aq 28 (q_len tok rfl rfl rfl rfl rfl) ?_
    refine aq 29 (q_bin (r := .int .i64 ((insSumB (f.blocks.take k) + x.ins.length : Nat) : Int)) rfl rfl rfl (by have h150 := hF.2; simp only [evalBin, evalInt, isShift, cond_false, if_true]; rw [List.length_map, wrap_i64 (by omega) (by omega)]; rfl)) ?_
    refine aa 3 ?_
    refine AOps.nil ?_
    refine AGo.seq ?_
    refine AGo.region ?_
    refine am 30 ?_
    refine aq 31 (q_bin rfl rfl rfl rfl) ?_
    refine AOps.nil ?_
    refine AGo.split 31 rfl (fun hb4 => ?_) (fun hb4 => ?_)
    ·
     refine AGo.cond_true true rfl rfl ?_
     have hover : ¬ insSumB f.blocks ≤ 150 := by have h := hb4; simp only [decide_eq_true_eq] at h; have h2 := insSumB_take (l := f.blocks) (k := k + 1); omega
     refine AGo.seq ?_
     refine AGo.region ?_
     refine aa 2 ?_
     refine AOps.nil ?_
     refine AGo.ret ?_
     refine ⟨[_], ⟨rfl, trivial⟩, ?_, rfl⟩
     show AV.bool _ = AV.bool _
     congr 1
     simp [few32, hover]
    ·
     refine AGo.cond_false false rfl rfl ?_
     have hin : insSumB (f.blocks.take (k + 1)) ≤ 150 := by have h := hb4; simp only [decide_eq_false_iff_not] at h; omega
     refine AGo.skip ?_
     refine AGo.region ?_
     refine am 19 ?_
     refine aq 20 (q_inc rfl rfl hkl (by simp only [maxLen]; omega)) ?_
     refine aa 4 ?_
     refine AOps.nil ?_
     exact ⟨k+1, Drop.mk' (by repeat (first | exact EDrop.new _ _ | refine EDrop.put ?_ (by first | rfl | exact congrArg (fun (n : Nat) => some (AV.int .i64 (n : Int))) (insSumB_succ hx).symm) (by first | rfl | exact slA_avoid _ rfl | exact vaA_avoid _ rfl))) z34q, ⟨hkl, hin⟩, by omega⟩
   ·
    refine AGo.cond_false false rfl rfl ?_
    have hge := ge_of_idx hb3
    have hsum : insSumB f.blocks ≤ 150 := by have h := hF.2; rwa [List.take_of_length_le hge] at h
    refine AGo.exit ?_
    refine AGo.seq ?_
    refine AGo.region ?_
    refine al 32 tok ?_
    refine ax 33 (o_pure rfl Try.func25 (by kernel_rfl) rfl rfl rfl (one_ok f 1073741824 32768 (by decide) (by decide))) ?_
    refine aa 2 ?_
    refine AOps.nil ?_
    refine AGo.ret ?_
    refine ⟨[_], ⟨rfl, trivial⟩, ?_, rfl⟩
    show AV.bool _ = AV.bool _
    congr 1
    simp [few32, hg1, hg2, hsum]

set_option maxRecDepth 100000 in
theorem small32_ok (b : Blocks) (hb : b.Ok) : APure Try.prog 19 [.agg b.cells] (fun r => r = .bool (small32 b)) := by
 refine APure.of_body (n := 29) tok Try.func19 rfl rfl ?_
 refine AGo.seq ?_
 refine AGo.region ?_
 refine ax 1 (o_box (sz := 2) 0 rfl rfl rfl rfl (Nat.zero_lt_succ _) rfl) ?_
 refine aa 2 ?_
 refine AOps.nil ?_
 refine AGo.seq ?_
 refine AGo.seq ?_
 refine AGo.region ?_
 refine af 4 tok ?_
 refine al 5 tok ?_
 refine aq 6 (q_len tok rfl rfl rfl rfl rfl) ?_
 refine aq 7 (q_bin rfl rfl rfl rfl) ?_
 refine am 8 ?_
 refine AOps.split 8 rfl (fun hb1 => ?_) (fun hb1 => ?_)
 ·
  refine ak 9 ?_
  refine ak 10 ?_
  refine ak 11 ?_
  refine aq 12 (q_pick_true true rfl rfl rfl rfl) ?_
  refine AOps.nil ?_
  refine AGo.cond_true true rfl rfl ?_
  refine AGo.seq ?_
  refine AGo.region ?_
  refine aa 2 ?_
  refine AOps.nil ?_
  refine AGo.ret ?_
  refine ⟨[_], ⟨rfl, trivial⟩, ?_, rfl⟩
  show AV.bool _ = AV.bool _
  congr 1
  simp_all [small32]; try omega
 ·
  refine af 9 tok ?_
  refine al 10 tok ?_
  refine aq 11 (q_bin rfl rfl rfl rfl) ?_
  refine aq 12 (q_pick_false false rfl rfl rfl rfl) ?_
  refine AOps.nil ?_
  refine AGo.split 12 rfl (fun hb2 => ?_) (fun hb2 => ?_)
  ·
   refine AGo.cond_true true rfl rfl ?_
   refine AGo.seq ?_
   refine AGo.region ?_
   refine aa 2 ?_
   refine AOps.nil ?_
   refine AGo.ret ?_
   refine ⟨[_], ⟨rfl, trivial⟩, ?_, rfl⟩
   show AV.bool _ = AV.bool _
   congr 1
   simp_all [small32]; try omega
  ·
   refine AGo.cond_false false rfl rfl ?_
   have hg1 : b.funcs.length ≤ 10 := by have h := hb1; simp only [List.length_map, decide_eq_false_iff_not] at h; omega
   have hg2 : b.words ≤ 400 := by have h := hb2; simp only [decide_eq_false_iff_not] at h; omega
   refine AGo.skip ?_
   refine AGo.seq ?_
   refine AGo.seq ?_
   refine AGo.region ?_
   refine aa 3 ?_
   refine AOps.nil ?_
   refine AGo.block ?_
   refine AGo.loopD (γ := Nat) 1 (fun k => ⟨29, (eput (eput eNew 1 (.ptr 0 1 0 0)) 3 (.int .i64 (k : Int))), (hput (hFrom 1) 0 (.row false 2 [b.cells]))⟩) (fun k => k ≤ b.funcs.length ∧ (b.funcs.take k).all few32 = true) (fun k => b.funcs.length - k) 0 (Sub.mk' z44q z18q) ⟨Nat.zero_le _, rfl⟩ (fun _ => hput_free (fun b hb => hFrom_free hb) rfl) ?_
   intro k hF
   refine AGo.seq ?_
   refine AGo.seq ?_
   refine AGo.region ?_
   refine am 13 ?_
   refine af 14 tok ?_
   refine al 15 tok ?_
   refine aq 16 (q_len tok rfl rfl rfl rfl rfl) ?_
   refine aq 17 (q_bin rfl rfl rfl rfl) ?_
   refine AOps.nil ?_
   refine AGo.split 17 rfl (fun hb3 => ?_) (fun hb3 => ?_)
   ·
    refine AGo.cond_true true rfl rfl ?_
    have hkl := lt_of_idx hb3
    obtain ⟨f, hf⟩ := get_of_lt hkl
    refine AGo.skip ?_
    refine AGo.seq ?_
    refine AGo.block ?_
    refine AGo.seq ?_
    refine AGo.region ?_
    refine af 20 tok ?_
    refine al 21 tok ?_
    refine am 22 ?_
    refine aq 23 (q_index_lst tok rfl rfl rfl rfl rfl rfl (Int.natCast_nonneg _) (idx_map hf) rfl) ?_
    refine al 24 tok ?_
    refine ax 25 (o_pure rfl Try.func12 (by kernel_rfl) rfl rfl rfl (few32_ok f (hb.funcs f (List.mem_of_getElem? hf)))) ?_
    refine aq 26 (q_not rfl rfl) ?_
    refine AOps.nil ?_
    refine AGo.split 26 rfl (fun hb4 => ?_) (fun hb4 => ?_)
    ·
     refine AGo.cond_true true rfl rfl ?_
     have hno : few32 f = false := by simpa using hb4
     have hnall := all_no (List.mem_of_getElem? hf) hno
     refine AGo.seq ?_
     refine AGo.region ?_
     refine aa 2 ?_
     refine AOps.nil ?_
     refine AGo.ret ?_
     refine ⟨[_], ⟨rfl, trivial⟩, ?_, rfl⟩
     show AV.bool _ = AV.bool _
     congr 1
     simp [small32, hnall]
    ·
     refine AGo.cond_false false rfl rfl ?_
     have hyes : few32 f = true := by simpa using hb4
     refine AGo.skip ?_
     refine AGo.region ?_
     refine am 18 ?_
     refine aq 19 (q_inc rfl rfl hkl (by simp only [maxLen]; omega)) ?_
     refine aa 3 ?_
     refine AOps.nil ?_
     exact ⟨k+1, Drop.mk' z46q z34q, ⟨hkl, all_take hf hF.2 hyes⟩, by omega⟩
   ·
    refine AGo.cond_false false rfl rfl ?_
    have hge := ge_of_idx hb3
    have hall : b.funcs.all few32 = true := by have h := hF.2; rwa [List.take_of_length_le hge] at h
    refine AGo.exit ?_
    refine AGo.seq ?_
    refine AGo.region ?_
    refine al 27 tok ?_
    refine ax 28 (o_pure rfl Try.func21 (by kernel_rfl) rfl rfl rfl (right_ok b)) ?_
    refine aa 2 ?_
    refine AOps.nil ?_
    refine AGo.ret ?_
    refine ⟨[_], ⟨rfl, trivial⟩, ?_, rfl⟩
    show AV.bool _ = AV.bool _
    congr 1
    simp [small32, hg1, hg2, hall]

end Go.Proofs.Ytjmjmedjjbginaa.Sv

namespace Go.Proofs.Ytjmjmedjjbginaa.Sv
open Go
theorem idx_mapZ {α : Type} {l : List α} {f : α → List AV} {n : Int} {x : α} (h : l[n.toNat]? = some x) : (l.map f)[n.toNat]? = some (f x) := by rw [List.getElem?_map, h]; rfl
theorem weak_nils (n : Nat) : ∀ (i : Nat) (cs cs' : List AV), (List.replicate n [AV.nil])[i]? = some cs → (List.replicate n [AV.lst false []])[i]? = some cs' → cs'.length = cs.length ∧ ∀ (j : Nat) (x y : AV), cs[j]? = some x → cs'[j]? = some y → y.cell1 = true ∧ ∀ H v, Rel H noLay x v → Rel H noLay y v := fun i cs cs' h1 h2 => by
  have e1 := List.eq_of_mem_replicate (List.mem_of_getElem? h1)
  have e2 := List.eq_of_mem_replicate (List.mem_of_getElem? h2)
  subst e1; subst e2
  refine ⟨rfl, fun j x y g1 g2 => ?_⟩
  cases j with
  | zero => simp at g1 g2; subst g1; subst g2; exact ⟨rfl, fun H v h => nil_empty h⟩
  | succ j => simp at g1
theorem way_first {next : List (List Int)} {been : List Bool} (h : been.length = next.length) : WayIn next.length (DS.mk been []) ([] : List (List AV)) := by
  refine ⟨Nat.le_refl _, rfl, ?_⟩
  rw [← h]
  show 0 + unb been ≤ been.length
  clear h
  induction been with
  | nil => simp [unb]
  | cons x r ih => simp only [unb, List.map_cons, List.sum_cons, List.length_cons] at ih ⊢; cases x <;> simp <;> omega
theorem len_pred {n : Nat} (h : 0 < n) (h2 : n ≤ 100000000) : evalBin .sub (.int .i64 (n : Int)) (.int .i64 1) = some (.int .i64 ((n - 1 : Nat) : Int)) := by
  simp only [evalBin, evalInt, isShift, cond_false, if_true]
  rw [wrap_i64 (by omega) (by omega)]
  congr 2; omega
structure FW where
  s : DS
  es : List (List AV)
  g : Nat
structure FWInv (next : List (List Int)) (tgt : DS) (q : FW) : Prop where
  ok : q.s.ok next
  way : WayIn next.length q.s q.es
  gas : dmu next q.s < q.g
  tgt : drun next q.g q.s = tgt
theorem FWInv.first {next : List (List Int)} {been : List Bool} (h : been.length = next.length) : FWInv next (drun next (dmu next (dstart been) + 1) (dstart been)) ⟨dstart been, ies 0 (DS.mk been []) [], dmu next (dstart been) + 1⟩ :=
  ⟨dinto_ok ⟨h, fun p hp => by cases hp⟩, (way_first h).into, Nat.lt_succ_self _, rfl⟩
theorem FWInv.next {next : List (List Int)} {tgt : DS} {q : FW} (h : FWInv next tgt q) {s' : DS} {es' : List (List AV)} {p : Int × Int} (hp : q.s.way.getLast? = some p) (he : dstep next q.s = s') (hw : WayIn next.length s' es') : FWInv next tgt ⟨s', es', q.g - 1⟩ ∧ q.g - 1 < q.g := by
  have hne : q.s.way ≠ [] := fun e => by rw [e] at hp; simp at hp
  have h1 := dstep_mu h.ok hne
  have h2 := h.gas
  have h3 := dstep_ok h.ok
  rw [he] at h1 h3
  refine ⟨⟨h3, hw, by show dmu next s' < q.g - 1; omega, ?_⟩, by omega⟩
  obtain ⟨g, hg⟩ : ∃ g, q.g = g + 1 := ⟨q.g - 1, by omega⟩
  have h4 := h.tgt
  rw [hg, drun_step hne, he] at h4
  rw [hg]; exact h4
theorem FWInv.done {next : List (List Int)} {tgt : DS} {q : FW} (h : FWInv next tgt q) (hn : q.s.way = []) : q.s = tgt := by
  have := h.tgt
  rwa [drun_end hn] at this
end Go.Proofs.Ytjmjmedjjbginaa.Sv

namespace Go.Proofs.Ytjmjmedjjbginaa.Sv
open Go

set_option maxRecDepth 100000 in
theorem bsets_ok (op : Int) : APure Try.prog 65 [.int .i64 op] (fun r => r = .bool (setsOp op)) := by
 refine APure.of_body (n := 11) tok Try.func65 rfl rfl ?_
 refine AGo.seq ?_
 refine AGo.region ?_
 refine aa 2 ?_
 refine AOps.nil ?_
 refine AGo.seq ?_
 refine AGo.seq ?_
 refine AGo.region ?_
 refine am 3 ?_
 refine AOps.nil ?_
 refine AGo.block ?_
 refine AGo.seq ?_
 refine AGo.seq ?_
 refine AGo.region ?_
 refine aq 5 (q_bin rfl rfl rfl rfl) ?_
 refine aa 4 ?_
 refine AOps.nil ?_
 refine AGo.split 4 rfl (fun hb1 => ?_) (fun hb1 => ?_)
 ·
  refine AGo.cond_true true rfl rfl ?_
  refine AGo.skip ?_
  refine AGo.cond_true true rfl rfl ?_
  refine AGo.seq ?_
  refine AGo.region ?_
  refine aa 2 ?_
  refine AOps.nil ?_
  refine AGo.ret ?_
  refine ⟨[_], ⟨rfl, trivial⟩, ?_, rfl⟩
  show AV.bool _ = AV.bool _
  congr 1
  simp [setsOp, *]
 ·
  refine AGo.cond_false false rfl rfl ?_
  refine AGo.seq ?_
  refine AGo.region ?_
  refine aq 6 (q_bin rfl rfl rfl rfl) ?_
  refine aa 4 ?_
  refine AOps.nil ?_
  refine AGo.split 4 rfl (fun hb2 => ?_) (fun hb2 => ?_)
  ·
   refine AGo.cond_true true rfl rfl ?_
   refine AGo.skip ?_
   refine AGo.cond_true true rfl rfl ?_
   refine AGo.seq ?_
   refine AGo.region ?_
   refine aa 2 ?_
   refine AOps.nil ?_
   refine AGo.ret ?_
   refine ⟨[_], ⟨rfl, trivial⟩, ?_, rfl⟩
   show AV.bool _ = AV.bool _
   congr 1
   simp [setsOp, *]
  ·
   refine AGo.cond_false false rfl rfl ?_
   refine AGo.seq ?_
   refine AGo.region ?_
   refine aq 7 (q_bin rfl rfl rfl rfl) ?_
   refine aa 4 ?_
   refine AOps.nil ?_
   refine AGo.split 4 rfl (fun hb3 => ?_) (fun hb3 => ?_)
   ·
    refine AGo.cond_true true rfl rfl ?_
    refine AGo.skip ?_
    refine AGo.cond_true true rfl rfl ?_
    refine AGo.seq ?_
    refine AGo.region ?_
    refine aa 2 ?_
    refine AOps.nil ?_
    refine AGo.ret ?_
    refine ⟨[_], ⟨rfl, trivial⟩, ?_, rfl⟩
    show AV.bool _ = AV.bool _
    congr 1
    simp [setsOp, *]
   ·
    refine AGo.cond_false false rfl rfl ?_
    refine AGo.seq ?_
    refine AGo.region ?_
    refine aq 8 (q_bin rfl rfl rfl rfl) ?_
    refine aa 4 ?_
    refine AOps.nil ?_
    refine AGo.split 4 rfl (fun hb4 => ?_) (fun hb4 => ?_)
    ·
     refine AGo.cond_true true rfl rfl ?_
     refine AGo.skip ?_
     refine AGo.cond_true true rfl rfl ?_
     refine AGo.seq ?_
     refine AGo.region ?_
     refine aa 2 ?_
     refine AOps.nil ?_
     refine AGo.ret ?_
     refine ⟨[_], ⟨rfl, trivial⟩, ?_, rfl⟩
     show AV.bool _ = AV.bool _
     congr 1
     simp [setsOp, *]
    ·
     refine AGo.cond_false false rfl rfl ?_
     refine AGo.seq ?_
     refine AGo.region ?_
     refine aq 9 (q_bin rfl rfl rfl rfl) ?_
     refine aa 4 ?_
     refine AOps.nil ?_
     refine AGo.split 4 rfl (fun hb5 => ?_) (fun hb5 => ?_)
     ·
      refine AGo.cond_true true rfl rfl ?_
      refine AGo.skip ?_
      refine AGo.cond_true true rfl rfl ?_
      refine AGo.seq ?_
      refine AGo.region ?_
      refine aa 2 ?_
      refine AOps.nil ?_
      refine AGo.ret ?_
      refine ⟨[_], ⟨rfl, trivial⟩, ?_, rfl⟩
      show AV.bool _ = AV.bool _
      congr 1
      simp [setsOp, *]
     ·
      refine AGo.cond_false false rfl rfl ?_
      refine AGo.region ?_
      refine aq 10 (q_bin rfl rfl rfl rfl) ?_
      refine aa 4 ?_
      refine AOps.nil ?_
      refine AGo.split 4 rfl (fun hb6 => ?_) (fun hb6 => ?_)
      ·
       refine AGo.cond_true true rfl rfl ?_
       refine AGo.seq ?_
       refine AGo.region ?_
       refine aa 2 ?_
       refine AOps.nil ?_
       refine AGo.ret ?_
       refine ⟨[_], ⟨rfl, trivial⟩, ?_, rfl⟩
       show AV.bool _ = AV.bool _
       congr 1
       simp [setsOp, *]
      ·
       refine AGo.cond_false false rfl rfl ?_
       refine AGo.skip ?_
       refine AGo.seq ?_
       refine AGo.region ?_
       refine aa 2 ?_
       refine AOps.nil ?_
       refine AGo.ret ?_
       refine ⟨[_], ⟨rfl, trivial⟩, ?_, rfl⟩
       show AV.bool _ = AV.bool _
       congr 1
       simp [setsOp, *]

set_option maxRecDepth 100000 in
theorem bSets_ok (t : Tac) : APure Try.prog 45 [.agg t.cells] (fun r => r = .int .i64 t.sets) := by
 refine APure.of_body (n := 8) tok Try.func45 rfl rfl ?_
 refine AGo.seq ?_
 refine AGo.region ?_
 refine ax 1 (o_box (sz := 8) 0 rfl rfl rfl rfl (Nat.zero_lt_succ _) rfl) ?_
 refine aa 2 ?_
 refine AOps.nil ?_
 refine AGo.seq ?_
 refine AGo.seq ?_
 refine AGo.region ?_
 refine af 3 tok ?_
 refine al 4 tok ?_
 refine ax 5 (o_pure rfl Try.func65 (by kernel_rfl) rfl rfl rfl (bsets_ok _)) ?_
 refine AOps.nil ?_
 refine AGo.split 5 rfl (fun hb1 => ?_) (fun hb1 => ?_)
 ·
  refine AGo.cond_true true rfl rfl ?_
  refine AGo.seq ?_
  refine AGo.region ?_
  refine af 6 tok ?_
  refine al 7 tok ?_
  refine aa 2 ?_
  refine AOps.nil ?_
  refine AGo.ret ?_
  refine ⟨[_], ⟨rfl, trivial⟩, ?_, rfl⟩
  show AV.int .i64 _ = AV.int .i64 _
  congr 1
  simp [Tac.sets, *]
 ·
  refine AGo.cond_false false rfl rfl ?_
  refine AGo.skip ?_
  refine AGo.seq ?_
  refine AGo.region ?_
  refine aa 2 ?_
  refine AOps.nil ?_
  refine AGo.ret ?_
  refine ⟨[_], ⟨rfl, trivial⟩, ?_, rfl⟩
  show AV.int .i64 _ = AV.int .i64 _
  congr 1
  simp [Tac.sets, *]

set_option maxRecDepth 100000 in
theorem breads_ok (op : Int) : APure Try.prog 64 [.int .i64 op] (fun r => r = .int .i64 (bif use1 op then 1 else bif use2 op then 2 else 0)) := by
 refine APure.of_body (n := 12) tok Try.func64 rfl rfl ?_
 refine AGo.seq ?_
 refine AGo.region ?_
 refine aa 2 ?_
 refine AOps.nil ?_
 refine AGo.seq ?_
 refine AGo.seq ?_
 refine AGo.region ?_
 refine am 3 ?_
 refine AOps.nil ?_
 refine AGo.block ?_
 refine AGo.seq ?_
 refine AGo.seq ?_
 refine AGo.region ?_
 refine aq 5 (q_bin rfl rfl rfl rfl) ?_
 refine aa 4 ?_
 refine AOps.nil ?_
 refine AGo.split 4 rfl (fun hb1 => ?_) (fun hb1 => ?_)
 ·
  refine AGo.cond_true true rfl rfl ?_
  refine AGo.skip ?_
  refine AGo.cond_true true rfl rfl ?_
  refine AGo.seq ?_
  refine AGo.region ?_
  refine aa 2 ?_
  refine AOps.nil ?_
  refine AGo.ret ?_
  refine ⟨[_], ⟨rfl, trivial⟩, ?_, rfl⟩
  show AV.int .i64 _ = AV.int .i64 _
  congr 1
  simp [use1, use2, *]
 ·
  refine AGo.cond_false false rfl rfl ?_
  refine AGo.seq ?_
  refine AGo.region ?_
  refine aq 6 (q_bin rfl rfl rfl rfl) ?_
  refine aa 4 ?_
  refine AOps.nil ?_
  refine AGo.split 4 rfl (fun hb2 => ?_) (fun hb2 => ?_)
  ·
   refine AGo.cond_true true rfl rfl ?_
   refine AGo.skip ?_
   refine AGo.cond_true true rfl rfl ?_
   refine AGo.seq ?_
   refine AGo.region ?_
   refine aa 2 ?_
   refine AOps.nil ?_
   refine AGo.ret ?_
   refine ⟨[_], ⟨rfl, trivial⟩, ?_, rfl⟩
   show AV.int .i64 _ = AV.int .i64 _
   congr 1
   simp [use1, use2, *]
  ·
   refine AGo.cond_false false rfl rfl ?_
   refine AGo.seq ?_
   refine AGo.region ?_
   refine aq 7 (q_bin rfl rfl rfl rfl) ?_
   refine aa 4 ?_
   refine AOps.nil ?_
   refine AGo.split 4 rfl (fun hb3 => ?_) (fun hb3 => ?_)
   ·
    refine AGo.cond_true true rfl rfl ?_
    refine AGo.skip ?_
    refine AGo.cond_true true rfl rfl ?_
    refine AGo.seq ?_
    refine AGo.region ?_
    refine aa 2 ?_
    refine AOps.nil ?_
    refine AGo.ret ?_
    refine ⟨[_], ⟨rfl, trivial⟩, ?_, rfl⟩
    show AV.int .i64 _ = AV.int .i64 _
    congr 1
    simp [use1, use2, *]
   ·
    refine AGo.cond_false false rfl rfl ?_
    refine AGo.region ?_
    refine aq 8 (q_bin rfl rfl rfl rfl) ?_
    refine aa 4 ?_
    refine AOps.nil ?_
    refine AGo.split 4 rfl (fun hb4 => ?_) (fun hb4 => ?_)
    ·
     refine AGo.cond_true true rfl rfl ?_
     refine AGo.seq ?_
     refine AGo.region ?_
     refine aa 2 ?_
     refine AOps.nil ?_
     refine AGo.ret ?_
     refine ⟨[_], ⟨rfl, trivial⟩, ?_, rfl⟩
     show AV.int .i64 _ = AV.int .i64 _
     congr 1
     simp [use1, use2, *]
    ·
     refine AGo.cond_false false rfl rfl ?_
     refine AGo.seq ?_
     refine AGo.seq ?_
     refine AGo.region ?_
     refine aq 10 (q_bin rfl rfl rfl rfl) ?_
     refine aa 9 ?_
     refine AOps.nil ?_
     refine AGo.split 9 rfl (fun hb5 => ?_) (fun hb5 => ?_)
     ·
      refine AGo.cond_true true rfl rfl ?_
      refine AGo.skip ?_
      refine AGo.cond_true true rfl rfl ?_
      refine AGo.seq ?_
      refine AGo.region ?_
      refine aa 2 ?_
      refine AOps.nil ?_
      refine AGo.ret ?_
      refine ⟨[_], ⟨rfl, trivial⟩, ?_, rfl⟩
      show AV.int .i64 _ = AV.int .i64 _
      congr 1
      simp [use1, use2, *]
     ·
      refine AGo.cond_false false rfl rfl ?_
      refine AGo.region ?_
      refine aq 11 (q_bin rfl rfl rfl rfl) ?_
      refine aa 9 ?_
      refine AOps.nil ?_
      refine AGo.split 9 rfl (fun hb6 => ?_) (fun hb6 => ?_)
      ·
       refine AGo.cond_true true rfl rfl ?_
       refine AGo.seq ?_
       refine AGo.region ?_
       refine aa 2 ?_
       refine AOps.nil ?_
       refine AGo.ret ?_
       refine ⟨[_], ⟨rfl, trivial⟩, ?_, rfl⟩
       show AV.int .i64 _ = AV.int .i64 _
       congr 1
       simp [use1, use2, *]
      ·
       refine AGo.cond_false false rfl rfl ?_
       refine AGo.skip ?_
       refine AGo.seq ?_
       refine AGo.region ?_
       refine aa 2 ?_
       refine AOps.nil ?_
       refine AGo.ret ?_
       refine ⟨[_], ⟨rfl, trivial⟩, ?_, rfl⟩
       show AV.int .i64 _ = AV.int .i64 _
       congr 1
       simp [use1, use2, *]

set_option maxRecDepth 100000 in
theorem bUses_ok (t : Tac) : APure Try.prog 43 [.agg t.cells] (fun r => r = intsAV t.uses) := by
 refine APure.of_body (n := 18) tok Try.func43 rfl rfl ?_
 refine AGo.seq ?_
 refine AGo.region ?_
 refine ax 1 (o_box (sz := 8) 0 rfl rfl rfl rfl (Nat.zero_lt_succ _) rfl) ?_
 refine aa 2 ?_
 refine AOps.nil ?_
 refine AGo.seq ?_
 refine AGo.seq ?_
 refine AGo.region ?_
 refine af 3 tok ?_
 refine al 4 tok ?_
 refine ax 5 (o_pure rfl Try.func64 (by kernel_rfl) rfl rfl rfl (breads_ok _)) ?_
 refine AOps.nil ?_
 refine AGo.block ?_
 refine AGo.seq ?_
 refine AGo.region ?_
 refine aq 7 (q_bin rfl rfl rfl rfl) ?_
 refine aa 6 ?_
 refine AOps.nil ?_
 refine AGo.split 6 rfl (fun hb1 => ?_) (fun hb1 => ?_)
 ·
  refine AGo.cond_true true rfl rfl ?_
  have h1 := hb1
  refine AGo.seq ?_
  refine AGo.region ?_
  refine af 8 tok ?_
  refine al 9 tok ?_
  refine ax 10 (o_lit' tok rfl rfl rfl rfl rfl rfl (by decide) rfl rfl rfl rfl rfl rfl) ?_
  refine aa 2 ?_
  refine AOps.nil ?_
  refine AGo.ret ?_
  refine ⟨[_], ⟨rfl, trivial⟩, ?_, rfl⟩
  show AV.lst false _ = _
  cases e1 : use1 t.op <;> cases e2 : use2 t.op <;> simp_all [Tac.uses, intsAV, partVals, AV.cells]
 ·
  refine AGo.cond_false false rfl rfl ?_
  have h1 := hb1
  refine AGo.seq ?_
  refine AGo.region ?_
  refine aq 12 (q_bin rfl rfl rfl rfl) ?_
  refine aa 11 ?_
  refine AOps.nil ?_
  refine AGo.split 11 rfl (fun hb2 => ?_) (fun hb2 => ?_)
  ·
   refine AGo.cond_true true rfl rfl ?_
   have h2 := hb2
   refine AGo.seq ?_
   refine AGo.region ?_
   refine af 13 tok ?_
   refine al 14 tok ?_
   refine af 15 tok ?_
   refine al 16 tok ?_
   refine ax 17 (o_lit' tok rfl rfl rfl rfl rfl rfl (by decide) rfl rfl rfl rfl rfl rfl) ?_
   refine aa 2 ?_
   refine AOps.nil ?_
   refine AGo.ret ?_
   refine ⟨[_], ⟨rfl, trivial⟩, ?_, rfl⟩
   show AV.lst false _ = _
   cases e1 : use1 t.op <;> cases e2 : use2 t.op <;> simp_all [Tac.uses, intsAV, partVals, AV.cells]
  ·
   refine AGo.cond_false false rfl rfl ?_
   have h2 := hb2
   refine AGo.skip ?_
   refine AGo.seq ?_
   refine AGo.region ?_
   refine aa 2 ?_
   refine AOps.nil ?_
   refine AGo.ghost (.empty 2 rfl) ?_
   refine AGo.ret ?_
   refine ⟨[_], ⟨rfl, trivial⟩, ?_, rfl⟩
   show AV.lst false _ = _
   cases e1 : use1 t.op <;> cases e2 : use2 t.op <;> simp_all [Tac.uses, intsAV, partVals, AV.cells]

set_option maxRecDepth 100000 in
theorem next_ok (f : BFunc) (hn : f.blocks.length ≤ 100000) : APure Try.prog 42 [.agg f.cells] (fun r => r = pathsAV f.nexts) := by
 refine APure.of_body (n := 40) tok Try.func42 rfl rfl ?_
 refine AGo.seq ?_
 refine AGo.region ?_
 refine ax 1 (o_box (sz := 2) 0 rfl rfl rfl rfl (Nat.zero_lt_succ _) rfl) ?_
 refine aa 2 ?_
 refine AOps.nil ?_
 refine AGo.seq ?_
 refine AGo.region ?_
 refine af 6 tok ?_
 refine al 7 tok ?_
 refine aq 8 (q_len tok rfl rfl rfl rfl rfl) ?_
 refine ax 9 (o_makeSlice tok (n := f.blocks.length) (m := f.blocks.length) 1 true rfl rfl rfl (by simp) (by simp) rfl rfl rfl rfl rfl (Nat.zero_lt_succ _) rfl (Nat.le_refl _) (by show 24 * f.blocks.length ≤ _; omega) (by simp only [maxLen]; omega)) ?_
 refine aa 3 ?_
 refine AOps.nil ?_
 refine AGo.seq ?_
 refine AGo.seq ?_
 refine AGo.ghost (Ghost.weakRow 1 (es' := List.replicate f.blocks.length [.lst false []]) rfl (by simp) (weak_nils _)) ?_
 refine AGo.region ?_
 refine af 10 tok ?_
 refine al 11 tok ?_
 refine aq 12 (q_len tok rfl rfl rfl rfl rfl) ?_
 refine am 13 ?_
 refine AOps.nil ?_
 refine AGo.block ?_
 refine AGo.loopD (γ := Nat) 2 (fun k => ⟨40, (eput (eput (eput (eput eNew 3 (.ref 1 f.blocks.length 0 f.blocks.length)) 11 (blocksAV f.blocks)) 12 (.int .i64 (f.blocks.length : Int))) 13 (.int .i64 (k : Int))), (hput (hput (hFrom 2) 0 (.row false 2 [f.cells])) 1 (.row true 1 (((f.nexts.take (k)).map pathCell) ++ List.replicate (f.blocks.length - (k)) [.lst false []])))⟩) (fun k => k ≤ f.blocks.length) (fun k => f.blocks.length - k) 0 (Sub.mk' z44q z18q) (Nat.zero_le _) (fun _ => hput_free (hput_free (fun b hb => hFrom_free hb) rfl) rfl) ?_
 intro k hk
 refine AGo.seq ?_
 refine AGo.region ?_
 refine aq 14 (q_bin rfl rfl rfl rfl) ?_
 refine AOps.nil ?_
 refine AGo.seq ?_
 refine AGo.split 14 rfl (fun hb1 => ?_) (fun hb1 => ?_)
 ·
  refine AGo.cond_true true rfl rfl ?_
  have hkl : k < f.blocks.length := by simpa using hb1
  obtain ⟨x, hx⟩ := get_of_lt hkl
  have hnx := nexts_get hx
  refine AGo.skip ?_
  refine AGo.seq ?_
  refine AGo.block ?_
  refine AGo.seq ?_
  refine AGo.region ?_
  refine am 15 ?_
  refine aq 16 (q_index_lst tok rfl rfl rfl rfl rfl rfl (Int.natCast_nonneg _) (idx_map (by assumption)) rfl) ?_
  refine al 17 tok ?_
  refine ax 5 (o_alloc tok 2 rfl rfl rfl rfl (Nat.zero_lt_succ _) rfl) ?_
  refine aa 4 ?_
  refine AOps.w rfl rfl (o_store tok rfl rfl rfl rfl rfl rfl rfl rfl rfl (by decide) rfl z61q) ?_
  refine AOps.nil ?_
  refine AGo.seq ?_
  refine AGo.region ?_
  refine af 18 tok ?_
  refine al 19 tok ?_
  refine AOps.nil ?_
  refine AGo.block ?_
  refine AGo.seq ?_
  refine AGo.region ?_
  refine aq 21 (q_bin rfl rfl rfl rfl) ?_
  refine aa 20 ?_
  refine AOps.nil ?_
  refine AGo.split 20 rfl (fun hb2 => ?_) (fun hb2 => ?_)
  ·
   refine AGo.cond_true true rfl rfl ?_
   refine AGo.region ?_
   refine am 22 ?_
   refine am 23 ?_
   refine af 24 tok ?_
   refine al 25 tok ?_
   refine ax 26 (o_lit' tok rfl rfl rfl rfl rfl rfl (by decide) rfl rfl rfl rfl rfl rfl) ?_
   refine aq 27 (q_index_ref tok rfl rfl rfl rfl rfl rfl rfl (fill_len (nexts_length f) (Nat.le_of_lt hkl)) rfl (Int.natCast_nonneg _) (by omega)) ?_
   refine AOps.w rfl rfl (o_store tok rfl rfl rfl rfl rfl rfl (fill_len (nexts_length f) (Nat.le_of_lt hkl)) (fill_get (nexts_length f) hkl) rfl (by decide) rfl z61q) ?_
   refine AOps.nil ?_
   refine AGo.region ?_
   refine aq 38 (q_inc rfl rfl hkl (show f.blocks.length ≤ maxLen by simp only [maxLen]; omega)) ?_
   refine am 13 ?_
   refine AOps.nil ?_
   exact ⟨k+1, Drop.mk' z46q z3q, hkl, by omega⟩
  ·
   refine AGo.cond_false false rfl rfl ?_
   refine AGo.seq ?_
   refine AGo.region ?_
   refine aq 29 (q_bin rfl rfl rfl rfl) ?_
   refine aa 28 ?_
   refine AOps.nil ?_
   refine AGo.split 28 rfl (fun hb3 => ?_) (fun hb3 => ?_)
   ·
    refine AGo.cond_true true rfl rfl ?_
    refine AGo.region ?_
    refine am 30 ?_
    refine am 31 ?_
    refine af 32 tok ?_
    refine al 33 tok ?_
    refine af 34 tok ?_
    refine al 35 tok ?_
    refine ax 36 (o_lit' tok rfl rfl rfl rfl rfl rfl (by decide) rfl rfl rfl rfl rfl rfl) ?_
    refine aq 37 (q_index_ref tok rfl rfl rfl rfl rfl rfl rfl (fill_len (nexts_length f) (Nat.le_of_lt hkl)) rfl (Int.natCast_nonneg _) (by omega)) ?_
    refine AOps.w rfl rfl (o_store tok rfl rfl rfl rfl rfl rfl (fill_len (nexts_length f) (Nat.le_of_lt hkl)) (fill_get (nexts_length f) hkl) rfl (by decide) rfl z61q) ?_
    refine AOps.nil ?_
    refine AGo.region ?_
    refine aq 38 (q_inc rfl rfl hkl (show f.blocks.length ≤ maxLen by simp only [maxLen]; omega)) ?_
    refine am 13 ?_
    refine AOps.nil ?_
    exact ⟨k+1, Drop.mk' z46q z3q, hkl, by omega⟩
   ·
    refine AGo.cond_false false rfl rfl ?_
    refine AGo.skip ?_
    refine AGo.region ?_
    refine aq 38 (q_inc rfl rfl hkl (show f.blocks.length ≤ maxLen by simp only [maxLen]; omega)) ?_
    refine am 13 ?_
    refine AOps.nil ?_
    exact ⟨k+1, Drop.mk' z46q z3q, hkl, by omega⟩
 ·
  refine AGo.cond_false false rfl rfl ?_
  have hge : f.blocks.length ≤ k := by simpa using hb1
  refine AGo.exit ?_
  refine AGo.seq ?_
  refine AGo.ghost (.freeze 3 1 rfl rfl (fill_len (nexts_length f) hk)) ?_
  refine AGo.region ?_
  refine am 39 ?_
  refine aa 2 ?_
  refine AOps.nil ?_
  refine AGo.ret ?_
  refine ⟨[_], ⟨rfl, trivial⟩, ?_, rfl⟩
  show AV.lst false _ = AV.lst false _
  rw [fill_end (nexts_length f) hge]
  rfl

end Go.Proofs.Ytjmjmedjjbginaa.Sv

namespace Go.Proofs.Ytjmjmedjjbginaa.Sv
open Go

set_option maxRecDepth 100000 in
theorem radd_ok (z R i : Nat) (p : Nat → Bool) (hi : i < R) (hR : R ≤ 100000) : ACall Try.prog 72 [.ref z (nw R) 0 (nw R), .int .i64 (i : Int)] (hput hNew z (.row true 1 (rowW R p))) (fun r h' => r = .tup [] ∧ HSub (hput hNone z (.row true 1 (rowW R (fun v => p v || v == i)))) h') := by
 have hj := nw_of hi
 refine ACall.of_body (n := 14) tok Try.func72 rfl rfl ?_
 refine AGo.draw mix ?_
 refine dm 4 ?_
 refine dm 5 ?_
 refine dq 6 (q_bin (r := .int .i64 ((i / 64 : Nat) : Int)) rfl rfl rfl (quo64 (by omega))) ?_
 refine dq 7 (q_index_ref tok rfl rfl rfl rfl rfl rfl (hput_same _ _ _) (rowW_len _ _).symm rfl (Int.natCast_nonneg _) (by omega)) ?_
 refine dq 8 (q_load tok rfl rfl rfl (.ptr _ _ _ _ _ _ _ (wdcell p (i / 64)) (hput_same _ _ _) (rowW_len _ _).symm (by rw [Nat.zero_add, Int.toNat_natCast]; exact rowW_get hj)) rfl) ?_
 refine dm 9 ?_
 refine dq 10 (q_bin (r := .int .i64 ((i % 64 : Nat) : Int)) rfl rfl rfl rem64) ?_
 refine dq 11 (q_bin (r := .int .u64 ((wd (fun v => v == i % 64) : Nat) : Int)) rfl rfl rfl (wd_one (by omega))) ?_
 refine dq 12 (q_bin rfl rfl rfl (wd_or (fun v => p (64 * (i / 64) + v)) (fun v => v == i % 64))) ?_
 refine dq 13 (q_index_ref tok rfl rfl rfl rfl rfl rfl (hput_same _ _ _) (rowW_len _ _).symm rfl (Int.natCast_nonneg _) (by omega)) ?_
 refine DOps.w rfl rfl (o_store tok (es := rowW R p) (cs := wdcell p (i / 64)) rfl rfl rfl rfl rfl (hput_same _ _ _) (rowW_len _ _).symm (by rw [Nat.zero_add, Int.toNat_natCast]; exact rowW_get hj) rfl (by decide) rfl (fun _ => rfl)) ?_
 refine DOps.nil (by kernel_rfl) ?_
 refine ⟨[], trivial, rfl, HSub.put (HSub.none _) ((hput_same _ _ _).trans (congrArg (fun es => some (AObj.row true 1 es)) ?_))⟩
 rw [Nat.zero_add, Int.toNat_natCast]
 exact (congrArg ((rowW R p).set (i / 64)) (wdcell_add p i)).symm.trans (rowW_set (fun v hv => by
   have : (v == i) = false := by rw [beq_eq_false_iff_ne]; intro e; exact hv (by rw [e])
   simp [this]))

set_option maxRecDepth 100000 in
theorem rrm_ok (z R i : Nat) (p : Nat → Bool) (hi : i < R) (hR : R ≤ 100000) : ACall Try.prog 74 [.ref z (nw R) 0 (nw R), .int .i64 (i : Int)] (hput hNew z (.row true 1 (rowW R p))) (fun r h' => r = .tup [] ∧ HSub (hput hNone z (.row true 1 (rowW R (fun v => p v && !(v == i))))) h') := by
 have hj := nw_of hi
 refine ACall.of_body (n := 14) tok Try.func74 rfl rfl ?_
 refine AGo.draw mix ?_
 refine dm 4 ?_
 refine dm 5 ?_
 refine dq 6 (q_bin (r := .int .i64 ((i / 64 : Nat) : Int)) rfl rfl rfl (quo64 (by omega))) ?_
 refine dq 7 (q_index_ref tok rfl rfl rfl rfl rfl rfl (hput_same _ _ _) (rowW_len _ _).symm rfl (Int.natCast_nonneg _) (by omega)) ?_
 refine dq 8 (q_load tok rfl rfl rfl (.ptr _ _ _ _ _ _ _ (wdcell p (i / 64)) (hput_same _ _ _) (rowW_len _ _).symm (by rw [Nat.zero_add, Int.toNat_natCast]; exact rowW_get hj)) rfl) ?_
 refine dm 9 ?_
 refine dq 10 (q_bin (r := .int .i64 ((i % 64 : Nat) : Int)) rfl rfl rfl rem64) ?_
 refine dq 11 (q_bin (r := .int .u64 ((wd (fun v => v == i % 64) : Nat) : Int)) rfl rfl rfl (wd_one (by omega))) ?_
 refine dq 12 (q_bin rfl rfl rfl (wd_andNot (fun v => p (64 * (i / 64) + v)) (fun v => v == i % 64))) ?_
 refine dq 13 (q_index_ref tok rfl rfl rfl rfl rfl rfl (hput_same _ _ _) (rowW_len _ _).symm rfl (Int.natCast_nonneg _) (by omega)) ?_
 refine DOps.w rfl rfl (o_store tok (es := rowW R p) (cs := wdcell p (i / 64)) rfl rfl rfl rfl rfl (hput_same _ _ _) (rowW_len _ _).symm (by rw [Nat.zero_add, Int.toNat_natCast]; exact rowW_get hj) rfl (by decide) rfl (fun _ => rfl)) ?_
 refine DOps.nil (by kernel_rfl) ?_
 refine ⟨[], trivial, rfl, HSub.put (HSub.none _) ((hput_same _ _ _).trans (congrArg (fun es => some (AObj.row true 1 es)) ?_))⟩
 rw [Nat.zero_add, Int.toNat_natCast]
 exact (congrArg ((rowW R p).set (i / 64)) (wdcell_rm p i)).symm.trans (rowW_set (fun v hv => by
   have : (v == i) = false := by rw [beq_eq_false_iff_ne]; intro e; exact hv (by rw [e])
   simp [this]))

set_option maxRecDepth 100000 in
theorem rowOf_ok (z R : Nat) (hR : R ≤ 100000) : ACall Try.prog 67 [.int .i64 (R : Int)] (hput hNew z .free) (fun r h' => r = .ref z (nw R) 0 (nw R) ∧ HSub (hput hNone z (.row true 1 (rowW R (fun _ => false)))) h') := by
 refine ACall.of_body (n := 7) tok Try.func67 rfl rfl ?_
 refine AGo.seq ?_
 refine AGo.region ?_
 refine aa 2 ?_
 refine AOps.nil ?_
 refine AGo.seq ?_
 refine AGo.region ?_
 refine am 3 ?_
 refine aq 4 (q_bin (r := .int .i64 ((R + 63 : Nat) : Int)) rfl rfl rfl (ebin_add (a := R) (b := 63) (wrapN_i64 (by omega)))) ?_
 refine aq 5 (q_bin (r := .int .i64 ((nw R : Nat) : Int)) rfl rfl rfl (quo64 (by omega))) ?_
 refine ax 6 (o_makeSlice tok (n := nw R) (m := nw R) z true rfl rfl rfl rfl rfl rfl rfl rfl (hput_same _ _ _) rfl (Nat.zero_lt_succ _) rfl (Nat.le_refl _) (by unfold nw; show 8 * _ ≤ _; omega) (by unfold nw; simp only [maxLen]; omega)) ?_
 refine aa 2 ?_
 refine AOps.nil ?_
 refine AGo.ret ?_
 refine ⟨[_], ⟨rfl, trivial⟩, rfl, HSub.put (HSub.none _) ((hput_same _ _ _).trans (congrArg (fun es => some (AObj.row true 1 es)) (rowW_zero R)))⟩

set_option maxRecDepth 100000 in
theorem rspread_ok (z R : Nat) (p : Nat → Bool) (hR : R ≤ 100000) : ACall Try.prog 53 [.ref (z + 16) (nw R) 0 (nw R), .int .i64 (R : Int)] (hput hNew (z + 16) (.row true 1 (rowW R p))) (fun r h' => r = boolsAV (mrow R p) ∧ HSub (hput hNone (z + 16) (.row true 1 (rowW R p))) h') := by
 refine ACall.of_body (n := 29) tok Try.func53 rfl rfl ?_
 refine AGo.seq ?_
 refine AGo.region ?_
 refine aa 4 ?_
 refine AOps.nil ?_
 refine AGo.seq ?_
 refine AGo.region ?_
 refine am 7 ?_
 refine ax 8 (o_makeSlice tok (n := R) (m := R) 0 true rfl rfl rfl (rfl) (rfl) rfl rfl rfl rfl rfl (Nat.zero_lt_succ _) rfl (Nat.le_refl _) (by show 1 * R ≤ _; omega) (by simp only [maxLen]; omega)) ?_
 refine aa 5 ?_
 refine AOps.nil ?_
 refine AGo.seq ?_
 refine AGo.seq ?_
 refine AGo.region ?_
 refine am 9 ?_
 refine aq 10 (q_len tok rfl rfl rfl rfl rfl) ?_
 refine am 11 ?_
 refine AOps.nil ?_
 refine AGo.block ?_
 refine AGo.loopI (γ := Nat) (fun k => ⟨29, (eput (eput (eput (eput eNew 0 (.ref (z + 16) (nw R) 0 (nw R))) 5 (.ref 0 R 0 R)) 10 (.int .i64 (R : Int))) 11 (.int .i64 (k : Int))), (hput (hput hNone (z + 16) (.row true 1 (rowW R p))) 0 (.row true 1 (((mrow R p).take k).map boolCells ++ List.replicate (R - k) [AV.bool false])))⟩) (fun k => k ≤ R) (fun k => R - k) 0 (Sub.mk' z44q (by repeat (first | exact HSub.refl _ | exact HSub.none _ | exact HSub.from_new _ | exact HSub.from_from z63q | refine HSub.put ?_ (by first | rfl | exact hput_same _ _ _ | ((try simp only [hputs]); repeat (first | rfl | exact hput_same _ _ _ | refine hput_skip (by exact beq_false_of_ne (by omega)) ?_ | refine hrm_skip (by omega) ?_ | refine (famW_out _ (fun i_ _ => by first | omega | (dsimp only; omega))).trans ?_))) | refine HSub.from_put ?_ z63q | refine HSub.from_rm ?_ (by decide)))) (Nat.zero_le _) ?_
 intro k hk
 refine AGo.seq ?_
 refine AGo.region ?_
 refine aq 12 (q_bin rfl rfl rfl rfl) ?_
 refine AOps.nil ?_
 refine AGo.seq ?_
 refine AGo.split 12 rfl (fun hb1 => ?_) (fun hb1 => ?_)
 ·
  refine AGo.cond_true true rfl rfl ?_
  have hkl : k < R := by have h := hb1; simp at h; exact h
  have hpk : (fun v => p (64 * (k / 64) + v)) (k % 64) = p k := by show p (64 * (k / 64) + k % 64) = p k; rw [Nat.div_add_mod]
  refine AGo.skip ?_
  refine AGo.seq ?_
  refine AGo.block ?_
  refine AGo.seq ?_
  refine AGo.region ?_
  refine am 13 ?_
  refine aa 6 ?_
  refine AOps.nil ?_
  refine AGo.region ?_
  refine am 14 ?_
  refine am 15 ?_
  refine am 16 ?_
  refine am 17 ?_
  refine aq 18 (q_bin (r := .int .i64 ((k / 64 : Nat) : Int)) rfl rfl rfl (quo64 (by omega))) ?_
  refine aq 19 (q_index_ref tok rfl rfl rfl rfl rfl rfl z28q (rowW_len _ _).symm rfl (Int.natCast_nonneg _) (by have := nw_of hkl; omega)) ?_
  refine aq 20 (q_load tok rfl rfl rfl (.ptr _ _ _ _ true 1 (rowW R p) (wdcell p (k / 64)) z28q (rowW_len _ _).symm (by rw [Nat.zero_add, Int.toNat_natCast]; exact rowW_get (nw_of hkl))) rfl) ?_
  refine am 21 ?_
  refine aq 22 (q_bin (r := .int .i64 ((k % 64 : Nat) : Int)) rfl rfl rfl rem64) ?_
  refine aq 23 (q_bin rfl rfl rfl (wd_shr (p := fun v => p (64 * (k / 64) + v)) (by omega))) ?_
  refine aq 24 (q_bin rfl rfl rfl (wd_and1 (fun v => p (64 * (k / 64) + v)) (by omega))) ?_
  refine aq 25 (q_bin rfl rfl rfl (wd_is1 _)) ?_
  refine aq 26 (q_index_ref tok rfl rfl rfl rfl rfl rfl rfl (fill_len (mrow_len R p) (Nat.le_of_lt hkl)) rfl (Int.natCast_nonneg _) (by omega)) ?_
  refine AOps.w rfl rfl (o_store tok rfl rfl rfl rfl rfl rfl (fill_len (mrow_len R p) (Nat.le_of_lt hkl)) (fill_get (mrow_len R p) hkl) rfl (by decide) rfl z61q) ?_
  refine AOps.nil ?_
  refine AGo.region ?_
  refine aq 27 (q_inc rfl rfl hkl (by simp only [maxLen]; omega)) ?_
  refine am 11 ?_
  refine AOps.nil ?_
  exact ⟨k+1, Sub.mk' z53q (by repeat (first | exact HSub.refl _ | exact HSub.none _ | exact HSub.from_new _ | exact HSub.from_from z63q | refine HSub.put ?_ (by first | rfl | exact congrArg (fun es => some (AObj.row true 1 es)) (fill_put (f := boolCells) (x := p (64 * (k / 64) + k % 64)) (mrow_len R p) ((mrow_get hkl).trans (congrArg some hpk.symm))) | ((try simp only [hputs]); repeat (first | rfl | exact hput_same _ _ _ | refine hput_skip (by exact beq_false_of_ne (by omega)) ?_ | refine hrm_skip (by omega) ?_ | refine (famW_out _ (fun i_ _ => by first | omega | (dsimp only; omega))).trans ?_))) | refine HSub.from_put ?_ z63q | refine HSub.from_rm ?_ (by decide))), hkl, by omega⟩
 ·
  refine AGo.cond_false false rfl rfl ?_
  have hge : R ≤ k := by have h := hb1; simp at h; exact h
  refine AGo.exit ?_
  refine AGo.seq ?_
  refine AGo.ghost (.freeze 5 0 rfl rfl (fill_len (mrow_len R p) hk)) ?_
  rw [fill_end (mrow_len R p) hge]
  refine AGo.region ?_
  refine am 28 ?_
  refine aa 4 ?_
  refine AOps.nil ?_
  refine AGo.ret ?_
  refine ⟨[_], ⟨rfl, trivial⟩, rfl, HSub.put (HSub.none _) z28q⟩

end Go.Proofs.Ytjmjmedjjbginaa.Sv

namespace Go.Proofs.Ytjmjmedjjbginaa.Sv
open Go
abbrev Fr (l : Nat) : Fence := Fence.wide.inRound l
section
variable {P : Program} {l n : Nat}
theorem calls_inR {f : FuncId} {args : Array Value} {w : World} {R : Ending → World → Prop} (h : Calls P f args w R) : CallsIn (Fr l) n P f args w R := callsIn_wide (n := n).2 h
theorem rows_inR {row : String} {args : Array Value} {w : World} {R : Value → World → Prop} (h : Rows P row args w R) : RowsIn (Fr l) n P row args w R := fun c cs _ =>
  let ⟨v, w', r, s⟩ := h c cs
  ⟨v, w', r, stepsIn_wide.2 s⟩
def noDefer (o : Oper) : Bool := match o.op with
  | .defer _ => false
  | _ => true
theorem oper_in {o : Oper} {a : Act} {w : World} {N : Act → World → Prop} {Q : Exit → Act → World → Prop} (hd : noDefer o = true) (h : o.wp P a w N Q) : o.wpIn (Fr l) n P a w N Q := by
  refine ⟨fun _ _ => trivial, ?_⟩
  rw [Oper.semAt_eq _ _ _ (fun c e => by unfold noDefer at hd; rw [e] at hd; cases hd)]
  unfold Oper.wp at h
  generalize (execOp a.eval o).run P w = res at h ⊢
  cases res with
  | ok x w' =>
    cases x with
    | value v => exact h
    | skip => exact h
    | defer d => exact h
    | enter f args => exact ⟨fun e => (by cases e), calls_inR h⟩
    | row r args => exact ⟨fun e => (by cases e), rows_inR h⟩
    | _ => exact h.elim
  | halt x w' =>
    cases x with
    | panic v => exact h
    | _ => exact h.elim
theorem list_in {ops : Array Oper} {Q : Exit → Act → World → Prop} (hq : ¬ LetsOut Q) : ∀ (L : List Oper), L.all noDefer = true → ∀ {a : Act} {w : World}, wpList P ops Q L a w → wpListIn (Fr l) n P ops Q L a w
  | [], _, _, _, h => h
  | o :: L, hd, a, w, h => by
    simp only [List.all_cons, Bool.and_eq_true] at hd
    have ih := @list_in ops Q hq L hd.2
    unfold wpList at h
    unfold wpListIn
    by_cases hw : Region.wanted o (yielded ops a.tmps) = true
    · rw [if_pos hw] at h ⊢
      rcases h with h | ⟨_, h⟩
      · exact oper_in hd.1 (Oper.wp_mono (fun a' w' hx => ih hx) h)
      · exact absurd h hq
    · rw [if_neg hw] at h ⊢
      exact ⟨fun _ _ => trivial, ih h⟩
def AGoR (P : Program) (l n : Nat) (c : Code) (s : AState) (Q : Exit → AState → Prop) : Prop :=
  ∀ H ι a w, Sim H ι s a w → c.wpIn (Fr l) n P (Post H ι s.h w Q) a w
variable {s s' : AState} {Q : Exit → AState → Prop}
theorem AGoR.skip (h : Q .normal s) : AGoR P l n .skip s Q := fun H ι a w hs => wpIn_skip ⟨s, H, ι, h, hs, Step.refl _ _ _ _⟩
theorem AGoR.exit {id : Nat} (h : Q (.exit id) s) : AGoR P l n (.exit id) s Q := fun H ι a w hs => wpIn_exit ⟨s, H, ι, h, hs, Step.refl _ _ _ _⟩
theorem AGoR.mono {c : Code} {Q' : Exit → AState → Prop} (h : AGoR P l n c s Q) (hq : ∀ e s, Q e s → Q' e s) : AGoR P l n c s Q' := fun H ι a w hs => wpIn_mono (h H ι a w hs) fun e a' w' hp => hp.mono (hq e)
theorem AGoR.seq {x y : Code} (h : AGoR P l n x s (Then (fun s' => AGoR P l n y s' Q) Q)) : AGoR P l n (.seq x y) s Q := by
  intro H ι a w hs
  refine wpIn_seq (wpIn_mono (h H ι a w hs) fun e a' w' hp => ?_)
  cases e with
  | normal =>
    obtain ⟨s', H', ι', q, r, t⟩ := hp
    exact wpIn_mono (q H' ι' a' w' r) fun e a'' w'' hp' => Post.step hs.heap r.heap t hp'
  | _ => exact hp
theorem AGoR.cond {t : Nat} {x y : Code} {b : Bool} (he : s.env t = some (.bool b)) (h1 : b = true → AGoR P l n x s Q) (h2 : b = false → AGoR P l n y s Q) : AGoR P l n (.cond (.tmp t) x y) s Q := by
  intro H ι a w hs
  obtain ⟨v, hv, hr⟩ := hs.env t _ he
  cases hr
  have hev : a.eval (.tmp t) = .bool b := by simp [Act.eval, hv]
  exact wpIn_cond_split hev (fun e => h1 e H ι a w hs) (fun e => h2 e H ι a w hs)
theorem AGoR.cond_true {t : Nat} {x y : Code} (b : Bool) (he : s.env t = some (.bool b)) (hb : b = true) (h : AGoR P l n x s Q) : AGoR P l n (.cond (.tmp t) x y) s Q :=
  AGoR.cond he (fun _ => h) (fun h2 => by rw [hb] at h2; cases h2)
theorem AGoR.cond_false {t : Nat} {x y : Code} (b : Bool) (he : s.env t = some (.bool b)) (hb : b = false) (h : AGoR P l n y s Q) : AGoR P l n (.cond (.tmp t) x y) s Q :=
  AGoR.cond he (fun h2 => by rw [hb] at h2; cases h2) (fun _ => h)
theorem AGoR.block {id : Nat} {c : Code} (h : AGoR P l n c s (InBlock id Q)) : AGoR P l n (.block id c) s Q := by
  intro H ι a w hs
  refine wpIn_block (wpIn_mono (h H ι a w hs) fun e a' w' hp => ?_)
  cases e with
  | exit id' =>
    obtain ⟨s', H', ι', q, r⟩ := hp
    simp only [Exit.inBlock]
    simp only [InBlock] at q
    by_cases hid : id' = id
    · subst hid
      simp only [Nat.beq_refl, cond_true] at q
      rw [if_pos rfl]
      exact ⟨s', H', ι', q, r⟩
    · rw [if_neg hid]
      rw [beq_false_of_ne hid] at q
      exact ⟨s', H', ι', q, r⟩
  | _ => exact hp
theorem AGoR.ghost {c : Code} (hg : Ghost s s') (h : AGoR P l n c s' Q) : AGoR P l n c s Q := fun H ι a w hs => by
  obtain ⟨H', ι', h1, h2⟩ := hg H ι a w hs
  exact wpIn_mono (h H' ι' a w h1) fun e a' w' hp => Post.step hs.heap h1.heap h2 hp
theorem AGoR.sub {c : Code} (hg : Sub s' s) (h : AGoR P l n c s' Q) : AGoR P l n c s Q := AGoR.ghost (.of_sub hg) h
theorem AGoR.split {c : Code} {m : Nat} {e : AEnv} {h : AHeap} (d : Nat) {b : Bool} (he : e d = some (.bool b)) (h1 : b = true → AGoR P l n c ⟨m, eput e d (.bool true), h⟩ Q) (h2 : b = false → AGoR P l n c ⟨m, eput e d (.bool false), h⟩ Q) : AGoR P l n c ⟨m, e, h⟩ Q := by
  have key : ∀ c, b = c → eput e d (.bool c) = e := fun c hc => by
    subst hc
    funext t
    by_cases ht : t = d
    · subst ht; rw [eput_same, he]
    · rw [eput_ne _ _ ht]
  cases b with
  | true => have := h1 rfl; rwa [key true rfl] at this
  | false => have := h2 rfl; rwa [key false rfl] at this
theorem AGoR.loop {γ : Type} {c : Code} (I : γ → AState → Prop) (μ : γ → Nat) (g0 : γ) (h0 : I g0 s)
    (round : ∀ g s, I g s → AGoR P l n c s (Then (fun s' => ∃ g', I g' s' ∧ μ g' < μ g) Q)) : AGoR P l n (.loop c) s Q := by
  intro H ι a w hs b k cs hro hb hr
  have key : ∀ m g s1 H1 ι1 a1 w1, μ g = m → I g s1 → Sim H1 ι1 s1 a1 w1 → Step H ι s.h w H1 ι1 s1.h w1 →
      ∃ e a' w', Post H ι s.h w Q e a' w' ∧ ArrivesIn (Machine.fenced P (Fr l)) P (lone (b.atR a1 (.code c :: .inLoop c :: k)) cs w1) b k cs e a' w' := by
    intro m
    induction m using Nat.strongRecOn with
    | _ m ih =>
      intro g s1 H1 ι1 a1 w1 hn hI hs1 hst
      obtain ⟨e, a₂, w₂, hq, harr⟩ := round g s1 hI H1 ι1 a1 w1 hs1 b (.inLoop c :: k) cs hro hb hr
      obtain ⟨s2, H2, ι2, q, r, t⟩ := hq
      have t' := hst.trans hs.heap hs1.heap t
      cases e with
      | normal =>
        obtain ⟨g', hI', hlt⟩ := q
        obtain ⟨e₂, a₃, w₃, hq₂, harr₂⟩ := ih (μ g') (hn ▸ hlt) g' s2 H2 ι2 a₂ w₂ rfl hI' r t'
        exact ⟨e₂, a₃, w₃, hq₂, .of_steps (StepsIn.trans harr (.one (fenced_calm hb hr rfl) stepR_inLoop)) harr₂⟩
      | exit id => exact ⟨.exit id, a₂, w₂, ⟨s2, H2, ι2, q, r, t'⟩, .pass (x := .inLoop c) rfl (fun _ _ => .inl (by simp)) harr⟩
      | goto t => exact ⟨.goto t, a₂, w₂, ⟨s2, H2, ι2, q, r, t'⟩, .pass (x := .inLoop c) rfl (fun _ _ => .inl (by simp)) harr⟩
      | ret => exact ⟨.ret, a₂, w₂, ⟨s2, H2, ι2, q, r, t'⟩, .pass (x := .inLoop c) rfl (fun _ _ => .inl (by simp)) harr⟩
      | panic ch => exact ⟨.panic ch, a₂, w₂, ⟨s2, H2, ι2, q, r, t'⟩, .pass (x := .inLoop c) rfl (fun _ _ => .inl (by simp)) harr⟩
      | outgrown => exact ⟨.outgrown, a₂, w₂, ⟨s2, H2, ι2, q, r, t'⟩, .pass (x := .inLoop c) rfl (fun _ _ => .inl (by simp)) harr⟩
  obtain ⟨e, a', w', hq, harr⟩ := key (μ g0) g0 s H ι a w rfl h0 hs (Step.refl _ _ _ _)
  exact ⟨e, a', w', hq, .of_steps (.one (fenced_calm hb hr rfl) stepR_loop) harr⟩
theorem AGoR.loopI {γ : Type} {c : Code} (inv : γ → AState) (F : γ → Prop) (μ : γ → Nat) (g0 : γ) (h0 : Sub (inv g0) s) (hF : F g0)
    (round : ∀ g, F g → AGoR P l n c (inv g) (Then (fun s' => ∃ g', Sub (inv g') s' ∧ F g' ∧ μ g' < μ g) Q)) : AGoR P l n (.loop c) s Q :=
  AGoR.loop (fun g s' => Sub (inv g) s' ∧ F g) μ g0 ⟨h0, hF⟩ fun g s' hs => AGoR.sub hs.1 ((round g hs.2).mono fun e s'' hq => by
    cases e with
    | normal => obtain ⟨g', h1, h2, h3⟩ := hq; exact ⟨g', ⟨h1, h2⟩, h3⟩
    | _ => exact hq)
theorem AGoR.region {id : Nat} {ops : Array Oper} (hd : ops.toList.all noDefer = true) (h : AOps P ops ops.toList s (fun s' => Q .normal s')) : AGoR P l n (.region id ops false) s Q := fun H ι a w hs => by
  have hpost : ∀ e a2 w2, Post H ι s.h w (Then (fun s' => Q .normal s') fun _ _ => False) e a2 w2 → Post H ι s.h w Q e a2 w2 := fun e a2 w2 hp => by
    obtain ⟨s', H', ι', q, r⟩ := hp
    cases e <;> first | exact ⟨s', H', ι', q, r⟩ | exact q.elim
  have hlo : ¬ LetsOut (Post H ι s.h w (Then (fun s' => Q .normal s') fun _ _ => False)) := fun ⟨a, w, s', H', ι', q, r⟩ => q
  exact wpIn_mono (wpIn_region_list (list_in hlo _ hd (h H ι a w hs))) hpost
end
end Go.Proofs.Ytjmjmedjjbginaa.Sv

namespace Go.Proofs.Ytjmjmedjjbginaa.Sv
open Go Go.RowKit
def AObj.noMap : AObj → Bool
  | .map _ => false
  | _ => true
def NoMap (h : AHeap) : Prop := ∀ b o, h b = some o → o.noMap = true
theorem NoMap.new : NoMap hNew := fun b o h => by cases h; rfl
theorem NoMap.put {h : AHeap} (hh : NoMap h) (b : Nat) {o : AObj} (ho : o.noMap = true) : NoMap (hput h b o) := fun c q hq => by
  by_cases hc : c = b
  · subst hc; rw [hput_same] at hq; cases hq; exact ho
  · rw [hput_ne _ _ hc] at hq; exact hh c q hq
theorem NoMap.none : NoMap hNone := fun b o h => by cases h
theorem HeapRel.grownO {H : Know} {ι : Lay} {h : AHeap} {w w' : World} {row : Option Nat} (hr : HeapRel H ι h w) (hm : NoMap h) (hg : w.grownBy w' row) (hrow : ∀ r, row = some r → ∃ o : Obj, w.heap[r]? = some o ∧ o.isCells = false) : HeapRel H ι h w' := by
  have key : ∀ (b : Nat) (c : Array Value) (T : TypeId) (fr : Nat × Nat), w.heap[b]? = some (Obj.cells c T fr) → w'.heap[b]? = some (Obj.cells c T fr) := fun b c T fr hb => by
    refine (hg.block b (Array.getElem?_eq_some_iff.1 hb).1 (fun e => ?_)).trans hb
    obtain ⟨o, ho, hc⟩ := hrow b e.symm
    rw [hb] at ho; cases ho; cases hc
  refine ⟨fun b c hb => ?_, hr.free, fun b o h1 h2 => ?_, hr.inj, hr.glob⟩
  · obtain ⟨T, fr, e⟩ := hr.know b c hb
    exact ⟨T, fr, key _ _ _ _ e⟩
  · obtain ⟨r, e1, e2, e3⟩ := hr.obj b o h1 h2
    refine ⟨r, e1, ?_, e3⟩
    cases o with
    | free => trivial
    | map kvs => have := hm b _ h1; cases this
    | row p sz es =>
      obtain ⟨r1, r2, r3, r4, r5, r6⟩ := e2
      refine ⟨r1, r2, r3, r4, r5, fun hsol => ?_⟩
      obtain ⟨c, T, ⟨fr, q1, q2⟩, q3, q4⟩ := r6 hsol
      exact ⟨c, T, ⟨fr, key _ _ _ _ q1, q2⟩, q3, q4⟩
theorem Step.grown {H : Know} {ι : Lay} {h : AHeap} {w : World} {H' : Know} {ι' : Lay} {h' : AHeap} {w' w'' : World} {row : Option Nat} (st : Step H ι h w H' ι' h' w') (hg : w'.grownBy w'' row) (hrow : ∀ r, row = some r → w.heap.size ≤ r) : Step H ι h w H' ι' h' w'' where
  size := Nat.le_trans st.size hg.size
  os := hg.os.trans st.os
  out := hg.output.trans st.out
  keep := fun rb hlt hno => by
    refine (hg.block rb (Nat.lt_of_lt_of_le hlt st.size) (fun e => ?_)).trans (st.keep rb hlt hno)
    have := hrow rb e.symm
    omega
  kle := st.kle
  knew := st.knew
  lle := st.lle
  lframe := st.lframe
  newrb := st.newrb
  dom := st.dom
theorem Step.others {H : Know} {ι : Lay} {h : AHeap} {w : World} {H' : Know} {ι' : Lay} {h' : AHeap} {w' : World} (hr : HeapRel H ι h w) (hm : NoMap h) (st : Step H ι h w H' ι' h' w') : KeepsOthers w w' :=
  ⟨st.size, fun k o hk ho => by
    have hlt := (Array.getElem?_eq_some_iff.1 hk).1
    refine (st.keep k hlt ?_).trans hk
    rintro ⟨b, q, r, h1, h2, h3, h4, h5⟩
    obtain ⟨r', e1, e2, _⟩ := hr.obj b q h1 h2
    rw [h3] at e1; cases e1
    cases q with
    | free => cases h2
    | map kvs => have := hm b _ h1; cases this
    | row p sz es =>
      obtain ⟨_, _, _, _, _, r6⟩ := e2
      obtain ⟨c, T, ⟨fr, q1, _⟩, _, _⟩ := r6 h4
      rw [h5] at q1
      rw [hk] at q1; cases q1; cases ho⟩
theorem Step.of_sub {H : Know} {ι : Lay} {h h' : AHeap} {w : World} (hh : HSub h' h) : Step H ι h w H ι h' w := ⟨Nat.le_refl _, rfl, rfl, fun _ _ _ => rfl, KLe.refl _, fun _ h => .inl h, LLe.refl _, fun _ _ => rfl, fun _ _ h _ => .inl h, fun b hb => by
  cases e : h' b with
  | none => rfl
  | some o => rw [hh b o e] at hb; cases hb⟩
section
variable {P : Program}
theorem wp_range {α : Type} {s : AState} {H : Know} {ι : Lay} {a : Act} {w : World} (hs : Sim H ι s a w) {g : Operand} {p d ida : Nat} {oa : Oper} {body : Code} {Q : Exit → Act → World → Prop} {gf : Nat} {cs : List AV}
    (hoa : oa.op = .assign (.tmp p)) (hda : oa.dst = some d) (hga : oa.guard = none) (hp : p < s.n) (hd : d < s.n) (hpd : p ≠ d)
    (hg : look s.env g = some (.fn (.func gf) [] cs)) (eg : ∀ args w, (callFunc gf args).run P w = .ok (.enter gf args) w)
    {enc : α → Value} {av : α → AV} (hav : ∀ x H ι, Rel H ι (av x) (enc x)) {S : List α → Prop} {N : Nat}
    (hseq : ∀ lb : Array Value, lb.size = cs.length → (∀ (j : Nat) (x : AV) (v : Value), cs[j]? = some x → lb[j]? = some v → Rel H ι x v) → SeqStopsK Fence.wide 3 P gf lb (fun x => #[enc x]) (fun _ _ => True) S (fun _ => True) N w)
    (e0 : AEnv) (hI : List α → AHeap) (he0 : ESub e0 s.env) (hm0 : NoMap s.h) (hm : ∀ pre, NoMap (hI pre)) (h0 : HSub (hI []) s.h)
    (hbody : ∀ (l : Nat) (pre : List α) (x : α), pre.length < N → AGoR P l 2 body ⟨s.n, eput (eput e0 p (av x)) d (av x), hI pre⟩ (Then (fun s' => HSub (hI (pre ++ [x])) s'.h) (fun _ _ => False)))
    (hdone : ∀ (D : Nat) (xs : List α) (W : World) (H' : Know) (ι' : Lay), w.heap.size ≤ D → S xs → HeapRel H' ι' (hI xs) W → Step H ι s.h w H' ι' (hI xs) W → W.heap[D]? = some (.deferred (some [])) → Q .normal { tmps := a.tmps, defers := [{ target := .collected D, args := #[] }] } W) :
    (Code.rangeFunc g #[p] (.region ida #[oa] false) body).wp P Q a w := by
  obtain ⟨us, lb, hge, hus, hlb, _, hrl⟩ : ∃ us lb, a.eval g = .func (.func gf) us lb ∧ ([] : List AV).length = us.size ∧ cs.length = lb.size ∧ True ∧ ∀ (j : Nat) (x : AV) (v : Value), cs[j]? = some x → lb[j]? = some v → Rel H ι x v := by
    obtain ⟨us, vs, e1, e2, e3, _, e5⟩ := (look_rel hs hg).fn_inv
    exact ⟨us, vs, e1, e2, e3, trivial, e5⟩
  have hus' : us = #[] := by
    cases us with
    | mk l => cases l with
      | nil => rfl
      | cons y l => simp at hus
  subst hus'
  refine wpIn_wide (n := 4).1 ?_
  have hpn : p < a.tmps.size := by rw [hs.n]; exact hp
  have hdn : d < a.tmps.size := by rw [hs.n]; exact hd
  have hI0 : ∃ H' ι', HeapRel H' ι' (hI []) w ∧ Step H ι s.h w H' ι' (hI []) w := ⟨H, ι, hs.heap.sub h0, Step.of_sub h0⟩
  refine wpIn_rangeFunc_ownF (F := Fence.wide) (n := 4) (α := α) (Q := Q) (a := a) (w := w) (w0 := w) rfl (by decide) hge trivial eg (hseq lb hlb.symm hrl) (fun _ _ => trivial) (fun _ _ _ _ _ _ _ _ => trivial) (Below.refl _ _) (fun _ => rfl)
    (fun pre W => ∃ H' ι', HeapRel H' ι' (hI pre) W ∧ Step H ι s.h w H' ι' (hI pre) W) (fun _ _ _ => False) ?_ (fun _ _ _ _ _ h _ _ => h) hI0
    (fun x => { tmps := (a.tmps.setIfInBounds p (enc x)).setIfInBounds d (enc x), defers := [] }) ?_ ?_ ?_ (fun _ _ _ _ _ _ h _ => h.elim)
  · rintro pre W W' row ⟨H', ι', k1, k2⟩ hg' hr
    exact ⟨H', ι', k1.grownO (hm pre) hg' (fun r e => (hr r e).2), k2.grown hg' (fun r e => (hr r e).1)⟩
  · intro l x W K hK
    refine wpIn_region_list ?_
    show wpListIn _ _ P _ _ [oa] _ W
    unfold wpListIn
    have hw : Region.wanted oa (yielded #[oa] (((#[p].zip #[enc x]).foldl (fun t (q : Nat × Value) => t.setIfInBounds q.1 q.2) a.tmps))) = true := by simp [Region.wanted, hga]
    rw [if_pos hw]
    refine oper_in (by unfold noDefer; rw [hoa]) ?_
    unfold Oper.wp
    simp only [execOp, hoa, Sem.run_pure, Oper.upon]
    have e1 : (#[p].zip #[enc x]).foldl (fun t (q : Nat × Value) => t.setIfInBounds q.1 q.2) a.tmps = a.tmps.setIfInBounds p (enc x) := by simp
    have e2 : ({ tmps := a.tmps.setIfInBounds p (enc x), defers := [] } : Act).eval (.tmp p) = enc x := by
      simp [Act.eval, hpn]
    show K _ W
    rw [hda]
    simpa [Act.put, Act.eval, hpn] using hK
  · rintro l pre x W ⟨H', ι', k1, k2⟩ hlt
    have hsim : Sim H' ι' ⟨s.n, eput (eput e0 p (av x)) d (av x), hI pre⟩ { tmps := (a.tmps.setIfInBounds p (enc x)).setIfInBounds d (enc x), defers := [] } W := by
      refine ⟨by simp [hs.n], rfl, fun t y hy => ?_, k1⟩
      by_cases htd : t = d
      · subst htd
        have hy' : eput (eput e0 p (av x)) t (av x) t = some y := hy
        rw [eput_same] at hy'; cases hy'
        exact ⟨enc x, by simp [hdn], hav x _ _⟩
      · have hy' : eput (eput e0 p (av x)) d (av x) t = some y := hy
        rw [eput_ne _ _ htd] at hy'
        by_cases htp : t = p
        · subst htp
          rw [eput_same] at hy'; cases hy'
          refine ⟨enc x, ?_, hav x _ _⟩
          show ((a.tmps.setIfInBounds t (enc x)).setIfInBounds d (enc x))[t]? = _
          rw [Array.getElem?_setIfInBounds_ne (fun e => htd e.symm)]
          simp [hpn]
        · rw [eput_ne _ _ htp] at hy'
          obtain ⟨v, v1, v2⟩ := hs.env t y (he0 t y hy')
          refine ⟨v, ?_, v2.mono k2.kle k2.lle⟩
          show ((a.tmps.setIfInBounds p (enc x)).setIfInBounds d (enc x))[t]? = _
          rw [Array.getElem?_setIfInBounds_ne (fun e => htd e.symm), Array.getElem?_setIfInBounds_ne (fun e => htp e.symm)]
          exact v1
    refine wpIn_mono (hbody l pre x hlt H' ι' _ W hsim) fun e a' W' hp => ?_
    obtain ⟨s', H2, ι2, q, r, t⟩ := hp
    cases e with
    | normal =>
      have t2 : Step H' ι' (hI pre) W H2 ι2 (hI (pre ++ [x])) W' := t.trans k1 r.heap (Step.of_sub q)
      exact ⟨t.others k1 (hm pre), trivial, H2, ι2, r.heap.sub q, k2.trans hs.heap k1 t2⟩
    | _ => exact q.elim
  · rintro D xs W hD hS ⟨H', ι', k1, k2⟩ hK
    have : a.defers = [] := hs.d
    have ha : { a with defers := { target := .collected D, args := #[] } :: a.defers } = ({ tmps := a.tmps, defers := [{ target := .collected D, args := #[] }] } : Act) := by rw [this]
    rw [ha]
    exact hdone D xs W H' ι' hD hS k1 k2 hK
def QD (ds : List Deferred) (K : Act → World → Prop) (a : Act) (w : World) : Prop := ∃ tm, a = { tmps := tm, defers := ds } ∧ K { tmps := tm, defers := [] } w
theorem put_ds (tm : Array Value) (ds : List Deferred) (d : Option Nat) (v : Value) : ∃ tm', ({ tmps := tm, defers := ds } : Act).put d v = { tmps := tm', defers := ds } ∧ ({ tmps := tm, defers := [] } : Act).put d v = { tmps := tm', defers := [] } := by
  cases d with
  | none => exact ⟨tm, rfl, rfl⟩
  | some d => exact ⟨tm.setIfInBounds d v, rfl, rfl⟩
def loadStore (o : Oper) : Bool := match o.op with
  | .load .. | .store .. => true
  | _ => false
theorem simple_res {o : Oper} (hd : loadStore o = true) {ρ : Operand → Value} {w w' : World} {x : Next} (h : (execOp ρ o).run P w = .ok x w') : (∃ v, x = .value v) ∨ x = .skip := by
  unfold loadStore at hd
  unfold execOp at h
  cases ho : o.op <;> rw [ho] at hd h <;> first | (cases hd; done) | skip
  · simp only [Sem.run_bind, Sem.run_pure] at h
    generalize (Instr.loadAt _ _).run P w = r at h
    cases r with
    | ok v w1 => simp only [Result.andThen_ok] at h; cases h; exact .inl ⟨v, rfl⟩
    | halt y w1 => cases h
  · simp only [Sem.run_bind, Sem.run_pure] at h
    generalize (Instr.storeAt _ _ _).run P w = r at h
    cases r with
    | ok v w1 => simp only [Result.andThen_ok] at h; cases h; exact .inr rfl
    | halt y w1 => cases h
theorem oper_ds {o : Oper} {tm : Array Value} {ds : List Deferred} {w : World} {K : Act → World → Prop} {Q : Exit → Act → World → Prop} (hd : loadStore o = true) (h : o.wp P { tmps := tm, defers := [] } w K Q) : o.wp P { tmps := tm, defers := ds } w (QD ds K) (fun e => QD ds (Q e)) := by
  unfold Oper.wp at h ⊢
  have e : (execOp ({ tmps := tm, defers := ds } : Act).eval o) = execOp ({ tmps := tm, defers := [] } : Act).eval o := by
    congr 1
  rw [e]
  have hnd : ∀ x w', (execOp ({ tmps := tm, defers := [] } : Act).eval o).run P w = .ok x w' → (∃ v, x = .value v) ∨ x = .skip := fun x w' hx => simple_res hd hx
  generalize (execOp ({ tmps := tm, defers := [] } : Act).eval o).run P w = res at h hnd ⊢
  have hput : ∀ v w', K (({ tmps := tm, defers := [] } : Act).put o.dst v) w' → QD ds K (({ tmps := tm, defers := ds } : Act).put o.dst v) w' := fun v w' hk => by
    obtain ⟨tm', e1, e2⟩ := put_ds tm ds o.dst v
    rw [e2] at hk
    exact ⟨tm', e1, hk⟩
  cases res with
  | ok x w' =>
    rcases hnd x w' rfl with ⟨v, rfl⟩ | rfl
    · exact hput v w' h
    · exact hput _ w' h
  | halt x w' =>
    cases x with
    | panic v => exact ⟨tm, rfl, h⟩
    | _ => exact h.elim
theorem any_ds {ops : Array Oper} {ds : List Deferred} {Q : Exit → Act → World → Prop} (hq : ¬ LetsOut Q) (hd : ∀ (i : Nat) o, ops[i]? = some o → loadStore o = true) : ∀ (fuel : Nat) (L : Array Bool) (tm : Array Value) (w : World), wpAny P .any ops Q fuel L { tmps := tm, defers := [] } w → wpAny P .any ops (fun e => QD ds (Q e)) fuel L { tmps := tm, defers := ds } w
  | 0, L, tm, w, h => ⟨h.1, tm, rfl, h.2⟩
  | fuel + 1, L, tm, w, h => by
    refine ⟨fun h0 => ⟨tm, rfl, h.1 h0⟩, fun i hi => ?_⟩
    have h1 := h.2 i hi
    unfold wpOp at h1 ⊢
    have go : ∀ a w', QD ds (wpAny P .any ops Q fuel (L.setIfInBounds i true)) a w' → wpAny P .any ops (fun e => QD ds (Q e)) fuel (L.setIfInBounds i true) a w' := fun a w' ⟨tm', e, hx⟩ => by
      subst e; exact any_ds hq hd fuel _ tm' w' hx
    cases ho : ops[i]? with
    | none => rw [ho] at h1; exact any_ds hq hd fuel _ tm w h1
    | some o =>
      rw [ho] at h1
      simp only at h1 ⊢
      by_cases hw : Region.wanted o (yielded ops tm) = true
      · rw [if_pos hw] at h1 ⊢
        rcases h1 with h1 | ⟨_, h1⟩
        · exact .inl (Oper.wp_mono (fun a w' hx => go a w' hx) (oper_ds (hd i o ho) h1))
        · exact absurd h1 hq
      · rw [if_neg hw] at h1 ⊢
        obtain ⟨tm', e1, e2⟩ := put_ds tm ds o.dst undef
        rw [e2] at h1
        rw [e1]
        exact any_ds hq hd fuel _ tm' w h1
theorem DOps.any {ops : Array Oper} {n : Nat} {e : AEnv} {h : AHeap} {K : AState → Prop} (hd : DOps P ops n ops.toList e h [] K) {H : Know} {ι : Lay} {a : Act} {w : World} (hs : Sim H ι ⟨n, e, h⟩ a w) :
    wpAny P .any ops (Post H ι h w (Then K fun _ _ => False)) ops.size (Array.replicate ops.size false) a { w with drawn := w.drawn + 1 } := by
  obtain ⟨cs, e', h', h1, h2, h3⟩ := hd
  have hgrow : ∀ rb, rb < w.heap.size → ({ w with drawn := w.drawn + 1 } : World).heap[rb]? = w.heap[rb]? := fun _ _ => rfl
  have hr' : HeapRel H ι h { w with drawn := w.drawn + 1 } := hs.heap.grow hgrow
  have hst : Step H ι h w H ι h { w with drawn := w.drawn + 1 } := Step.grow hgrow (Nat.le_refl _) rfl rfl
  have hL0 : ∀ i, (Array.replicate ops.size false).getD i false = false := fun i => by
    by_cases hi : i < ops.size
    · simp [hi]
    · simp [hi]
  have hm0 : ∀ {V : Type} (l : List (Upd V)) (g : Nat → V), merge (fun i => (Array.replicate ops.size false).getD i false) l 0 g = g := fun l g => funext fun x => merge_skip fun i u _ _ => hL0 _
  exact any_order (K := K) h1 (by simpa using h2) h3 hs.heap ops.size (Array.replicate ops.size false) H ι a { w with drawn := w.drawn + 1 }
    ⟨by simp, fun i hi => by rw [hL0] at hi; cases hi⟩ (by unfold todo; simp) (by rw [hm0, hm0]; exact ⟨hs.n, hs.d, hs.env, hr'⟩) (by rw [hm0]; exact hst)
theorem wp_endM {T : Nat → Option TyI} (hT : TOk P T) (hmx : P.follows .mixedOrders = true) {fn : Func} {ops : Array Oper} {id D : Nat} {s : AState} {H0 H : Know} {ι0 ι : Lay} {h0 : AHeap} {tm : Array Value} {w0 w : World} {R : AV → AHeap → Prop}
    (hld : ∀ (i : Nat) o, ops[i]? = some o → loadStore o = true) (hs : Sim H ι s { tmps := tm, defers := [] } w) (hnm : NoMap s.h) (hr0 : HeapRel H0 ι0 h0 w0) (hst : Step H0 ι0 h0 w0 H ι s.h w) (hD : w0.heap.size ≤ D) (hK : w.heap[D]? = some (.deferred (some [])))
    (hd : DOps P ops s.n ops.toList s.env s.h [] (fun s' => NoMap s'.h ∧ ∃ xs, resAll T s' fn.results.toList xs ∧ R (packAV xs) s'.h)) :
    (Code.seq (.region id ops true) .ret).wp P (bodyPostM Fence.wide 3 P fn (fun e w' => ∃ v r h' H' ι', e = .returned v ∧ R r h' ∧ Rel H' ι' r v ∧ HeapRel H' ι' h' w' ∧ Step H0 ι0 h0 w0 H' ι' h' w')) { tmps := tm, defers := [{ target := .collected D, args := #[] }] } w := by
  have hlo : ¬ LetsOut (Post H ι s.h w (Then (fun s' => NoMap s'.h ∧ ∃ xs, resAll T s' fn.results.toList xs ∧ R (packAV xs) s'.h) fun _ _ => False)) := fun ⟨a, w, s', H', ι', q, r⟩ => q
  refine wp_seq (wp_mono (wp_region_any hmx (any_ds (ds := [{ target := .collected D, args := #[] }]) hlo hld _ _ _ _ (DOps.any (K := fun s' => NoMap s'.h ∧ ∃ xs, resAll T s' fn.results.toList xs ∧ R (packAV xs) s'.h) hd hs))) fun e a' w' hp => ?_)
  obtain ⟨tm', rfl, s', H', ι', q, r, t⟩ := hp
  cases e with
  | normal =>
    obtain ⟨qn, xs, q1, q2⟩ := q
    refine wp_ret ?_
    have hoth := t.others hs.heap hnm
    have hK' := hoth.same D _ hK rfl
    have hg := grownBy_putObj' w' D (.deferred none)
    have hrow : ∀ r, some D = some r → ∃ o : Obj, w'.heap[r]? = some o ∧ o.isCells = false := fun r e => by cases e; exact ⟨_, hK', rfl⟩
    have hr2 := r.heap.grownO qn hg hrow
    have hst2 : Step H0 ι0 h0 w0 H' ι' s'.h (w'.putObj D (.deferred none)) := (hst.trans hr0 hs.heap t).grown hg (fun r e => by cases e; exact hD)
    refine ⟨by simp, .inl ⟨D, _, rfl, run_takeDeferred hK', ?_⟩⟩
    obtain ⟨v, e1, e2⟩ := run_results hT (s := s') (a := { tmps := tm', defers := [] }) ⟨r.n, rfl, r.env, hr2⟩ q1
    exact ⟨v, e2, v, _, _, H', ι', rfl, q2, e1, hr2, hst2⟩
  | _ => exact q.elim
end
end Go.Proofs.Ytjmjmedjjbginaa.Sv

namespace Go.Proofs.Ytjmjmedjjbginaa.Sv
open Go Go.RowKit
section
variable {P : Program}
def AW (P : Program) (Q : Exit → Act → World → Prop) (H0 : Know) (ι0 : Lay) (h0 : AHeap) (w0 : World) (c : Code) (s : AState) : Prop :=
  ∀ H ι a w, Sim H ι s a w → Step H0 ι0 h0 w0 H ι s.h w → c.wp P Q a w
def AD (K : Act → World → Prop) (H0 : Know) (ι0 : Lay) (h0 : AHeap) (w0 : World) (s : AState) : Prop :=
  ∀ H ι tm w D, Sim H ι s { tmps := tm, defers := [] } w → Step H0 ι0 h0 w0 H ι s.h w → w0.heap.size ≤ D → w.heap[D]? = some (.deferred (some [])) → K { tmps := tm, defers := [{ target := .collected D, args := #[] }] } w
variable {Q : Exit → Act → World → Prop} {H0 : Know} {ι0 : Lay} {h0 : AHeap} {w0 : World} {s s' : AState} {K : Act → World → Prop}
theorem AW.seq (hr : HeapRel H0 ι0 h0 w0) {x y : Code} (h : AGo P x s (Then (fun s' => AW P Q H0 ι0 h0 w0 y s') (fun _ _ => False))) : AW P Q H0 ι0 h0 w0 (.seq x y) s := fun H ι a w hs hst => by
  refine wp_seq (wp_mono (h H ι a w hs) fun e a' w' hp => ?_)
  obtain ⟨s', H', ι', q, r, t⟩ := hp
  cases e with
  | normal => exact q H' ι' a' w' r (hst.trans hr hs.heap t)
  | _ => exact q.elim
theorem AW.seqw {x y : Code} (h : AW P (fun e a w => match e with
    | .normal => y.wp P Q a w
    | e => Q e a w) H0 ι0 h0 w0 x s) : AW P Q H0 ι0 h0 w0 (.seq x y) s := fun H ι a w hs hst => by
  refine wp_seq (wp_mono (h H ι a w hs hst) fun e a' w' hp => ?_)
  cases e <;> exact hp
theorem AD.ghost (hr : HeapRel H0 ι0 h0 w0) (hg : Ghost s s') (h : AD K H0 ι0 h0 w0 s') : AD K H0 ι0 h0 w0 s := fun H ι tm w D hs hst hD hK => by
  obtain ⟨H', ι', g1, g2⟩ := hg H ι _ w hs
  exact h H' ι' tm w D g1 (hst.trans hr hs.heap g2) hD hK
theorem AW.range (hr : HeapRel H0 ι0 h0 w0) {α : Type} {g : Operand} {p d ida b0 : Nat} {oa : Oper} {body : Code} {gf : Nat} {cs : List AV}
    (hoa : oa.op = .assign (.tmp p)) (hda : oa.dst = some d) (hga : oa.guard = none) (hp : p < s.n) (hd : d < s.n) (hpd : p ≠ d)
    (hg : look s.env g = some (.fn (.func gf) [] cs)) (eg : ∀ args w, (callFunc gf args).run P w = .ok (.enter gf args) w)
    (enc : α → Value) (av : α → AV) (hav : ∀ x H ι, Rel H ι (av x) (enc x)) {S : List α → Prop} {N : Nat}
    (hseq : ∀ H ι w, HeapRel H ι s.h w → ∀ lb : Array Value, lb.size = cs.length → (∀ (j : Nat) (x : AV) (v : Value), cs[j]? = some x → lb[j]? = some v → Rel H ι x v) → SeqStopsK Fence.wide 3 P gf lb (fun x => #[enc x]) (fun _ _ => True) S (fun _ => True) N w)
    (e0 : AEnv) (hI : List α → AHeap) (he0 : ESub e0 s.env) (hm0 : NoMap s.h) (hm : ∀ pre, NoMap (hI pre)) (h1 : HSub (hI []) s.h)
    (hbody : ∀ (l : Nat) (pre : List α) (x : α), pre.length < N → AGoR P l 2 body ⟨s.n, eput (eput e0 p (av x)) d (av x), hI pre⟩ (Then (fun s' => HSub (hI (pre ++ [x])) s'.h) (fun _ _ => False)))
    (hdone : ∀ xs, S xs → AD (Q .normal) H0 ι0 h0 w0 ⟨s.n, s.env, hI xs⟩) :
    AW P Q H0 ι0 h0 w0 (.block b0 (.rangeFunc g #[p] (.region ida #[oa] false) body)) s := fun H ι a w hs hst => by
  refine wp_block ?_
  refine wp_range hs hoa hda hga hp hd hpd hg eg hav (hseq H ι w hs.heap) e0 hI he0 hm0 hm h1 hbody fun D xs W H' ι' hD hS hr' hst' hK => ?_
  show Q .normal _ W
  refine hdone xs hS H' ι' _ W D ⟨hs.n, rfl, fun t x hx => ?_, hr'⟩ (hst.trans hr hs.heap hst') (Nat.le_trans hst.size hD) hK
  obtain ⟨v, e1, e2⟩ := hs.env t x hx
  exact ⟨v, e1, e2.mono hst'.kle hst'.lle⟩
theorem AGoR.join {l n : Nat} {R : Exit → AState → Prop} {γ : Type} {c : Code} (inv : γ → AState) (F : γ → Prop) (h : AGoR P l n c s (Then (fun s' => ∃ g, Sub (inv g) s' ∧ F g) R)) (k : ∀ g, F g → R .normal (inv g)) : AGoR P l n c s R := fun H ι a w hs =>
  wpIn_mono (h H ι a w hs) fun e a' w' hp => by
    obtain ⟨s', H', ι', q, r, t⟩ := hp
    cases e with
    | normal =>
      obtain ⟨g, d, hF⟩ := q
      obtain ⟨H2, ι2, r2, t2⟩ := Ghost.of_sub d H' ι' a' w' r
      exact ⟨_, H2, ι2, k g hF, r2, t.trans hs.heap r.heap t2⟩
    | _ => exact ⟨s', H', ι', q, r, t⟩
theorem Ghost.freezeP {n : Nat} {e : AEnv} {h : AHeap} (t b : Nat) {sz : Nat} {cs : List AV} (ht : e t = some (.ptr b 1 0 0)) (hb : h b = some (.row true sz [cs])) : Ghost ⟨n, e, h⟩ ⟨n, eput e t (.loc cs), hrm h b⟩ := fun H ι a w hs => by
  have hr := hs.heap
  obtain ⟨r, hl, ⟨r1, r2, r3, r4, r5, r6⟩, r7⟩ := hr.obj b _ hb rfl
  have hsol : r.csz ≠ 0 := by simp at r4; omega
  have hsubh : ∀ x o, hrm h b x = some o → h x = some o := fun x o hx => by
    by_cases hxb : x = b
    · subst hxb; rw [hrm_same] at hx; cases hx
    · rwa [hrm_ne _ hxb] at hx
  have hdom : ∀ x, h x = none → hrm h b x = none := fun x hx => by
    cases e : hrm h b x with
    | none => rfl
    | some o => rw [hsubh x o e] at hx; cases hx
  obtain ⟨c, TT, w1, w2, w3⟩ := r6 hsol
  have hnone : H r.rb = none := r7 hsol
  have hkle : KLe H (kput H r.rb c) := fun x c' e => by
    rw [kput_ne _ _ (fun hx => by subst hx; rw [hnone] at e; cases e)]; exact e
  have hsub := hr.sub hsubh
  have hheap : HeapRel (kput H r.rb c) ι (hrm h b) w := by
    refine ⟨fun x c' e => ?_, hsub.free, fun x o h1 h2 => ?_, hsub.inj, hr.glob.mono hkle⟩
    · by_cases hx : x = r.rb
      · subst hx; rw [kput_same] at e; cases e; obtain ⟨fr, w1', _⟩ := w1; exact ⟨TT, fr, w1'⟩
      · rw [kput_ne _ _ hx] at e; exact hr.know x c' e
    · obtain ⟨r', e1, e2, e3⟩ := hsub.obj x o h1 h2
      refine ⟨r', e1, e2.mono hkle (LLe.refl _) (fun _ => rfl), fun hs' => ?_⟩
      have hxb : x ≠ b := fun hx => by subst hx; rw [hrm_same] at h1; cases h1
      rw [kput_ne _ _ (hr.inj x b o _ r' r (hsubh _ _ h1) h2 hb rfl e1 hl hs' hsol hxb)]
      exact e3 hs'
  have hstep : Step H ι h w (kput H r.rb c) ι (hrm h b) w := by
    refine ⟨Nat.le_refl _, rfl, rfl, fun _ _ _ => rfl, hkle, fun x hx => ?_, LLe.refl _, fun _ _ => rfl, fun _ _ h _ => .inl h, hdom⟩
    by_cases hx' : x = r.rb
    · subst hx'; exact .inr (.inr ⟨b, _, r, hb, rfl, hl, hsol, rfl⟩)
    · rw [kput_ne _ _ hx'] at hx; exact .inl hx
  refine ⟨_, ι, ⟨hs.n, hs.d, fun u y hy => ?_, hheap⟩, hstep⟩
  by_cases hu : u = t
  · subst hu
    simp only [eput_same, Option.some.injEq] at hy
    subst hy
    obtain ⟨v, h1, h2⟩ := hs.env u _ ht
    have hv := h2.ptr_live hl r3
    subst hv
    refine ⟨_, h1, .loc _ _ _ _ c (fun k => (c[0 * r.sz + 0 + k]?).getD undef) (kput_same _ _ _) (fun j x hj => ?_) (fun j x hj => ?_) (fun j x hj => ?_)⟩
    · obtain ⟨u, f1, _⟩ := w3.2 0 cs j x rfl hj
      have f1' : c[0 * r.sz + 0 + j]? = some u := by rw [← f1]; congr 1; rw [r1]; omega
      show c[0 * r.sz + 0 + j]? = some ((c[0 * r.sz + 0 + j]?).getD undef); rw [f1']; rfl
    · obtain ⟨u, f1, f2, _⟩ := w3.2 0 cs j x rfl hj
      have f1' : c[0 * r.sz + 0 + j]? = some u := by rw [← f1]; congr 1; rw [r1]; omega
      show Rel _ _ _ ((c[0 * r.sz + 0 + j]?).getD undef); rw [f1']; exact f2.mono hkle (LLe.refl _)
    · obtain ⟨u, _, _, f3⟩ := w3.2 0 cs j x rfl hj; exact f3
  · simp only [eput_ne _ _ hu] at hy
    obtain ⟨v, h1, h2⟩ := hs.env u y hy
    exact ⟨v, h1, h2.mono hkle (LLe.refl _)⟩
theorem NoMap.rm {h : AHeap} (hh : NoMap h) (b : Nat) : NoMap (hrm h b) := fun c q hq => by
  by_cases hc : c = b
  · subst hc; rw [hrm_same] at hq; cases hq
  · rw [hrm_ne _ hc] at hq; exact hh c q hq
abbrev EndsM (P : Program) (fn : Func) (R : AV → AHeap → Prop) (H : Know) (ι : Lay) (h : AHeap) (w : World) : Exit → Act → World → Prop :=
  bodyPostM Fence.wide 3 P fn (fun e w' => ∃ v r h' H' ι', e = .returned v ∧ R r h' ∧ Rel H' ι' r v ∧ HeapRel H' ι' h' w' ∧ Step H ι h w H' ι' h' w')
theorem ACall.of_bodyM {f : FuncId} {fn : Func} {c : Code} {args : List AV} {h : AHeap} {R : AV → AHeap → Prop} (hf : P.funcs[f]? = some fn) (hb : fn.body = some c) {n : Nat} (hn : args.length + (fn.ntmps - args.length) = n)
    (hg : ∀ H ι w, HeapRel H ι h w → AW P (EndsM P fn R H ι h w) H ι h w c ⟨n, argEnv args, h⟩) : ACall P f args h R := by
  intro H ι w vs ha hr
  have hs : Sim H ι ⟨n, argEnv args, h⟩ { tmps := vs ++ Array.replicate (fn.ntmps - vs.size) undef, defers := [] } w := by
    refine ⟨by simp [← ha.1, hn], rfl, fun t x hx => ?_, hr⟩
    have hlt : t < vs.size := by
      rw [← ha.1]
      rcases Nat.lt_or_ge t args.length with h | h
      · exact h
      · simp only [argEnv] at hx; rw [List.getElem?_eq_none h] at hx; cases hx
    obtain ⟨v, hv⟩ := getElem?_some_of_lt hlt
    exact ⟨v, by simp only; rw [Array.getElem?_append_left hlt]; exact hv, ha.2 t x v hx hv⟩
  exact callsIn_wide.1 (callsIn_of_wp_marks (F := Fence.wide) (n := 3) hf hb trivial (wpIn_wide.2 (hg H ι w hr H ι _ w hs (Step.refl _ _ _ _))))
theorem AD.endM {T : Nat → Option TyI} (hT : TOk P T) (hmx : P.follows .mixedOrders = true) {fn : Func} {ops : Array Oper} {id : Nat} {R : AV → AHeap → Prop} (hr : HeapRel H0 ι0 h0 w0)
    (hld : ∀ (i : Nat) o, ops[i]? = some o → loadStore o = true) (hnm : NoMap s.h)
    (hd : DOps P ops s.n ops.toList s.env s.h [] (fun s' => NoMap s'.h ∧ ∃ xs, resAll T s' fn.results.toList xs ∧ R (packAV xs) s'.h)) :
    AD (fun a w => (Code.seq (.region id ops true) .ret).wp P (EndsM P fn R H0 ι0 h0 w0) a w) H0 ι0 h0 w0 s := fun H ι tm w D hs hst hD hK =>
  wp_endM hT hmx hld hs hnm hr hst hD hK hd
theorem AOps.junk {ops : Array Oper} {o : Oper} {rest : List Oper} {n : Nat} {e : AEnv} {h : AHeap} {K : AState → Prop} (d : Nat) {v : Value} (hd : o.dst = some d) (ho : o.op = .assign (.const v)) (hg : o.guard = none) (he : e d = none) (hr : AOps P ops rest ⟨n, e, h⟩ K) : AOps P ops (o :: rest) ⟨n, e, h⟩ K := by
  intro H ι a w hs
  unfold wpList
  rw [if_pos (by simp [Region.wanted, hg])]
  refine .inl ?_
  unfold Oper.wp
  simp only [execOp, ho, Sem.run_pure]
  refine hr H ι _ w ?_
  rw [hd]
  refine ⟨by simp [Act.put, hs.n], hs.d, fun t x hx => ?_, hs.heap⟩
  have hne : d ≠ t := fun e2 => by subst e2; rw [show e d = some x from hx] at he; cases he
  obtain ⟨v', e1, e2⟩ := hs.env t x hx
  exact ⟨v', by simp only [Act.put]; rw [Array.getElem?_setIfInBounds_ne hne]; exact e1, e2⟩
end
end Go.Proofs.Ytjmjmedjjbginaa.Sv

namespace Go.Proofs.Ytjmjmedjjbginaa.Sv
open Go Go.RowKit Go.Shelf

abbrev Below' (N : Nat) := { k : Nat // k < N }
def leftOf : Value → Nat
  | .int _ i => (i + 1).toNat
  | _ => 0
theorem rev_succ (k : Nat) : (List.range (k + 1)).reverse = k :: (List.range k).reverse := by
  rw [List.range_succ, List.reverse_append]; rfl
set_option maxRecDepth 100000 in
set_option maxHeartbeats 1000000 in
theorem down_in (l N b off : Nat) (hN : N ≤ 1000000000) (J Jx : List (Below' N) → World → Prop)
    (hY : ∀ pre (x : Below' N) W, J pre W → pre.length < N → YieldAt Fence.wide 2 Try.prog l #[.int .i64 (x.1 : Int)] W fun e W' =>
      (e = .returned (.bool true) ∧ J (pre ++ [x]) W' ∧ True) ∨ (e = .returned (.bool false) ∧ Jx (pre ++ [x]) W'))
    (W : World) (hB : W.cell? ⟨b, off, none⟩ = some (.int .i64 (N : Int))) (h0 : J [] W) :
    CallsIn Fence.wide 3 Try.prog 78 #[.func (.yield l) #[] #[], .pointer (some ⟨b, off, none⟩)] W fun e W' => (∃ v, e = .returned v) ∧
      ((∃ xs : List (Below' N), xs.map (·.1) = (List.range N).reverse ∧ J xs W') ∨ (∃ pre, True ∧ Jx pre W')) := by
  refine callsIn_of_wp Try.func78 rfl trivial ?_ rfl
  simp only [Try.ntmps78, List.size_toArray, List.length_cons, List.length_nil, Nat.reduceAdd, Nat.reduceSub, Array.replicate_succ, Array.replicate_zero, List.push_toArray, List.append_toArray, List.nil_append, List.cons_append]
  gi_wp2
  gi_loopw [3] (fun p wr => ∃ (m : Nat) (pre : List (Below' N)), p = .int .i64 ((m : Int) - 1) ∧ pre.map (·.1) ++ (List.range m).reverse = (List.range N).reverse ∧ J pre wr)
    (fun p wr => leftOf p)
  case atStart =>
    exact ⟨N, [], rfl, rfl, h0⟩
  case round =>
    obtain ⟨m, pre, rfl, hx, hJs⟩ := hrel
    have hlen := congrArg List.length hx
    simp only [List.length_append, List.length_map, List.length_reverse, List.length_range] at hlen
    cases m with
    | zero =>
      gi_wp2
      exact ⟨rfl, _, results_none rfl _ _ _, ⟨_, rfl⟩, .inl ⟨pre, by simpa using hx, hJs⟩⟩
    | succ k =>
      have hk : k < N := by omega
      obtain ⟨fn, tmps, assign, body, hy, hR⟩ := hY pre ⟨k, hk⟩ wr hJs (by omega)
      dsimp only at hy
      gi_wp2
      refine hR.mono ?_
      rintro e W3 (⟨rfl, hJ3, _⟩ | ⟨rfl, hJx3⟩)
      · gi_wp2
        refine ⟨⟨k, pre ++ [⟨k, hk⟩], rfl, ?_, hJ3⟩, ?_⟩
        · rw [List.map_append, ← hx, rev_succ]
          simp only [List.map_cons, List.map_nil, List.append_assoc, List.cons_append, List.nil_append]
        · show ((k : Int) - 1 + 1).toNat < (((k + 1 : Nat) : Int) - 1 + 1).toNat
          omega
      · gi_wp2
        exact ⟨rfl, _, results_none rfl _ _ _, ⟨_, rfl⟩, .inr ⟨_, trivial, hJx3⟩⟩
theorem down_stops {N : Nat} (hN : N ≤ 1000000000) {H : Know} {ι : Lay} {h : AHeap} {w : World} (hr : HeapRel H ι h w) (lb : Array Value) (hl : lb.size = [AV.loc [.int .i64 (N : Int)]].length)
    (hlb : ∀ (j : Nat) (x : AV) (v : Value), [AV.loc [.int .i64 (N : Int)]][j]? = some x → lb[j]? = some v → Rel H ι x v) :
    SeqStopsK Fence.wide 3 Try.prog 78 lb (fun x : Below' N => #[.int .i64 (x.1 : Int)]) (fun _ _ => True) (fun xs => xs.map (·.1) = (List.range N).reverse) (fun _ => True) N w := by
  intro l J Jx W hB hJ hJx hY h0
  obtain ⟨v, hv⟩ := (⟨lb[0]'(by rw [hl]; exact Nat.zero_lt_one), Array.getElem?_eq_getElem _⟩ : ∃ v, lb[0]? = some v)
  have hlb2 : lb = #[v] := by
    cases lb with
    | mk L => cases L with
      | nil => simp at hv
      | cons y L => cases L with
        | nil => simp at hv; rw [hv]
        | cons z L => simp at hl
  subst hlb2
  obtain ⟨b, off, c, vals, rfl, hb, hcv, hcr, _⟩ := (hlb 0 _ v rfl hv).loc_inv
  have e1 := hcv 0 _ rfl
  have e2 := hcr 0 _ rfl
  cases e2_ : vals 0 with
  | int k i =>
    rw [e2_] at e2 e1
    cases e2
    obtain ⟨T, fr, e3⟩ := hr.know b c hb
    have e4 : W.heap[b]? = some (.cells c T fr) := by
      have := hB.block b (Array.getElem?_eq_some_iff.1 e3).1
      exact this.trans e3
    refine (down_in l N b off hN J Jx hY W ?_ h0).mono ?_
    · unfold World.cell?
      rw [e4]
      exact e1
    · intro e W' hp; exact hp
  | _ => rw [e2_] at e2; cases e2
set_option maxRecDepth 100000 in
theorem down_ok (n : Int) : ACall Try.prog 73 [.int .i64 n] hNew (fun r h' => r = .fn (.func 78) [] [.loc [.int .i64 n]] ∧ HSub hNone h') := by
  refine ACall.of_body (n := 4) tok Try.func73 rfl rfl ?_
  refine AGo.seq ?_
  refine AGo.region ?_
  refine ax 1 (o_box (sz := 1) 0 rfl rfl rfl rfl (Nat.zero_lt_succ _) rfl) ?_
  refine AOps.junk 2 rfl rfl rfl rfl ?_
  refine AOps.nil ?_
  refine AGo.seq ?_
  refine AGo.ghost (.plain 0 rfl (by intro cs hc; simp at hc; subst hc; rfl)) ?_
  refine AGo.ghost (.freezeP 1 0 rfl rfl) ?_
  refine AGo.region ?_
  refine aq 3 (q_makeFunc rfl rfl rfl) ?_
  refine aa 2 ?_
  refine AOps.nil ?_
  refine AGo.ret ?_
  exact ⟨[_], ⟨rfl, trivial⟩, rfl, HSub.none _⟩
end Go.Proofs.Ytjmjmedjjbginaa.Sv

namespace Go.Proofs.Ytjmjmedjjbginaa.Sv
open Go

theorem radd_okI (z R : Nat) (i : Int) (p : Nat → Bool) (h0 : 0 ≤ i) (hi : i < R) (hR : R ≤ 100000) : ACall Try.prog 72 [.ref z (nw R) 0 (nw R), .int .i64 i] (hput hNew z (wRow R p)) (fun r h' => r = .tup [] ∧ HSub (hput hNone z (wRow R (fun v => p v || v == i.toNat))) h') := by
  have := radd_ok z R i.toNat p (by omega) hR
  rw [Int.toNat_of_nonneg h0] at this
  exact this
theorem rrm_okI (z R : Nat) (i : Int) (p : Nat → Bool) (h0 : 0 ≤ i) (hi : i < R) (hR : R ≤ 100000) : ACall Try.prog 74 [.ref z (nw R) 0 (nw R), .int .i64 i] (hput hNew z (wRow R p)) (fun r h' => r = .tup [] ∧ HSub (hput hNone z (wRow R (fun v => p v && !(v == i.toNat)))) h') := by
  have := rrm_ok z R i.toNat p (by omega) hR
  rw [Int.toNat_of_nonneg h0] at this
  exact this
theorem tR_nil (x : Block) : tR x [] = endz x := rfl
theorem tS_nil (x : Block) : tS x [] = fun _ => false := rfl
theorem rowW_full {R : Nat} {p : Nat → Bool} : ((rowW R p).drop 0).take (nw R) = rowW R p := by rw [List.drop_zero, List.take_of_length_le (by rw [rowW_len]; exact Nat.le_refl _)]
attribute [local irreducible] rowW endz rmT setT addUs tR tS
set_option maxRecDepth 100000 in
set_option maxHeartbeats 1000000 in
theorem touch_ok (x : Block) (R : Nat) (hR : R ≤ 100000) (hi : x.ins.length ≤ 100000) (hT : ∀ t ∈ x.ins, t.inR (R : Int)) (hv : x.fin = 2 → 0 ≤ x.v ∧ x.v < R) : ACall Try.prog 66 [.agg x.cells, .int .i64 (R : Int)] hNew (fun r h' => r = .tup [.lst false (rowW R (readP x)), .lst false (rowW R (fun v => setsAny v x.ins))] ∧ HSub hNone h') := by
 refine ACall.of_bodyM (n := 57) Try.func66 rfl rfl ?_
 intro H0 ι0 w0 hr
 refine AW.seq hr ?_
 refine AGo.region ?_
 refine ax 2 (o_box (sz := 5) 0 rfl rfl rfl rfl (Nat.zero_lt_succ _) rfl) ?_
 refine ax 4 (o_alloc tok 1 rfl rfl rfl rfl (Nat.zero_lt_succ _) rfl) ?_
 refine ax 5 (o_alloc tok 2 rfl rfl rfl rfl (Nat.zero_lt_succ _) rfl) ?_
 refine AOps.nil ?_
 refine AW.seq hr ?_
 refine AGo.region ?_
 refine am 10 ?_
 refine ax 11 (o_call (hc := hput hNew 3 .free) (hw := hput hNone 3 (wRow R (fun _ => false))) [3] [(3, (wRow R (fun _ => false)))] rfl Try.func67 (by kernel_rfl) rfl rfl rfl ⟨⟨_, rfl, rfl⟩, trivial⟩ rfl (hres_cons rfl (hres_nil _)) ⟨⟨_, rfl, rfl, rfl⟩, trivial⟩ rfl (rowOf_ok 3 R hR)) ?_
 refine am 12 ?_
 refine ax 13 (o_call (hc := hput hNew 4 .free) (hw := hput hNone 4 (wRow R (fun _ => false))) [4] [(4, (wRow R (fun _ => false)))] rfl Try.func67 (by kernel_rfl) rfl rfl rfl ⟨⟨_, rfl, rfl⟩, trivial⟩ rfl (hres_cons rfl (hres_nil _)) ⟨⟨_, rfl, rfl, rfl⟩, trivial⟩ rfl (rowOf_ok 4 R hR)) ?_
 refine AOps.w rfl rfl (o_store tok rfl rfl rfl rfl rfl rfl rfl rfl rfl (by decide) rfl z61q) ?_
 refine AOps.w rfl rfl (o_store tok rfl rfl rfl rfl rfl rfl rfl rfl rfl (by decide) rfl z61q) ?_
 refine AOps.nil ?_
 refine AW.seq hr ?_
 refine AGo.join (γ := Unit) (fun _u => ⟨57, (eput (eput (eput eNew 2 (.ptr 0 1 0 0)) 4 (.ptr 1 1 0 0)) 5 (.ptr 2 1 0 0)), (hput (hput (hput (hput (hput hNone 0 (.row false 5 [x.cells])) 1 (.row false 1 [[.ref 3 (nw R) 0 (nw R)]])) 2 (.row false 1 [[.ref 4 (nw R) 0 (nw R)]])) 3 (wRow R (endz x))) 4 (wRow R (fun _ => false)))⟩) (fun _u => True) ?_ ?_
 ·
  refine AGo.seq ?_
  refine AGo.region ?_
  refine af 14 tok ?_
  refine al 15 tok ?_
  refine aq 16 (q_bin rfl rfl rfl rfl) ?_
  refine AOps.nil ?_
  refine AGo.split 16 rfl (fun hb1 => ?_) (fun hb1 => ?_)
  ·
   refine AGo.cond_true true rfl rfl ?_
   have hfin : x.fin = 2 := by simpa using hb1
   have hv2 := hv hfin
   skip
   refine AGo.region ?_
   refine al 17 tok ?_
   refine af 18 tok ?_
   refine al 19 tok ?_
   refine ax 20 (o_call (hc := hput hNew 3 (wRow R (fun _ => false))) (hw := hput hNone 3 (wRow R (fun v => (fun _ => false) v || v == x.v.toNat))) [3] [(3, (wRow R (fun v => (fun _ => false) v || v == x.v.toNat)))] rfl Try.func72 (by kernel_rfl) rfl rfl rfl ⟨⟨_, rfl, rfl⟩, trivial⟩ rfl (hres_cons rfl (hres_nil _)) ⟨⟨_, rfl, rfl, rfl⟩, trivial⟩ rfl (radd_okI 3 R x.v (fun _ => false) hv2.1 hv2.2 hR)) ?_
   refine AOps.nil ?_
   exact ⟨(), Sub.mk' z53q z14q, trivial⟩
  ·
   refine AGo.cond_false false rfl rfl ?_
   have hfin : ¬ x.fin = 2 := by simpa using hb1
   refine AGo.skip ?_
   exact ⟨(), Sub.mk' z53q z14q, trivial⟩
 intro _ _
 refine AW.seqw ?_
 refine AW.seq hr ?_
 refine AGo.region ?_
 refine af 21 tok ?_
 refine al 22 tok ?_
 refine aq 23 (q_len tok rfl rfl rfl rfl rfl) ?_
 refine ax 24 (o_call (r := (.fn (.func 78) [] [.loc [.int .i64 (x.ins.length : Int)]])) (hc := hNew) (hw := hNone) [] [] rfl Try.func73 (by kernel_rfl) rfl rfl rfl trivial rfl (hres_nil _) trivial rfl (by rw [List.length_map]; exact down_ok _)) ?_
 refine AOps.nil ?_
 refine AW.range hr (α := Below' x.ins.length) (S := fun xs => xs.map (·.1) = (List.range x.ins.length).reverse) (N := x.ins.length) rfl rfl rfl (by show 25 < 57; decide) (by show 6 < 57; decide) (by decide) rfl (fun _ _ => rfl) (fun q => .int .i64 (q.1 : Int)) (fun q => .int .i64 (q.1 : Int)) (fun _ _ _ => .int _ _ _) (fun H ι w hh lb h1 h2 => down_stops (by omega) hh lb h1 h2) (eput (eput (eput eNew 2 (.ptr 0 1 0 0)) 4 (.ptr 1 1 0 0)) 5 (.ptr 2 1 0 0)) (fun pre => (hput (hput (hput (hput (hput hNone 0 (.row false 5 [x.cells])) 1 (.row false 1 [[.ref 3 (nw R) 0 (nw R)]])) 2 (.row false 1 [[.ref 4 (nw R) 0 (nw R)]])) 3 (wRow R ((tR x (pre.map (·.1)))))) 4 (wRow R ((tS x (pre.map (·.1))))))) z53q z48q (fun _ => z48q) (by repeat (first | exact HSub.refl _ | exact HSub.none _ | exact HSub.from_new _ | exact HSub.from_from z63q | refine HSub.put ?_ (by first | rfl | exact congrArg (fun p => some (wRow R p)) (tR_nil x).symm | exact congrArg (fun p => some (wRow R p)) (tS_nil x).symm) | refine HSub.from_put ?_ z63q | refine HSub.from_rm ?_ (by decide))) ?_ ?_
 ·
  intro l pre q hlt
  obtain ⟨t, ht⟩ := get_of_lt q.2
  have hin := hT t (List.mem_of_getElem? ht)
  refine AGoR.block ?_
  refine AGoR.seq ?_
  refine AGoR.seq ?_
  refine AGoR.region rfl ?_
  refine af 26 tok ?_
  refine al 27 tok ?_
  refine am 28 ?_
  refine aq 29 (q_index_lst tok rfl rfl rfl rfl rfl rfl (Int.natCast_nonneg _) (idx_map ht) rfl) ?_
  refine al 30 tok ?_
  refine ax 31 (o_pure rfl Try.func45 (by kernel_rfl) rfl rfl rfl (bSets_ok _)) ?_
  refine aa 7 ?_
  refine AOps.nil ?_
  refine AGoR.seq ?_
  refine AGoR.region rfl ?_
  refine am 32 ?_
  refine aq 33 (q_bin rfl rfl rfl rfl) ?_
  refine AOps.nil ?_
  refine AGoR.join (γ := Unit) (fun _u => ⟨57, (eput (eput (eput (eput (eput eNew 2 (.ptr 0 1 0 0)) 4 (.ptr 1 1 0 0)) 5 (.ptr 2 1 0 0)) 25 (.int .i64 (q.1 : Int))) 6 (.int .i64 (q.1 : Int))), (hput (hput (hput (hput (hput hNone 0 (.row false 5 [x.cells])) 1 (.row false 1 [[.ref 3 (nw R) 0 (nw R)]])) 2 (.row false 1 [[.ref 4 (nw R) 0 (nw R)]])) 3 (wRow R (rmT t (tR x (pre.map (·.1)))))) 4 (wRow R (setT t (tS x (pre.map (·.1))))))⟩) (fun _u => True) ?_ ?_
  ·
   refine AGoR.split 33 rfl (fun hb2 => ?_) (fun hb2 => ?_)
   ·
    refine AGoR.cond_true true rfl rfl ?_
    have hsp : 0 ≤ t.sets := by simpa using hb2
    have hs1 : t.sets < R := by have := hin.1 (sets_pos (by simpa using hb2)); rw [sets_eq (sets_pos (by simpa using hb2))]; omega
    refine AGoR.seq ?_
    refine AGoR.region rfl ?_
    refine al 34 tok ?_
    refine am 35 ?_
    refine ax 36 (o_call (hc := hput hNew 3 (wRow R (tR x (pre.map (·.1))))) (hw := hput hNone 3 (wRow R (fun v => (tR x (pre.map (·.1))) v && !(v == t.sets.toNat)))) [3] [(3, (wRow R (fun v => (tR x (pre.map (·.1))) v && !(v == t.sets.toNat))))] rfl Try.func74 (by kernel_rfl) rfl rfl rfl ⟨⟨_, rfl, rfl⟩, trivial⟩ rfl (hres_cons rfl (hres_nil _)) ⟨⟨_, rfl, rfl, rfl⟩, trivial⟩ rfl (rrm_okI 3 R t.sets (tR x (pre.map (·.1))) hsp hs1 hR)) ?_
    refine AOps.nil ?_
    refine AGoR.region rfl ?_
    refine al 37 tok ?_
    refine am 38 ?_
    refine ax 39 (o_call (hc := hput hNew 4 (wRow R (tS x (pre.map (·.1))))) (hw := hput hNone 4 (wRow R (fun v => (tS x (pre.map (·.1))) v || v == t.sets.toNat))) [4] [(4, (wRow R (fun v => (tS x (pre.map (·.1))) v || v == t.sets.toNat)))] rfl Try.func72 (by kernel_rfl) rfl rfl rfl ⟨⟨_, rfl, rfl⟩, trivial⟩ rfl (hres_cons rfl (hres_nil _)) ⟨⟨_, rfl, rfl, rfl⟩, trivial⟩ rfl (radd_okI 4 R t.sets (tS x (pre.map (·.1))) hsp hs1 hR)) ?_
    refine AOps.nil ?_
    exact ⟨(), Sub.mk' z53q z11q, trivial⟩
   ·
    refine AGoR.cond_false false rfl rfl ?_
    have hsp : ¬ 0 ≤ t.sets := by simpa using hb2
    refine AGoR.skip ?_
    exact ⟨(), Sub.mk' z53q z11q, trivial⟩
  intro _ _
  refine AGoR.seq ?_
  refine AGoR.region rfl ?_
  refine af 40 tok ?_
  refine al 41 tok ?_
  refine am 42 ?_
  refine aq 43 (q_index_lst tok rfl rfl rfl rfl rfl rfl (Int.natCast_nonneg _) (idx_map ht) rfl) ?_
  refine al 44 tok ?_
  refine ax 45 (o_pure rfl Try.func43 (by kernel_rfl) rfl rfl rfl (bUses_ok _)) ?_
  refine aq 46 (q_len tok rfl rfl rfl rfl rfl) ?_
  refine am 47 ?_
  refine AOps.nil ?_
  refine AGoR.block ?_
  refine AGoR.loopI (γ := Nat) (fun k => ⟨57, (eput (eput (eput (eput (eput (eput (eput (eput eNew 2 (.ptr 0 1 0 0)) 4 (.ptr 1 1 0 0)) 5 (.ptr 2 1 0 0)) 25 (.int .i64 (q.1 : Int))) 6 (.int .i64 (q.1 : Int))) 45 (intsAV t.uses)) 46 (.int .i64 (t.uses.length : Int))) 47 (.int .i64 (k : Int))), (hput (hput (hput (hput (hput hNone 0 (.row false 5 [x.cells])) 1 (.row false 1 [[.ref 3 (nw R) 0 (nw R)]])) 2 (.row false 1 [[.ref 4 (nw R) 0 (nw R)]])) 3 (wRow R (addUs (t.uses.take k) (rmT t (tR x (pre.map (·.1))))))) 4 (wRow R (setT t (tS x (pre.map (·.1))))))⟩) (fun k => True) (fun k => t.uses.length - k) 0 (Sub.mk' (by repeat (first | exact ESub.new _ | refine ESub.put ?_ (by first | rfl | exact congrArg (fun (n : Nat) => some (AV.int .i64 (n : Int))) (by simp) | exact congrArg (fun n : Nat => some (AV.int .i64 (n : Int))) (by simp)))) (by repeat (first | exact HSub.refl _ | exact HSub.none _ | exact HSub.from_new _ | exact HSub.from_from z63q | refine HSub.put ?_ (by first | rfl | exact wRow_congr (fun v => by rw [List.take_zero]; exact addUs_nil v)) | refine HSub.from_put ?_ z63q | refine HSub.from_rm ?_ (by decide)))) trivial ?_
  intro k _
  refine AGoR.seq ?_
  refine AGoR.region rfl ?_
  refine aq 48 (q_bin rfl rfl rfl rfl) ?_
  refine AOps.nil ?_
  refine AGoR.seq ?_
  refine AGoR.split 48 rfl (fun hb3 => ?_) (fun hb3 => ?_)
  ·
   refine AGoR.cond_true true rfl rfl ?_
   have hkl : k < t.uses.length := by have h := hb3; simp [intsAV] at h; exact h
   obtain ⟨u, hu⟩ := get_of_lt hkl
   have hub := hin.2 u (List.mem_of_getElem? hu)
   refine AGoR.skip ?_
   refine AGoR.seq ?_
   refine AGoR.block ?_
   refine AGoR.seq ?_
   refine AGoR.region rfl ?_
   refine aq 49 (q_index_lst tok rfl rfl rfl rfl rfl rfl (Int.natCast_nonneg _) (idx_map hu) rfl) ?_
   refine al 50 tok ?_
   refine aa 9 ?_
   refine AOps.nil ?_
   refine AGoR.region rfl ?_
   refine al 51 tok ?_
   refine am 52 ?_
   refine ax 53 (o_call (hc := hput hNew 3 (wRow R (addUs (t.uses.take k) (rmT t (tR x (pre.map (·.1))))))) (hw := hput hNone 3 (wRow R (fun v => (addUs (t.uses.take k) (rmT t (tR x (pre.map (·.1))))) v || v == u.toNat))) [3] [(3, (wRow R (fun v => (addUs (t.uses.take k) (rmT t (tR x (pre.map (·.1))))) v || v == u.toNat)))] rfl Try.func72 (by kernel_rfl) rfl rfl rfl ⟨⟨_, rfl, rfl⟩, trivial⟩ rfl (hres_cons rfl (hres_nil _)) ⟨⟨_, rfl, rfl, rfl⟩, trivial⟩ rfl (radd_okI 3 R u (addUs (t.uses.take k) (rmT t (tR x (pre.map (·.1))))) hub.1 hub.2 hR)) ?_
   refine AOps.nil ?_
   refine AGoR.region rfl ?_
   refine aq 54 (q_inc rfl rfl hkl (by have := uses_len t; simp only [maxLen]; omega)) ?_
   refine am 47 ?_
   refine AOps.nil ?_
   exact ⟨k+1, Sub.mk' z53q (by repeat (first | exact HSub.refl _ | exact HSub.none _ | exact HSub.from_new _ | exact HSub.from_from z63q | refine HSub.put ?_ (by first | rfl | exact wRow_congr (addUs_succ hu hub.1)) | refine HSub.from_put ?_ z63q | refine HSub.from_rm ?_ (by decide))), trivial, by omega⟩
  ·
   refine AGoR.cond_false false rfl rfl ?_
   have hge : t.uses.length ≤ k := by have h := hb3; simp [intsAV] at h; omega
   refine AGoR.exit ?_
   show HSub _ _
   exact (by repeat (first | exact HSub.refl _ | exact HSub.none _ | exact HSub.from_new _ | exact HSub.from_from z63q | refine HSub.put ?_ (by first | rfl | exact wRow_congr (fun v => by rw [List.map_append, List.take_of_length_le hge]; exact (congrFun (tR_snoc ht) v).symm) | exact wRow_congr (fun v => by rw [List.map_append]; exact (congrFun (tS_snoc ht) v).symm)) | refine HSub.from_put ?_ z63q | refine HSub.from_rm ?_ (by decide)))
 ·
  intro xs hS
  dsimp only
  rw [hS]
  refine AD.ghost hr (.freezeCell 1 0 0 3 rfl rfl rfl rfl (rowW_len _ _).symm (by decide)) ?_
  refine AD.ghost hr (.freezeCell 2 0 0 4 rfl rfl rfl rfl (rowW_len _ _).symm (by decide)) ?_
  rw [rowW_full, rowW_full]
  refine AD.endM tok mix hr (by intro i o ho; rcases i with _ | _ | _ | _ | i <;> first | (cases ho; rfl) | (simp at ho)) z48q ?_
  refine dl 55 tok ?_
  refine dl 56 tok ?_
  refine DOps.w rfl rfl (o_store tok rfl rfl rfl rfl rfl rfl rfl rfl rfl (by decide) rfl z61q) ?_
  refine DOps.w rfl rfl (o_store tok rfl rfl rfl rfl rfl rfl rfl rfl rfl (by decide) rfl z61q) ?_
  refine DOps.nil (by kernel_rfl) ?_
  refine ⟨z48q, [.lst false _, .lst false _], ⟨⟨_, _, _, _, rfl, rfl, .ptr _ _ _ _ _ _ _ _ rfl rfl rfl, rfl⟩, ⟨_, _, _, _, rfl, rfl, .ptr _ _ _ _ _ _ _ _ rfl rfl rfl, rfl⟩, trivial⟩, ?_, HSub.none _⟩
  rw [show rowW R (readP x) = _ from (rowW_congr (tR_all x)).symm, show rowW R (fun v => setsAny v x.ins) = _ from (rowW_congr (tS_all x)).symm]
  rfl
end Go.Proofs.Ytjmjmedjjbginaa.Sv

namespace Go.Proofs.Ytjmjmedjjbginaa.Sv
open Go

set_option maxRecDepth 100000 in
theorem wait_ok (f : BFunc) (R : Nat) (es : List (List AV)) (len : Nat) (w : Nat → Bool) (F : Nat → AObj) (b : Nat) (hb : b < f.blocks.length) (hn : f.blocks.length ≤ 100000) (hl : len ≤ es.length) (he : es.length ≤ f.blocks.length) : ACall Try.prog 52 [.ptr 2 1 0 0, .int .i64 (b : Int)] (HS f R (es) (len) (w) F) (fun r h' => r = .tup [] ∧ HSub (HS f R (waitEs w es len b) (waitLen w len b) (updB w b true) F) h') := by
 refine ACall.of_body (n := 28) tok Try.func52 rfl rfl ?_
 refine AGo.seq ?_
 refine AGo.region ?_
 refine am 4 ?_
 refine aq 5 (q_nilCheck rfl rfl rfl) ?_
 refine af 6 tok ?_
 refine al 7 tok ?_
 refine am 8 ?_
 refine aq 9 (q_index_ref tok rfl rfl rfl rfl rfl rfl rfl (colF_len _ _).symm rfl (Int.natCast_nonneg _) (by omega)) ?_
 refine aq 10 (q_load tok rfl rfl rfl (.ptr _ _ _ _ _ _ _ [.bool (w b)] rfl (colF_len _ _).symm z55q) rfl) ?_
 refine aq 11 (q_not rfl rfl) ?_
 refine AOps.nil ?_
 refine AGo.split 11 rfl (fun hb1 => ?_) (fun hb1 => ?_)
 ·
  refine AGo.cond_true true rfl rfl ?_
  have hwb : w b = false := by have h := hb1; simpa using h
  refine AGo.seq ?_
  refine AGo.region ?_
  refine am 12 ?_
  refine aq 13 (q_nilCheck rfl rfl rfl) ?_
  refine af 14 tok ?_
  refine al 15 tok ?_
  refine am 16 ?_
  refine aq 17 (q_index_ref tok rfl rfl rfl rfl rfl rfl rfl (colF_len _ _).symm rfl (Int.natCast_nonneg _) (by omega)) ?_
  refine AOps.w rfl rfl (o_store tok rfl rfl rfl rfl rfl rfl (colF_len _ _).symm z55q rfl (by decide) rfl z61q) ?_
  refine AOps.nil ?_
  refine AGo.region ?_
  refine am 18 ?_
  refine am 19 ?_
  refine aq 20 (q_nilCheck rfl rfl rfl) ?_
  refine af 21 tok ?_
  refine al 22 tok ?_
  refine am 23 ?_
  refine ax 24 (o_lit' tok rfl rfl rfl rfl rfl rfl (by decide) rfl rfl rfl rfl rfl rfl) ?_
  refine ax 25 (o_push tok (es := es) rfl rfl rfl rfl rfl rfl rfl rfl rfl rfl hl rfl rfl (Nat.zero_lt_succ _) (.lst _ _) rfl (fun _ => rfl) (by show _ * 8 ≤ _; omega) (by simp only [maxLen]; omega)) ?_
  refine aq 26 (q_nilCheck rfl rfl rfl) ?_
  refine af 27 tok ?_
  refine AOps.w rfl rfl (o_store tok rfl rfl rfl rfl rfl rfl rfl rfl rfl (by decide) rfl z61q) ?_
  refine AOps.nil ?_
  have e1 : waitEs w es len b = pushE es len (natC b) := by unfold waitEs; rw [hwb]; rfl
  have e2 : waitLen w len b = len + 1 := by unfold waitLen; rw [hwb]; rfl
  rw [e1, e2]
  exact ⟨[], trivial, rfl, (famSub (k0 := 10) rfl (by repeat (first | exact trivial | refine ⟨⟨by first | rfl | exact congrArg (fun es => some (AObj.row true 1 es)) (bC_set' true), by first | rfl | exact colF_avoid (fun _ _ => rG_avoid _ _ _ _) | exact colF_avoid (fun _ _ => ahR_avoid _ _ _)⟩, ?_⟩)) z42q (fun c h1 h2 => by rcases (by omega : c = 10 ∨ c = 11 ∨ c = 12 ∨ c = 13 ∨ c = 14 ∨ c = 15) with rfl | rfl | rfl | rfl | rfl | rfl <;> first | rfl | (try simp only [hputs]; repeat (first | rfl | refine hput_skip (by exact beq_false_of_ne (by omega)) ?_ | refine hrm_skip (by omega) ?_))))⟩
 ·
  refine AGo.cond_false false rfl rfl ?_
  have hwb : w b = true := by have h := hb1; simpa using h
  refine AGo.skip ?_
  have e1 : waitEs w es len b = es := by unfold waitEs; rw [hwb]; rfl
  have e2 : waitLen w len b = len := by unfold waitLen; rw [hwb]; rfl
  rw [e1, e2, updB_self hwb]
  exact ⟨[], trivial, rfl, (famSub (k0 := 10) rfl z40q z42q (fun c h1 h2 => by rcases (by omega : c = 10 ∨ c = 11 ∨ c = 12 ∨ c = 13 ∨ c = 14 ∨ c = 15) with rfl | rfl | rfl | rfl | rfl | rfl <;> first | rfl | (try simp only [hputs]; repeat (first | rfl | refine hput_skip (by exact beq_false_of_ne (by omega)) ?_ | refine hrm_skip (by omega) ?_))))⟩

end Go.Proofs.Ytjmjmedjjbginaa.Sv

namespace Go.Proofs.Ytjmjmedjjbginaa.Sv
open Go

set_option maxHeartbeats 2000000 in
set_option maxRecDepth 100000 in
theorem grow_ok (f : BFunc) (hs : f.sane) (R : Nat) (hR : R ≤ 100000) (es : List (List AV)) (len : Nat) (w : Nat → Bool) (I O : BB) (r2 : Nat → AObj) (h2a : ∀ b, (r2 b).avoid (kf 10) = true) (b : Nat) (x : Block) (hx : f.blocks[b]? = some x) (hn : f.blocks.length ≤ 100000) : ACall Try.prog 51 [.ptr 2 1 0 0, .int .i64 (b : Int)] (HS f R (es) (len) (w) (F3 (rI f.blocks.length R I) (rI f.blocks.length R O) r2)) (fun r h' => r = .bool (chg (inN x (outN I (O b) x)) (I b) (nw R)) ∧ HSub (HS f R (es) (len) (w) (F3 (rI f.blocks.length R (setRow I b ((inN x (outN I (O b) x))))) (rI f.blocks.length R (setRow O b (outN I (O b) x))) r2)) h') := by
 have hb : b < f.blocks.length := (List.getElem?_eq_some_iff.1 hx).1
 have hxm := List.mem_of_getElem? hx
 have hnw : nw R ≤ 100000 := by unfold nw; omega
 refine ACall.of_body (n := 109) tok Try.func51 rfl rfl ?_
 refine AGo.seq ?_
 refine AGo.region ?_
 refine aa 4 ?_
 refine AOps.nil ?_
 refine AGo.seq ?_
 refine AGo.region ?_
 refine am 13 ?_
 refine aq 14 (q_nilCheck rfl rfl rfl) ?_
 refine af 15 tok ?_
 refine al 16 tok ?_
 refine am 17 ?_
 refine aq 18 (q_index_ref tok rfl rfl rfl rfl rfl rfl rfl (colF_len _ _).symm rfl (Int.natCast_nonneg _) (by omega)) ?_
 refine aq 19 (q_load tok rfl rfl rfl (.ptr _ _ _ _ _ _ _ [rG 1 (nw R) b] rfl (colF_len _ _).symm z55q) rfl) ?_
 refine aa 5 ?_
 refine aa 6 ?_
 refine AOps.nil ?_
 refine AGo.seq ?_
 refine AGo.seq ?_
 refine AGo.region ?_
 refine am 20 ?_
 refine aq 21 (q_nilCheck rfl rfl rfl) ?_
 refine af 22 tok ?_
 refine al 23 tok ?_
 refine am 24 ?_
 refine aq 25 (q_index_lst tok rfl rfl rfl rfl rfl rfl (Int.natCast_nonneg _) (idx_map (nexts_get hx)) rfl) ?_
 refine al 26 tok ?_
 refine aq 27 (q_len tok rfl rfl rfl rfl rfl) ?_
 refine am 28 ?_
 refine AOps.nil ?_
 refine AGo.block ?_
 refine AGo.loopK (γ := Nat) (kf 10) (fun j => ⟨109, (eput (eput (eput (eput (eput (eput (eput eNew 0 (.ptr 2 1 0 0)) 1 (.int .i64 (b : Int))) 5 (rG 1 (nw R) b)) 6 (.bool false)) 26 (intsAV x.nexts)) 27 (.int .i64 (x.nexts.length : Int))) 28 (.int .i64 (j : Int))), (fam (nb [.free, .free, (.row false 8 [SBc f (es).length (len)]), (.row false 1 (colF (rG 0 (nw R)) f.blocks.length)), (.row false 1 (colF (rG 1 (nw R)) f.blocks.length)), (.row true 1 (bC f.blocks.length (w))), (.row true 1 (es)), (.row false 1 (colF (ahR (aheadL f)) f.blocks.length)), (.row true 1 (f.blocks.map (rdC R))), (.row true 1 (f.blocks.map (stC R)))]) (F3 (rI f.blocks.length R I) (rI f.blocks.length R (setRow O b (outP I (O b) x j))) r2))⟩) (fun j => True) (fun j => x.nexts.length - j) 0 (Sub.mk' z44q (famSub (k0 := 10) rfl z40q (fun x_ => by (try simp only [hputs]); exact (fam_hi _ _ _).trans (congrArg some (rows1 (outP_zero I (O b) x) _))) (fun c h1 h2 => by rcases (by omega : c = 10 ∨ c = 11 ∨ c = 12 ∨ c = 13 ∨ c = 14 ∨ c = 15) with rfl | rfl | rfl | rfl | rfl | rfl <;> first | rfl | (try simp only [hputs]; repeat (first | rfl | refine hput_skip (by exact beq_false_of_ne (by omega)) ?_ | refine hrm_skip (by omega) ?_))))) trivial (fun g b hb => famFree (k0 := 10) rfl hb) ?_
 intro j _
 refine AGo.seq ?_
 refine AGo.region ?_
 refine aq 29 (q_bin rfl rfl rfl rfl) ?_
 refine AOps.nil ?_
 refine AGo.seq ?_
 refine AGo.split 29 rfl (fun hb1 => ?_) (fun hb1 => ?_)
 ·
  refine AGo.cond_true true rfl rfl ?_
  have hjl : j < x.nexts.length := by have h := hb1; simp [intsAV] at h; exact h
  obtain ⟨d, hd⟩ := get_of_lt hjl
  have hd0 := hs.next x hxm d (List.mem_of_getElem? hd)
  have hdn : d.toNat < f.blocks.length := by omega
  refine AGo.skip ?_
  refine AGo.seq ?_
  refine AGo.block ?_
  refine AGo.seq ?_
  refine AGo.region ?_
  refine aq 30 (q_index_lst tok rfl rfl rfl rfl rfl rfl (Int.natCast_nonneg _) (idx_map hd) rfl) ?_
  refine al 31 tok ?_
  refine aa 8 ?_
  refine AOps.nil ?_
  refine AGo.seq ?_
  refine AGo.region ?_
  refine am 32 ?_
  refine aq 33 (q_nilCheck rfl rfl rfl) ?_
  refine af 34 tok ?_
  refine al 35 tok ?_
  refine am 36 ?_
  refine aq 37 (q_index_ref tok rfl rfl rfl rfl rfl rfl rfl (colF_len _ _).symm rfl hd0.1 (by omega)) ?_
  refine aq 38 (q_load tok rfl rfl rfl (.ptr _ _ _ _ _ _ _ [rG 0 (nw R) d.toNat] rfl (colF_len _ _).symm (by rw [Nat.zero_add]; exact colF_get hdn)) rfl) ?_
  refine aq 39 (q_len tok rfl rfl rfl rfl rfl) ?_
  refine am 40 ?_
  refine AOps.nil ?_
  refine AGo.block ?_
  refine AGo.loopK (γ := Nat) (kf 10) (fun k => ⟨109, (eput (eput (eput (eput (eput (eput (eput (eput (eput (eput (eput eNew 0 (.ptr 2 1 0 0)) 1 (.int .i64 (b : Int))) 5 (rG 1 (nw R) b)) 6 (.bool false)) 26 (intsAV x.nexts)) 27 (.int .i64 (x.nexts.length : Int))) 28 (.int .i64 (j : Int))) 8 (.int .i64 d)) 38 (rG 0 (nw R) d.toNat)) 39 (.int .i64 (nw R : Int))) 40 (.int .i64 (k : Int))), (fam (nb [.free, .free, (.row false 8 [SBc f (es).length (len)]), (.row false 1 (colF (rG 0 (nw R)) f.blocks.length)), (.row false 1 (colF (rG 1 (nw R)) f.blocks.length)), (.row true 1 (bC f.blocks.length (w))), (.row true 1 (es)), (.row false 1 (colF (ahR (aheadL f)) f.blocks.length)), (.row true 1 (f.blocks.map (rdC R))), (.row true 1 (f.blocks.map (stC R)))]) (F3 (rI f.blocks.length R I) (rI f.blocks.length R (setRow O b (orK (outP I (O b) x j) (I d.toNat) k))) r2))⟩) (fun k => True) (fun k => nw R - k) 0 (Sub.mk' z44q (famSub (k0 := 10) rfl z40q (fun x_ => by (try simp only [hputs]); exact (fam_hi _ _ _).trans (congrArg some (rowsS1 (rowW_congr (orK_zero _ _)) _))) (fun c h1 h2 => by rcases (by omega : c = 10 ∨ c = 11 ∨ c = 12 ∨ c = 13 ∨ c = 14 ∨ c = 15) with rfl | rfl | rfl | rfl | rfl | rfl <;> first | rfl | (try simp only [hputs]; repeat (first | rfl | refine hput_skip (by exact beq_false_of_ne (by omega)) ?_ | refine hrm_skip (by omega) ?_))))) trivial (fun g b hb => famFree (k0 := 10) rfl hb) ?_
  intro k _
  refine AGo.seq ?_
  refine AGo.region ?_
  refine aq 41 (q_bin rfl rfl rfl rfl) ?_
  refine AOps.nil ?_
  refine AGo.seq ?_
  refine AGo.split 41 rfl (fun hb2 => ?_) (fun hb2 => ?_)
  ·
   refine AGo.cond_true true rfl rfl ?_
   have hkl : k < nw R := by have h := hb2; simp at h; exact h
   refine AGo.skip ?_
   refine AGo.seq ?_
   refine AGo.block ?_
   refine AGo.seq ?_
   refine AGo.region ?_
   refine am 42 ?_
   refine aq 43 (q_index_ref tok rfl rfl rfl rfl rfl rfl ((fam_hi _ _ _).trans (congrArg some (rI_0 hdn))) (rowW_len _ _).symm rfl (Int.natCast_nonneg _) (by omega)) ?_
   refine aq 44 (q_load tok rfl rfl rfl (.ptr _ _ _ _ _ _ _ (wdcell (I d.toNat) k) ((fam_hi _ _ _).trans (congrArg some (rI_0 hdn))) (rowW_len _ _).symm (by rw [Nat.zero_add, Int.toNat_natCast]; exact (rowW_get hkl).trans (congrArg some rfl))) rfl) ?_
   refine aa 9 ?_
   refine aa 10 ?_
   refine AOps.nil ?_
   refine AGo.region ?_
   refine am 45 ?_
   refine am 46 ?_
   refine aq 47 (q_index_ref tok rfl rfl rfl rfl rfl rfl ((fam_hi _ _ _).trans (congrArg some (rIs_1 hb))) (rowW_len _ _).symm rfl (Int.natCast_nonneg _) (by omega)) ?_
   refine aq 48 (q_load tok rfl rfl rfl (.ptr _ _ _ _ _ _ _ (wdcell (outP I (O b) x j) k) ((fam_hi _ _ _).trans (congrArg some (rIs_1 hb))) (rowW_len _ _).symm (by rw [Nat.zero_add, Int.toNat_natCast]; exact (rowW_get hkl).trans (congrArg some (orK_old _ _ _)))) rfl) ?_
   refine am 49 ?_
   refine aq 50 (q_bin rfl rfl rfl (wd_or (fun v => (outP I (O b) x j) (64 * k + v)) (fun v => I d.toNat (64 * k + v)))) ?_
   refine aq 51 (q_index_ref tok rfl rfl rfl rfl rfl rfl ((fam_hi _ _ _).trans (congrArg some (rIs_1 hb))) (rowW_len _ _).symm rfl (Int.natCast_nonneg _) (by omega)) ?_
   refine AOps.w rfl rfl (o_store tok (es := rowW R (orK (outP I (O b) x j) (I d.toNat) k)) (cs := wdcell (outP I (O b) x j) k) rfl rfl rfl rfl rfl ((fam_hi _ _ _).trans (congrArg some (rIs_1 hb))) (rowW_len _ _).symm (by rw [Nat.zero_add, Int.toNat_natCast]; exact (rowW_get hkl).trans (congrArg some (orK_old _ _ _))) rfl (by decide) rfl (fun _ => rfl)) ?_
   refine AOps.nil ?_
   refine AGo.region ?_
   refine aq 52 (q_inc rfl rfl hkl (by simp only [maxLen]; omega)) ?_
   refine am 40 ?_
   refine AOps.nil ?_
   exact ⟨k+1, DropK.mk' (by repeat (first | exact EDropK.new _ _ | refine EDropK.put ?_ (by rfl) (by first | rfl | exact rG_avoid _ _ _ _))) (famDrop (k0 := 10) rfl z40q (fun x_ => by (try simp only [hputs]); (repeat (first | refine hput_skip (by exact beq_false_of_ne (by omega)) ?_ | refine hrm_skip (by omega) ?_)); exact (hput_hi (fun y_ => by (try simp only [hputs]); repeat (first | exact fam_hi _ _ _ | refine hput_skip (by exact beq_false_of_ne (by omega)) ?_ | refine hrm_skip (by omega) ?_)) _ _ x_).trans (congrArg some (rIs_put1 hb (orK_succ _ _ _) x_).symm)) (F3_avoid (fun _ => rI_avoid _) (fun _ => rI_avoid _) h2a)), trivial, by omega⟩
  ·
   refine AGo.cond_false false rfl rfl ?_
   have hkge : nw R ≤ k := by have h := hb2; simp at h; omega
   refine AGo.exit ?_
   refine AGo.region ?_
   refine aq 53 (q_inc rfl rfl hjl (by simp only [maxLen]; have := nexts_le2 x; omega)) ?_
   refine am 28 ?_
   refine AOps.nil ?_
   exact ⟨j+1, DropK.mk' (by repeat (first | exact EDropK.new _ _ | refine EDropK.put ?_ (by rfl) (by first | rfl | exact rG_avoid _ _ _ _))) (famDrop (k0 := 10) rfl z40q (fun x_ => by (try simp only [hputs]); exact (fam_hi _ _ _).trans (congrArg some (rowsS1 ((orK_end _ _ hkge).trans (rowW_congr (outP_succ hd))) _))) (F3_avoid (fun _ => rI_avoid _) (fun _ => rI_avoid _) h2a)), trivial, by omega⟩
 ·
  refine AGo.cond_false false rfl rfl ?_
  have hjge : x.nexts.length ≤ j := by have h := hb1; simp [intsAV] at h; omega
  refine AGo.exit ?_
  refine AGo.seq ?_
  refine AGo.seq ?_
  refine AGo.region ?_
  refine am 54 ?_
  refine aq 55 (q_len tok rfl rfl rfl rfl rfl) ?_
  refine am 56 ?_
  refine AOps.nil ?_
  refine AGo.block ?_
  refine AGo.loopK (γ := Nat) (kf 10) (fun k => ⟨109, (eput (eput (eput (eput (eput (eput eNew 0 (.ptr 2 1 0 0)) 1 (.int .i64 (b : Int))) 5 (rG 1 (nw R) b)) 6 (.bool (chg (inN x (outN I (O b) x)) (I b) k))) 55 (.int .i64 (nw R : Int))) 56 (.int .i64 (k : Int))), (fam (nb [.free, .free, (.row false 8 [SBc f (es).length (len)]), (.row false 1 (colF (rG 0 (nw R)) f.blocks.length)), (.row false 1 (colF (rG 1 (nw R)) f.blocks.length)), (.row true 1 (bC f.blocks.length (w))), (.row true 1 (es)), (.row false 1 (colF (ahR (aheadL f)) f.blocks.length)), (.row true 1 (f.blocks.map (rdC R))), (.row true 1 (f.blocks.map (stC R)))]) (F3 (rI f.blocks.length R (setRow I b (mixN (inN x (outN I (O b) x)) (I b) k))) (rI f.blocks.length R (setRow O b (outN I (O b) x))) r2))⟩) (fun k => k ≤ nw R) (fun k => nw R - k) 0 (Sub.mk' z44q (famSub (k0 := 10) rfl z40q (fun x_ => by (try simp only [hputs]); exact (fam_hi _ _ _).trans (congrArg some (by rw [outP_end hjge]; exact rows0 (mixN_zero _ _) _))) (fun c h1 h2 => by rcases (by omega : c = 10 ∨ c = 11 ∨ c = 12 ∨ c = 13 ∨ c = 14 ∨ c = 15) with rfl | rfl | rfl | rfl | rfl | rfl <;> first | rfl | (try simp only [hputs]; repeat (first | rfl | refine hput_skip (by exact beq_false_of_ne (by omega)) ?_ | refine hrm_skip (by omega) ?_))))) (Nat.zero_le _) (fun g b hb => famFree (k0 := 10) rfl hb) ?_
  intro k hkn
  refine AGo.seq ?_
  refine AGo.region ?_
  refine aq 57 (q_bin rfl rfl rfl rfl) ?_
  refine AOps.nil ?_
  refine AGo.seq ?_
  refine AGo.split 57 rfl (fun hb3 => ?_) (fun hb3 => ?_)
  ·
   refine AGo.cond_true true rfl rfl ?_
   have hkl : k < nw R := by have h := hb3; simp at h; exact h
   refine AGo.skip ?_
   refine AGo.seq ?_
   refine AGo.block ?_
   refine AGo.seq ?_
   refine AGo.region ?_
   refine am 58 ?_
   refine aa 11 ?_
   refine AOps.nil ?_
   refine AGo.seq ?_
   refine AGo.draw mix ?_
   refine dm 59 ?_
   refine dq 60 (q_nilCheck rfl rfl rfl) ?_
   refine df 61 tok ?_
   refine dl 62 tok ?_
   refine dm 63 ?_
   refine dq 64 (q_index_ref tok rfl rfl rfl rfl rfl rfl rfl (List.length_map _).symm rfl (Int.natCast_nonneg _) (by omega)) ?_
   refine dq 65 (q_load tok rfl rfl rfl (.ptr _ _ _ _ _ _ _ (rdC R x) rfl (List.length_map _).symm (by rw [Nat.zero_add, Int.toNat_natCast, List.getElem?_map, hx]; rfl)) rfl) ?_
   refine dm 66 ?_
   refine dq 67 (q_index_lst tok rfl rfl rfl rfl rfl rfl (Int.natCast_nonneg _) (by rw [Int.toNat_natCast]; exact rowW_get hkl) rfl) ?_
   refine dl 68 tok ?_
   refine dm 69 ?_
   refine dm 70 ?_
   refine dq 71 (q_index_ref tok rfl rfl rfl rfl rfl rfl ((fam_hi _ _ _).trans (congrArg some (rIs_1 hb))) (rowW_len _ _).symm rfl (Int.natCast_nonneg _) (by omega)) ?_
   refine dq 72 (q_load tok rfl rfl rfl (.ptr _ _ _ _ _ _ _ (wdcell (outN I (O b) x) k) ((fam_hi _ _ _).trans (congrArg some (rIs_1 hb))) (rowW_len _ _).symm (by rw [Nat.zero_add, Int.toNat_natCast]; exact (rowW_get hkl).trans (congrArg some rfl))) rfl) ?_
   refine dm 73 ?_
   refine dq 74 (q_nilCheck rfl rfl rfl) ?_
   refine df 75 tok ?_
   refine dl 76 tok ?_
   refine dm 77 ?_
   refine dq 78 (q_index_ref tok rfl rfl rfl rfl rfl rfl rfl (List.length_map _).symm rfl (Int.natCast_nonneg _) (by omega)) ?_
   refine dq 79 (q_load tok rfl rfl rfl (.ptr _ _ _ _ _ _ _ (stC R x) rfl (List.length_map _).symm (by rw [Nat.zero_add, Int.toNat_natCast, List.getElem?_map, hx]; rfl)) rfl) ?_
   refine dm 80 ?_
   refine dq 81 (q_index_lst tok rfl rfl rfl rfl rfl rfl (Int.natCast_nonneg _) (by rw [Int.toNat_natCast]; exact rowW_get hkl) rfl) ?_
   refine dl 82 tok ?_
   refine dq 83 (q_bin rfl rfl rfl (wd_andNot (fun v => (outN I (O b) x) (64 * k + v)) (fun v => setsAny (64 * k + v) x.ins))) ?_
   refine dq 84 (q_bin rfl rfl rfl (wd_or (fun v => readP x (64 * k + v)) (fun v => (outN I (O b) x) (64 * k + v) && !setsAny (64 * k + v) x.ins))) ?_
   refine da 12 ?_
   refine DOps.nil (by kernel_rfl) ?_
   refine AGo.seq ?_
   refine AGo.region ?_
   refine am 85 ?_
   refine am 86 ?_
   refine aq 87 (q_nilCheck rfl rfl rfl) ?_
   refine af 88 tok ?_
   refine al 89 tok ?_
   refine am 90 ?_
   refine aq 91 (q_index_ref tok rfl rfl rfl rfl rfl rfl rfl (colF_len _ _).symm rfl (Int.natCast_nonneg _) (by omega)) ?_
   refine aq 92 (q_load tok rfl rfl rfl (.ptr _ _ _ _ _ _ _ [rG 0 (nw R) b] rfl (colF_len _ _).symm z55q) rfl) ?_
   refine am 93 ?_
   refine aq 94 (q_index_ref tok rfl rfl rfl rfl rfl rfl ((fam_hi _ _ _).trans (congrArg some (rIs_0 hb))) (rowW_len _ _).symm rfl (Int.natCast_nonneg _) (by omega)) ?_
   refine aq 95 (q_load tok rfl rfl rfl (.ptr _ _ _ _ _ _ _ (wdcell (I b) k) ((fam_hi _ _ _).trans (congrArg some (rIs_0 hb))) (rowW_len _ _).symm (by rw [Nat.zero_add, Int.toNat_natCast]; exact (rowW_get hkl).trans (congrArg some (mixN_old _ _ _)))) rfl) ?_
   refine aq 96 (q_bin rfl rfl rfl rfl) ?_
   refine AOps.nil ?_
   refine AGo.split 96 rfl (fun hb4 => ?_) (fun hb4 => ?_)
   ·
    refine AGo.cond_true true rfl rfl ?_
    have hne : (wdN (inN x (outN I (O b) x)) k != wdN (I b) k) = true := neq_wd hb4
    refine AGo.seq ?_
    refine AGo.region ?_
    refine am 97 ?_
    refine aq 98 (q_nilCheck rfl rfl rfl) ?_
    refine af 99 tok ?_
    refine al 100 tok ?_
    refine am 101 ?_
    refine aq 102 (q_index_ref tok rfl rfl rfl rfl rfl rfl rfl (colF_len _ _).symm rfl (Int.natCast_nonneg _) (by omega)) ?_
    refine aq 103 (q_load tok rfl rfl rfl (.ptr _ _ _ _ _ _ _ [rG 0 (nw R) b] rfl (colF_len _ _).symm z55q) rfl) ?_
    refine am 104 ?_
    refine am 105 ?_
    refine aq 106 (q_index_ref tok rfl rfl rfl rfl rfl rfl ((fam_hi _ _ _).trans (congrArg some (rIs_0 hb))) (rowW_len _ _).symm rfl (Int.natCast_nonneg _) (by omega)) ?_
    refine AOps.w rfl rfl (o_store tok (es := rowW R (mixN (inN x (outN I (O b) x)) (I b) k)) (cs := wdcell (I b) k) rfl rfl rfl rfl rfl ((fam_hi _ _ _).trans (congrArg some (rIs_0 hb))) (rowW_len _ _).symm (by rw [Nat.zero_add, Int.toNat_natCast]; exact (rowW_get hkl).trans (congrArg some (mixN_old _ _ _))) rfl (by decide) rfl (fun _ => rfl)) ?_
    refine AOps.nil ?_
    refine AGo.region ?_
    refine aa 6 ?_
    refine AOps.nil ?_
    refine AGo.region ?_
    refine aq 107 (q_inc rfl rfl hkl (by simp only [maxLen]; omega)) ?_
    refine am 56 ?_
    refine AOps.nil ?_
    exact ⟨k+1, DropK.mk' z31q (famDrop (k0 := 10) rfl z40q (fun x_ => by (try simp only [hputs]); (repeat (first | refine hput_skip (by exact beq_false_of_ne (by omega)) ?_ | refine hrm_skip (by omega) ?_)); exact (hput_hi (fun y_ => by (try simp only [hputs]); repeat (first | exact fam_hi _ _ _ | refine hput_skip (by exact beq_false_of_ne (by omega)) ?_ | refine hrm_skip (by omega) ?_)) _ _ x_).trans (congrArg some (rIs_put0 hb (mixN_put _ _ _) x_).symm)) (F3_avoid (fun _ => rI_avoid _) (fun _ => rI_avoid _) h2a)), hkl, by omega⟩
   ·
    refine AGo.cond_false false rfl rfl ?_
    have heq : wdN (inN x (outN I (O b) x)) k = wdN (I b) k := bne_false (neq_wd hb4)
    refine AGo.skip ?_
    refine AGo.region ?_
    refine aq 107 (q_inc rfl rfl hkl (by simp only [maxLen]; omega)) ?_
    refine am 56 ?_
    refine AOps.nil ?_
    exact ⟨k+1, DropK.mk' z31q (famDrop (k0 := 10) rfl z40q (fun x_ => by (try simp only [hputs]); exact (fam_hi _ _ _).trans (congrArg some (rowsS0 (rowW_congr (mixN_skip heq)) _))) (F3_avoid (fun _ => rI_avoid _) (fun _ => rI_avoid _) h2a)), hkl, by omega⟩
  ·
   refine AGo.cond_false false rfl rfl ?_
   have hkge : nw R ≤ k := by have h := hb3; simp at h; omega
   refine AGo.exit ?_
   refine AGo.seq ?_
   refine AGo.region ?_
   refine am 108 ?_
   refine aa 4 ?_
   refine AOps.nil ?_
   refine AGo.ret ?_
   refine ⟨[_], ⟨rfl, trivial⟩, ?_, (famSub (k0 := 10) rfl z40q (fun x_ => by (try simp only [hputs]); exact (fam_hi _ _ _).trans (congrArg some (rowsS0 (mixN_end _ _ hkge) _))) (fun c h1 h2 => by rcases (by omega : c = 10 ∨ c = 11 ∨ c = 12 ∨ c = 13 ∨ c = 14 ∨ c = 15) with rfl | rfl | rfl | rfl | rfl | rfl <;> first | rfl | (try simp only [hputs]; repeat (first | rfl | refine hput_skip (by exact beq_false_of_ne (by omega)) ?_ | refine hrm_skip (by omega) ?_))))⟩
   show AV.bool _ = AV.bool _
   congr 2
   omega

end Go.Proofs.Ytjmjmedjjbginaa.Sv
