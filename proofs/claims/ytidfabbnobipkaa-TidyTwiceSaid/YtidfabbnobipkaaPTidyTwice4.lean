/-
  WALKS: printed by a program of our own from the code's tree.
  WALKS: printed by a program of our own from the code's tree.
  WALKS: printed by a program of our own from the code's tree.
-/
import Derived.Test.YtidfabbnobipkaaPTidyTwice3
import Derived.Test.YtidfabbnobipkaaPTidyTwice2
namespace Go.Proofs.Ytidfabbnobipkaa.Sv
open Go
set_option linter.unusedVariables false
set_option linter.unusedSimpArgs false

set_option maxRecDepth 100000 in
theorem sets_ok (t : Tac) : APure Try.prog 53 [.agg t.cells] (fun r => r = .int .i64 t.sets) := by
  refine APure.of_body (n := 14) tok Try.func53 rfl rfl ?_
  refine AGo.seq ?_
  refine AGo.region ?_
  refine AOps.x 1 rfl rfl rfl (o_box (sz := 8) 0 rfl rfl rfl rfl (Nat.zero_lt_succ _) rfl) ?_
  refine AOps.s 2 rfl rfl rfl (q_move (.inr rfl) rfl) ?_
  refine AOps.nil ?_
  refine AGo.seq ?_
  refine AGo.seq ?_
  refine AGo.region ?_
  refine AOps.s 3 rfl rfl rfl (q_fieldAddr tok rfl rfl rfl rfl rfl rfl) ?_
  refine AOps.s 4 rfl rfl rfl (q_load tok rfl rfl rfl (by first | exact .loc _ | exact .ptr _ _ _ _ _ _ _ _ rfl rfl rfl) rfl) ?_
  refine AOps.nil ?_
  refine AGo.block ?_
  refine AGo.seq ?_
  refine AGo.seq ?_
  refine AGo.region ?_
  refine AOps.s 6 rfl rfl rfl (q_bin rfl rfl rfl rfl) ?_
  refine AOps.s 5 rfl rfl rfl (q_move (.inr rfl) rfl) ?_
  refine AOps.nil ?_
  refine AGo.split 5 rfl (fun hb1 => ?_) (fun hb1 => ?_)
  · -- True
    refine AGo.cond_true true rfl rfl ?_
    refine AGo.skip ?_
    refine AGo.cond_true true rfl rfl ?_
    refine AGo.seq ?_
    refine AGo.region ?_
    refine AOps.s 12 rfl rfl rfl (q_fieldAddr tok rfl rfl rfl rfl rfl rfl) ?_
    refine AOps.s 13 rfl rfl rfl (q_load tok rfl rfl rfl (by first | exact .loc _ | exact .ptr _ _ _ _ _ _ _ _ rfl rfl rfl) rfl) ?_
    refine AOps.s 2 rfl rfl rfl (q_move (.inr rfl) rfl) ?_
    refine AOps.nil ?_
    refine AGo.ret ?_
    refine ⟨[_], ⟨rfl, trivial⟩, ?_, rfl⟩
    show AV.int .i64 _ = AV.int .i64 _
    congr 1
    simp [Tac.sets, setsOp, *]
  · -- False
    refine AGo.cond_false false rfl rfl ?_
    refine AGo.seq ?_
    refine AGo.region ?_
    refine AOps.s 7 rfl rfl rfl (q_bin rfl rfl rfl rfl) ?_
    refine AOps.s 5 rfl rfl rfl (q_move (.inr rfl) rfl) ?_
    refine AOps.nil ?_
    refine AGo.split 5 rfl (fun hb2 => ?_) (fun hb2 => ?_)
    · -- True
      refine AGo.cond_true true rfl rfl ?_
      refine AGo.skip ?_
      refine AGo.cond_true true rfl rfl ?_
      refine AGo.seq ?_
      refine AGo.region ?_
      refine AOps.s 12 rfl rfl rfl (q_fieldAddr tok rfl rfl rfl rfl rfl rfl) ?_
      refine AOps.s 13 rfl rfl rfl (q_load tok rfl rfl rfl (by first | exact .loc _ | exact .ptr _ _ _ _ _ _ _ _ rfl rfl rfl) rfl) ?_
      refine AOps.s 2 rfl rfl rfl (q_move (.inr rfl) rfl) ?_
      refine AOps.nil ?_
      refine AGo.ret ?_
      refine ⟨[_], ⟨rfl, trivial⟩, ?_, rfl⟩
      show AV.int .i64 _ = AV.int .i64 _
      congr 1
      simp [Tac.sets, setsOp, *]
    · -- False
      refine AGo.cond_false false rfl rfl ?_
      refine AGo.seq ?_
      refine AGo.region ?_
      refine AOps.s 8 rfl rfl rfl (q_bin rfl rfl rfl rfl) ?_
      refine AOps.s 5 rfl rfl rfl (q_move (.inr rfl) rfl) ?_
      refine AOps.nil ?_
      refine AGo.split 5 rfl (fun hb3 => ?_) (fun hb3 => ?_)
      · -- True
        refine AGo.cond_true true rfl rfl ?_
        refine AGo.skip ?_
        refine AGo.cond_true true rfl rfl ?_
        refine AGo.seq ?_
        refine AGo.region ?_
        refine AOps.s 12 rfl rfl rfl (q_fieldAddr tok rfl rfl rfl rfl rfl rfl) ?_
        refine AOps.s 13 rfl rfl rfl (q_load tok rfl rfl rfl (by first | exact .loc _ | exact .ptr _ _ _ _ _ _ _ _ rfl rfl rfl) rfl) ?_
        refine AOps.s 2 rfl rfl rfl (q_move (.inr rfl) rfl) ?_
        refine AOps.nil ?_
        refine AGo.ret ?_
        refine ⟨[_], ⟨rfl, trivial⟩, ?_, rfl⟩
        show AV.int .i64 _ = AV.int .i64 _
        congr 1
        simp [Tac.sets, setsOp, *]
      · -- False
        refine AGo.cond_false false rfl rfl ?_
        refine AGo.seq ?_
        refine AGo.region ?_
        refine AOps.s 9 rfl rfl rfl (q_bin rfl rfl rfl rfl) ?_
        refine AOps.s 5 rfl rfl rfl (q_move (.inr rfl) rfl) ?_
        refine AOps.nil ?_
        refine AGo.split 5 rfl (fun hb4 => ?_) (fun hb4 => ?_)
        · -- True
          refine AGo.cond_true true rfl rfl ?_
          refine AGo.skip ?_
          refine AGo.cond_true true rfl rfl ?_
          refine AGo.seq ?_
          refine AGo.region ?_
          refine AOps.s 12 rfl rfl rfl (q_fieldAddr tok rfl rfl rfl rfl rfl rfl) ?_
          refine AOps.s 13 rfl rfl rfl (q_load tok rfl rfl rfl (by first | exact .loc _ | exact .ptr _ _ _ _ _ _ _ _ rfl rfl rfl) rfl) ?_
          refine AOps.s 2 rfl rfl rfl (q_move (.inr rfl) rfl) ?_
          refine AOps.nil ?_
          refine AGo.ret ?_
          refine ⟨[_], ⟨rfl, trivial⟩, ?_, rfl⟩
          show AV.int .i64 _ = AV.int .i64 _
          congr 1
          simp [Tac.sets, setsOp, *]
        · -- False
          refine AGo.cond_false false rfl rfl ?_
          refine AGo.seq ?_
          refine AGo.region ?_
          refine AOps.s 10 rfl rfl rfl (q_bin rfl rfl rfl rfl) ?_
          refine AOps.s 5 rfl rfl rfl (q_move (.inr rfl) rfl) ?_
          refine AOps.nil ?_
          refine AGo.split 5 rfl (fun hb5 => ?_) (fun hb5 => ?_)
          · -- True
            refine AGo.cond_true true rfl rfl ?_
            refine AGo.skip ?_
            refine AGo.cond_true true rfl rfl ?_
            refine AGo.seq ?_
            refine AGo.region ?_
            refine AOps.s 12 rfl rfl rfl (q_fieldAddr tok rfl rfl rfl rfl rfl rfl) ?_
            refine AOps.s 13 rfl rfl rfl (q_load tok rfl rfl rfl (by first | exact .loc _ | exact .ptr _ _ _ _ _ _ _ _ rfl rfl rfl) rfl) ?_
            refine AOps.s 2 rfl rfl rfl (q_move (.inr rfl) rfl) ?_
            refine AOps.nil ?_
            refine AGo.ret ?_
            refine ⟨[_], ⟨rfl, trivial⟩, ?_, rfl⟩
            show AV.int .i64 _ = AV.int .i64 _
            congr 1
            simp [Tac.sets, setsOp, *]
          · -- False
            refine AGo.cond_false false rfl rfl ?_
            refine AGo.region ?_
            refine AOps.s 11 rfl rfl rfl (q_bin rfl rfl rfl rfl) ?_
            refine AOps.s 5 rfl rfl rfl (q_move (.inr rfl) rfl) ?_
            refine AOps.nil ?_
            refine AGo.split 5 rfl (fun hb6 => ?_) (fun hb6 => ?_)
            · -- True
              refine AGo.cond_true true rfl rfl ?_
              refine AGo.seq ?_
              refine AGo.region ?_
              refine AOps.s 12 rfl rfl rfl (q_fieldAddr tok rfl rfl rfl rfl rfl rfl) ?_
              refine AOps.s 13 rfl rfl rfl (q_load tok rfl rfl rfl (by first | exact .loc _ | exact .ptr _ _ _ _ _ _ _ _ rfl rfl rfl) rfl) ?_
              refine AOps.s 2 rfl rfl rfl (q_move (.inr rfl) rfl) ?_
              refine AOps.nil ?_
              refine AGo.ret ?_
              refine ⟨[_], ⟨rfl, trivial⟩, ?_, rfl⟩
              show AV.int .i64 _ = AV.int .i64 _
              congr 1
              simp [Tac.sets, setsOp, *]
            · -- False
              refine AGo.cond_false false rfl rfl ?_
              refine AGo.skip ?_
              refine AGo.seq ?_
              refine AGo.region ?_
              refine AOps.s 2 rfl rfl rfl (q_move (.inr rfl) rfl) ?_
              refine AOps.nil ?_
              refine AGo.ret ?_
              refine ⟨[_], ⟨rfl, trivial⟩, ?_, rfl⟩
              show AV.int .i64 _ = AV.int .i64 _
              congr 1
              simp [Tac.sets, setsOp, *]

set_option maxRecDepth 100000 in
theorem uses_ok (t : Tac) : APure Try.prog 54 [.agg t.cells] (fun r => r = intsAV t.uses) := by
  refine APure.of_body (n := 21) tok Try.func54 rfl rfl ?_
  refine AGo.seq ?_
  refine AGo.region ?_
  refine AOps.x 1 rfl rfl rfl (o_box (sz := 8) 0 rfl rfl rfl rfl (Nat.zero_lt_succ _) rfl) ?_
  refine AOps.s 2 rfl rfl rfl (q_move (.inr rfl) rfl) ?_
  refine AOps.nil ?_
  refine AGo.seq ?_
  refine AGo.seq ?_
  refine AGo.region ?_
  refine AOps.s 3 rfl rfl rfl (q_fieldAddr tok rfl rfl rfl rfl rfl rfl) ?_
  refine AOps.s 4 rfl rfl rfl (q_load tok rfl rfl rfl (by first | exact .loc _ | exact .ptr _ _ _ _ _ _ _ _ rfl rfl rfl) rfl) ?_
  refine AOps.nil ?_
  refine AGo.block ?_
  refine AGo.seq ?_
  refine AGo.seq ?_
  refine AGo.region ?_
  refine AOps.s 6 rfl rfl rfl (q_bin rfl rfl rfl rfl) ?_
  refine AOps.s 5 rfl rfl rfl (q_move (.inr rfl) rfl) ?_
  refine AOps.nil ?_
  refine AGo.split 5 rfl (fun hb1 => ?_) (fun hb1 => ?_)
  · -- True
    refine AGo.cond_true true rfl rfl ?_
    refine AGo.skip ?_
    refine AGo.cond_true true rfl rfl ?_
    refine AGo.seq ?_
    refine AGo.region ?_
    refine AOps.s 10 rfl rfl rfl (q_fieldAddr tok rfl rfl rfl rfl rfl rfl) ?_
    refine AOps.s 11 rfl rfl rfl (q_load tok rfl rfl rfl (by first | exact .loc _ | exact .ptr _ _ _ _ _ _ _ _ rfl rfl rfl) rfl) ?_
    refine AOps.x 12 rfl rfl rfl (o_lit' tok rfl rfl rfl rfl rfl rfl (by decide) rfl rfl rfl rfl rfl rfl) ?_
    refine AOps.s 2 rfl rfl rfl (q_move (.inr rfl) rfl) ?_
    refine AOps.nil ?_
    refine AGo.ret ?_
    refine ⟨[_], ⟨rfl, trivial⟩, ?_, rfl⟩
    show AV.lst false _ = _
    simp [Tac.uses, use1, use2, intsAV, partVals, AV.cells, *]
  · -- False
    refine AGo.cond_false false rfl rfl ?_
    refine AGo.seq ?_
    refine AGo.region ?_
    refine AOps.s 7 rfl rfl rfl (q_bin rfl rfl rfl rfl) ?_
    refine AOps.s 5 rfl rfl rfl (q_move (.inr rfl) rfl) ?_
    refine AOps.nil ?_
    refine AGo.split 5 rfl (fun hb2 => ?_) (fun hb2 => ?_)
    · -- True
      refine AGo.cond_true true rfl rfl ?_
      refine AGo.skip ?_
      refine AGo.cond_true true rfl rfl ?_
      refine AGo.seq ?_
      refine AGo.region ?_
      refine AOps.s 10 rfl rfl rfl (q_fieldAddr tok rfl rfl rfl rfl rfl rfl) ?_
      refine AOps.s 11 rfl rfl rfl (q_load tok rfl rfl rfl (by first | exact .loc _ | exact .ptr _ _ _ _ _ _ _ _ rfl rfl rfl) rfl) ?_
      refine AOps.x 12 rfl rfl rfl (o_lit' tok rfl rfl rfl rfl rfl rfl (by decide) rfl rfl rfl rfl rfl rfl) ?_
      refine AOps.s 2 rfl rfl rfl (q_move (.inr rfl) rfl) ?_
      refine AOps.nil ?_
      refine AGo.ret ?_
      refine ⟨[_], ⟨rfl, trivial⟩, ?_, rfl⟩
      show AV.lst false _ = _
      simp [Tac.uses, use1, use2, intsAV, partVals, AV.cells, *]
    · -- False
      refine AGo.cond_false false rfl rfl ?_
      refine AGo.seq ?_
      refine AGo.region ?_
      refine AOps.s 8 rfl rfl rfl (q_bin rfl rfl rfl rfl) ?_
      refine AOps.s 5 rfl rfl rfl (q_move (.inr rfl) rfl) ?_
      refine AOps.nil ?_
      refine AGo.split 5 rfl (fun hb3 => ?_) (fun hb3 => ?_)
      · -- True
        refine AGo.cond_true true rfl rfl ?_
        refine AGo.skip ?_
        refine AGo.cond_true true rfl rfl ?_
        refine AGo.seq ?_
        refine AGo.region ?_
        refine AOps.s 10 rfl rfl rfl (q_fieldAddr tok rfl rfl rfl rfl rfl rfl) ?_
        refine AOps.s 11 rfl rfl rfl (q_load tok rfl rfl rfl (by first | exact .loc _ | exact .ptr _ _ _ _ _ _ _ _ rfl rfl rfl) rfl) ?_
        refine AOps.x 12 rfl rfl rfl (o_lit' tok rfl rfl rfl rfl rfl rfl (by decide) rfl rfl rfl rfl rfl rfl) ?_
        refine AOps.s 2 rfl rfl rfl (q_move (.inr rfl) rfl) ?_
        refine AOps.nil ?_
        refine AGo.ret ?_
        refine ⟨[_], ⟨rfl, trivial⟩, ?_, rfl⟩
        show AV.lst false _ = _
        simp [Tac.uses, use1, use2, intsAV, partVals, AV.cells, *]
      · -- False
        refine AGo.cond_false false rfl rfl ?_
        refine AGo.region ?_
        refine AOps.s 9 rfl rfl rfl (q_bin rfl rfl rfl rfl) ?_
        refine AOps.s 5 rfl rfl rfl (q_move (.inr rfl) rfl) ?_
        refine AOps.nil ?_
        refine AGo.split 5 rfl (fun hb4 => ?_) (fun hb4 => ?_)
        · -- True
          refine AGo.cond_true true rfl rfl ?_
          refine AGo.seq ?_
          refine AGo.region ?_
          refine AOps.s 10 rfl rfl rfl (q_fieldAddr tok rfl rfl rfl rfl rfl rfl) ?_
          refine AOps.s 11 rfl rfl rfl (q_load tok rfl rfl rfl (by first | exact .loc _ | exact .ptr _ _ _ _ _ _ _ _ rfl rfl rfl) rfl) ?_
          refine AOps.x 12 rfl rfl rfl (o_lit' tok rfl rfl rfl rfl rfl rfl (by decide) rfl rfl rfl rfl rfl rfl) ?_
          refine AOps.s 2 rfl rfl rfl (q_move (.inr rfl) rfl) ?_
          refine AOps.nil ?_
          refine AGo.ret ?_
          refine ⟨[_], ⟨rfl, trivial⟩, ?_, rfl⟩
          show AV.lst false _ = _
          simp [Tac.uses, use1, use2, intsAV, partVals, AV.cells, *]
        · -- False
          refine AGo.cond_false false rfl rfl ?_
          refine AGo.seq ?_
          refine AGo.seq ?_
          refine AGo.region ?_
          refine AOps.s 14 rfl rfl rfl (q_bin rfl rfl rfl rfl) ?_
          refine AOps.s 13 rfl rfl rfl (q_move (.inr rfl) rfl) ?_
          refine AOps.nil ?_
          refine AGo.split 13 rfl (fun hb5 => ?_) (fun hb5 => ?_)
          · -- True
            refine AGo.cond_true true rfl rfl ?_
            refine AGo.skip ?_
            refine AGo.cond_true true rfl rfl ?_
            refine AGo.seq ?_
            refine AGo.region ?_
            refine AOps.s 16 rfl rfl rfl (q_fieldAddr tok rfl rfl rfl rfl rfl rfl) ?_
            refine AOps.s 17 rfl rfl rfl (q_load tok rfl rfl rfl (by first | exact .loc _ | exact .ptr _ _ _ _ _ _ _ _ rfl rfl rfl) rfl) ?_
            refine AOps.s 18 rfl rfl rfl (q_fieldAddr tok rfl rfl rfl rfl rfl rfl) ?_
            refine AOps.s 19 rfl rfl rfl (q_load tok rfl rfl rfl (by first | exact .loc _ | exact .ptr _ _ _ _ _ _ _ _ rfl rfl rfl) rfl) ?_
            refine AOps.x 20 rfl rfl rfl (o_lit' tok rfl rfl rfl rfl rfl rfl (by decide) rfl rfl rfl rfl rfl rfl) ?_
            refine AOps.s 2 rfl rfl rfl (q_move (.inr rfl) rfl) ?_
            refine AOps.nil ?_
            refine AGo.ret ?_
            refine ⟨[_], ⟨rfl, trivial⟩, ?_, rfl⟩
            show AV.lst false _ = _
            simp [Tac.uses, use1, use2, intsAV, partVals, AV.cells, *]
          · -- False
            refine AGo.cond_false false rfl rfl ?_
            refine AGo.region ?_
            refine AOps.s 15 rfl rfl rfl (q_bin rfl rfl rfl rfl) ?_
            refine AOps.s 13 rfl rfl rfl (q_move (.inr rfl) rfl) ?_
            refine AOps.nil ?_
            refine AGo.split 13 rfl (fun hb6 => ?_) (fun hb6 => ?_)
            · -- True
              refine AGo.cond_true true rfl rfl ?_
              refine AGo.seq ?_
              refine AGo.region ?_
              refine AOps.s 16 rfl rfl rfl (q_fieldAddr tok rfl rfl rfl rfl rfl rfl) ?_
              refine AOps.s 17 rfl rfl rfl (q_load tok rfl rfl rfl (by first | exact .loc _ | exact .ptr _ _ _ _ _ _ _ _ rfl rfl rfl) rfl) ?_
              refine AOps.s 18 rfl rfl rfl (q_fieldAddr tok rfl rfl rfl rfl rfl rfl) ?_
              refine AOps.s 19 rfl rfl rfl (q_load tok rfl rfl rfl (by first | exact .loc _ | exact .ptr _ _ _ _ _ _ _ _ rfl rfl rfl) rfl) ?_
              refine AOps.x 20 rfl rfl rfl (o_lit' tok rfl rfl rfl rfl rfl rfl (by decide) rfl rfl rfl rfl rfl rfl) ?_
              refine AOps.s 2 rfl rfl rfl (q_move (.inr rfl) rfl) ?_
              refine AOps.nil ?_
              refine AGo.ret ?_
              refine ⟨[_], ⟨rfl, trivial⟩, ?_, rfl⟩
              show AV.lst false _ = _
              simp [Tac.uses, use1, use2, intsAV, partVals, AV.cells, *]
            · -- False
              refine AGo.cond_false false rfl rfl ?_
              refine AGo.skip ?_
              refine AGo.seq ?_
              refine AGo.region ?_
              refine AOps.s 2 rfl rfl rfl (q_move (.inr rfl) rfl) ?_
              refine AOps.nil ?_
              refine AGo.ghost (.empty 2 rfl) ?_
              refine AGo.ret ?_
              refine ⟨[_], ⟨rfl, trivial⟩, ?_, rfl⟩
              show AV.lst false _ = _
              simp [Tac.uses, use1, use2, intsAV, partVals, AV.cells, *]

set_option maxRecDepth 100000 in
theorem within_ok (i j : Int) : APure Try.prog 52 [.int .i64 i, .int .i64 j] (fun r => r = .bool (within i j)) := by
  refine APure.of_body (n := 12) tok Try.func52 rfl rfl ?_
  refine AGo.seq ?_
  refine AGo.region ?_
  refine AOps.s 4 rfl rfl rfl (q_move (.inr rfl) rfl) ?_
  refine AOps.nil ?_
  refine AGo.seq ?_
  refine AGo.region ?_
  refine AOps.s 5 rfl rfl rfl (q_move (.inl rfl) rfl) ?_
  refine AOps.s 6 rfl rfl rfl (q_bin rfl rfl rfl rfl) ?_
  refine AOps.s 7 rfl rfl rfl (q_move (.inl rfl) rfl) ?_
  refine AOps.split 7 rfl (fun hb1 => ?_) (fun hb1 => ?_)
  · -- True
    refine AOps.s 8 rfl rfl rfl (q_move (.inl rfl) rfl) ?_
    refine AOps.s 9 rfl rfl rfl (q_move (.inl rfl) rfl) ?_
    refine AOps.s 10 rfl rfl rfl (q_bin rfl rfl rfl rfl) ?_
    refine AOps.s 11 rfl rfl rfl (q_pick_true true rfl rfl rfl rfl) ?_
    refine AOps.s 4 rfl rfl rfl (q_move (.inr rfl) rfl) ?_
    refine AOps.nil ?_
    refine AGo.ret ?_
    refine ⟨[_], ⟨rfl, trivial⟩, ?_, rfl⟩
    show AV.bool _ = AV.bool _
    congr 1
    simp_all [within] <;> omega
  · -- False
    refine AOps.k 8 rfl rfl rfl ?_
    refine AOps.k 9 rfl rfl rfl ?_
    refine AOps.k 10 rfl rfl rfl ?_
    refine AOps.s 11 rfl rfl rfl (q_pick_false false rfl rfl rfl rfl) ?_
    refine AOps.s 4 rfl rfl rfl (q_move (.inr rfl) rfl) ?_
    refine AOps.nil ?_
    refine AGo.ret ?_
    refine ⟨[_], ⟨rfl, trivial⟩, ?_, rfl⟩
    show AV.bool _ = AV.bool _
    congr 1
    simp_all [within] <;> omega

set_option maxRecDepth 100000 in
theorem ends_ok (b : Block) (blocks regs : Int) : APure Try.prog 47 [.agg b.cells, .int .i64 blocks, .int .i64 regs] (fun r => r = .bool (b.ends blocks regs)) := by
  refine APure.of_body (n := 61) tok Try.func47 rfl rfl ?_
  refine AGo.seq ?_
  refine AGo.region ?_
  refine AOps.x 3 rfl rfl rfl (o_box (sz := 5) 0 rfl rfl rfl rfl (Nat.zero_lt_succ _) rfl) ?_
  refine AOps.s 6 rfl rfl rfl (q_move (.inr rfl) rfl) ?_
  refine AOps.nil ?_
  refine AGo.seq ?_
  refine AGo.seq ?_
  refine AGo.region ?_
  refine AOps.s 7 rfl rfl rfl (q_fieldAddr tok rfl rfl rfl rfl rfl rfl) ?_
  refine AOps.s 8 rfl rfl rfl (q_load tok rfl rfl rfl (by first | exact .loc _ | exact .ptr _ _ _ _ _ _ _ _ rfl rfl rfl) rfl) ?_
  refine AOps.nil ?_
  refine AGo.block ?_
  refine AGo.seq ?_
  refine AGo.region ?_
  refine AOps.s 10 rfl rfl rfl (q_bin rfl rfl rfl rfl) ?_
  refine AOps.s 9 rfl rfl rfl (q_move (.inr rfl) rfl) ?_
  refine AOps.nil ?_
  refine AGo.split 9 rfl (fun hb1 => ?_) (fun hb1 => ?_)
  · -- True
    refine AGo.cond_true true rfl rfl ?_
    refine AGo.seq ?_
    refine AGo.region ?_
    refine AOps.s 11 rfl rfl rfl (q_fieldAddr tok rfl rfl rfl rfl rfl rfl) ?_
    refine AOps.s 12 rfl rfl rfl (q_load tok rfl rfl rfl (by first | exact .loc _ | exact .ptr _ _ _ _ _ _ _ _ rfl rfl rfl) rfl) ?_
    refine AOps.s 13 rfl rfl rfl (q_move (.inl rfl) rfl) ?_
    refine AOps.x 14 rfl rfl rfl (o_pure rfl Try.func52 (by kernel_rfl) rfl rfl rfl (within_ok _ _)) ?_
    refine AOps.s 15 rfl rfl rfl (q_move (.inl rfl) rfl) ?_
    refine AOps.split 15 rfl (fun hb2 => ?_) (fun hb2 => ?_)
    · -- True
      refine AOps.s 16 rfl rfl rfl (q_fieldAddr tok rfl rfl rfl rfl rfl rfl) ?_
      refine AOps.s 17 rfl rfl rfl (q_load tok rfl rfl rfl (by first | exact .loc _ | exact .ptr _ _ _ _ _ _ _ _ rfl rfl rfl) rfl) ?_
      refine AOps.s 18 rfl rfl rfl (q_bin rfl rfl rfl rfl) ?_
      refine AOps.s 19 rfl rfl rfl (q_pick_true true rfl rfl rfl rfl) ?_
      refine AOps.s 20 rfl rfl rfl (q_move (.inl rfl) rfl) ?_
      refine AOps.split 20 rfl (fun hb3 => ?_) (fun hb3 => ?_)
      · -- True
        refine AOps.s 21 rfl rfl rfl (q_fieldAddr tok rfl rfl rfl rfl rfl rfl) ?_
        refine AOps.s 22 rfl rfl rfl (q_load tok rfl rfl rfl (by first | exact .loc _ | exact .ptr _ _ _ _ _ _ _ _ rfl rfl rfl) rfl) ?_
        refine AOps.s 23 rfl rfl rfl (q_bin rfl rfl rfl rfl) ?_
        refine AOps.s 24 rfl rfl rfl (q_pick_true true rfl rfl rfl rfl) ?_
        refine AOps.s 6 rfl rfl rfl (q_move (.inr rfl) rfl) ?_
        refine AOps.nil ?_
        refine AGo.ret ?_
        refine ⟨[_], ⟨rfl, trivial⟩, ?_, rfl⟩
        show AV.bool _ = AV.bool _
        congr 1
        simp_all [Block.ends]
      · -- False
        refine AOps.k 21 rfl rfl rfl ?_
        refine AOps.k 22 rfl rfl rfl ?_
        refine AOps.k 23 rfl rfl rfl ?_
        refine AOps.s 24 rfl rfl rfl (q_pick_false false rfl rfl rfl rfl) ?_
        refine AOps.s 6 rfl rfl rfl (q_move (.inr rfl) rfl) ?_
        refine AOps.nil ?_
        refine AGo.ret ?_
        refine ⟨[_], ⟨rfl, trivial⟩, ?_, rfl⟩
        show AV.bool _ = AV.bool _
        congr 1
        simp_all [Block.ends]
    · -- False
      refine AOps.k 16 rfl rfl rfl ?_
      refine AOps.k 17 rfl rfl rfl ?_
      refine AOps.k 18 rfl rfl rfl ?_
      refine AOps.s 19 rfl rfl rfl (q_pick_false false rfl rfl rfl rfl) ?_
      refine AOps.s 20 rfl rfl rfl (q_move (.inl rfl) rfl) ?_
      refine AOps.k 21 rfl rfl rfl ?_
      refine AOps.k 22 rfl rfl rfl ?_
      refine AOps.k 23 rfl rfl rfl ?_
      refine AOps.s 24 rfl rfl rfl (q_pick_false false rfl rfl rfl rfl) ?_
      refine AOps.s 6 rfl rfl rfl (q_move (.inr rfl) rfl) ?_
      refine AOps.nil ?_
      refine AGo.ret ?_
      refine ⟨[_], ⟨rfl, trivial⟩, ?_, rfl⟩
      show AV.bool _ = AV.bool _
      congr 1
      simp_all [Block.ends]
  · -- False
    refine AGo.cond_false false rfl rfl ?_
    refine AGo.seq ?_
    refine AGo.region ?_
    refine AOps.s 26 rfl rfl rfl (q_bin rfl rfl rfl rfl) ?_
    refine AOps.s 25 rfl rfl rfl (q_move (.inr rfl) rfl) ?_
    refine AOps.nil ?_
    refine AGo.split 25 rfl (fun hb4 => ?_) (fun hb4 => ?_)
    · -- True
      refine AGo.cond_true true rfl rfl ?_
      refine AGo.seq ?_
      refine AGo.region ?_
      refine AOps.s 27 rfl rfl rfl (q_fieldAddr tok rfl rfl rfl rfl rfl rfl) ?_
      refine AOps.s 28 rfl rfl rfl (q_load tok rfl rfl rfl (by first | exact .loc _ | exact .ptr _ _ _ _ _ _ _ _ rfl rfl rfl) rfl) ?_
      refine AOps.s 29 rfl rfl rfl (q_move (.inl rfl) rfl) ?_
      refine AOps.x 30 rfl rfl rfl (o_pure rfl Try.func52 (by kernel_rfl) rfl rfl rfl (within_ok _ _)) ?_
      refine AOps.s 31 rfl rfl rfl (q_move (.inl rfl) rfl) ?_
      refine AOps.split 31 rfl (fun hb5 => ?_) (fun hb5 => ?_)
      · -- True
        refine AOps.s 32 rfl rfl rfl (q_fieldAddr tok rfl rfl rfl rfl rfl rfl) ?_
        refine AOps.s 33 rfl rfl rfl (q_load tok rfl rfl rfl (by first | exact .loc _ | exact .ptr _ _ _ _ _ _ _ _ rfl rfl rfl) rfl) ?_
        refine AOps.s 34 rfl rfl rfl (q_move (.inl rfl) rfl) ?_
        refine AOps.x 35 rfl rfl rfl (o_pure rfl Try.func52 (by kernel_rfl) rfl rfl rfl (within_ok _ _)) ?_
        refine AOps.s 36 rfl rfl rfl (q_pick_true true rfl rfl rfl rfl) ?_
        refine AOps.s 37 rfl rfl rfl (q_move (.inl rfl) rfl) ?_
        refine AOps.split 37 rfl (fun hb6 => ?_) (fun hb6 => ?_)
        · -- True
          refine AOps.s 38 rfl rfl rfl (q_fieldAddr tok rfl rfl rfl rfl rfl rfl) ?_
          refine AOps.s 39 rfl rfl rfl (q_load tok rfl rfl rfl (by first | exact .loc _ | exact .ptr _ _ _ _ _ _ _ _ rfl rfl rfl) rfl) ?_
          refine AOps.s 40 rfl rfl rfl (q_move (.inl rfl) rfl) ?_
          refine AOps.x 41 rfl rfl rfl (o_pure rfl Try.func52 (by kernel_rfl) rfl rfl rfl (within_ok _ _)) ?_
          refine AOps.s 42 rfl rfl rfl (q_pick_true true rfl rfl rfl rfl) ?_
          refine AOps.s 6 rfl rfl rfl (q_move (.inr rfl) rfl) ?_
          refine AOps.nil ?_
          refine AGo.ret ?_
          refine ⟨[_], ⟨rfl, trivial⟩, ?_, rfl⟩
          show AV.bool _ = AV.bool _
          congr 1
          simp_all [Block.ends]
        · -- False
          refine AOps.k 38 rfl rfl rfl ?_
          refine AOps.k 39 rfl rfl rfl ?_
          refine AOps.k 40 rfl rfl rfl ?_
          refine AOps.k 41 rfl rfl rfl ?_
          refine AOps.s 42 rfl rfl rfl (q_pick_false false rfl rfl rfl rfl) ?_
          refine AOps.s 6 rfl rfl rfl (q_move (.inr rfl) rfl) ?_
          refine AOps.nil ?_
          refine AGo.ret ?_
          refine ⟨[_], ⟨rfl, trivial⟩, ?_, rfl⟩
          show AV.bool _ = AV.bool _
          congr 1
          simp_all [Block.ends]
      · -- False
        refine AOps.k 32 rfl rfl rfl ?_
        refine AOps.k 33 rfl rfl rfl ?_
        refine AOps.k 34 rfl rfl rfl ?_
        refine AOps.k 35 rfl rfl rfl ?_
        refine AOps.s 36 rfl rfl rfl (q_pick_false false rfl rfl rfl rfl) ?_
        refine AOps.s 37 rfl rfl rfl (q_move (.inl rfl) rfl) ?_
        refine AOps.k 38 rfl rfl rfl ?_
        refine AOps.k 39 rfl rfl rfl ?_
        refine AOps.k 40 rfl rfl rfl ?_
        refine AOps.k 41 rfl rfl rfl ?_
        refine AOps.s 42 rfl rfl rfl (q_pick_false false rfl rfl rfl rfl) ?_
        refine AOps.s 6 rfl rfl rfl (q_move (.inr rfl) rfl) ?_
        refine AOps.nil ?_
        refine AGo.ret ?_
        refine ⟨[_], ⟨rfl, trivial⟩, ?_, rfl⟩
        show AV.bool _ = AV.bool _
        congr 1
        simp_all [Block.ends]
    · -- False
      refine AGo.cond_false false rfl rfl ?_
      refine AGo.skip ?_
      refine AGo.seq ?_
      refine AGo.region ?_
      refine AOps.s 43 rfl rfl rfl (q_fieldAddr tok rfl rfl rfl rfl rfl rfl) ?_
      refine AOps.s 44 rfl rfl rfl (q_load tok rfl rfl rfl (by first | exact .loc _ | exact .ptr _ _ _ _ _ _ _ _ rfl rfl rfl) rfl) ?_
      refine AOps.s 45 rfl rfl rfl (q_bin rfl rfl rfl rfl) ?_
      refine AOps.s 46 rfl rfl rfl (q_move (.inl rfl) rfl) ?_
      refine AOps.split 46 rfl (fun hb7 => ?_) (fun hb7 => ?_)
      · -- True
        refine AOps.s 47 rfl rfl rfl (q_fieldAddr tok rfl rfl rfl rfl rfl rfl) ?_
        refine AOps.s 48 rfl rfl rfl (q_load tok rfl rfl rfl (by first | exact .loc _ | exact .ptr _ _ _ _ _ _ _ _ rfl rfl rfl) rfl) ?_
        refine AOps.s 49 rfl rfl rfl (q_bin rfl rfl rfl rfl) ?_
        refine AOps.s 50 rfl rfl rfl (q_pick_true true rfl rfl rfl rfl) ?_
        refine AOps.s 51 rfl rfl rfl (q_move (.inl rfl) rfl) ?_
        refine AOps.split 51 rfl (fun hb8 => ?_) (fun hb8 => ?_)
        · -- True
          refine AOps.s 52 rfl rfl rfl (q_fieldAddr tok rfl rfl rfl rfl rfl rfl) ?_
          refine AOps.s 53 rfl rfl rfl (q_load tok rfl rfl rfl (by first | exact .loc _ | exact .ptr _ _ _ _ _ _ _ _ rfl rfl rfl) rfl) ?_
          refine AOps.s 54 rfl rfl rfl (q_bin rfl rfl rfl rfl) ?_
          refine AOps.s 55 rfl rfl rfl (q_pick_true true rfl rfl rfl rfl) ?_
          refine AOps.s 56 rfl rfl rfl (q_move (.inl rfl) rfl) ?_
          refine AOps.split 56 rfl (fun hb9 => ?_) (fun hb9 => ?_)
          · -- True
            refine AOps.s 57 rfl rfl rfl (q_fieldAddr tok rfl rfl rfl rfl rfl rfl) ?_
            refine AOps.s 58 rfl rfl rfl (q_load tok rfl rfl rfl (by first | exact .loc _ | exact .ptr _ _ _ _ _ _ _ _ rfl rfl rfl) rfl) ?_
            refine AOps.s 59 rfl rfl rfl (q_bin rfl rfl rfl rfl) ?_
            refine AOps.s 60 rfl rfl rfl (q_pick_true true rfl rfl rfl rfl) ?_
            refine AOps.s 6 rfl rfl rfl (q_move (.inr rfl) rfl) ?_
            refine AOps.nil ?_
            refine AGo.ret ?_
            refine ⟨[_], ⟨rfl, trivial⟩, ?_, rfl⟩
            show AV.bool _ = AV.bool _
            congr 1
            simp_all [Block.ends]
          · -- False
            refine AOps.k 57 rfl rfl rfl ?_
            refine AOps.k 58 rfl rfl rfl ?_
            refine AOps.k 59 rfl rfl rfl ?_
            refine AOps.s 60 rfl rfl rfl (q_pick_false false rfl rfl rfl rfl) ?_
            refine AOps.s 6 rfl rfl rfl (q_move (.inr rfl) rfl) ?_
            refine AOps.nil ?_
            refine AGo.ret ?_
            refine ⟨[_], ⟨rfl, trivial⟩, ?_, rfl⟩
            show AV.bool _ = AV.bool _
            congr 1
            simp_all [Block.ends]
        · -- False
          refine AOps.k 52 rfl rfl rfl ?_
          refine AOps.k 53 rfl rfl rfl ?_
          refine AOps.k 54 rfl rfl rfl ?_
          refine AOps.s 55 rfl rfl rfl (q_pick_false false rfl rfl rfl rfl) ?_
          refine AOps.s 56 rfl rfl rfl (q_move (.inl rfl) rfl) ?_
          refine AOps.k 57 rfl rfl rfl ?_
          refine AOps.k 58 rfl rfl rfl ?_
          refine AOps.k 59 rfl rfl rfl ?_
          refine AOps.s 60 rfl rfl rfl (q_pick_false false rfl rfl rfl rfl) ?_
          refine AOps.s 6 rfl rfl rfl (q_move (.inr rfl) rfl) ?_
          refine AOps.nil ?_
          refine AGo.ret ?_
          refine ⟨[_], ⟨rfl, trivial⟩, ?_, rfl⟩
          show AV.bool _ = AV.bool _
          congr 1
          simp_all [Block.ends]
      · -- False
        refine AOps.k 47 rfl rfl rfl ?_
        refine AOps.k 48 rfl rfl rfl ?_
        refine AOps.k 49 rfl rfl rfl ?_
        refine AOps.s 50 rfl rfl rfl (q_pick_false false rfl rfl rfl rfl) ?_
        refine AOps.s 51 rfl rfl rfl (q_move (.inl rfl) rfl) ?_
        refine AOps.k 52 rfl rfl rfl ?_
        refine AOps.k 53 rfl rfl rfl ?_
        refine AOps.k 54 rfl rfl rfl ?_
        refine AOps.s 55 rfl rfl rfl (q_pick_false false rfl rfl rfl rfl) ?_
        refine AOps.s 56 rfl rfl rfl (q_move (.inl rfl) rfl) ?_
        refine AOps.k 57 rfl rfl rfl ?_
        refine AOps.k 58 rfl rfl rfl ?_
        refine AOps.k 59 rfl rfl rfl ?_
        refine AOps.s 60 rfl rfl rfl (q_pick_false false rfl rfl rfl rfl) ?_
        refine AOps.s 6 rfl rfl rfl (q_move (.inr rfl) rfl) ?_
        refine AOps.nil ?_
        refine AGo.ret ?_
        refine ⟨[_], ⟨rfl, trivial⟩, ?_, rfl⟩
        show AV.bool _ = AV.bool _
        congr 1
        simp_all [Block.ends]

set_option maxRecDepth 100000 in
theorem fits_ok (t : Tac) (f regs words : Int) (hw : 0 ≤ words) (hw2 : words ≤ 1048576) : APure Try.prog 48 [.agg t.cells, .int .i64 f, .int .i64 regs, .int .i64 words] (fun r => r = .bool (t.fits f regs words)) := by
  refine APure.of_body (n := 166) tok Try.func48 rfl rfl ?_
  refine AGo.seq ?_
  refine AGo.region ?_
  refine AOps.x 4 rfl rfl rfl (o_box (sz := 8) 0 rfl rfl rfl rfl (Nat.zero_lt_succ _) rfl) ?_
  refine AOps.s 8 rfl rfl rfl (q_move (.inr rfl) rfl) ?_
  refine AOps.nil ?_
  refine AGo.seq ?_
  refine AGo.seq ?_
  refine AGo.region ?_
  refine AOps.s 12 rfl rfl rfl (q_fieldAddr tok rfl rfl rfl rfl rfl rfl) ?_
  refine AOps.s 13 rfl rfl rfl (q_load tok rfl rfl rfl (by first | exact .loc _ | exact .ptr _ _ _ _ _ _ _ _ rfl rfl rfl) rfl) ?_
  refine AOps.s 14 rfl rfl rfl (q_bin rfl rfl rfl rfl) ?_
  refine AOps.s 15 rfl rfl rfl (q_move (.inl rfl) rfl) ?_
  refine AOps.split 15 rfl (fun hb1 => ?_) (fun hb1 => ?_)
  · -- True
    refine AOps.k 16 rfl rfl rfl ?_
    refine AOps.k 17 rfl rfl rfl ?_
    refine AOps.k 18 rfl rfl rfl ?_
    refine AOps.s 19 rfl rfl rfl (q_pick_true true rfl rfl rfl rfl) ?_
    refine AOps.nil ?_
    refine AGo.cond_true true rfl rfl ?_
    refine AGo.seq ?_
    refine AGo.region ?_
    refine AOps.s 8 rfl rfl rfl (q_move (.inr rfl) rfl) ?_
    refine AOps.nil ?_
    refine AGo.ret ?_
    refine ⟨[_], ⟨rfl, trivial⟩, ?_, rfl⟩
    show AV.bool _ = AV.bool _
    congr 1
    exact (fits_op (by simp_all <;> omega)).symm
  · -- False
    refine AOps.s 16 rfl rfl rfl (q_fieldAddr tok rfl rfl rfl rfl rfl rfl) ?_
    refine AOps.s 17 rfl rfl rfl (q_load tok rfl rfl rfl (by first | exact .loc _ | exact .ptr _ _ _ _ _ _ _ _ rfl rfl rfl) rfl) ?_
    refine AOps.s 18 rfl rfl rfl (q_bin rfl rfl rfl rfl) ?_
    refine AOps.s 19 rfl rfl rfl (q_pick_false false rfl rfl rfl rfl) ?_
    refine AOps.nil ?_
    refine AGo.split 19 rfl (fun hb2 => ?_) (fun hb2 => ?_)
    · -- True
      refine AGo.cond_true true rfl rfl ?_
      refine AGo.seq ?_
      refine AGo.region ?_
      refine AOps.s 8 rfl rfl rfl (q_move (.inr rfl) rfl) ?_
      refine AOps.nil ?_
      refine AGo.ret ?_
      refine ⟨[_], ⟨rfl, trivial⟩, ?_, rfl⟩
      show AV.bool _ = AV.bool _
      congr 1
      exact (fits_op (by simp_all <;> omega)).symm
    · -- False
      refine AGo.cond_false false rfl rfl ?_
      refine AGo.skip ?_
      refine AGo.seq ?_
      refine AGo.region ?_
      refine AOps.s 20 rfl rfl rfl (q_fieldAddr tok rfl rfl rfl rfl rfl rfl) ?_
      refine AOps.s 21 rfl rfl rfl (q_load tok rfl rfl rfl (by first | exact .loc _ | exact .ptr _ _ _ _ _ _ _ _ rfl rfl rfl) rfl) ?_
      refine AOps.s 22 rfl rfl rfl (q_build tok rfl rfl rfl rfl rfl (by decide) rfl rfl rfl) ?_
      refine AOps.x 9 rfl rfl rfl (o_alloc tok 1 rfl rfl rfl rfl (Nat.zero_lt_succ _) rfl) ?_
      refine AOps.w rfl rfl (o_store tok rfl rfl rfl rfl rfl rfl rfl rfl rfl (by decide) rfl (by first | exact fun _ => rfl | (intro h; cases h))) ?_
      refine AOps.nil ?_
      refine AGo.seq ?_
      refine AGo.join (γ := Int) (fun d => ⟨166, (eput (eput (eput (eput (eput eNew 1 (.int .i64 f)) 2 (.int .i64 regs)) 3 (.int .i64 words)) 4 (.ptr 0 1 0 0)) 9 (.ptr 1 1 0 0)), (hput (hput (hFrom 2) 0 (.row false 8 [t.cells])) 1 (.row false 8 [[.int .i64 t.op, .int .i64 d, .int .i64 0, .int .i64 0, .int .i64 0, .int .i64 0, .int .i64 0, .int .u32 0]]))⟩) (fun d => (!setsOp t.op || within t.d regs) = true ∧ d = bif setsOp t.op then t.d else 0) ?_ ?_
      · -- to the join
        refine AGo.seq ?_
        refine AGo.region ?_
        refine AOps.s 23 rfl rfl rfl (q_load tok rfl rfl rfl (by first | exact .loc _ | exact .ptr _ _ _ _ _ _ _ _ rfl rfl rfl) rfl) ?_
        refine AOps.x 24 rfl rfl rfl (o_pure rfl Try.func53 (by kernel_rfl) rfl rfl rfl (sets_ok _)) ?_
        refine AOps.s 25 rfl rfl rfl (q_bin rfl rfl rfl rfl) ?_
        refine AOps.s 26 rfl rfl rfl (q_move (.inl rfl) rfl) ?_
        refine AOps.split 26 rfl (fun hb3 => ?_) (fun hb3 => ?_)
        · -- True
          refine AOps.k 27 rfl rfl rfl ?_
          refine AOps.k 28 rfl rfl rfl ?_
          refine AOps.k 29 rfl rfl rfl ?_
          refine AOps.s 30 rfl rfl rfl (q_pick_true true rfl rfl rfl rfl) ?_
          refine AOps.s 31 rfl rfl rfl (q_move (.inl rfl) rfl) ?_
          refine AOps.k 32 rfl rfl rfl ?_
          refine AOps.k 33 rfl rfl rfl ?_
          refine AOps.k 34 rfl rfl rfl ?_
          refine AOps.s 35 rfl rfl rfl (q_pick_true true rfl rfl rfl rfl) ?_
          refine AOps.s 36 rfl rfl rfl (q_move (.inl rfl) rfl) ?_
          refine AOps.k 37 rfl rfl rfl ?_
          refine AOps.k 38 rfl rfl rfl ?_
          refine AOps.k 39 rfl rfl rfl ?_
          refine AOps.s 40 rfl rfl rfl (q_pick_true true rfl rfl rfl rfl) ?_
          refine AOps.s 41 rfl rfl rfl (q_move (.inl rfl) rfl) ?_
          refine AOps.k 42 rfl rfl rfl ?_
          refine AOps.k 43 rfl rfl rfl ?_
          refine AOps.k 44 rfl rfl rfl ?_
          refine AOps.s 45 rfl rfl rfl (q_pick_true true rfl rfl rfl rfl) ?_
          refine AOps.s 46 rfl rfl rfl (q_move (.inl rfl) rfl) ?_
          refine AOps.k 47 rfl rfl rfl ?_
          refine AOps.k 48 rfl rfl rfl ?_
          refine AOps.k 49 rfl rfl rfl ?_
          refine AOps.s 50 rfl rfl rfl (q_pick_true true rfl rfl rfl rfl) ?_
          refine AOps.s 51 rfl rfl rfl (q_move (.inl rfl) rfl) ?_
          refine AOps.k 52 rfl rfl rfl ?_
          refine AOps.k 53 rfl rfl rfl ?_
          refine AOps.k 54 rfl rfl rfl ?_
          refine AOps.s 55 rfl rfl rfl (q_pick_true true rfl rfl rfl rfl) ?_
          refine AOps.nil ?_
          refine AGo.cond_true true rfl rfl ?_
          refine AGo.seq ?_
          refine AGo.region ?_
          refine AOps.s 56 rfl rfl rfl (q_fieldAddr tok rfl rfl rfl rfl rfl rfl) ?_
          refine AOps.s 57 rfl rfl rfl (q_load tok rfl rfl rfl (by first | exact .loc _ | exact .ptr _ _ _ _ _ _ _ _ rfl rfl rfl) rfl) ?_
          refine AOps.s 58 rfl rfl rfl (q_fieldAddr tok rfl rfl rfl rfl rfl rfl) ?_
          refine AOps.w rfl rfl (o_store tok rfl rfl rfl rfl rfl rfl rfl rfl rfl (by decide) rfl (by first | exact fun _ => rfl | (intro h; cases h))) ?_
          refine AOps.nil ?_
          refine AGo.seq ?_
          refine AGo.region ?_
          refine AOps.s 59 rfl rfl rfl (q_fieldAddr tok rfl rfl rfl rfl rfl rfl) ?_
          refine AOps.s 60 rfl rfl rfl (q_load tok rfl rfl rfl (by first | exact .loc _ | exact .ptr _ _ _ _ _ _ _ _ rfl rfl rfl) rfl) ?_
          refine AOps.s 61 rfl rfl rfl (q_move (.inl rfl) rfl) ?_
          refine AOps.x 62 rfl rfl rfl (o_pure rfl Try.func52 (by kernel_rfl) rfl rfl rfl (within_ok _ _)) ?_
          refine AOps.s 63 rfl rfl rfl (q_not rfl rfl) ?_
          refine AOps.nil ?_
          refine AGo.split 63 rfl (fun hb4 => ?_) (fun hb4 => ?_)
          · -- True
            refine AGo.cond_true true rfl rfl ?_
            refine AGo.seq ?_
            refine AGo.region ?_
            refine AOps.s 8 rfl rfl rfl (q_move (.inr rfl) rfl) ?_
            refine AOps.nil ?_
            refine AGo.ret ?_
            refine ⟨[_], ⟨rfl, trivial⟩, ?_, rfl⟩
            show AV.bool _ = AV.bool _
            congr 1
            exact (fits_d (by first | (simp [setsOp, *]; done) | exact sets_pos ‹_›) (by simpa using ‹(!within t.d regs) = true›)).symm
          · -- False
            refine AGo.cond_false false rfl rfl ?_
            refine AGo.skip ?_
            exact ⟨t.d, Sub.mk' (by repeat (first | exact ESub.new _ | refine ESub.put ?_ (by rfl))) (by repeat (first | exact HSub.none _ | exact HSub.from_new _ | exact HSub.from_from (by decide) | refine HSub.put ?_ (by rfl) | refine HSub.from_put ?_ (by decide) | refine HSub.from_rm ?_ (by decide))), ⟨by have h := ‹(!within t.d regs) = false›; simp at h; simp [h], by first | (simp [setsOp, *]; done) | simp [sets_pos ‹_›]⟩⟩
        · -- False
          refine AOps.s 27 rfl rfl rfl (q_fieldAddr tok rfl rfl rfl rfl rfl rfl) ?_
          refine AOps.s 28 rfl rfl rfl (q_load tok rfl rfl rfl (by first | exact .loc _ | exact .ptr _ _ _ _ _ _ _ _ rfl rfl rfl) rfl) ?_
          refine AOps.s 29 rfl rfl rfl (q_bin rfl rfl rfl rfl) ?_
          refine AOps.s 30 rfl rfl rfl (q_pick_false false rfl rfl rfl rfl) ?_
          refine AOps.s 31 rfl rfl rfl (q_move (.inl rfl) rfl) ?_
          refine AOps.split 31 rfl (fun hb5 => ?_) (fun hb5 => ?_)
          · -- True
            refine AOps.k 32 rfl rfl rfl ?_
            refine AOps.k 33 rfl rfl rfl ?_
            refine AOps.k 34 rfl rfl rfl ?_
            refine AOps.s 35 rfl rfl rfl (q_pick_true true rfl rfl rfl rfl) ?_
            refine AOps.s 36 rfl rfl rfl (q_move (.inl rfl) rfl) ?_
            refine AOps.k 37 rfl rfl rfl ?_
            refine AOps.k 38 rfl rfl rfl ?_
            refine AOps.k 39 rfl rfl rfl ?_
            refine AOps.s 40 rfl rfl rfl (q_pick_true true rfl rfl rfl rfl) ?_
            refine AOps.s 41 rfl rfl rfl (q_move (.inl rfl) rfl) ?_
            refine AOps.k 42 rfl rfl rfl ?_
            refine AOps.k 43 rfl rfl rfl ?_
            refine AOps.k 44 rfl rfl rfl ?_
            refine AOps.s 45 rfl rfl rfl (q_pick_true true rfl rfl rfl rfl) ?_
            refine AOps.s 46 rfl rfl rfl (q_move (.inl rfl) rfl) ?_
            refine AOps.k 47 rfl rfl rfl ?_
            refine AOps.k 48 rfl rfl rfl ?_
            refine AOps.k 49 rfl rfl rfl ?_
            refine AOps.s 50 rfl rfl rfl (q_pick_true true rfl rfl rfl rfl) ?_
            refine AOps.s 51 rfl rfl rfl (q_move (.inl rfl) rfl) ?_
            refine AOps.k 52 rfl rfl rfl ?_
            refine AOps.k 53 rfl rfl rfl ?_
            refine AOps.k 54 rfl rfl rfl ?_
            refine AOps.s 55 rfl rfl rfl (q_pick_true true rfl rfl rfl rfl) ?_
            refine AOps.nil ?_
            refine AGo.cond_true true rfl rfl ?_
            refine AGo.seq ?_
            refine AGo.region ?_
            refine AOps.s 56 rfl rfl rfl (q_fieldAddr tok rfl rfl rfl rfl rfl rfl) ?_
            refine AOps.s 57 rfl rfl rfl (q_load tok rfl rfl rfl (by first | exact .loc _ | exact .ptr _ _ _ _ _ _ _ _ rfl rfl rfl) rfl) ?_
            refine AOps.s 58 rfl rfl rfl (q_fieldAddr tok rfl rfl rfl rfl rfl rfl) ?_
            refine AOps.w rfl rfl (o_store tok rfl rfl rfl rfl rfl rfl rfl rfl rfl (by decide) rfl (by first | exact fun _ => rfl | (intro h; cases h))) ?_
            refine AOps.nil ?_
            refine AGo.seq ?_
            refine AGo.region ?_
            refine AOps.s 59 rfl rfl rfl (q_fieldAddr tok rfl rfl rfl rfl rfl rfl) ?_
            refine AOps.s 60 rfl rfl rfl (q_load tok rfl rfl rfl (by first | exact .loc _ | exact .ptr _ _ _ _ _ _ _ _ rfl rfl rfl) rfl) ?_
            refine AOps.s 61 rfl rfl rfl (q_move (.inl rfl) rfl) ?_
            refine AOps.x 62 rfl rfl rfl (o_pure rfl Try.func52 (by kernel_rfl) rfl rfl rfl (within_ok _ _)) ?_
            refine AOps.s 63 rfl rfl rfl (q_not rfl rfl) ?_
            refine AOps.nil ?_
            refine AGo.split 63 rfl (fun hb6 => ?_) (fun hb6 => ?_)
            · -- True
              refine AGo.cond_true true rfl rfl ?_
              refine AGo.seq ?_
              refine AGo.region ?_
              refine AOps.s 8 rfl rfl rfl (q_move (.inr rfl) rfl) ?_
              refine AOps.nil ?_
              refine AGo.ret ?_
              refine ⟨[_], ⟨rfl, trivial⟩, ?_, rfl⟩
              show AV.bool _ = AV.bool _
              congr 1
              exact (fits_d (by first | (simp [setsOp, *]; done) | exact sets_pos ‹_›) (by simpa using ‹(!within t.d regs) = true›)).symm
            · -- False
              refine AGo.cond_false false rfl rfl ?_
              refine AGo.skip ?_
              exact ⟨t.d, Sub.mk' (by repeat (first | exact ESub.new _ | refine ESub.put ?_ (by rfl))) (by repeat (first | exact HSub.none _ | exact HSub.from_new _ | exact HSub.from_from (by decide) | refine HSub.put ?_ (by rfl) | refine HSub.from_put ?_ (by decide) | refine HSub.from_rm ?_ (by decide))), ⟨by have h := ‹(!within t.d regs) = false›; simp at h; simp [h], by first | (simp [setsOp, *]; done) | simp [sets_pos ‹_›]⟩⟩
          · -- False
            refine AOps.s 32 rfl rfl rfl (q_fieldAddr tok rfl rfl rfl rfl rfl rfl) ?_
            refine AOps.s 33 rfl rfl rfl (q_load tok rfl rfl rfl (by first | exact .loc _ | exact .ptr _ _ _ _ _ _ _ _ rfl rfl rfl) rfl) ?_
            refine AOps.s 34 rfl rfl rfl (q_bin rfl rfl rfl rfl) ?_
            refine AOps.s 35 rfl rfl rfl (q_pick_false false rfl rfl rfl rfl) ?_
            refine AOps.s 36 rfl rfl rfl (q_move (.inl rfl) rfl) ?_
            refine AOps.split 36 rfl (fun hb7 => ?_) (fun hb7 => ?_)
            · -- True
              refine AOps.k 37 rfl rfl rfl ?_
              refine AOps.k 38 rfl rfl rfl ?_
              refine AOps.k 39 rfl rfl rfl ?_
              refine AOps.s 40 rfl rfl rfl (q_pick_true true rfl rfl rfl rfl) ?_
              refine AOps.s 41 rfl rfl rfl (q_move (.inl rfl) rfl) ?_
              refine AOps.k 42 rfl rfl rfl ?_
              refine AOps.k 43 rfl rfl rfl ?_
              refine AOps.k 44 rfl rfl rfl ?_
              refine AOps.s 45 rfl rfl rfl (q_pick_true true rfl rfl rfl rfl) ?_
              refine AOps.s 46 rfl rfl rfl (q_move (.inl rfl) rfl) ?_
              refine AOps.k 47 rfl rfl rfl ?_
              refine AOps.k 48 rfl rfl rfl ?_
              refine AOps.k 49 rfl rfl rfl ?_
              refine AOps.s 50 rfl rfl rfl (q_pick_true true rfl rfl rfl rfl) ?_
              refine AOps.s 51 rfl rfl rfl (q_move (.inl rfl) rfl) ?_
              refine AOps.k 52 rfl rfl rfl ?_
              refine AOps.k 53 rfl rfl rfl ?_
              refine AOps.k 54 rfl rfl rfl ?_
              refine AOps.s 55 rfl rfl rfl (q_pick_true true rfl rfl rfl rfl) ?_
              refine AOps.nil ?_
              refine AGo.cond_true true rfl rfl ?_
              refine AGo.seq ?_
              refine AGo.region ?_
              refine AOps.s 56 rfl rfl rfl (q_fieldAddr tok rfl rfl rfl rfl rfl rfl) ?_
              refine AOps.s 57 rfl rfl rfl (q_load tok rfl rfl rfl (by first | exact .loc _ | exact .ptr _ _ _ _ _ _ _ _ rfl rfl rfl) rfl) ?_
              refine AOps.s 58 rfl rfl rfl (q_fieldAddr tok rfl rfl rfl rfl rfl rfl) ?_
              refine AOps.w rfl rfl (o_store tok rfl rfl rfl rfl rfl rfl rfl rfl rfl (by decide) rfl (by first | exact fun _ => rfl | (intro h; cases h))) ?_
              refine AOps.nil ?_
              refine AGo.seq ?_
              refine AGo.region ?_
              refine AOps.s 59 rfl rfl rfl (q_fieldAddr tok rfl rfl rfl rfl rfl rfl) ?_
              refine AOps.s 60 rfl rfl rfl (q_load tok rfl rfl rfl (by first | exact .loc _ | exact .ptr _ _ _ _ _ _ _ _ rfl rfl rfl) rfl) ?_
              refine AOps.s 61 rfl rfl rfl (q_move (.inl rfl) rfl) ?_
              refine AOps.x 62 rfl rfl rfl (o_pure rfl Try.func52 (by kernel_rfl) rfl rfl rfl (within_ok _ _)) ?_
              refine AOps.s 63 rfl rfl rfl (q_not rfl rfl) ?_
              refine AOps.nil ?_
              refine AGo.split 63 rfl (fun hb8 => ?_) (fun hb8 => ?_)
              · -- True
                refine AGo.cond_true true rfl rfl ?_
                refine AGo.seq ?_
                refine AGo.region ?_
                refine AOps.s 8 rfl rfl rfl (q_move (.inr rfl) rfl) ?_
                refine AOps.nil ?_
                refine AGo.ret ?_
                refine ⟨[_], ⟨rfl, trivial⟩, ?_, rfl⟩
                show AV.bool _ = AV.bool _
                congr 1
                exact (fits_d (by first | (simp [setsOp, *]; done) | exact sets_pos ‹_›) (by simpa using ‹(!within t.d regs) = true›)).symm
              · -- False
                refine AGo.cond_false false rfl rfl ?_
                refine AGo.skip ?_
                exact ⟨t.d, Sub.mk' (by repeat (first | exact ESub.new _ | refine ESub.put ?_ (by rfl))) (by repeat (first | exact HSub.none _ | exact HSub.from_new _ | exact HSub.from_from (by decide) | refine HSub.put ?_ (by rfl) | refine HSub.from_put ?_ (by decide) | refine HSub.from_rm ?_ (by decide))), ⟨by have h := ‹(!within t.d regs) = false›; simp at h; simp [h], by first | (simp [setsOp, *]; done) | simp [sets_pos ‹_›]⟩⟩
            · -- False
              refine AOps.s 37 rfl rfl rfl (q_fieldAddr tok rfl rfl rfl rfl rfl rfl) ?_
              refine AOps.s 38 rfl rfl rfl (q_load tok rfl rfl rfl (by first | exact .loc _ | exact .ptr _ _ _ _ _ _ _ _ rfl rfl rfl) rfl) ?_
              refine AOps.s 39 rfl rfl rfl (q_bin rfl rfl rfl rfl) ?_
              refine AOps.s 40 rfl rfl rfl (q_pick_false false rfl rfl rfl rfl) ?_
              refine AOps.s 41 rfl rfl rfl (q_move (.inl rfl) rfl) ?_
              refine AOps.split 41 rfl (fun hb9 => ?_) (fun hb9 => ?_)
              · -- True
                refine AOps.k 42 rfl rfl rfl ?_
                refine AOps.k 43 rfl rfl rfl ?_
                refine AOps.k 44 rfl rfl rfl ?_
                refine AOps.s 45 rfl rfl rfl (q_pick_true true rfl rfl rfl rfl) ?_
                refine AOps.s 46 rfl rfl rfl (q_move (.inl rfl) rfl) ?_
                refine AOps.k 47 rfl rfl rfl ?_
                refine AOps.k 48 rfl rfl rfl ?_
                refine AOps.k 49 rfl rfl rfl ?_
                refine AOps.s 50 rfl rfl rfl (q_pick_true true rfl rfl rfl rfl) ?_
                refine AOps.s 51 rfl rfl rfl (q_move (.inl rfl) rfl) ?_
                refine AOps.k 52 rfl rfl rfl ?_
                refine AOps.k 53 rfl rfl rfl ?_
                refine AOps.k 54 rfl rfl rfl ?_
                refine AOps.s 55 rfl rfl rfl (q_pick_true true rfl rfl rfl rfl) ?_
                refine AOps.nil ?_
                refine AGo.cond_true true rfl rfl ?_
                refine AGo.seq ?_
                refine AGo.region ?_
                refine AOps.s 56 rfl rfl rfl (q_fieldAddr tok rfl rfl rfl rfl rfl rfl) ?_
                refine AOps.s 57 rfl rfl rfl (q_load tok rfl rfl rfl (by first | exact .loc _ | exact .ptr _ _ _ _ _ _ _ _ rfl rfl rfl) rfl) ?_
                refine AOps.s 58 rfl rfl rfl (q_fieldAddr tok rfl rfl rfl rfl rfl rfl) ?_
                refine AOps.w rfl rfl (o_store tok rfl rfl rfl rfl rfl rfl rfl rfl rfl (by decide) rfl (by first | exact fun _ => rfl | (intro h; cases h))) ?_
                refine AOps.nil ?_
                refine AGo.seq ?_
                refine AGo.region ?_
                refine AOps.s 59 rfl rfl rfl (q_fieldAddr tok rfl rfl rfl rfl rfl rfl) ?_
                refine AOps.s 60 rfl rfl rfl (q_load tok rfl rfl rfl (by first | exact .loc _ | exact .ptr _ _ _ _ _ _ _ _ rfl rfl rfl) rfl) ?_
                refine AOps.s 61 rfl rfl rfl (q_move (.inl rfl) rfl) ?_
                refine AOps.x 62 rfl rfl rfl (o_pure rfl Try.func52 (by kernel_rfl) rfl rfl rfl (within_ok _ _)) ?_
                refine AOps.s 63 rfl rfl rfl (q_not rfl rfl) ?_
                refine AOps.nil ?_
                refine AGo.split 63 rfl (fun hb10 => ?_) (fun hb10 => ?_)
                · -- True
                  refine AGo.cond_true true rfl rfl ?_
                  refine AGo.seq ?_
                  refine AGo.region ?_
                  refine AOps.s 8 rfl rfl rfl (q_move (.inr rfl) rfl) ?_
                  refine AOps.nil ?_
                  refine AGo.ret ?_
                  refine ⟨[_], ⟨rfl, trivial⟩, ?_, rfl⟩
                  show AV.bool _ = AV.bool _
                  congr 1
                  exact (fits_d (by first | (simp [setsOp, *]; done) | exact sets_pos ‹_›) (by simpa using ‹(!within t.d regs) = true›)).symm
                · -- False
                  refine AGo.cond_false false rfl rfl ?_
                  refine AGo.skip ?_
                  exact ⟨t.d, Sub.mk' (by repeat (first | exact ESub.new _ | refine ESub.put ?_ (by rfl))) (by repeat (first | exact HSub.none _ | exact HSub.from_new _ | exact HSub.from_from (by decide) | refine HSub.put ?_ (by rfl) | refine HSub.from_put ?_ (by decide) | refine HSub.from_rm ?_ (by decide))), ⟨by have h := ‹(!within t.d regs) = false›; simp at h; simp [h], by first | (simp [setsOp, *]; done) | simp [sets_pos ‹_›]⟩⟩
              · -- False
                refine AOps.s 42 rfl rfl rfl (q_fieldAddr tok rfl rfl rfl rfl rfl rfl) ?_
                refine AOps.s 43 rfl rfl rfl (q_load tok rfl rfl rfl (by first | exact .loc _ | exact .ptr _ _ _ _ _ _ _ _ rfl rfl rfl) rfl) ?_
                refine AOps.s 44 rfl rfl rfl (q_bin rfl rfl rfl rfl) ?_
                refine AOps.s 45 rfl rfl rfl (q_pick_false false rfl rfl rfl rfl) ?_
                refine AOps.s 46 rfl rfl rfl (q_move (.inl rfl) rfl) ?_
                refine AOps.split 46 rfl (fun hb11 => ?_) (fun hb11 => ?_)
                · -- True
                  refine AOps.k 47 rfl rfl rfl ?_
                  refine AOps.k 48 rfl rfl rfl ?_
                  refine AOps.k 49 rfl rfl rfl ?_
                  refine AOps.s 50 rfl rfl rfl (q_pick_true true rfl rfl rfl rfl) ?_
                  refine AOps.s 51 rfl rfl rfl (q_move (.inl rfl) rfl) ?_
                  refine AOps.k 52 rfl rfl rfl ?_
                  refine AOps.k 53 rfl rfl rfl ?_
                  refine AOps.k 54 rfl rfl rfl ?_
                  refine AOps.s 55 rfl rfl rfl (q_pick_true true rfl rfl rfl rfl) ?_
                  refine AOps.nil ?_
                  refine AGo.cond_true true rfl rfl ?_
                  refine AGo.seq ?_
                  refine AGo.region ?_
                  refine AOps.s 56 rfl rfl rfl (q_fieldAddr tok rfl rfl rfl rfl rfl rfl) ?_
                  refine AOps.s 57 rfl rfl rfl (q_load tok rfl rfl rfl (by first | exact .loc _ | exact .ptr _ _ _ _ _ _ _ _ rfl rfl rfl) rfl) ?_
                  refine AOps.s 58 rfl rfl rfl (q_fieldAddr tok rfl rfl rfl rfl rfl rfl) ?_
                  refine AOps.w rfl rfl (o_store tok rfl rfl rfl rfl rfl rfl rfl rfl rfl (by decide) rfl (by first | exact fun _ => rfl | (intro h; cases h))) ?_
                  refine AOps.nil ?_
                  refine AGo.seq ?_
                  refine AGo.region ?_
                  refine AOps.s 59 rfl rfl rfl (q_fieldAddr tok rfl rfl rfl rfl rfl rfl) ?_
                  refine AOps.s 60 rfl rfl rfl (q_load tok rfl rfl rfl (by first | exact .loc _ | exact .ptr _ _ _ _ _ _ _ _ rfl rfl rfl) rfl) ?_
                  refine AOps.s 61 rfl rfl rfl (q_move (.inl rfl) rfl) ?_
                  refine AOps.x 62 rfl rfl rfl (o_pure rfl Try.func52 (by kernel_rfl) rfl rfl rfl (within_ok _ _)) ?_
                  refine AOps.s 63 rfl rfl rfl (q_not rfl rfl) ?_
                  refine AOps.nil ?_
                  refine AGo.split 63 rfl (fun hb12 => ?_) (fun hb12 => ?_)
                  · -- True
                    refine AGo.cond_true true rfl rfl ?_
                    refine AGo.seq ?_
                    refine AGo.region ?_
                    refine AOps.s 8 rfl rfl rfl (q_move (.inr rfl) rfl) ?_
                    refine AOps.nil ?_
                    refine AGo.ret ?_
                    refine ⟨[_], ⟨rfl, trivial⟩, ?_, rfl⟩
                    show AV.bool _ = AV.bool _
                    congr 1
                    exact (fits_d (by first | (simp [setsOp, *]; done) | exact sets_pos ‹_›) (by simpa using ‹(!within t.d regs) = true›)).symm
                  · -- False
                    refine AGo.cond_false false rfl rfl ?_
                    refine AGo.skip ?_
                    exact ⟨t.d, Sub.mk' (by repeat (first | exact ESub.new _ | refine ESub.put ?_ (by rfl))) (by repeat (first | exact HSub.none _ | exact HSub.from_new _ | exact HSub.from_from (by decide) | refine HSub.put ?_ (by rfl) | refine HSub.from_put ?_ (by decide) | refine HSub.from_rm ?_ (by decide))), ⟨by have h := ‹(!within t.d regs) = false›; simp at h; simp [h], by first | (simp [setsOp, *]; done) | simp [sets_pos ‹_›]⟩⟩
                · -- False
                  refine AOps.s 47 rfl rfl rfl (q_fieldAddr tok rfl rfl rfl rfl rfl rfl) ?_
                  refine AOps.s 48 rfl rfl rfl (q_load tok rfl rfl rfl (by first | exact .loc _ | exact .ptr _ _ _ _ _ _ _ _ rfl rfl rfl) rfl) ?_
                  refine AOps.s 49 rfl rfl rfl (q_bin rfl rfl rfl rfl) ?_
                  refine AOps.s 50 rfl rfl rfl (q_pick_false false rfl rfl rfl rfl) ?_
                  refine AOps.s 51 rfl rfl rfl (q_move (.inl rfl) rfl) ?_
                  refine AOps.split 51 rfl (fun hb13 => ?_) (fun hb13 => ?_)
                  · -- True
                    refine AOps.k 52 rfl rfl rfl ?_
                    refine AOps.k 53 rfl rfl rfl ?_
                    refine AOps.k 54 rfl rfl rfl ?_
                    refine AOps.s 55 rfl rfl rfl (q_pick_true true rfl rfl rfl rfl) ?_
                    refine AOps.nil ?_
                    refine AGo.cond_true true rfl rfl ?_
                    refine AGo.seq ?_
                    refine AGo.region ?_
                    refine AOps.s 56 rfl rfl rfl (q_fieldAddr tok rfl rfl rfl rfl rfl rfl) ?_
                    refine AOps.s 57 rfl rfl rfl (q_load tok rfl rfl rfl (by first | exact .loc _ | exact .ptr _ _ _ _ _ _ _ _ rfl rfl rfl) rfl) ?_
                    refine AOps.s 58 rfl rfl rfl (q_fieldAddr tok rfl rfl rfl rfl rfl rfl) ?_
                    refine AOps.w rfl rfl (o_store tok rfl rfl rfl rfl rfl rfl rfl rfl rfl (by decide) rfl (by first | exact fun _ => rfl | (intro h; cases h))) ?_
                    refine AOps.nil ?_
                    refine AGo.seq ?_
                    refine AGo.region ?_
                    refine AOps.s 59 rfl rfl rfl (q_fieldAddr tok rfl rfl rfl rfl rfl rfl) ?_
                    refine AOps.s 60 rfl rfl rfl (q_load tok rfl rfl rfl (by first | exact .loc _ | exact .ptr _ _ _ _ _ _ _ _ rfl rfl rfl) rfl) ?_
                    refine AOps.s 61 rfl rfl rfl (q_move (.inl rfl) rfl) ?_
                    refine AOps.x 62 rfl rfl rfl (o_pure rfl Try.func52 (by kernel_rfl) rfl rfl rfl (within_ok _ _)) ?_
                    refine AOps.s 63 rfl rfl rfl (q_not rfl rfl) ?_
                    refine AOps.nil ?_
                    refine AGo.split 63 rfl (fun hb14 => ?_) (fun hb14 => ?_)
                    · -- True
                      refine AGo.cond_true true rfl rfl ?_
                      refine AGo.seq ?_
                      refine AGo.region ?_
                      refine AOps.s 8 rfl rfl rfl (q_move (.inr rfl) rfl) ?_
                      refine AOps.nil ?_
                      refine AGo.ret ?_
                      refine ⟨[_], ⟨rfl, trivial⟩, ?_, rfl⟩
                      show AV.bool _ = AV.bool _
                      congr 1
                      exact (fits_d (by first | (simp [setsOp, *]; done) | exact sets_pos ‹_›) (by simpa using ‹(!within t.d regs) = true›)).symm
                    · -- False
                      refine AGo.cond_false false rfl rfl ?_
                      refine AGo.skip ?_
                      exact ⟨t.d, Sub.mk' (by repeat (first | exact ESub.new _ | refine ESub.put ?_ (by rfl))) (by repeat (first | exact HSub.none _ | exact HSub.from_new _ | exact HSub.from_from (by decide) | refine HSub.put ?_ (by rfl) | refine HSub.from_put ?_ (by decide) | refine HSub.from_rm ?_ (by decide))), ⟨by have h := ‹(!within t.d regs) = false›; simp at h; simp [h], by first | (simp [setsOp, *]; done) | simp [sets_pos ‹_›]⟩⟩
                  · -- False
                    refine AOps.s 52 rfl rfl rfl (q_fieldAddr tok rfl rfl rfl rfl rfl rfl) ?_
                    refine AOps.s 53 rfl rfl rfl (q_load tok rfl rfl rfl (by first | exact .loc _ | exact .ptr _ _ _ _ _ _ _ _ rfl rfl rfl) rfl) ?_
                    refine AOps.s 54 rfl rfl rfl (q_bin rfl rfl rfl rfl) ?_
                    refine AOps.s 55 rfl rfl rfl (q_pick_false false rfl rfl rfl rfl) ?_
                    refine AOps.nil ?_
                    refine AGo.split 55 rfl (fun hb15 => ?_) (fun hb15 => ?_)
                    · -- True
                      refine AGo.cond_true true rfl rfl ?_
                      refine AGo.seq ?_
                      refine AGo.region ?_
                      refine AOps.s 56 rfl rfl rfl (q_fieldAddr tok rfl rfl rfl rfl rfl rfl) ?_
                      refine AOps.s 57 rfl rfl rfl (q_load tok rfl rfl rfl (by first | exact .loc _ | exact .ptr _ _ _ _ _ _ _ _ rfl rfl rfl) rfl) ?_
                      refine AOps.s 58 rfl rfl rfl (q_fieldAddr tok rfl rfl rfl rfl rfl rfl) ?_
                      refine AOps.w rfl rfl (o_store tok rfl rfl rfl rfl rfl rfl rfl rfl rfl (by decide) rfl (by first | exact fun _ => rfl | (intro h; cases h))) ?_
                      refine AOps.nil ?_
                      refine AGo.seq ?_
                      refine AGo.region ?_
                      refine AOps.s 59 rfl rfl rfl (q_fieldAddr tok rfl rfl rfl rfl rfl rfl) ?_
                      refine AOps.s 60 rfl rfl rfl (q_load tok rfl rfl rfl (by first | exact .loc _ | exact .ptr _ _ _ _ _ _ _ _ rfl rfl rfl) rfl) ?_
                      refine AOps.s 61 rfl rfl rfl (q_move (.inl rfl) rfl) ?_
                      refine AOps.x 62 rfl rfl rfl (o_pure rfl Try.func52 (by kernel_rfl) rfl rfl rfl (within_ok _ _)) ?_
                      refine AOps.s 63 rfl rfl rfl (q_not rfl rfl) ?_
                      refine AOps.nil ?_
                      refine AGo.split 63 rfl (fun hb16 => ?_) (fun hb16 => ?_)
                      · -- True
                        refine AGo.cond_true true rfl rfl ?_
                        refine AGo.seq ?_
                        refine AGo.region ?_
                        refine AOps.s 8 rfl rfl rfl (q_move (.inr rfl) rfl) ?_
                        refine AOps.nil ?_
                        refine AGo.ret ?_
                        refine ⟨[_], ⟨rfl, trivial⟩, ?_, rfl⟩
                        show AV.bool _ = AV.bool _
                        congr 1
                        exact (fits_d (by first | (simp [setsOp, *]; done) | exact sets_pos ‹_›) (by simpa using ‹(!within t.d regs) = true›)).symm
                      · -- False
                        refine AGo.cond_false false rfl rfl ?_
                        refine AGo.skip ?_
                        exact ⟨t.d, Sub.mk' (by repeat (first | exact ESub.new _ | refine ESub.put ?_ (by rfl))) (by repeat (first | exact HSub.none _ | exact HSub.from_new _ | exact HSub.from_from (by decide) | refine HSub.put ?_ (by rfl) | refine HSub.from_put ?_ (by decide) | refine HSub.from_rm ?_ (by decide))), ⟨by have h := ‹(!within t.d regs) = false›; simp at h; simp [h], by first | (simp [setsOp, *]; done) | simp [sets_pos ‹_›]⟩⟩
                    · -- False
                      refine AGo.cond_false false rfl rfl ?_
                      refine AGo.skip ?_
                      exact ⟨0, Sub.mk' (by repeat (first | exact ESub.new _ | refine ESub.put ?_ (by rfl))) (by repeat (first | exact HSub.none _ | exact HSub.from_new _ | exact HSub.from_from (by decide) | refine HSub.put ?_ (by rfl) | refine HSub.from_put ?_ (by decide) | refine HSub.from_rm ?_ (by decide))), ⟨by simp [setsOp, *], by simp [setsOp, *]⟩⟩
      intro d ⟨hd, hdd⟩
      refine AGo.seq ?_
      refine AGo.region ?_
      refine AOps.s 64 rfl rfl rfl (q_load tok rfl rfl rfl (by first | exact .loc _ | exact .ptr _ _ _ _ _ _ _ _ rfl rfl rfl) rfl) ?_
      refine AOps.x 65 rfl rfl rfl (o_pure rfl Try.func54 (by kernel_rfl) rfl rfl rfl (uses_ok _)) ?_
      refine AOps.s 10 rfl rfl rfl (q_move (.inr rfl) rfl) ?_
      refine AOps.nil ?_
      refine AGo.seq ?_
      refine AGo.seq ?_
      refine AGo.region ?_
      refine AOps.s 11 rfl rfl rfl (q_move (.inr rfl) rfl) ?_
      refine AOps.nil ?_
      refine AGo.block ?_
      refine AGo.loopD (γ := Nat) 2 (fun j => ⟨166, (eput (eput (eput (eput (eput (eput (eput eNew 1 (.int .i64 f)) 2 (.int .i64 regs)) 3 (.int .i64 words)) 4 (.ptr 0 1 0 0)) 9 (.ptr 1 1 0 0)) 10 (intsAV t.uses)) 11 (.int .i64 (j : Int))), (hput (hput (hFrom 2) 0 (.row false 8 [t.cells])) 1 (.row false 8 [[.int .i64 t.op, .int .i64 d, .int .i64 0, .int .i64 0, .int .i64 0, .int .i64 0, .int .i64 0, .int .u32 0]]))⟩) (fun j => (t.uses.take j).all (fun r => within r regs) = true) (fun j => t.uses.length - j) 0 (Sub.mk' (by repeat (first | exact ESub.new _ | refine ESub.put ?_ (by rfl))) (by repeat (first | exact HSub.none _ | exact HSub.from_new _ | exact HSub.from_from (by decide) | refine HSub.put ?_ (by rfl) | refine HSub.from_put ?_ (by decide) | refine HSub.from_rm ?_ (by decide)))) rfl (fun _ => hput_free (hput_free (fun b hb => hFrom_free hb) rfl) rfl) ?_
      intro j hj
      refine AGo.seq ?_
      refine AGo.seq ?_
      refine AGo.region ?_
      refine AOps.s 66 rfl rfl rfl (q_move (.inl rfl) rfl) ?_
      refine AOps.s 67 rfl rfl rfl (q_move (.inl rfl) rfl) ?_
      refine AOps.s 68 rfl rfl rfl (q_len tok rfl rfl rfl rfl rfl) ?_
      refine AOps.s 69 rfl rfl rfl (q_bin rfl rfl rfl rfl) ?_
      refine AOps.nil ?_
      refine AGo.split 69 rfl (fun hb17 => ?_) (fun hb17 => ?_)
      · -- True
        refine AGo.cond_true true rfl rfl ?_
        have hjl : j < t.uses.length := lt_of_idx hb17
        obtain ⟨u, hu⟩ := get_of_lt hjl
        refine AGo.skip ?_
        refine AGo.seq ?_
        refine AGo.block ?_
        refine AGo.seq ?_
        refine AGo.region ?_
        refine AOps.s 72 rfl rfl rfl (q_move (.inl rfl) rfl) ?_
        refine AOps.s 73 rfl rfl rfl (q_move (.inl rfl) rfl) ?_
        refine AOps.s 74 rfl rfl rfl (q_index_lst tok rfl rfl rfl rfl rfl rfl (Int.natCast_nonneg _) (idx_map (by assumption)) rfl) ?_
        refine AOps.s 75 rfl rfl rfl (q_load tok rfl rfl rfl (by first | exact .loc _ | exact .ptr _ _ _ _ _ _ _ _ rfl rfl rfl) rfl) ?_
        refine AOps.s 76 rfl rfl rfl (q_move (.inl rfl) rfl) ?_
        refine AOps.x 77 rfl rfl rfl (o_pure rfl Try.func52 (by kernel_rfl) rfl rfl rfl (within_ok _ _)) ?_
        refine AOps.s 78 rfl rfl rfl (q_not rfl rfl) ?_
        refine AOps.nil ?_
        refine AGo.split 78 rfl (fun hb18 => ?_) (fun hb18 => ?_)
        · -- True
          refine AGo.cond_true true rfl rfl ?_
          have hbw := hb18
          refine AGo.seq ?_
          refine AGo.region ?_
          refine AOps.s 8 rfl rfl rfl (q_move (.inr rfl) rfl) ?_
          refine AOps.nil ?_
          refine AGo.ret ?_
          refine ⟨[_], ⟨rfl, trivial⟩, ?_, rfl⟩
          show AV.bool _ = AV.bool _
          congr 1
          exact (fits_use (all_bad hu (by simpa using hbw))).symm
        · -- False
          refine AGo.cond_false false rfl rfl ?_
          have hbw := hb18
          refine AGo.skip ?_
          refine AGo.region ?_
          refine AOps.s 70 rfl rfl rfl (q_move (.inl rfl) rfl) ?_
          refine AOps.s 71 rfl rfl rfl (q_inc rfl rfl hjl (Nat.le_trans (uses_len t) (by decide))) ?_
          refine AOps.s 11 rfl rfl rfl (q_move (.inr rfl) rfl) ?_
          refine AOps.nil ?_
          exact ⟨j+1, Drop.mk' (by repeat (first | exact EDrop.new _ _ | refine EDrop.put ?_ (by rfl) rfl)) (by repeat (first | exact HDrop.none _ _ | exact HDrop.tail _ _ | refine HDrop.put ?_ (by rfl) rfl rfl)), all_succ hu hj (by simpa using hbw), by omega⟩
      · -- False
        refine AGo.cond_false false rfl rfl ?_
        have hall := all_end hj (ge_of_idx hb17)
        refine AGo.exit ?_
        refine AGo.seq ?_
        refine AGo.join (γ := Int) (fun a => ⟨166, (eput (eput (eput (eput (eput (eput eNew 1 (.int .i64 f)) 2 (.int .i64 regs)) 3 (.int .i64 words)) 4 (.ptr 0 1 0 0)) 9 (.ptr 1 1 0 0)) 10 (intsAV t.uses)), (hput (hput (hFrom 2) 0 (.row false 8 [t.cells])) 1 (.row false 8 [[.int .i64 t.op, .int .i64 d, .int .i64 a, .int .i64 0, .int .i64 0, .int .i64 0, .int .i64 0, .int .u32 0]]))⟩) (fun a => a = bif use1 t.op || use2 t.op then t.a else 0) ?_ ?_
        · -- to the join
          refine AGo.seq ?_
          refine AGo.region ?_
          refine AOps.s 79 rfl rfl rfl (q_move (.inl rfl) rfl) ?_
          refine AOps.s 80 rfl rfl rfl (q_len tok rfl rfl rfl rfl rfl) ?_
          refine AOps.s 81 rfl rfl rfl (q_bin rfl rfl rfl rfl) ?_
          refine AOps.nil ?_
          refine AGo.split 81 rfl (fun hb19 => ?_) (fun hb19 => ?_)
          · -- True
            refine AGo.cond_true true rfl rfl ?_
            refine AGo.region ?_
            refine AOps.s 82 rfl rfl rfl (q_fieldAddr tok rfl rfl rfl rfl rfl rfl) ?_
            refine AOps.s 83 rfl rfl rfl (q_load tok rfl rfl rfl (by first | exact .loc _ | exact .ptr _ _ _ _ _ _ _ _ rfl rfl rfl) rfl) ?_
            refine AOps.s 84 rfl rfl rfl (q_fieldAddr tok rfl rfl rfl rfl rfl rfl) ?_
            refine AOps.w rfl rfl (o_store tok rfl rfl rfl rfl rfl rfl rfl rfl rfl (by decide) rfl (by first | exact fun _ => rfl | (intro h; cases h))) ?_
            refine AOps.nil ?_
            exact ⟨t.a, Sub.mk' (by repeat (first | exact ESub.new _ | refine ESub.put ?_ (by rfl))) (by repeat (first | exact HSub.none _ | exact HSub.from_new _ | exact HSub.from_from (by decide) | refine HSub.put ?_ (by rfl) | refine HSub.from_put ?_ (by decide) | refine HSub.from_rm ?_ (by decide))), by have h3 := use12 t.op; cases h1 : use1 t.op <;> cases h2 : use2 t.op <;> simp_all [Tac.uses]⟩
          · -- False
            refine AGo.cond_false false rfl rfl ?_
            refine AGo.skip ?_
            exact ⟨0, Sub.mk' (by repeat (first | exact ESub.new _ | refine ESub.put ?_ (by rfl))) (by repeat (first | exact HSub.none _ | exact HSub.from_new _ | exact HSub.from_from (by decide) | refine HSub.put ?_ (by rfl) | refine HSub.from_put ?_ (by decide) | refine HSub.from_rm ?_ (by decide))), by have h3 := use12 t.op; cases h1 : use1 t.op <;> cases h2 : use2 t.op <;> simp_all [Tac.uses]⟩
        intro a haa
        refine AGo.seq ?_
        refine AGo.join (γ := Int) (fun b => ⟨166, (eput (eput (eput (eput (eput eNew 1 (.int .i64 f)) 2 (.int .i64 regs)) 3 (.int .i64 words)) 4 (.ptr 0 1 0 0)) 9 (.ptr 1 1 0 0)), (hput (hput (hFrom 2) 0 (.row false 8 [t.cells])) 1 (.row false 8 [[.int .i64 t.op, .int .i64 d, .int .i64 a, .int .i64 b, .int .i64 0, .int .i64 0, .int .i64 0, .int .u32 0]]))⟩) (fun b => b = bif use2 t.op then t.b else 0) ?_ ?_
        · -- to the join
          refine AGo.seq ?_
          refine AGo.region ?_
          refine AOps.s 85 rfl rfl rfl (q_move (.inl rfl) rfl) ?_
          refine AOps.s 86 rfl rfl rfl (q_len tok rfl rfl rfl rfl rfl) ?_
          refine AOps.s 87 rfl rfl rfl (q_bin rfl rfl rfl rfl) ?_
          refine AOps.nil ?_
          refine AGo.split 87 rfl (fun hb20 => ?_) (fun hb20 => ?_)
          · -- True
            refine AGo.cond_true true rfl rfl ?_
            refine AGo.region ?_
            refine AOps.s 88 rfl rfl rfl (q_fieldAddr tok rfl rfl rfl rfl rfl rfl) ?_
            refine AOps.s 89 rfl rfl rfl (q_load tok rfl rfl rfl (by first | exact .loc _ | exact .ptr _ _ _ _ _ _ _ _ rfl rfl rfl) rfl) ?_
            refine AOps.s 90 rfl rfl rfl (q_fieldAddr tok rfl rfl rfl rfl rfl rfl) ?_
            refine AOps.w rfl rfl (o_store tok rfl rfl rfl rfl rfl rfl rfl rfl rfl (by decide) rfl (by first | exact fun _ => rfl | (intro h; cases h))) ?_
            refine AOps.nil ?_
            exact ⟨t.b, Sub.mk' (by repeat (first | exact ESub.new _ | refine ESub.put ?_ (by rfl))) (by repeat (first | exact HSub.none _ | exact HSub.from_new _ | exact HSub.from_from (by decide) | refine HSub.put ?_ (by rfl) | refine HSub.from_put ?_ (by decide) | refine HSub.from_rm ?_ (by decide))), by have h3 := use12 t.op; cases h1 : use1 t.op <;> cases h2 : use2 t.op <;> simp_all [Tac.uses]⟩
          · -- False
            refine AGo.cond_false false rfl rfl ?_
            refine AGo.skip ?_
            exact ⟨0, Sub.mk' (by repeat (first | exact ESub.new _ | refine ESub.put ?_ (by rfl))) (by repeat (first | exact HSub.none _ | exact HSub.from_new _ | exact HSub.from_from (by decide) | refine HSub.put ?_ (by rfl) | refine HSub.from_put ?_ (by decide) | refine HSub.from_rm ?_ (by decide))), by have h3 := use12 t.op; cases h1 : use1 t.op <;> cases h2 : use2 t.op <;> simp_all [Tac.uses]⟩
        intro b hbb
        refine AGo.seq ?_
        refine AGo.seq ?_
        refine AGo.region ?_
        refine AOps.s 91 rfl rfl rfl (q_fieldAddr tok rfl rfl rfl rfl rfl rfl) ?_
        refine AOps.s 92 rfl rfl rfl (q_load tok rfl rfl rfl (by first | exact .loc _ | exact .ptr _ _ _ _ _ _ _ _ rfl rfl rfl) rfl) ?_
        refine AOps.nil ?_
        refine AGo.block ?_
        refine AGo.seq ?_
        refine AGo.region ?_
        refine AOps.s 94 rfl rfl rfl (q_bin rfl rfl rfl rfl) ?_
        refine AOps.s 93 rfl rfl rfl (q_move (.inr rfl) rfl) ?_
        refine AOps.nil ?_
        refine AGo.split 93 rfl (fun hb21 => ?_) (fun hb21 => ?_)
        · -- True
          refine AGo.cond_true true rfl rfl ?_
          refine AGo.region ?_
          refine AOps.s 95 rfl rfl rfl (q_fieldAddr tok rfl rfl rfl rfl rfl rfl) ?_
          refine AOps.s 96 rfl rfl rfl (q_load tok rfl rfl rfl (by first | exact .loc _ | exact .ptr _ _ _ _ _ _ _ _ rfl rfl rfl) rfl) ?_
          refine AOps.s 97 rfl rfl rfl (q_fieldAddr tok rfl rfl rfl rfl rfl rfl) ?_
          refine AOps.w rfl rfl (o_store tok rfl rfl rfl rfl rfl rfl rfl rfl rfl (by decide) rfl (by first | exact fun _ => rfl | (intro h; cases h))) ?_
          refine AOps.nil ?_
          refine AGo.seq ?_
          refine AGo.region ?_
          refine AOps.s 163 rfl rfl rfl (q_load tok rfl rfl rfl (by first | exact .loc _ | exact .ptr _ _ _ _ _ _ _ _ rfl rfl rfl) rfl) ?_
          refine AOps.s 164 rfl rfl rfl (q_load tok rfl rfl rfl (by first | exact .loc _ | exact .ptr _ _ _ _ _ _ _ _ rfl rfl rfl) rfl) ?_
          refine AOps.s 165 rfl rfl rfl (q_eqStruct tok false rfl rfl rfl (by kernel_rfl) rfl rfl rfl rfl rfl) ?_
          refine AOps.s 8 rfl rfl rfl (q_move (.inr rfl) rfl) ?_
          refine AOps.nil ?_
          refine AGo.ret ?_
          refine ⟨[_], ⟨rfl, trivial⟩, ?_, rfl⟩
          show AV.bool _ = AV.bool _
          congr 1
          have hwr : 1 ≤ t.size → t.size ≤ 4096 → IntKind.i64.wrap (words - t.size) = words - t.size := fun h1 h2 => wrap_i64 (by omega) (by omega)
          rw [fits_same hb1 hb2 hd hall (by simp_all [Tac.rest, baseOp, arrOp] <;> omega)]
          subst hdd haa hbb
          clear hd hj hall hwr hw hw2 hb1 hb2
          first | (simp_all [Tac.same, Tac.want, baseOp, arrOp, setsOp, use1, use2]; done) | simp [Tac.same, Tac.want, baseOp, arrOp, *]
        · -- False
          refine AGo.cond_false false rfl rfl ?_
          refine AGo.seq ?_
          refine AGo.region ?_
          refine AOps.s 99 rfl rfl rfl (q_bin rfl rfl rfl rfl) ?_
          refine AOps.s 98 rfl rfl rfl (q_move (.inr rfl) rfl) ?_
          refine AOps.nil ?_
          refine AGo.split 98 rfl (fun hb22 => ?_) (fun hb22 => ?_)
          · -- True
            refine AGo.cond_true true rfl rfl ?_
            refine AGo.seq ?_
            refine AGo.region ?_
            refine AOps.s 100 rfl rfl rfl (q_fieldAddr tok rfl rfl rfl rfl rfl rfl) ?_
            refine AOps.s 101 rfl rfl rfl (q_load tok rfl rfl rfl (by first | exact .loc _ | exact .ptr _ _ _ _ _ _ _ _ rfl rfl rfl) rfl) ?_
            refine AOps.s 102 rfl rfl rfl (q_fieldAddr tok rfl rfl rfl rfl rfl rfl) ?_
            refine AOps.w rfl rfl (o_store tok rfl rfl rfl rfl rfl rfl rfl rfl rfl (by decide) rfl (by first | exact fun _ => rfl | (intro h; cases h))) ?_
            refine AOps.nil ?_
            refine AGo.seq ?_
            refine AGo.region ?_
            refine AOps.s 103 rfl rfl rfl (q_fieldAddr tok rfl rfl rfl rfl rfl rfl) ?_
            refine AOps.s 104 rfl rfl rfl (q_load tok rfl rfl rfl (by first | exact .loc _ | exact .ptr _ _ _ _ _ _ _ _ rfl rfl rfl) rfl) ?_
            refine AOps.s 105 rfl rfl rfl (q_bin rfl rfl rfl rfl) ?_
            refine AOps.s 106 rfl rfl rfl (q_move (.inl rfl) rfl) ?_
            refine AOps.split 106 rfl (fun hb23 => ?_) (fun hb23 => ?_)
            · -- True
              refine AOps.k 107 rfl rfl rfl ?_
              refine AOps.k 108 rfl rfl rfl ?_
              refine AOps.k 109 rfl rfl rfl ?_
              refine AOps.s 110 rfl rfl rfl (q_pick_true true rfl rfl rfl rfl) ?_
              refine AOps.nil ?_
              refine AGo.cond_true true rfl rfl ?_
              refine AGo.seq ?_
              refine AGo.region ?_
              refine AOps.s 8 rfl rfl rfl (q_move (.inr rfl) rfl) ?_
              refine AOps.nil ?_
              refine AGo.ret ?_
              refine ⟨[_], ⟨rfl, trivial⟩, ?_, rfl⟩
              show AV.bool _ = AV.bool _
              congr 1
              exact (fits_rest (by simp_all [Tac.rest, baseOp, arrOp] <;> omega)).symm
            · -- False
              refine AOps.s 107 rfl rfl rfl (q_fieldAddr tok rfl rfl rfl rfl rfl rfl) ?_
              refine AOps.s 108 rfl rfl rfl (q_load tok rfl rfl rfl (by first | exact .loc _ | exact .ptr _ _ _ _ _ _ _ _ rfl rfl rfl) rfl) ?_
              refine AOps.s 109 rfl rfl rfl (q_bin rfl rfl rfl rfl) ?_
              refine AOps.s 110 rfl rfl rfl (q_pick_false false rfl rfl rfl rfl) ?_
              refine AOps.nil ?_
              refine AGo.split 110 rfl (fun hb24 => ?_) (fun hb24 => ?_)
              · -- True
                refine AGo.cond_true true rfl rfl ?_
                refine AGo.seq ?_
                refine AGo.region ?_
                refine AOps.s 8 rfl rfl rfl (q_move (.inr rfl) rfl) ?_
                refine AOps.nil ?_
                refine AGo.ret ?_
                refine ⟨[_], ⟨rfl, trivial⟩, ?_, rfl⟩
                show AV.bool _ = AV.bool _
                congr 1
                exact (fits_rest (by simp_all [Tac.rest, baseOp, arrOp] <;> omega)).symm
              · -- False
                refine AGo.cond_false false rfl rfl ?_
                refine AGo.skip ?_
                refine AGo.seq ?_
                refine AGo.region ?_
                refine AOps.s 163 rfl rfl rfl (q_load tok rfl rfl rfl (by first | exact .loc _ | exact .ptr _ _ _ _ _ _ _ _ rfl rfl rfl) rfl) ?_
                refine AOps.s 164 rfl rfl rfl (q_load tok rfl rfl rfl (by first | exact .loc _ | exact .ptr _ _ _ _ _ _ _ _ rfl rfl rfl) rfl) ?_
                refine AOps.s 165 rfl rfl rfl (q_eqStruct tok false rfl rfl rfl (by kernel_rfl) rfl rfl rfl rfl rfl) ?_
                refine AOps.s 8 rfl rfl rfl (q_move (.inr rfl) rfl) ?_
                refine AOps.nil ?_
                refine AGo.ret ?_
                refine ⟨[_], ⟨rfl, trivial⟩, ?_, rfl⟩
                show AV.bool _ = AV.bool _
                congr 1
                have hwr : 1 ≤ t.size → t.size ≤ 4096 → IntKind.i64.wrap (words - t.size) = words - t.size := fun h1 h2 => wrap_i64 (by omega) (by omega)
                rw [fits_same hb1 hb2 hd hall (by simp_all [Tac.rest, baseOp, arrOp] <;> omega)]
                subst hdd haa hbb
                clear hd hj hall hwr hw hw2 hb1 hb2
                first | (simp_all [Tac.same, Tac.want, baseOp, arrOp, setsOp, use1, use2]; done) | simp [Tac.same, Tac.want, baseOp, arrOp, *]
          · -- False
            refine AGo.cond_false false rfl rfl ?_
            refine AGo.seq ?_
            refine AGo.seq ?_
            refine AGo.region ?_
            refine AOps.s 112 rfl rfl rfl (q_bin rfl rfl rfl rfl) ?_
            refine AOps.s 111 rfl rfl rfl (q_move (.inr rfl) rfl) ?_
            refine AOps.nil ?_
            refine AGo.split 111 rfl (fun hb25 => ?_) (fun hb25 => ?_)
            · -- True
              refine AGo.cond_true true rfl rfl ?_
              refine AGo.skip ?_
              refine AGo.cond_true true rfl rfl ?_
              refine AGo.seq ?_
              refine AGo.region ?_
              refine AOps.s 114 rfl rfl rfl (q_fieldAddr tok rfl rfl rfl rfl rfl rfl) ?_
              refine AOps.s 115 rfl rfl rfl (q_load tok rfl rfl rfl (by first | exact .loc _ | exact .ptr _ _ _ _ _ _ _ _ rfl rfl rfl) rfl) ?_
              refine AOps.s 116 rfl rfl rfl (q_fieldAddr tok rfl rfl rfl rfl rfl rfl) ?_
              refine AOps.w rfl rfl (o_store tok rfl rfl rfl rfl rfl rfl rfl rfl rfl (by decide) rfl (by first | exact fun _ => rfl | (intro h; cases h))) ?_
              refine AOps.nil ?_
              refine AGo.seq ?_
              refine AGo.region ?_
              refine AOps.s 117 rfl rfl rfl (q_fieldAddr tok rfl rfl rfl rfl rfl rfl) ?_
              refine AOps.s 118 rfl rfl rfl (q_load tok rfl rfl rfl (by first | exact .loc _ | exact .ptr _ _ _ _ _ _ _ _ rfl rfl rfl) rfl) ?_
              refine AOps.s 119 rfl rfl rfl (q_move (.inl rfl) rfl) ?_
              refine AOps.x 120 rfl rfl rfl (o_pure rfl Try.func52 (by kernel_rfl) rfl rfl rfl (within_ok _ _)) ?_
              refine AOps.s 121 rfl rfl rfl (q_not rfl rfl) ?_
              refine AOps.nil ?_
              refine AGo.split 121 rfl (fun hb26 => ?_) (fun hb26 => ?_)
              · -- True
                refine AGo.cond_true true rfl rfl ?_
                refine AGo.seq ?_
                refine AGo.region ?_
                refine AOps.s 8 rfl rfl rfl (q_move (.inr rfl) rfl) ?_
                refine AOps.nil ?_
                refine AGo.ret ?_
                refine ⟨[_], ⟨rfl, trivial⟩, ?_, rfl⟩
                show AV.bool _ = AV.bool _
                congr 1
                exact (fits_rest (by simp_all [Tac.rest, baseOp, arrOp] <;> omega)).symm
              · -- False
                refine AGo.cond_false false rfl rfl ?_
                refine AGo.skip ?_
                refine AGo.seq ?_
                refine AGo.region ?_
                refine AOps.s 163 rfl rfl rfl (q_load tok rfl rfl rfl (by first | exact .loc _ | exact .ptr _ _ _ _ _ _ _ _ rfl rfl rfl) rfl) ?_
                refine AOps.s 164 rfl rfl rfl (q_load tok rfl rfl rfl (by first | exact .loc _ | exact .ptr _ _ _ _ _ _ _ _ rfl rfl rfl) rfl) ?_
                refine AOps.s 165 rfl rfl rfl (q_eqStruct tok false rfl rfl rfl (by kernel_rfl) rfl rfl rfl rfl rfl) ?_
                refine AOps.s 8 rfl rfl rfl (q_move (.inr rfl) rfl) ?_
                refine AOps.nil ?_
                refine AGo.ret ?_
                refine ⟨[_], ⟨rfl, trivial⟩, ?_, rfl⟩
                show AV.bool _ = AV.bool _
                congr 1
                have hwr : 1 ≤ t.size → t.size ≤ 4096 → IntKind.i64.wrap (words - t.size) = words - t.size := fun h1 h2 => wrap_i64 (by omega) (by omega)
                rw [fits_same hb1 hb2 hd hall (by simp_all [Tac.rest, baseOp, arrOp] <;> omega)]
                subst hdd haa hbb
                clear hd hj hall hwr hw hw2 hb1 hb2
                first | (simp_all [Tac.same, Tac.want, baseOp, arrOp, setsOp, use1, use2]; done) | simp [Tac.same, Tac.want, baseOp, arrOp, *]
            · -- False
              refine AGo.cond_false false rfl rfl ?_
              refine AGo.region ?_
              refine AOps.s 113 rfl rfl rfl (q_bin rfl rfl rfl rfl) ?_
              refine AOps.s 111 rfl rfl rfl (q_move (.inr rfl) rfl) ?_
              refine AOps.nil ?_
              refine AGo.split 111 rfl (fun hb27 => ?_) (fun hb27 => ?_)
              · -- True
                refine AGo.cond_true true rfl rfl ?_
                refine AGo.seq ?_
                refine AGo.region ?_
                refine AOps.s 114 rfl rfl rfl (q_fieldAddr tok rfl rfl rfl rfl rfl rfl) ?_
                refine AOps.s 115 rfl rfl rfl (q_load tok rfl rfl rfl (by first | exact .loc _ | exact .ptr _ _ _ _ _ _ _ _ rfl rfl rfl) rfl) ?_
                refine AOps.s 116 rfl rfl rfl (q_fieldAddr tok rfl rfl rfl rfl rfl rfl) ?_
                refine AOps.w rfl rfl (o_store tok rfl rfl rfl rfl rfl rfl rfl rfl rfl (by decide) rfl (by first | exact fun _ => rfl | (intro h; cases h))) ?_
                refine AOps.nil ?_
                refine AGo.seq ?_
                refine AGo.region ?_
                refine AOps.s 117 rfl rfl rfl (q_fieldAddr tok rfl rfl rfl rfl rfl rfl) ?_
                refine AOps.s 118 rfl rfl rfl (q_load tok rfl rfl rfl (by first | exact .loc _ | exact .ptr _ _ _ _ _ _ _ _ rfl rfl rfl) rfl) ?_
                refine AOps.s 119 rfl rfl rfl (q_move (.inl rfl) rfl) ?_
                refine AOps.x 120 rfl rfl rfl (o_pure rfl Try.func52 (by kernel_rfl) rfl rfl rfl (within_ok _ _)) ?_
                refine AOps.s 121 rfl rfl rfl (q_not rfl rfl) ?_
                refine AOps.nil ?_
                refine AGo.split 121 rfl (fun hb28 => ?_) (fun hb28 => ?_)
                · -- True
                  refine AGo.cond_true true rfl rfl ?_
                  refine AGo.seq ?_
                  refine AGo.region ?_
                  refine AOps.s 8 rfl rfl rfl (q_move (.inr rfl) rfl) ?_
                  refine AOps.nil ?_
                  refine AGo.ret ?_
                  refine ⟨[_], ⟨rfl, trivial⟩, ?_, rfl⟩
                  show AV.bool _ = AV.bool _
                  congr 1
                  exact (fits_rest (by simp_all [Tac.rest, baseOp, arrOp] <;> omega)).symm
                · -- False
                  refine AGo.cond_false false rfl rfl ?_
                  refine AGo.skip ?_
                  refine AGo.seq ?_
                  refine AGo.region ?_
                  refine AOps.s 163 rfl rfl rfl (q_load tok rfl rfl rfl (by first | exact .loc _ | exact .ptr _ _ _ _ _ _ _ _ rfl rfl rfl) rfl) ?_
                  refine AOps.s 164 rfl rfl rfl (q_load tok rfl rfl rfl (by first | exact .loc _ | exact .ptr _ _ _ _ _ _ _ _ rfl rfl rfl) rfl) ?_
                  refine AOps.s 165 rfl rfl rfl (q_eqStruct tok false rfl rfl rfl (by kernel_rfl) rfl rfl rfl rfl rfl) ?_
                  refine AOps.s 8 rfl rfl rfl (q_move (.inr rfl) rfl) ?_
                  refine AOps.nil ?_
                  refine AGo.ret ?_
                  refine ⟨[_], ⟨rfl, trivial⟩, ?_, rfl⟩
                  show AV.bool _ = AV.bool _
                  congr 1
                  have hwr : 1 ≤ t.size → t.size ≤ 4096 → IntKind.i64.wrap (words - t.size) = words - t.size := fun h1 h2 => wrap_i64 (by omega) (by omega)
                  rw [fits_same hb1 hb2 hd hall (by simp_all [Tac.rest, baseOp, arrOp] <;> omega)]
                  subst hdd haa hbb
                  clear hd hj hall hwr hw hw2 hb1 hb2
                  first | (simp_all [Tac.same, Tac.want, baseOp, arrOp, setsOp, use1, use2]; done) | simp [Tac.same, Tac.want, baseOp, arrOp, *]
              · -- False
                refine AGo.cond_false false rfl rfl ?_
                refine AGo.seq ?_
                refine AGo.seq ?_
                refine AGo.region ?_
                refine AOps.s 123 rfl rfl rfl (q_bin rfl rfl rfl rfl) ?_
                refine AOps.s 122 rfl rfl rfl (q_move (.inr rfl) rfl) ?_
                refine AOps.nil ?_
                refine AGo.split 122 rfl (fun hb29 => ?_) (fun hb29 => ?_)
                · -- True
                  refine AGo.cond_true true rfl rfl ?_
                  refine AGo.skip ?_
                  refine AGo.cond_true true rfl rfl ?_
                  refine AGo.seq ?_
                  refine AGo.draw mix ?_
                  refine DOps.s 125 rfl rfl rfl (q_fieldAddr tok rfl rfl rfl rfl rfl rfl) ?_
                  refine DOps.s 126 rfl rfl rfl (q_load tok rfl rfl rfl (by first | exact .loc _ | exact .ptr _ _ _ _ _ _ _ _ rfl rfl rfl) rfl) ?_
                  refine DOps.s 127 rfl rfl rfl (q_fieldAddr tok rfl rfl rfl rfl rfl rfl) ?_
                  refine DOps.s 128 rfl rfl rfl (q_load tok rfl rfl rfl (by first | exact .loc _ | exact .ptr _ _ _ _ _ _ _ _ rfl rfl rfl) rfl) ?_
                  refine DOps.s 129 rfl rfl rfl (q_fieldAddr tok rfl rfl rfl rfl rfl rfl) ?_
                  refine DOps.w rfl rfl (o_store tok rfl rfl rfl rfl rfl rfl rfl rfl rfl (by decide) rfl (by first | exact fun _ => rfl | (intro h; cases h))) ?_
                  refine DOps.s 130 rfl rfl rfl (q_fieldAddr tok rfl rfl rfl rfl rfl rfl) ?_
                  refine DOps.w rfl rfl (o_store tok rfl rfl rfl rfl rfl rfl rfl rfl rfl (by decide) rfl (by first | exact fun _ => rfl | (intro h; cases h))) ?_
                  refine DOps.nil (by kernel_rfl) ?_
                  refine AGo.seq ?_
                  refine AGo.region ?_
                  refine AOps.s 131 rfl rfl rfl (q_fieldAddr tok rfl rfl rfl rfl rfl rfl) ?_
                  refine AOps.s 132 rfl rfl rfl (q_load tok rfl rfl rfl (by first | exact .loc _ | exact .ptr _ _ _ _ _ _ _ _ rfl rfl rfl) rfl) ?_
                  refine AOps.s 133 rfl rfl rfl (q_bin rfl rfl rfl rfl) ?_
                  refine AOps.s 134 rfl rfl rfl (q_move (.inl rfl) rfl) ?_
                  refine AOps.split 134 rfl (fun hb30 => ?_) (fun hb30 => ?_)
                  · -- True
                    refine AOps.k 135 rfl rfl rfl ?_
                    refine AOps.k 136 rfl rfl rfl ?_
                    refine AOps.k 137 rfl rfl rfl ?_
                    refine AOps.s 138 rfl rfl rfl (q_pick_true true rfl rfl rfl rfl) ?_
                    refine AOps.s 139 rfl rfl rfl (q_move (.inl rfl) rfl) ?_
                    refine AOps.k 140 rfl rfl rfl ?_
                    refine AOps.k 141 rfl rfl rfl ?_
                    refine AOps.k 142 rfl rfl rfl ?_
                    refine AOps.s 143 rfl rfl rfl (q_pick_true true rfl rfl rfl rfl) ?_
                    refine AOps.s 144 rfl rfl rfl (q_move (.inl rfl) rfl) ?_
                    refine AOps.k 145 rfl rfl rfl ?_
                    refine AOps.k 146 rfl rfl rfl ?_
                    refine AOps.k 147 rfl rfl rfl ?_
                    refine AOps.k 148 rfl rfl rfl ?_
                    refine AOps.k 149 rfl rfl rfl ?_
                    refine AOps.k 150 rfl rfl rfl ?_
                    refine AOps.k 151 rfl rfl rfl ?_
                    refine AOps.s 152 rfl rfl rfl (q_pick_true true rfl rfl rfl rfl) ?_
                    refine AOps.nil ?_
                    refine AGo.cond_true true rfl rfl ?_
                    refine AGo.seq ?_
                    refine AGo.region ?_
                    refine AOps.s 8 rfl rfl rfl (q_move (.inr rfl) rfl) ?_
                    refine AOps.nil ?_
                    refine AGo.ret ?_
                    refine ⟨[_], ⟨rfl, trivial⟩, ?_, rfl⟩
                    show AV.bool _ = AV.bool _
                    congr 1
                    have hwr : 1 ≤ t.size → t.size ≤ 4096 → IntKind.i64.wrap (words - t.size) = words - t.size := fun h1 h2 => wrap_i64 (by omega) (by omega)
                    exact (fits_rest (by simp_all [Tac.rest, baseOp, arrOp] <;> omega)).symm
                  · -- False
                    refine AOps.s 135 rfl rfl rfl (q_fieldAddr tok rfl rfl rfl rfl rfl rfl) ?_
                    refine AOps.s 136 rfl rfl rfl (q_load tok rfl rfl rfl (by first | exact .loc _ | exact .ptr _ _ _ _ _ _ _ _ rfl rfl rfl) rfl) ?_
                    refine AOps.s 137 rfl rfl rfl (q_bin rfl rfl rfl rfl) ?_
                    refine AOps.s 138 rfl rfl rfl (q_pick_false false rfl rfl rfl rfl) ?_
                    refine AOps.s 139 rfl rfl rfl (q_move (.inl rfl) rfl) ?_
                    refine AOps.split 139 rfl (fun hb31 => ?_) (fun hb31 => ?_)
                    · -- True
                      refine AOps.k 140 rfl rfl rfl ?_
                      refine AOps.k 141 rfl rfl rfl ?_
                      refine AOps.k 142 rfl rfl rfl ?_
                      refine AOps.s 143 rfl rfl rfl (q_pick_true true rfl rfl rfl rfl) ?_
                      refine AOps.s 144 rfl rfl rfl (q_move (.inl rfl) rfl) ?_
                      refine AOps.k 145 rfl rfl rfl ?_
                      refine AOps.k 146 rfl rfl rfl ?_
                      refine AOps.k 147 rfl rfl rfl ?_
                      refine AOps.k 148 rfl rfl rfl ?_
                      refine AOps.k 149 rfl rfl rfl ?_
                      refine AOps.k 150 rfl rfl rfl ?_
                      refine AOps.k 151 rfl rfl rfl ?_
                      refine AOps.s 152 rfl rfl rfl (q_pick_true true rfl rfl rfl rfl) ?_
                      refine AOps.nil ?_
                      refine AGo.cond_true true rfl rfl ?_
                      refine AGo.seq ?_
                      refine AGo.region ?_
                      refine AOps.s 8 rfl rfl rfl (q_move (.inr rfl) rfl) ?_
                      refine AOps.nil ?_
                      refine AGo.ret ?_
                      refine ⟨[_], ⟨rfl, trivial⟩, ?_, rfl⟩
                      show AV.bool _ = AV.bool _
                      congr 1
                      have hwr : 1 ≤ t.size → t.size ≤ 4096 → IntKind.i64.wrap (words - t.size) = words - t.size := fun h1 h2 => wrap_i64 (by omega) (by omega)
                      exact (fits_rest (by simp_all [Tac.rest, baseOp, arrOp] <;> omega)).symm
                    · -- False
                      refine AOps.s 140 rfl rfl rfl (q_fieldAddr tok rfl rfl rfl rfl rfl rfl) ?_
                      refine AOps.s 141 rfl rfl rfl (q_load tok rfl rfl rfl (by first | exact .loc _ | exact .ptr _ _ _ _ _ _ _ _ rfl rfl rfl) rfl) ?_
                      refine AOps.s 142 rfl rfl rfl (q_bin rfl rfl rfl rfl) ?_
                      refine AOps.s 143 rfl rfl rfl (q_pick_false false rfl rfl rfl rfl) ?_
                      refine AOps.s 144 rfl rfl rfl (q_move (.inl rfl) rfl) ?_
                      refine AOps.split 144 rfl (fun hb32 => ?_) (fun hb32 => ?_)
                      · -- True
                        refine AOps.k 145 rfl rfl rfl ?_
                        refine AOps.k 146 rfl rfl rfl ?_
                        refine AOps.k 147 rfl rfl rfl ?_
                        refine AOps.k 148 rfl rfl rfl ?_
                        refine AOps.k 149 rfl rfl rfl ?_
                        refine AOps.k 150 rfl rfl rfl ?_
                        refine AOps.k 151 rfl rfl rfl ?_
                        refine AOps.s 152 rfl rfl rfl (q_pick_true true rfl rfl rfl rfl) ?_
                        refine AOps.nil ?_
                        refine AGo.cond_true true rfl rfl ?_
                        refine AGo.seq ?_
                        refine AGo.region ?_
                        refine AOps.s 8 rfl rfl rfl (q_move (.inr rfl) rfl) ?_
                        refine AOps.nil ?_
                        refine AGo.ret ?_
                        refine ⟨[_], ⟨rfl, trivial⟩, ?_, rfl⟩
                        show AV.bool _ = AV.bool _
                        congr 1
                        have hwr : 1 ≤ t.size → t.size ≤ 4096 → IntKind.i64.wrap (words - t.size) = words - t.size := fun h1 h2 => wrap_i64 (by omega) (by omega)
                        exact (fits_rest (by simp_all [Tac.rest, baseOp, arrOp] <;> omega)).symm
                      · -- False
                        refine AOps.s 145 rfl rfl rfl (q_fieldAddr tok rfl rfl rfl rfl rfl rfl) ?_
                        refine AOps.s 146 rfl rfl rfl (q_load tok rfl rfl rfl (by first | exact .loc _ | exact .ptr _ _ _ _ _ _ _ _ rfl rfl rfl) rfl) ?_
                        refine AOps.s 147 rfl rfl rfl (q_move (.inl rfl) rfl) ?_
                        refine AOps.s 148 rfl rfl rfl (q_fieldAddr tok rfl rfl rfl rfl rfl rfl) ?_
                        refine AOps.s 149 rfl rfl rfl (q_load tok rfl rfl rfl (by first | exact .loc _ | exact .ptr _ _ _ _ _ _ _ _ rfl rfl rfl) rfl) ?_
                        refine AOps.s 150 rfl rfl rfl (q_bin rfl rfl rfl rfl) ?_
                        refine AOps.s 151 rfl rfl rfl (q_bin rfl rfl rfl rfl) ?_
                        refine AOps.s 152 rfl rfl rfl (q_pick_false false rfl rfl rfl rfl) ?_
                        refine AOps.nil ?_
                        refine AGo.split 152 rfl (fun hb33 => ?_) (fun hb33 => ?_)
                        · -- True
                          refine AGo.cond_true true rfl rfl ?_
                          refine AGo.seq ?_
                          refine AGo.region ?_
                          refine AOps.s 8 rfl rfl rfl (q_move (.inr rfl) rfl) ?_
                          refine AOps.nil ?_
                          refine AGo.ret ?_
                          refine ⟨[_], ⟨rfl, trivial⟩, ?_, rfl⟩
                          show AV.bool _ = AV.bool _
                          congr 1
                          have hwr : 1 ≤ t.size → t.size ≤ 4096 → IntKind.i64.wrap (words - t.size) = words - t.size := fun h1 h2 => wrap_i64 (by omega) (by omega)
                          exact (fits_rest (by simp_all [Tac.rest, baseOp, arrOp] <;> omega)).symm
                        · -- False
                          refine AGo.cond_false false rfl rfl ?_
                          refine AGo.skip ?_
                          refine AGo.seq ?_
                          refine AGo.region ?_
                          refine AOps.s 163 rfl rfl rfl (q_load tok rfl rfl rfl (by first | exact .loc _ | exact .ptr _ _ _ _ _ _ _ _ rfl rfl rfl) rfl) ?_
                          refine AOps.s 164 rfl rfl rfl (q_load tok rfl rfl rfl (by first | exact .loc _ | exact .ptr _ _ _ _ _ _ _ _ rfl rfl rfl) rfl) ?_
                          refine AOps.s 165 rfl rfl rfl (q_eqStruct tok false rfl rfl rfl (by kernel_rfl) rfl rfl rfl rfl rfl) ?_
                          refine AOps.s 8 rfl rfl rfl (q_move (.inr rfl) rfl) ?_
                          refine AOps.nil ?_
                          refine AGo.ret ?_
                          refine ⟨[_], ⟨rfl, trivial⟩, ?_, rfl⟩
                          show AV.bool _ = AV.bool _
                          congr 1
                          have hwr : 1 ≤ t.size → t.size ≤ 4096 → IntKind.i64.wrap (words - t.size) = words - t.size := fun h1 h2 => wrap_i64 (by omega) (by omega)
                          rw [fits_same hb1 hb2 hd hall (by simp_all [Tac.rest, baseOp, arrOp] <;> omega)]
                          subst hdd haa hbb
                          clear hd hj hall hwr hw hw2 hb1 hb2
                          first | (simp_all [Tac.same, Tac.want, baseOp, arrOp, setsOp, use1, use2]; done) | simp [Tac.same, Tac.want, baseOp, arrOp, *]
                · -- False
                  refine AGo.cond_false false rfl rfl ?_
                  refine AGo.region ?_
                  refine AOps.s 124 rfl rfl rfl (q_bin rfl rfl rfl rfl) ?_
                  refine AOps.s 122 rfl rfl rfl (q_move (.inr rfl) rfl) ?_
                  refine AOps.nil ?_
                  refine AGo.split 122 rfl (fun hb34 => ?_) (fun hb34 => ?_)
                  · -- True
                    refine AGo.cond_true true rfl rfl ?_
                    refine AGo.seq ?_
                    refine AGo.draw mix ?_
                    refine DOps.s 125 rfl rfl rfl (q_fieldAddr tok rfl rfl rfl rfl rfl rfl) ?_
                    refine DOps.s 126 rfl rfl rfl (q_load tok rfl rfl rfl (by first | exact .loc _ | exact .ptr _ _ _ _ _ _ _ _ rfl rfl rfl) rfl) ?_
                    refine DOps.s 127 rfl rfl rfl (q_fieldAddr tok rfl rfl rfl rfl rfl rfl) ?_
                    refine DOps.s 128 rfl rfl rfl (q_load tok rfl rfl rfl (by first | exact .loc _ | exact .ptr _ _ _ _ _ _ _ _ rfl rfl rfl) rfl) ?_
                    refine DOps.s 129 rfl rfl rfl (q_fieldAddr tok rfl rfl rfl rfl rfl rfl) ?_
                    refine DOps.w rfl rfl (o_store tok rfl rfl rfl rfl rfl rfl rfl rfl rfl (by decide) rfl (by first | exact fun _ => rfl | (intro h; cases h))) ?_
                    refine DOps.s 130 rfl rfl rfl (q_fieldAddr tok rfl rfl rfl rfl rfl rfl) ?_
                    refine DOps.w rfl rfl (o_store tok rfl rfl rfl rfl rfl rfl rfl rfl rfl (by decide) rfl (by first | exact fun _ => rfl | (intro h; cases h))) ?_
                    refine DOps.nil (by kernel_rfl) ?_
                    refine AGo.seq ?_
                    refine AGo.region ?_
                    refine AOps.s 131 rfl rfl rfl (q_fieldAddr tok rfl rfl rfl rfl rfl rfl) ?_
                    refine AOps.s 132 rfl rfl rfl (q_load tok rfl rfl rfl (by first | exact .loc _ | exact .ptr _ _ _ _ _ _ _ _ rfl rfl rfl) rfl) ?_
                    refine AOps.s 133 rfl rfl rfl (q_bin rfl rfl rfl rfl) ?_
                    refine AOps.s 134 rfl rfl rfl (q_move (.inl rfl) rfl) ?_
                    refine AOps.split 134 rfl (fun hb35 => ?_) (fun hb35 => ?_)
                    · -- True
                      refine AOps.k 135 rfl rfl rfl ?_
                      refine AOps.k 136 rfl rfl rfl ?_
                      refine AOps.k 137 rfl rfl rfl ?_
                      refine AOps.s 138 rfl rfl rfl (q_pick_true true rfl rfl rfl rfl) ?_
                      refine AOps.s 139 rfl rfl rfl (q_move (.inl rfl) rfl) ?_
                      refine AOps.k 140 rfl rfl rfl ?_
                      refine AOps.k 141 rfl rfl rfl ?_
                      refine AOps.k 142 rfl rfl rfl ?_
                      refine AOps.s 143 rfl rfl rfl (q_pick_true true rfl rfl rfl rfl) ?_
                      refine AOps.s 144 rfl rfl rfl (q_move (.inl rfl) rfl) ?_
                      refine AOps.k 145 rfl rfl rfl ?_
                      refine AOps.k 146 rfl rfl rfl ?_
                      refine AOps.k 147 rfl rfl rfl ?_
                      refine AOps.k 148 rfl rfl rfl ?_
                      refine AOps.k 149 rfl rfl rfl ?_
                      refine AOps.k 150 rfl rfl rfl ?_
                      refine AOps.k 151 rfl rfl rfl ?_
                      refine AOps.s 152 rfl rfl rfl (q_pick_true true rfl rfl rfl rfl) ?_
                      refine AOps.nil ?_
                      refine AGo.cond_true true rfl rfl ?_
                      refine AGo.seq ?_
                      refine AGo.region ?_
                      refine AOps.s 8 rfl rfl rfl (q_move (.inr rfl) rfl) ?_
                      refine AOps.nil ?_
                      refine AGo.ret ?_
                      refine ⟨[_], ⟨rfl, trivial⟩, ?_, rfl⟩
                      show AV.bool _ = AV.bool _
                      congr 1
                      have hwr : 1 ≤ t.size → t.size ≤ 4096 → IntKind.i64.wrap (words - t.size) = words - t.size := fun h1 h2 => wrap_i64 (by omega) (by omega)
                      exact (fits_rest (by simp_all [Tac.rest, baseOp, arrOp] <;> omega)).symm
                    · -- False
                      refine AOps.s 135 rfl rfl rfl (q_fieldAddr tok rfl rfl rfl rfl rfl rfl) ?_
                      refine AOps.s 136 rfl rfl rfl (q_load tok rfl rfl rfl (by first | exact .loc _ | exact .ptr _ _ _ _ _ _ _ _ rfl rfl rfl) rfl) ?_
                      refine AOps.s 137 rfl rfl rfl (q_bin rfl rfl rfl rfl) ?_
                      refine AOps.s 138 rfl rfl rfl (q_pick_false false rfl rfl rfl rfl) ?_
                      refine AOps.s 139 rfl rfl rfl (q_move (.inl rfl) rfl) ?_
                      refine AOps.split 139 rfl (fun hb36 => ?_) (fun hb36 => ?_)
                      · -- True
                        refine AOps.k 140 rfl rfl rfl ?_
                        refine AOps.k 141 rfl rfl rfl ?_
                        refine AOps.k 142 rfl rfl rfl ?_
                        refine AOps.s 143 rfl rfl rfl (q_pick_true true rfl rfl rfl rfl) ?_
                        refine AOps.s 144 rfl rfl rfl (q_move (.inl rfl) rfl) ?_
                        refine AOps.k 145 rfl rfl rfl ?_
                        refine AOps.k 146 rfl rfl rfl ?_
                        refine AOps.k 147 rfl rfl rfl ?_
                        refine AOps.k 148 rfl rfl rfl ?_
                        refine AOps.k 149 rfl rfl rfl ?_
                        refine AOps.k 150 rfl rfl rfl ?_
                        refine AOps.k 151 rfl rfl rfl ?_
                        refine AOps.s 152 rfl rfl rfl (q_pick_true true rfl rfl rfl rfl) ?_
                        refine AOps.nil ?_
                        refine AGo.cond_true true rfl rfl ?_
                        refine AGo.seq ?_
                        refine AGo.region ?_
                        refine AOps.s 8 rfl rfl rfl (q_move (.inr rfl) rfl) ?_
                        refine AOps.nil ?_
                        refine AGo.ret ?_
                        refine ⟨[_], ⟨rfl, trivial⟩, ?_, rfl⟩
                        show AV.bool _ = AV.bool _
                        congr 1
                        have hwr : 1 ≤ t.size → t.size ≤ 4096 → IntKind.i64.wrap (words - t.size) = words - t.size := fun h1 h2 => wrap_i64 (by omega) (by omega)
                        exact (fits_rest (by simp_all [Tac.rest, baseOp, arrOp] <;> omega)).symm
                      · -- False
                        refine AOps.s 140 rfl rfl rfl (q_fieldAddr tok rfl rfl rfl rfl rfl rfl) ?_
                        refine AOps.s 141 rfl rfl rfl (q_load tok rfl rfl rfl (by first | exact .loc _ | exact .ptr _ _ _ _ _ _ _ _ rfl rfl rfl) rfl) ?_
                        refine AOps.s 142 rfl rfl rfl (q_bin rfl rfl rfl rfl) ?_
                        refine AOps.s 143 rfl rfl rfl (q_pick_false false rfl rfl rfl rfl) ?_
                        refine AOps.s 144 rfl rfl rfl (q_move (.inl rfl) rfl) ?_
                        refine AOps.split 144 rfl (fun hb37 => ?_) (fun hb37 => ?_)
                        · -- True
                          refine AOps.k 145 rfl rfl rfl ?_
                          refine AOps.k 146 rfl rfl rfl ?_
                          refine AOps.k 147 rfl rfl rfl ?_
                          refine AOps.k 148 rfl rfl rfl ?_
                          refine AOps.k 149 rfl rfl rfl ?_
                          refine AOps.k 150 rfl rfl rfl ?_
                          refine AOps.k 151 rfl rfl rfl ?_
                          refine AOps.s 152 rfl rfl rfl (q_pick_true true rfl rfl rfl rfl) ?_
                          refine AOps.nil ?_
                          refine AGo.cond_true true rfl rfl ?_
                          refine AGo.seq ?_
                          refine AGo.region ?_
                          refine AOps.s 8 rfl rfl rfl (q_move (.inr rfl) rfl) ?_
                          refine AOps.nil ?_
                          refine AGo.ret ?_
                          refine ⟨[_], ⟨rfl, trivial⟩, ?_, rfl⟩
                          show AV.bool _ = AV.bool _
                          congr 1
                          have hwr : 1 ≤ t.size → t.size ≤ 4096 → IntKind.i64.wrap (words - t.size) = words - t.size := fun h1 h2 => wrap_i64 (by omega) (by omega)
                          exact (fits_rest (by simp_all [Tac.rest, baseOp, arrOp] <;> omega)).symm
                        · -- False
                          refine AOps.s 145 rfl rfl rfl (q_fieldAddr tok rfl rfl rfl rfl rfl rfl) ?_
                          refine AOps.s 146 rfl rfl rfl (q_load tok rfl rfl rfl (by first | exact .loc _ | exact .ptr _ _ _ _ _ _ _ _ rfl rfl rfl) rfl) ?_
                          refine AOps.s 147 rfl rfl rfl (q_move (.inl rfl) rfl) ?_
                          refine AOps.s 148 rfl rfl rfl (q_fieldAddr tok rfl rfl rfl rfl rfl rfl) ?_
                          refine AOps.s 149 rfl rfl rfl (q_load tok rfl rfl rfl (by first | exact .loc _ | exact .ptr _ _ _ _ _ _ _ _ rfl rfl rfl) rfl) ?_
                          refine AOps.s 150 rfl rfl rfl (q_bin rfl rfl rfl rfl) ?_
                          refine AOps.s 151 rfl rfl rfl (q_bin rfl rfl rfl rfl) ?_
                          refine AOps.s 152 rfl rfl rfl (q_pick_false false rfl rfl rfl rfl) ?_
                          refine AOps.nil ?_
                          refine AGo.split 152 rfl (fun hb38 => ?_) (fun hb38 => ?_)
                          · -- True
                            refine AGo.cond_true true rfl rfl ?_
                            refine AGo.seq ?_
                            refine AGo.region ?_
                            refine AOps.s 8 rfl rfl rfl (q_move (.inr rfl) rfl) ?_
                            refine AOps.nil ?_
                            refine AGo.ret ?_
                            refine ⟨[_], ⟨rfl, trivial⟩, ?_, rfl⟩
                            show AV.bool _ = AV.bool _
                            congr 1
                            have hwr : 1 ≤ t.size → t.size ≤ 4096 → IntKind.i64.wrap (words - t.size) = words - t.size := fun h1 h2 => wrap_i64 (by omega) (by omega)
                            exact (fits_rest (by simp_all [Tac.rest, baseOp, arrOp] <;> omega)).symm
                          · -- False
                            refine AGo.cond_false false rfl rfl ?_
                            refine AGo.skip ?_
                            refine AGo.seq ?_
                            refine AGo.region ?_
                            refine AOps.s 163 rfl rfl rfl (q_load tok rfl rfl rfl (by first | exact .loc _ | exact .ptr _ _ _ _ _ _ _ _ rfl rfl rfl) rfl) ?_
                            refine AOps.s 164 rfl rfl rfl (q_load tok rfl rfl rfl (by first | exact .loc _ | exact .ptr _ _ _ _ _ _ _ _ rfl rfl rfl) rfl) ?_
                            refine AOps.s 165 rfl rfl rfl (q_eqStruct tok false rfl rfl rfl (by kernel_rfl) rfl rfl rfl rfl rfl) ?_
                            refine AOps.s 8 rfl rfl rfl (q_move (.inr rfl) rfl) ?_
                            refine AOps.nil ?_
                            refine AGo.ret ?_
                            refine ⟨[_], ⟨rfl, trivial⟩, ?_, rfl⟩
                            show AV.bool _ = AV.bool _
                            congr 1
                            have hwr : 1 ≤ t.size → t.size ≤ 4096 → IntKind.i64.wrap (words - t.size) = words - t.size := fun h1 h2 => wrap_i64 (by omega) (by omega)
                            rw [fits_same hb1 hb2 hd hall (by simp_all [Tac.rest, baseOp, arrOp] <;> omega)]
                            subst hdd haa hbb
                            clear hd hj hall hwr hw hw2 hb1 hb2
                            first | (simp_all [Tac.same, Tac.want, baseOp, arrOp, setsOp, use1, use2]; done) | simp [Tac.same, Tac.want, baseOp, arrOp, *]
                  · -- False
                    refine AGo.cond_false false rfl rfl ?_
                    refine AGo.seq ?_
                    refine AGo.region ?_
                    refine AOps.s 154 rfl rfl rfl (q_bin rfl rfl rfl rfl) ?_
                    refine AOps.s 153 rfl rfl rfl (q_move (.inr rfl) rfl) ?_
                    refine AOps.nil ?_
                    refine AGo.split 153 rfl (fun hb39 => ?_) (fun hb39 => ?_)
                    · -- True
                      refine AGo.cond_true true rfl rfl ?_
                      refine AGo.seq ?_
                      refine AGo.region ?_
                      refine AOps.s 155 rfl rfl rfl (q_fieldAddr tok rfl rfl rfl rfl rfl rfl) ?_
                      refine AOps.s 156 rfl rfl rfl (q_load tok rfl rfl rfl (by first | exact .loc _ | exact .ptr _ _ _ _ _ _ _ _ rfl rfl rfl) rfl) ?_
                      refine AOps.s 157 rfl rfl rfl (q_fieldAddr tok rfl rfl rfl rfl rfl rfl) ?_
                      refine AOps.w rfl rfl (o_store tok rfl rfl rfl rfl rfl rfl rfl rfl rfl (by decide) rfl (by first | exact fun _ => rfl | (intro h; cases h))) ?_
                      refine AOps.nil ?_
                      refine AGo.seq ?_
                      refine AGo.region ?_
                      refine AOps.s 158 rfl rfl rfl (q_fieldAddr tok rfl rfl rfl rfl rfl rfl) ?_
                      refine AOps.s 159 rfl rfl rfl (q_load tok rfl rfl rfl (by first | exact .loc _ | exact .ptr _ _ _ _ _ _ _ _ rfl rfl rfl) rfl) ?_
                      refine AOps.s 160 rfl rfl rfl (q_move (.inl rfl) rfl) ?_
                      refine AOps.x 161 rfl rfl rfl (o_pure rfl Try.func52 (by kernel_rfl) rfl rfl rfl (within_ok _ _)) ?_
                      refine AOps.s 162 rfl rfl rfl (q_not rfl rfl) ?_
                      refine AOps.nil ?_
                      refine AGo.split 162 rfl (fun hb40 => ?_) (fun hb40 => ?_)
                      · -- True
                        refine AGo.cond_true true rfl rfl ?_
                        refine AGo.seq ?_
                        refine AGo.region ?_
                        refine AOps.s 8 rfl rfl rfl (q_move (.inr rfl) rfl) ?_
                        refine AOps.nil ?_
                        refine AGo.ret ?_
                        refine ⟨[_], ⟨rfl, trivial⟩, ?_, rfl⟩
                        show AV.bool _ = AV.bool _
                        congr 1
                        exact (fits_rest (by simp_all [Tac.rest, baseOp, arrOp] <;> omega)).symm
                      · -- False
                        refine AGo.cond_false false rfl rfl ?_
                        refine AGo.skip ?_
                        refine AGo.seq ?_
                        refine AGo.region ?_
                        refine AOps.s 163 rfl rfl rfl (q_load tok rfl rfl rfl (by first | exact .loc _ | exact .ptr _ _ _ _ _ _ _ _ rfl rfl rfl) rfl) ?_
                        refine AOps.s 164 rfl rfl rfl (q_load tok rfl rfl rfl (by first | exact .loc _ | exact .ptr _ _ _ _ _ _ _ _ rfl rfl rfl) rfl) ?_
                        refine AOps.s 165 rfl rfl rfl (q_eqStruct tok false rfl rfl rfl (by kernel_rfl) rfl rfl rfl rfl rfl) ?_
                        refine AOps.s 8 rfl rfl rfl (q_move (.inr rfl) rfl) ?_
                        refine AOps.nil ?_
                        refine AGo.ret ?_
                        refine ⟨[_], ⟨rfl, trivial⟩, ?_, rfl⟩
                        show AV.bool _ = AV.bool _
                        congr 1
                        have hwr : 1 ≤ t.size → t.size ≤ 4096 → IntKind.i64.wrap (words - t.size) = words - t.size := fun h1 h2 => wrap_i64 (by omega) (by omega)
                        rw [fits_same hb1 hb2 hd hall (by simp_all [Tac.rest, baseOp, arrOp] <;> omega)]
                        subst hdd haa hbb
                        clear hd hj hall hwr hw hw2 hb1 hb2
                        first | (simp_all [Tac.same, Tac.want, baseOp, arrOp, setsOp, use1, use2]; done) | simp [Tac.same, Tac.want, baseOp, arrOp, *]
                    · -- False
                      refine AGo.cond_false false rfl rfl ?_
                      refine AGo.skip ?_
                      refine AGo.seq ?_
                      refine AGo.region ?_
                      refine AOps.s 163 rfl rfl rfl (q_load tok rfl rfl rfl (by first | exact .loc _ | exact .ptr _ _ _ _ _ _ _ _ rfl rfl rfl) rfl) ?_
                      refine AOps.s 164 rfl rfl rfl (q_load tok rfl rfl rfl (by first | exact .loc _ | exact .ptr _ _ _ _ _ _ _ _ rfl rfl rfl) rfl) ?_
                      refine AOps.s 165 rfl rfl rfl (q_eqStruct tok false rfl rfl rfl (by kernel_rfl) rfl rfl rfl rfl rfl) ?_
                      refine AOps.s 8 rfl rfl rfl (q_move (.inr rfl) rfl) ?_
                      refine AOps.nil ?_
                      refine AGo.ret ?_
                      refine ⟨[_], ⟨rfl, trivial⟩, ?_, rfl⟩
                      show AV.bool _ = AV.bool _
                      congr 1
                      have hwr : 1 ≤ t.size → t.size ≤ 4096 → IntKind.i64.wrap (words - t.size) = words - t.size := fun h1 h2 => wrap_i64 (by omega) (by omega)
                      rw [fits_same hb1 hb2 hd hall (by simp_all [Tac.rest, baseOp, arrOp] <;> omega)]
                      subst hdd haa hbb
                      clear hd hj hall hwr hw hw2 hb1 hb2
                      first | (simp_all [Tac.same, Tac.want, baseOp, arrOp, setsOp, use1, use2]; done) | simp [Tac.same, Tac.want, baseOp, arrOp, *]

set_option maxRecDepth 100000 in
theorem one_ok (f : BFunc) (number words : Int) (hw : 0 ≤ words) (hw2 : words ≤ 1048576) : APure Try.prog 38 [.agg f.cells, .int .i64 number, .int .i64 words] (fun r => r = .bool (f.one number words)) := by
  refine APure.of_body (n := 68) tok Try.func38 rfl rfl ?_
  refine AGo.seq ?_
  refine AGo.slot 0 rfl (fun H ι v => rel_bfunc) (fun hfit => ?_)
  refine AGo.region ?_
  refine AOps.x 3 rfl rfl rfl (o_box (sz := 2) 0 rfl rfl rfl rfl (Nat.zero_lt_succ _) rfl) ?_
  refine AOps.s 6 rfl rfl rfl (q_move (.inr rfl) rfl) ?_
  refine AOps.nil ?_
  refine AGo.seq ?_
  refine AGo.seq ?_
  refine AGo.region ?_
  refine AOps.s 9 rfl rfl rfl (q_fieldAddr tok rfl rfl rfl rfl rfl rfl) ?_
  refine AOps.s 10 rfl rfl rfl (q_load tok rfl rfl rfl (by first | exact .loc _ | exact .ptr _ _ _ _ _ _ _ _ rfl rfl rfl) rfl) ?_
  refine AOps.s 11 rfl rfl rfl (q_bin rfl rfl rfl rfl) ?_
  refine AOps.s 12 rfl rfl rfl (q_move (.inl rfl) rfl) ?_
  refine AOps.split 12 rfl (fun hb1 => ?_) (fun hb1 => ?_)
  · -- True
    refine AOps.k 13 rfl rfl rfl ?_
    refine AOps.k 14 rfl rfl rfl ?_
    refine AOps.k 15 rfl rfl rfl ?_
    refine AOps.s 16 rfl rfl rfl (q_pick_true true rfl rfl rfl rfl) ?_
    refine AOps.s 17 rfl rfl rfl (q_move (.inl rfl) rfl) ?_
    refine AOps.k 18 rfl rfl rfl ?_
    refine AOps.k 19 rfl rfl rfl ?_
    refine AOps.k 20 rfl rfl rfl ?_
    refine AOps.k 21 rfl rfl rfl ?_
    refine AOps.s 22 rfl rfl rfl (q_pick_true true rfl rfl rfl rfl) ?_
    refine AOps.nil ?_
    refine AGo.cond_true true rfl rfl ?_
    refine AGo.seq ?_
    refine AGo.region ?_
    refine AOps.s 6 rfl rfl rfl (q_move (.inr rfl) rfl) ?_
    refine AOps.nil ?_
    refine AGo.ret ?_
    refine ⟨[_], ⟨rfl, trivial⟩, ?_, rfl⟩
    show AV.bool _ = AV.bool _
    congr 1
    exact (one_bad (by simp_all <;> omega)).symm
  · -- False
    refine AOps.s 13 rfl rfl rfl (q_fieldAddr tok rfl rfl rfl rfl rfl rfl) ?_
    refine AOps.s 14 rfl rfl rfl (q_load tok rfl rfl rfl (by first | exact .loc _ | exact .ptr _ _ _ _ _ _ _ _ rfl rfl rfl) rfl) ?_
    refine AOps.s 15 rfl rfl rfl (q_bin rfl rfl rfl rfl) ?_
    refine AOps.s 16 rfl rfl rfl (q_pick_false false rfl rfl rfl rfl) ?_
    refine AOps.s 17 rfl rfl rfl (q_move (.inl rfl) rfl) ?_
    refine AOps.split 17 rfl (fun hb2 => ?_) (fun hb2 => ?_)
    · -- True
      refine AOps.k 18 rfl rfl rfl ?_
      refine AOps.k 19 rfl rfl rfl ?_
      refine AOps.k 20 rfl rfl rfl ?_
      refine AOps.k 21 rfl rfl rfl ?_
      refine AOps.s 22 rfl rfl rfl (q_pick_true true rfl rfl rfl rfl) ?_
      refine AOps.nil ?_
      refine AGo.cond_true true rfl rfl ?_
      refine AGo.seq ?_
      refine AGo.region ?_
      refine AOps.s 6 rfl rfl rfl (q_move (.inr rfl) rfl) ?_
      refine AOps.nil ?_
      refine AGo.ret ?_
      refine ⟨[_], ⟨rfl, trivial⟩, ?_, rfl⟩
      show AV.bool _ = AV.bool _
      congr 1
      exact (one_bad (by simp_all <;> omega)).symm
    · -- False
      refine AOps.s 18 rfl rfl rfl (q_fieldAddr tok rfl rfl rfl rfl rfl rfl) ?_
      refine AOps.s 19 rfl rfl rfl (q_load tok rfl rfl rfl (by first | exact .loc _ | exact .ptr _ _ _ _ _ _ _ _ rfl rfl rfl) rfl) ?_
      refine AOps.s 20 rfl rfl rfl (q_len tok rfl rfl rfl rfl rfl) ?_
      refine AOps.s 21 rfl rfl rfl (q_bin rfl rfl rfl rfl) ?_
      refine AOps.s 22 rfl rfl rfl (q_pick_false false rfl rfl rfl rfl) ?_
      refine AOps.nil ?_
      refine AGo.split 22 rfl (fun hb3 => ?_) (fun hb3 => ?_)
      · -- True
        refine AGo.cond_true true rfl rfl ?_
        refine AGo.seq ?_
        refine AGo.region ?_
        refine AOps.s 6 rfl rfl rfl (q_move (.inr rfl) rfl) ?_
        refine AOps.nil ?_
        refine AGo.ret ?_
        refine ⟨[_], ⟨rfl, trivial⟩, ?_, rfl⟩
        show AV.bool _ = AV.bool _
        congr 1
        exact (one_bad (by simp_all <;> omega)).symm
      · -- False
        refine AGo.cond_false false rfl rfl ?_
        have h0 : 0 ≤ f.regs ∧ f.regs ≤ 4000 ∧ f.blocks.length ≠ 0 := by simp_all <;> omega
        refine AGo.skip ?_
        refine AGo.seq ?_
        refine AGo.seq ?_
        refine AGo.region ?_
        refine AOps.s 7 rfl rfl rfl (q_move (.inr rfl) rfl) ?_
        refine AOps.nil ?_
        refine AGo.block ?_
        refine AGo.loopD (γ := Nat) 1 (fun k => ⟨68, (eput (eput (eput (eput eNew 1 (.int .i64 number)) 2 (.int .i64 words)) 3 (.ptr 0 1 0 0)) 7 (.int .i64 (k : Int))), (hput (hFrom 1) 0 (.row false 2 [f.cells]))⟩) (fun k => (f.blocks.take k).all (fun x => x.ok f.blocks.length f.regs number words) = true) (fun k => f.blocks.length - k) 0 (Sub.mk' (by repeat (first | exact ESub.new _ | refine ESub.put ?_ (by rfl))) (by repeat (first | exact HSub.none _ | exact HSub.from_new _ | exact HSub.from_from (by decide) | refine HSub.put ?_ (by rfl) | refine HSub.from_put ?_ (by decide) | refine HSub.from_rm ?_ (by decide)))) rfl (fun _ => hput_free (fun b hb => hFrom_free hb) rfl) ?_
        intro k hk
        refine AGo.seq ?_
        refine AGo.seq ?_
        refine AGo.region ?_
        refine AOps.s 23 rfl rfl rfl (q_move (.inl rfl) rfl) ?_
        refine AOps.s 24 rfl rfl rfl (q_fieldAddr tok rfl rfl rfl rfl rfl rfl) ?_
        refine AOps.s 25 rfl rfl rfl (q_load tok rfl rfl rfl (by first | exact .loc _ | exact .ptr _ _ _ _ _ _ _ _ rfl rfl rfl) rfl) ?_
        refine AOps.s 26 rfl rfl rfl (q_len tok rfl rfl rfl rfl rfl) ?_
        refine AOps.s 27 rfl rfl rfl (q_bin rfl rfl rfl rfl) ?_
        refine AOps.nil ?_
        refine AGo.split 27 rfl (fun hb4 => ?_) (fun hb4 => ?_)
        · -- True
          refine AGo.cond_true true rfl rfl ?_
          have hkl : k < f.blocks.length := lt_of_idx hb4
          obtain ⟨x, hx⟩ := get_of_lt hkl
          refine AGo.skip ?_
          refine AGo.seq ?_
          refine AGo.block ?_
          refine AGo.seq ?_
          refine AGo.seq ?_
          refine AGo.draw mix ?_
          refine DOps.s 30 rfl rfl rfl (q_fieldAddr tok rfl rfl rfl rfl rfl rfl) ?_
          refine DOps.s 31 rfl rfl rfl (q_load tok rfl rfl rfl (by first | exact .loc _ | exact .ptr _ _ _ _ _ _ _ _ rfl rfl rfl) rfl) ?_
          refine DOps.s 32 rfl rfl rfl (q_move (.inl rfl) rfl) ?_
          refine DOps.s 33 rfl rfl rfl (q_index_lst tok rfl rfl rfl rfl rfl rfl (Int.natCast_nonneg _) (idx_map (by assumption)) rfl) ?_
          refine DOps.s 34 rfl rfl rfl (q_load tok rfl rfl rfl (by first | exact .loc _ | exact .ptr _ _ _ _ _ _ _ _ rfl rfl rfl) rfl) ?_
          refine DOps.s 35 rfl rfl rfl (q_fieldAddr tok rfl rfl rfl rfl rfl rfl) ?_
          refine DOps.s 36 rfl rfl rfl (q_load tok rfl rfl rfl (by first | exact .loc _ | exact .ptr _ _ _ _ _ _ _ _ rfl rfl rfl) rfl) ?_
          refine DOps.s 37 rfl rfl rfl (q_len tok rfl rfl rfl rfl rfl) ?_
          refine DOps.s 38 rfl rfl rfl (q_fieldAddr tok rfl rfl rfl rfl rfl rfl) ?_
          refine DOps.s 39 rfl rfl rfl (q_load tok rfl rfl rfl (by first | exact .loc _ | exact .ptr _ _ _ _ _ _ _ _ rfl rfl rfl) rfl) ?_
          refine DOps.x 40 rfl rfl rfl (o_pure rfl Try.func47 (by kernel_rfl) rfl rfl rfl (ends_ok x _ _)) ?_
          refine DOps.s 41 rfl rfl rfl (q_not rfl rfl) ?_
          refine DOps.nil (by kernel_rfl) ?_
          refine AGo.split 41 rfl (fun hb5 => ?_) (fun hb5 => ?_)
          · -- True
            refine AGo.cond_true true rfl rfl ?_
            have hends : x.ends f.blocks.length f.regs = false := by simpa using hb5
            refine AGo.seq ?_
            refine AGo.region ?_
            refine AOps.s 6 rfl rfl rfl (q_move (.inr rfl) rfl) ?_
            refine AOps.nil ?_
            refine AGo.ret ?_
            refine ⟨[_], ⟨rfl, trivial⟩, ?_, rfl⟩
            show AV.bool _ = AV.bool _
            congr 1
            rw [one_all h0.1 h0.2.1 h0.2.2, all_bad hx (by simp [Block.ok, hends])]
          · -- False
            refine AGo.cond_false false rfl rfl ?_
            have hends : x.ends f.blocks.length f.regs = true := by simpa using hb5
            refine AGo.skip ?_
            refine AGo.seq ?_
            refine AGo.region ?_
            refine AOps.s 8 rfl rfl rfl (q_move (.inr rfl) rfl) ?_
            refine AOps.nil ?_
            refine AGo.block ?_
            refine AGo.loopD (γ := Nat) 1 (fun j => ⟨68, (eput (eput (eput (eput (eput eNew 1 (.int .i64 number)) 2 (.int .i64 words)) 3 (.ptr 0 1 0 0)) 7 (.int .i64 (k : Int))) 8 (.int .i64 (j : Int))), (hput (hFrom 1) 0 (.row false 2 [f.cells]))⟩) (fun j => (x.ins.take j).all (fun t => t.fits number f.regs words) = true) (fun j => x.ins.length - j) 0 (Sub.mk' (by repeat (first | exact ESub.new _ | refine ESub.put ?_ (by rfl))) (by repeat (first | exact HSub.none _ | exact HSub.from_new _ | exact HSub.from_from (by decide) | refine HSub.put ?_ (by rfl) | refine HSub.from_put ?_ (by decide) | refine HSub.from_rm ?_ (by decide)))) rfl (fun _ => hput_free (fun b hb => hFrom_free hb) rfl) ?_
            intro j hj
            refine AGo.seq ?_
            refine AGo.seq ?_
            refine AGo.region ?_
            refine AOps.s 42 rfl rfl rfl (q_move (.inl rfl) rfl) ?_
            refine AOps.s 43 rfl rfl rfl (q_fieldAddr tok rfl rfl rfl rfl rfl rfl) ?_
            refine AOps.s 44 rfl rfl rfl (q_load tok rfl rfl rfl (by first | exact .loc _ | exact .ptr _ _ _ _ _ _ _ _ rfl rfl rfl) rfl) ?_
            refine AOps.s 45 rfl rfl rfl (q_move (.inl rfl) rfl) ?_
            refine AOps.s 46 rfl rfl rfl (q_index_lst tok rfl rfl rfl rfl rfl rfl (Int.natCast_nonneg _) (idx_map (by assumption)) rfl) ?_
            refine AOps.s 47 rfl rfl rfl (q_fieldAddr tok rfl rfl rfl rfl rfl rfl) ?_
            refine AOps.s 48 rfl rfl rfl (q_load tok rfl rfl rfl (by first | exact .loc _ | exact .ptr _ _ _ _ _ _ _ _ rfl rfl rfl) rfl) ?_
            refine AOps.s 49 rfl rfl rfl (q_len tok rfl rfl rfl rfl rfl) ?_
            refine AOps.s 50 rfl rfl rfl (q_bin rfl rfl rfl rfl) ?_
            refine AOps.nil ?_
            refine AGo.split 50 rfl (fun hb6 => ?_) (fun hb6 => ?_)
            · -- True
              refine AGo.cond_true true rfl rfl ?_
              have hjl : j < x.ins.length := lt_of_idx hb6
              obtain ⟨u, hu⟩ := get_of_lt hjl
              refine AGo.skip ?_
              refine AGo.seq ?_
              refine AGo.block ?_
              refine AGo.seq ?_
              refine AGo.draw mix ?_
              refine DOps.s 53 rfl rfl rfl (q_fieldAddr tok rfl rfl rfl rfl rfl rfl) ?_
              refine DOps.s 54 rfl rfl rfl (q_load tok rfl rfl rfl (by first | exact .loc _ | exact .ptr _ _ _ _ _ _ _ _ rfl rfl rfl) rfl) ?_
              refine DOps.s 55 rfl rfl rfl (q_move (.inl rfl) rfl) ?_
              refine DOps.s 56 rfl rfl rfl (q_index_lst tok rfl rfl rfl rfl rfl rfl (Int.natCast_nonneg _) (idx_map (by assumption)) rfl) ?_
              refine DOps.s 57 rfl rfl rfl (q_fieldAddr tok rfl rfl rfl rfl rfl rfl) ?_
              refine DOps.s 58 rfl rfl rfl (q_load tok rfl rfl rfl (by first | exact .loc _ | exact .ptr _ _ _ _ _ _ _ _ rfl rfl rfl) rfl) ?_
              refine DOps.s 59 rfl rfl rfl (q_move (.inl rfl) rfl) ?_
              refine DOps.s 60 rfl rfl rfl (q_index_lst tok rfl rfl rfl rfl rfl rfl (Int.natCast_nonneg _) (idx_map (by assumption)) rfl) ?_
              refine DOps.s 61 rfl rfl rfl (q_load tok rfl rfl rfl (by first | exact .loc _ | exact .ptr _ _ _ _ _ _ _ _ rfl rfl rfl) rfl) ?_
              refine DOps.s 62 rfl rfl rfl (q_move (.inl rfl) rfl) ?_
              refine DOps.s 63 rfl rfl rfl (q_fieldAddr tok rfl rfl rfl rfl rfl rfl) ?_
              refine DOps.s 64 rfl rfl rfl (q_load tok rfl rfl rfl (by first | exact .loc _ | exact .ptr _ _ _ _ _ _ _ _ rfl rfl rfl) rfl) ?_
              refine DOps.s 65 rfl rfl rfl (q_move (.inl rfl) rfl) ?_
              refine DOps.x 66 rfl rfl rfl (o_pure rfl Try.func48 (by kernel_rfl) rfl rfl rfl (fits_ok u _ _ _ hw hw2)) ?_
              refine DOps.s 67 rfl rfl rfl (q_not rfl rfl) ?_
              refine DOps.nil (by kernel_rfl) ?_
              refine AGo.split 67 rfl (fun hb7 => ?_) (fun hb7 => ?_)
              · -- True
                refine AGo.cond_true true rfl rfl ?_
                have hbw := hb7
                refine AGo.seq ?_
                refine AGo.region ?_
                refine AOps.s 6 rfl rfl rfl (q_move (.inr rfl) rfl) ?_
                refine AOps.nil ?_
                refine AGo.ret ?_
                refine ⟨[_], ⟨rfl, trivial⟩, ?_, rfl⟩
                show AV.bool _ = AV.bool _
                congr 1
                rw [one_all h0.1 h0.2.1 h0.2.2, all_bad hx (by simp only [Block.ok, all_bad (p := fun t => Tac.fits t number f.regs words) hu (by simpa using hbw), Bool.and_false])]
              · -- False
                refine AGo.cond_false false rfl rfl ?_
                have hbw := hb7
                refine AGo.skip ?_
                refine AGo.region ?_
                refine AOps.s 51 rfl rfl rfl (q_move (.inl rfl) rfl) ?_
                refine AOps.s 52 rfl rfl rfl (q_inc rfl rfl hjl (hfit.2 x (List.mem_of_getElem? hx))) ?_
                refine AOps.s 8 rfl rfl rfl (q_move (.inr rfl) rfl) ?_
                refine AOps.nil ?_
                exact ⟨j+1, Drop.mk' (by repeat (first | exact EDrop.new _ _ | refine EDrop.put ?_ (by rfl) rfl)) (by repeat (first | exact HDrop.none _ _ | exact HDrop.tail _ _ | refine HDrop.put ?_ (by rfl) rfl rfl)), all_succ hu hj (by simpa using hbw), by omega⟩
            · -- False
              refine AGo.cond_false false rfl rfl ?_
              have hins := all_end hj (ge_of_idx hb6)
              refine AGo.exit ?_
              refine AGo.region ?_
              refine AOps.s 28 rfl rfl rfl (q_move (.inl rfl) rfl) ?_
              refine AOps.s 29 rfl rfl rfl (q_inc rfl rfl hkl hfit.1) ?_
              refine AOps.s 7 rfl rfl rfl (q_move (.inr rfl) rfl) ?_
              refine AOps.nil ?_
              exact ⟨k+1, Drop.mk' (by repeat (first | exact EDrop.new _ _ | refine EDrop.put ?_ (by rfl) rfl)) (by repeat (first | exact HDrop.none _ _ | exact HDrop.tail _ _ | refine HDrop.put ?_ (by rfl) rfl rfl)), all_succ hx hk (by simp [Block.ok, hends, hins]), by omega⟩
        · -- False
          refine AGo.cond_false false rfl rfl ?_
          have hall := all_end hk (ge_of_idx hb4)
          refine AGo.exit ?_
          refine AGo.seq ?_
          refine AGo.region ?_
          refine AOps.s 6 rfl rfl rfl (q_move (.inr rfl) rfl) ?_
          refine AOps.nil ?_
          refine AGo.ret ?_
          refine ⟨[_], ⟨rfl, trivial⟩, ?_, rfl⟩
          show AV.bool _ = AV.bool _
          congr 1
          rw [one_all h0.1 h0.2.1 h0.2.2, hall]

set_option maxRecDepth 100000 in
theorem right_ok (b : Blocks) : APure Try.prog 22 [.agg b.cells] (fun r => r = .bool b.right) := by
  refine APure.of_body (n := 35) tok Try.func22 rfl rfl ?_
  refine AGo.seq ?_
  refine AGo.slot 0 rfl (fun H ι v => rel_prog) (fun hfit => ?_)
  refine AGo.region ?_
  refine AOps.x 1 rfl rfl rfl (o_box (sz := 2) 0 rfl rfl rfl rfl (Nat.zero_lt_succ _) rfl) ?_
  refine AOps.s 2 rfl rfl rfl (q_move (.inr rfl) rfl) ?_
  refine AOps.nil ?_
  refine AGo.seq ?_
  refine AGo.seq ?_
  refine AGo.region ?_
  refine AOps.s 4 rfl rfl rfl (q_fieldAddr tok rfl rfl rfl rfl rfl rfl) ?_
  refine AOps.s 5 rfl rfl rfl (q_load tok rfl rfl rfl (by first | exact .loc _ | exact .ptr _ _ _ _ _ _ _ _ rfl rfl rfl) rfl) ?_
  refine AOps.s 6 rfl rfl rfl (q_bin rfl rfl rfl rfl) ?_
  refine AOps.s 7 rfl rfl rfl (q_move (.inl rfl) rfl) ?_
  refine AOps.split 7 rfl (fun hb1 => ?_) (fun hb1 => ?_)
  · -- True
    refine AOps.k 8 rfl rfl rfl ?_
    refine AOps.k 9 rfl rfl rfl ?_
    refine AOps.k 10 rfl rfl rfl ?_
    refine AOps.s 11 rfl rfl rfl (q_pick_true true rfl rfl rfl rfl) ?_
    refine AOps.s 12 rfl rfl rfl (q_move (.inl rfl) rfl) ?_
    refine AOps.k 13 rfl rfl rfl ?_
    refine AOps.k 14 rfl rfl rfl ?_
    refine AOps.k 15 rfl rfl rfl ?_
    refine AOps.k 16 rfl rfl rfl ?_
    refine AOps.s 17 rfl rfl rfl (q_pick_true true rfl rfl rfl rfl) ?_
    refine AOps.nil ?_
    refine AGo.cond_true true rfl rfl ?_
    refine AGo.seq ?_
    refine AGo.region ?_
    refine AOps.s 2 rfl rfl rfl (q_move (.inr rfl) rfl) ?_
    refine AOps.nil ?_
    refine AGo.ret ?_
    refine ⟨[_], ⟨rfl, trivial⟩, ?_, rfl⟩
    show AV.bool _ = AV.bool _
    congr 1
    exact (right_bad (by simp_all <;> omega)).symm
  · -- False
    refine AOps.s 8 rfl rfl rfl (q_fieldAddr tok rfl rfl rfl rfl rfl rfl) ?_
    refine AOps.s 9 rfl rfl rfl (q_load tok rfl rfl rfl (by first | exact .loc _ | exact .ptr _ _ _ _ _ _ _ _ rfl rfl rfl) rfl) ?_
    refine AOps.s 10 rfl rfl rfl (q_bin rfl rfl rfl rfl) ?_
    refine AOps.s 11 rfl rfl rfl (q_pick_false false rfl rfl rfl rfl) ?_
    refine AOps.s 12 rfl rfl rfl (q_move (.inl rfl) rfl) ?_
    refine AOps.split 12 rfl (fun hb2 => ?_) (fun hb2 => ?_)
    · -- True
      refine AOps.k 13 rfl rfl rfl ?_
      refine AOps.k 14 rfl rfl rfl ?_
      refine AOps.k 15 rfl rfl rfl ?_
      refine AOps.k 16 rfl rfl rfl ?_
      refine AOps.s 17 rfl rfl rfl (q_pick_true true rfl rfl rfl rfl) ?_
      refine AOps.nil ?_
      refine AGo.cond_true true rfl rfl ?_
      refine AGo.seq ?_
      refine AGo.region ?_
      refine AOps.s 2 rfl rfl rfl (q_move (.inr rfl) rfl) ?_
      refine AOps.nil ?_
      refine AGo.ret ?_
      refine ⟨[_], ⟨rfl, trivial⟩, ?_, rfl⟩
      show AV.bool _ = AV.bool _
      congr 1
      exact (right_bad (by simp_all <;> omega)).symm
    · -- False
      refine AOps.s 13 rfl rfl rfl (q_fieldAddr tok rfl rfl rfl rfl rfl rfl) ?_
      refine AOps.s 14 rfl rfl rfl (q_load tok rfl rfl rfl (by first | exact .loc _ | exact .ptr _ _ _ _ _ _ _ _ rfl rfl rfl) rfl) ?_
      refine AOps.s 15 rfl rfl rfl (q_len tok rfl rfl rfl rfl rfl) ?_
      refine AOps.s 16 rfl rfl rfl (q_bin rfl rfl rfl rfl) ?_
      refine AOps.s 17 rfl rfl rfl (q_pick_false false rfl rfl rfl rfl) ?_
      refine AOps.nil ?_
      refine AGo.split 17 rfl (fun hb3 => ?_) (fun hb3 => ?_)
      · -- True
        refine AGo.cond_true true rfl rfl ?_
        refine AGo.seq ?_
        refine AGo.region ?_
        refine AOps.s 2 rfl rfl rfl (q_move (.inr rfl) rfl) ?_
        refine AOps.nil ?_
        refine AGo.ret ?_
        refine ⟨[_], ⟨rfl, trivial⟩, ?_, rfl⟩
        show AV.bool _ = AV.bool _
        congr 1
        exact (right_bad (by simp_all <;> omega)).symm
      · -- False
        refine AGo.cond_false false rfl rfl ?_
        have h0 : 0 ≤ b.words ∧ b.words ≤ 1048576 ∧ b.funcs.length ≠ 0 := by simp_all <;> omega
        refine AGo.skip ?_
        refine AGo.seq ?_
        refine AGo.seq ?_
        refine AGo.region ?_
        refine AOps.s 3 rfl rfl rfl (q_move (.inr rfl) rfl) ?_
        refine AOps.nil ?_
        refine AGo.block ?_
        refine AGo.loopD (γ := Nat) 1 (fun k => ⟨35, (eput (eput eNew 1 (.ptr 0 1 0 0)) 3 (.int .i64 (k : Int))), (hput (hFrom 1) 0 (.row false 2 [b.cells]))⟩) (fun k => (b.funcs.zipIdx.take k).all (fun p => p.1.one (p.2 : Int) b.words) = true) (fun k => b.funcs.length - k) 0 (Sub.mk' (by repeat (first | exact ESub.new _ | refine ESub.put ?_ (by rfl))) (by repeat (first | exact HSub.none _ | exact HSub.from_new _ | exact HSub.from_from (by decide) | refine HSub.put ?_ (by rfl) | refine HSub.from_put ?_ (by decide) | refine HSub.from_rm ?_ (by decide)))) rfl (fun _ => hput_free (fun b hb => hFrom_free hb) rfl) ?_
        intro k hk
        refine AGo.seq ?_
        refine AGo.seq ?_
        refine AGo.region ?_
        refine AOps.s 18 rfl rfl rfl (q_move (.inl rfl) rfl) ?_
        refine AOps.s 19 rfl rfl rfl (q_fieldAddr tok rfl rfl rfl rfl rfl rfl) ?_
        refine AOps.s 20 rfl rfl rfl (q_load tok rfl rfl rfl (by first | exact .loc _ | exact .ptr _ _ _ _ _ _ _ _ rfl rfl rfl) rfl) ?_
        refine AOps.s 21 rfl rfl rfl (q_len tok rfl rfl rfl rfl rfl) ?_
        refine AOps.s 22 rfl rfl rfl (q_bin rfl rfl rfl rfl) ?_
        refine AOps.nil ?_
        refine AGo.split 22 rfl (fun hb4 => ?_) (fun hb4 => ?_)
        · -- True
          refine AGo.cond_true true rfl rfl ?_
          have hkl : k < b.funcs.length := lt_of_idx hb4
          obtain ⟨x, hx⟩ := get_of_lt hkl
          refine AGo.skip ?_
          refine AGo.seq ?_
          refine AGo.block ?_
          refine AGo.seq ?_
          refine AGo.draw mix ?_
          refine DOps.s 25 rfl rfl rfl (q_fieldAddr tok rfl rfl rfl rfl rfl rfl) ?_
          refine DOps.s 26 rfl rfl rfl (q_load tok rfl rfl rfl (by first | exact .loc _ | exact .ptr _ _ _ _ _ _ _ _ rfl rfl rfl) rfl) ?_
          refine DOps.s 27 rfl rfl rfl (q_move (.inl rfl) rfl) ?_
          refine DOps.s 28 rfl rfl rfl (q_index_lst tok rfl rfl rfl rfl rfl rfl (Int.natCast_nonneg _) (idx_map (by assumption)) rfl) ?_
          refine DOps.s 29 rfl rfl rfl (q_load tok rfl rfl rfl (by first | exact .loc _ | exact .ptr _ _ _ _ _ _ _ _ rfl rfl rfl) rfl) ?_
          refine DOps.s 30 rfl rfl rfl (q_move (.inl rfl) rfl) ?_
          refine DOps.s 31 rfl rfl rfl (q_fieldAddr tok rfl rfl rfl rfl rfl rfl) ?_
          refine DOps.s 32 rfl rfl rfl (q_load tok rfl rfl rfl (by first | exact .loc _ | exact .ptr _ _ _ _ _ _ _ _ rfl rfl rfl) rfl) ?_
          refine DOps.x 33 rfl rfl rfl (o_pure rfl Try.func38 (by kernel_rfl) rfl rfl rfl (one_ok x _ _ h0.1 h0.2.1)) ?_
          refine DOps.s 34 rfl rfl rfl (q_not rfl rfl) ?_
          refine DOps.nil (by kernel_rfl) ?_
          refine AGo.split 34 rfl (fun hb5 => ?_) (fun hb5 => ?_)
          · -- True
            refine AGo.cond_true true rfl rfl ?_
            have hone := hb5
            refine AGo.seq ?_
            refine AGo.region ?_
            refine AOps.s 2 rfl rfl rfl (q_move (.inr rfl) rfl) ?_
            refine AOps.nil ?_
            refine AGo.ret ?_
            refine ⟨[_], ⟨rfl, trivial⟩, ?_, rfl⟩
            show AV.bool _ = AV.bool _
            congr 1
            rw [right_all h0.1 h0.2.1 h0.2.2, all_bad (zipIdx_get hx) (by simpa using hone)]
          · -- False
            refine AGo.cond_false false rfl rfl ?_
            have hone := hb5
            refine AGo.skip ?_
            refine AGo.region ?_
            refine AOps.s 23 rfl rfl rfl (q_move (.inl rfl) rfl) ?_
            refine AOps.s 24 rfl rfl rfl (q_inc rfl rfl hkl hfit.1) ?_
            refine AOps.s 3 rfl rfl rfl (q_move (.inr rfl) rfl) ?_
            refine AOps.nil ?_
            exact ⟨k+1, Drop.mk' (by repeat (first | exact EDrop.new _ _ | refine EDrop.put ?_ (by rfl) rfl)) (by repeat (first | exact HDrop.none _ _ | exact HDrop.tail _ _ | refine HDrop.put ?_ (by rfl) rfl rfl)), all_succ (zipIdx_get hx) hk (by simpa using hone), by omega⟩
        · -- False
          refine AGo.cond_false false rfl rfl ?_
          have hall := all_end hk (by rw [List.length_zipIdx]; exact ge_of_idx hb4)
          refine AGo.exit ?_
          refine AGo.seq ?_
          refine AGo.region ?_
          refine AOps.s 2 rfl rfl rfl (q_move (.inr rfl) rfl) ?_
          refine AOps.nil ?_
          refine AGo.ret ?_
          refine ⟨[_], ⟨rfl, trivial⟩, ?_, rfl⟩
          show AV.bool _ = AV.bool _
          congr 1
          rw [right_all h0.1 h0.2.1 h0.2.2, hall]

end Go.Proofs.Ytidfabbnobipkaa.Sv

namespace Go.Proofs.Ytidfabbnobipkaa.Sv
open Go
set_option linter.unusedVariables false
set_option linter.unusedSimpArgs false

set_option maxRecDepth 100000 in
theorem sameFunc_ok (f g : BFunc) : APure Try.prog 15 [.agg f.cells, .agg g.cells] (fun r => r = .bool (decide (f = g))) := by
  refine APure.of_body (n := 93) tok Try.func15 rfl rfl ?_
  refine AGo.seq ?_
  refine AGo.slot 0 rfl (fun H ι v => rel_bfunc) (fun hfit => ?_)
  refine AGo.region ?_
  refine AOps.x 2 rfl rfl rfl (o_box (sz := 2) 0 rfl rfl rfl rfl (Nat.zero_lt_succ _) rfl) ?_
  refine AOps.x 3 rfl rfl rfl (o_box (sz := 2) 1 rfl rfl rfl rfl (Nat.zero_lt_succ _) rfl) ?_
  refine AOps.s 4 rfl rfl rfl (q_move (.inr rfl) rfl) ?_
  refine AOps.nil ?_
  refine AGo.seq ?_
  refine AGo.seq ?_
  refine AGo.region ?_
  refine AOps.s 9 rfl rfl rfl (q_fieldAddr tok rfl rfl rfl rfl rfl rfl) ?_
  refine AOps.s 10 rfl rfl rfl (q_load tok rfl rfl rfl (by first | exact .loc _ | exact .ptr _ _ _ _ _ _ _ _ rfl rfl rfl) rfl) ?_
  refine AOps.s 11 rfl rfl rfl (q_fieldAddr tok rfl rfl rfl rfl rfl rfl) ?_
  refine AOps.s 12 rfl rfl rfl (q_load tok rfl rfl rfl (by first | exact .loc _ | exact .ptr _ _ _ _ _ _ _ _ rfl rfl rfl) rfl) ?_
  refine AOps.s 13 rfl rfl rfl (q_bin rfl rfl rfl rfl) ?_
  refine AOps.s 14 rfl rfl rfl (q_move (.inl rfl) rfl) ?_
  refine AOps.split 14 rfl (fun hb1 => ?_) (fun hb1 => ?_)
  · -- True
    refine AOps.k 15 rfl rfl rfl ?_
    refine AOps.k 16 rfl rfl rfl ?_
    refine AOps.k 17 rfl rfl rfl ?_
    refine AOps.k 18 rfl rfl rfl ?_
    refine AOps.k 19 rfl rfl rfl ?_
    refine AOps.k 20 rfl rfl rfl ?_
    refine AOps.k 21 rfl rfl rfl ?_
    refine AOps.s 22 rfl rfl rfl (q_pick_true true rfl rfl rfl rfl) ?_
    refine AOps.nil ?_
    refine AGo.cond_true true rfl rfl ?_
    refine AGo.seq ?_
    refine AGo.region ?_
    refine AOps.s 4 rfl rfl rfl (q_move (.inr rfl) rfl) ?_
    refine AOps.nil ?_
    refine AGo.ret ?_
    refine ⟨[_], ⟨rfl, trivial⟩, ?_, rfl⟩
    show AV.bool false = _
    rw [decide_eq_false (by rintro rfl; simp_all)]
  · -- False
    refine AOps.s 15 rfl rfl rfl (q_fieldAddr tok rfl rfl rfl rfl rfl rfl) ?_
    refine AOps.s 16 rfl rfl rfl (q_load tok rfl rfl rfl (by first | exact .loc _ | exact .ptr _ _ _ _ _ _ _ _ rfl rfl rfl) rfl) ?_
    refine AOps.s 17 rfl rfl rfl (q_len tok rfl rfl rfl rfl rfl) ?_
    refine AOps.s 18 rfl rfl rfl (q_fieldAddr tok rfl rfl rfl rfl rfl rfl) ?_
    refine AOps.s 19 rfl rfl rfl (q_load tok rfl rfl rfl (by first | exact .loc _ | exact .ptr _ _ _ _ _ _ _ _ rfl rfl rfl) rfl) ?_
    refine AOps.s 20 rfl rfl rfl (q_len tok rfl rfl rfl rfl rfl) ?_
    refine AOps.s 21 rfl rfl rfl (q_bin rfl rfl rfl rfl) ?_
    refine AOps.s 22 rfl rfl rfl (q_pick_false false rfl rfl rfl rfl) ?_
    refine AOps.nil ?_
    refine AGo.split 22 rfl (fun hb2 => ?_) (fun hb2 => ?_)
    · -- True
      refine AGo.cond_true true rfl rfl ?_
      refine AGo.seq ?_
      refine AGo.region ?_
      refine AOps.s 4 rfl rfl rfl (q_move (.inr rfl) rfl) ?_
      refine AOps.nil ?_
      refine AGo.ret ?_
      refine ⟨[_], ⟨rfl, trivial⟩, ?_, rfl⟩
      show AV.bool false = _
      rw [decide_eq_false (by rintro rfl; simp_all)]
    · -- False
      refine AGo.cond_false false rfl rfl ?_
      refine AGo.skip ?_
      refine AGo.seq ?_
      refine AGo.seq ?_
      refine AGo.region ?_
      refine AOps.s 5 rfl rfl rfl (q_move (.inr rfl) rfl) ?_
      refine AOps.nil ?_
      refine AGo.block ?_
      refine AGo.loopD (γ := Nat) 2 (fun k => ⟨93, (eput (eput (eput eNew 2 (.ptr 0 1 0 0)) 3 (.ptr 1 1 0 0)) 5 (.int .i64 (k : Int))), (hput (hput (hFrom 2) 0 (.row false 2 [BFunc.cells f])) 1 (.row false 2 [BFunc.cells g]))⟩) (fun k => k ≤ f.blocks.length ∧ f.regs = g.regs ∧ f.blocks.length = g.blocks.length ∧ f.blocks.take k = g.blocks.take k) (fun k => f.blocks.length - k) 0 (Sub.mk' (by repeat (first | exact ESub.new _ | refine ESub.put ?_ (by rfl))) (by repeat (first | exact HSub.none _ | exact HSub.from_new _ | exact HSub.from_from (by decide) | refine HSub.put ?_ (by rfl) | refine HSub.from_put ?_ (by decide) | refine HSub.from_rm ?_ (by decide)))) ⟨Nat.zero_le _, by simp_all, by simp_all; omega, rfl⟩ (fun _ => hput_free (hput_free (fun b hb => hFrom_free hb) rfl) rfl) ?_
      intro k ⟨hk, hr, hl, ht⟩
      refine AGo.seq ?_
      refine AGo.seq ?_
      refine AGo.region ?_
      refine AOps.s 23 rfl rfl rfl (q_move (.inl rfl) rfl) ?_
      refine AOps.s 24 rfl rfl rfl (q_fieldAddr tok rfl rfl rfl rfl rfl rfl) ?_
      refine AOps.s 25 rfl rfl rfl (q_load tok rfl rfl rfl (by first | exact .loc _ | exact .ptr _ _ _ _ _ _ _ _ rfl rfl rfl) rfl) ?_
      refine AOps.s 26 rfl rfl rfl (q_len tok rfl rfl rfl rfl rfl) ?_
      refine AOps.s 27 rfl rfl rfl (q_bin rfl rfl rfl rfl) ?_
      refine AOps.nil ?_
      refine AGo.split 27 rfl (fun hb3 => ?_) (fun hb3 => ?_)
      · -- True
        refine AGo.cond_true true rfl rfl ?_
        have hkl : k < f.blocks.length := lt_of_idx hb3
        obtain ⟨x, hx⟩ := get_of_lt hkl
        obtain ⟨y, hy⟩ := get_of_lt (l := g.blocks) (k := k) (by omega)
        refine AGo.skip ?_
        refine AGo.seq ?_
        refine AGo.block ?_
        refine AGo.seq ?_
        refine AGo.region ?_
        refine AOps.s 30 rfl rfl rfl (q_fieldAddr tok rfl rfl rfl rfl rfl rfl) ?_
        refine AOps.s 31 rfl rfl rfl (q_load tok rfl rfl rfl (by first | exact .loc _ | exact .ptr _ _ _ _ _ _ _ _ rfl rfl rfl) rfl) ?_
        refine AOps.s 32 rfl rfl rfl (q_move (.inl rfl) rfl) ?_
        refine AOps.s 33 rfl rfl rfl (q_index_lst tok rfl rfl rfl rfl rfl rfl (Int.natCast_nonneg _) (idx_map (by assumption)) rfl) ?_
        refine AOps.s 34 rfl rfl rfl (q_load tok rfl rfl rfl (by first | exact .loc _ | exact .ptr _ _ _ _ _ _ _ _ rfl rfl rfl) rfl) ?_
        refine AOps.x 6 rfl rfl rfl (o_alloc tok 2 rfl rfl rfl rfl (Nat.zero_lt_succ _) rfl) ?_
        refine AOps.w rfl rfl (o_store tok rfl rfl rfl rfl rfl rfl rfl rfl rfl (by decide) rfl (by first | exact fun _ => rfl | (intro h; cases h))) ?_
        refine AOps.nil ?_
        refine AGo.seq ?_
        refine AGo.region ?_
        refine AOps.s 35 rfl rfl rfl (q_fieldAddr tok rfl rfl rfl rfl rfl rfl) ?_
        refine AOps.s 36 rfl rfl rfl (q_load tok rfl rfl rfl (by first | exact .loc _ | exact .ptr _ _ _ _ _ _ _ _ rfl rfl rfl) rfl) ?_
        refine AOps.s 37 rfl rfl rfl (q_move (.inl rfl) rfl) ?_
        refine AOps.s 38 rfl rfl rfl (q_index_lst tok rfl rfl rfl rfl rfl rfl (Int.natCast_nonneg _) (idx_map (by assumption)) rfl) ?_
        refine AOps.s 39 rfl rfl rfl (q_load tok rfl rfl rfl (by first | exact .loc _ | exact .ptr _ _ _ _ _ _ _ _ rfl rfl rfl) rfl) ?_
        refine AOps.x 7 rfl rfl rfl (o_alloc tok 3 rfl rfl rfl rfl (Nat.zero_lt_succ _) rfl) ?_
        refine AOps.w rfl rfl (o_store tok rfl rfl rfl rfl rfl rfl rfl rfl rfl (by decide) rfl (by first | exact fun _ => rfl | (intro h; cases h))) ?_
        refine AOps.nil ?_
        refine AGo.seq ?_
        refine AGo.seq ?_
        refine AGo.region ?_
        refine AOps.s 40 rfl rfl rfl (q_fieldAddr tok rfl rfl rfl rfl rfl rfl) ?_
        refine AOps.s 41 rfl rfl rfl (q_load tok rfl rfl rfl (by first | exact .loc _ | exact .ptr _ _ _ _ _ _ _ _ rfl rfl rfl) rfl) ?_
        refine AOps.s 42 rfl rfl rfl (q_fieldAddr tok rfl rfl rfl rfl rfl rfl) ?_
        refine AOps.s 43 rfl rfl rfl (q_load tok rfl rfl rfl (by first | exact .loc _ | exact .ptr _ _ _ _ _ _ _ _ rfl rfl rfl) rfl) ?_
        refine AOps.s 44 rfl rfl rfl (q_bin rfl rfl rfl rfl) ?_
        refine AOps.s 45 rfl rfl rfl (q_move (.inl rfl) rfl) ?_
        refine AOps.split 45 rfl (fun hb4 => ?_) (fun hb4 => ?_)
        · -- True
          refine AOps.k 46 rfl rfl rfl ?_
          refine AOps.k 47 rfl rfl rfl ?_
          refine AOps.k 48 rfl rfl rfl ?_
          refine AOps.k 49 rfl rfl rfl ?_
          refine AOps.k 50 rfl rfl rfl ?_
          refine AOps.s 51 rfl rfl rfl (q_pick_true true rfl rfl rfl rfl) ?_
          refine AOps.s 52 rfl rfl rfl (q_move (.inl rfl) rfl) ?_
          refine AOps.k 53 rfl rfl rfl ?_
          refine AOps.k 54 rfl rfl rfl ?_
          refine AOps.k 55 rfl rfl rfl ?_
          refine AOps.k 56 rfl rfl rfl ?_
          refine AOps.k 57 rfl rfl rfl ?_
          refine AOps.s 58 rfl rfl rfl (q_pick_true true rfl rfl rfl rfl) ?_
          refine AOps.s 59 rfl rfl rfl (q_move (.inl rfl) rfl) ?_
          refine AOps.k 60 rfl rfl rfl ?_
          refine AOps.k 61 rfl rfl rfl ?_
          refine AOps.k 62 rfl rfl rfl ?_
          refine AOps.k 63 rfl rfl rfl ?_
          refine AOps.k 64 rfl rfl rfl ?_
          refine AOps.s 65 rfl rfl rfl (q_pick_true true rfl rfl rfl rfl) ?_
          refine AOps.s 66 rfl rfl rfl (q_move (.inl rfl) rfl) ?_
          refine AOps.k 67 rfl rfl rfl ?_
          refine AOps.k 68 rfl rfl rfl ?_
          refine AOps.k 69 rfl rfl rfl ?_
          refine AOps.k 70 rfl rfl rfl ?_
          refine AOps.k 71 rfl rfl rfl ?_
          refine AOps.k 72 rfl rfl rfl ?_
          refine AOps.k 73 rfl rfl rfl ?_
          refine AOps.s 74 rfl rfl rfl (q_pick_true true rfl rfl rfl rfl) ?_
          refine AOps.nil ?_
          refine AGo.cond_true true rfl rfl ?_
          refine AGo.seq ?_
          refine AGo.region ?_
          refine AOps.s 4 rfl rfl rfl (q_move (.inr rfl) rfl) ?_
          refine AOps.nil ?_
          refine AGo.ret ?_
          refine ⟨[_], ⟨rfl, trivial⟩, ?_, rfl⟩
          show AV.bool false = _
          rw [decide_eq_false (by rintro rfl; rw [hx] at hy; cases hy; simp_all)]
        · -- False
          refine AOps.s 46 rfl rfl rfl (q_fieldAddr tok rfl rfl rfl rfl rfl rfl) ?_
          refine AOps.s 47 rfl rfl rfl (q_load tok rfl rfl rfl (by first | exact .loc _ | exact .ptr _ _ _ _ _ _ _ _ rfl rfl rfl) rfl) ?_
          refine AOps.s 48 rfl rfl rfl (q_fieldAddr tok rfl rfl rfl rfl rfl rfl) ?_
          refine AOps.s 49 rfl rfl rfl (q_load tok rfl rfl rfl (by first | exact .loc _ | exact .ptr _ _ _ _ _ _ _ _ rfl rfl rfl) rfl) ?_
          refine AOps.s 50 rfl rfl rfl (q_bin rfl rfl rfl rfl) ?_
          refine AOps.s 51 rfl rfl rfl (q_pick_false false rfl rfl rfl rfl) ?_
          refine AOps.s 52 rfl rfl rfl (q_move (.inl rfl) rfl) ?_
          refine AOps.split 52 rfl (fun hb5 => ?_) (fun hb5 => ?_)
          · -- True
            refine AOps.k 53 rfl rfl rfl ?_
            refine AOps.k 54 rfl rfl rfl ?_
            refine AOps.k 55 rfl rfl rfl ?_
            refine AOps.k 56 rfl rfl rfl ?_
            refine AOps.k 57 rfl rfl rfl ?_
            refine AOps.s 58 rfl rfl rfl (q_pick_true true rfl rfl rfl rfl) ?_
            refine AOps.s 59 rfl rfl rfl (q_move (.inl rfl) rfl) ?_
            refine AOps.k 60 rfl rfl rfl ?_
            refine AOps.k 61 rfl rfl rfl ?_
            refine AOps.k 62 rfl rfl rfl ?_
            refine AOps.k 63 rfl rfl rfl ?_
            refine AOps.k 64 rfl rfl rfl ?_
            refine AOps.s 65 rfl rfl rfl (q_pick_true true rfl rfl rfl rfl) ?_
            refine AOps.s 66 rfl rfl rfl (q_move (.inl rfl) rfl) ?_
            refine AOps.k 67 rfl rfl rfl ?_
            refine AOps.k 68 rfl rfl rfl ?_
            refine AOps.k 69 rfl rfl rfl ?_
            refine AOps.k 70 rfl rfl rfl ?_
            refine AOps.k 71 rfl rfl rfl ?_
            refine AOps.k 72 rfl rfl rfl ?_
            refine AOps.k 73 rfl rfl rfl ?_
            refine AOps.s 74 rfl rfl rfl (q_pick_true true rfl rfl rfl rfl) ?_
            refine AOps.nil ?_
            refine AGo.cond_true true rfl rfl ?_
            refine AGo.seq ?_
            refine AGo.region ?_
            refine AOps.s 4 rfl rfl rfl (q_move (.inr rfl) rfl) ?_
            refine AOps.nil ?_
            refine AGo.ret ?_
            refine ⟨[_], ⟨rfl, trivial⟩, ?_, rfl⟩
            show AV.bool false = _
            rw [decide_eq_false (by rintro rfl; rw [hx] at hy; cases hy; simp_all)]
          · -- False
            refine AOps.s 53 rfl rfl rfl (q_fieldAddr tok rfl rfl rfl rfl rfl rfl) ?_
            refine AOps.s 54 rfl rfl rfl (q_load tok rfl rfl rfl (by first | exact .loc _ | exact .ptr _ _ _ _ _ _ _ _ rfl rfl rfl) rfl) ?_
            refine AOps.s 55 rfl rfl rfl (q_fieldAddr tok rfl rfl rfl rfl rfl rfl) ?_
            refine AOps.s 56 rfl rfl rfl (q_load tok rfl rfl rfl (by first | exact .loc _ | exact .ptr _ _ _ _ _ _ _ _ rfl rfl rfl) rfl) ?_
            refine AOps.s 57 rfl rfl rfl (q_bin rfl rfl rfl rfl) ?_
            refine AOps.s 58 rfl rfl rfl (q_pick_false false rfl rfl rfl rfl) ?_
            refine AOps.s 59 rfl rfl rfl (q_move (.inl rfl) rfl) ?_
            refine AOps.split 59 rfl (fun hb6 => ?_) (fun hb6 => ?_)
            · -- True
              refine AOps.k 60 rfl rfl rfl ?_
              refine AOps.k 61 rfl rfl rfl ?_
              refine AOps.k 62 rfl rfl rfl ?_
              refine AOps.k 63 rfl rfl rfl ?_
              refine AOps.k 64 rfl rfl rfl ?_
              refine AOps.s 65 rfl rfl rfl (q_pick_true true rfl rfl rfl rfl) ?_
              refine AOps.s 66 rfl rfl rfl (q_move (.inl rfl) rfl) ?_
              refine AOps.k 67 rfl rfl rfl ?_
              refine AOps.k 68 rfl rfl rfl ?_
              refine AOps.k 69 rfl rfl rfl ?_
              refine AOps.k 70 rfl rfl rfl ?_
              refine AOps.k 71 rfl rfl rfl ?_
              refine AOps.k 72 rfl rfl rfl ?_
              refine AOps.k 73 rfl rfl rfl ?_
              refine AOps.s 74 rfl rfl rfl (q_pick_true true rfl rfl rfl rfl) ?_
              refine AOps.nil ?_
              refine AGo.cond_true true rfl rfl ?_
              refine AGo.seq ?_
              refine AGo.region ?_
              refine AOps.s 4 rfl rfl rfl (q_move (.inr rfl) rfl) ?_
              refine AOps.nil ?_
              refine AGo.ret ?_
              refine ⟨[_], ⟨rfl, trivial⟩, ?_, rfl⟩
              show AV.bool false = _
              rw [decide_eq_false (by rintro rfl; rw [hx] at hy; cases hy; simp_all)]
            · -- False
              refine AOps.s 60 rfl rfl rfl (q_fieldAddr tok rfl rfl rfl rfl rfl rfl) ?_
              refine AOps.s 61 rfl rfl rfl (q_load tok rfl rfl rfl (by first | exact .loc _ | exact .ptr _ _ _ _ _ _ _ _ rfl rfl rfl) rfl) ?_
              refine AOps.s 62 rfl rfl rfl (q_fieldAddr tok rfl rfl rfl rfl rfl rfl) ?_
              refine AOps.s 63 rfl rfl rfl (q_load tok rfl rfl rfl (by first | exact .loc _ | exact .ptr _ _ _ _ _ _ _ _ rfl rfl rfl) rfl) ?_
              refine AOps.s 64 rfl rfl rfl (q_bin rfl rfl rfl rfl) ?_
              refine AOps.s 65 rfl rfl rfl (q_pick_false false rfl rfl rfl rfl) ?_
              refine AOps.s 66 rfl rfl rfl (q_move (.inl rfl) rfl) ?_
              refine AOps.split 66 rfl (fun hb7 => ?_) (fun hb7 => ?_)
              · -- True
                refine AOps.k 67 rfl rfl rfl ?_
                refine AOps.k 68 rfl rfl rfl ?_
                refine AOps.k 69 rfl rfl rfl ?_
                refine AOps.k 70 rfl rfl rfl ?_
                refine AOps.k 71 rfl rfl rfl ?_
                refine AOps.k 72 rfl rfl rfl ?_
                refine AOps.k 73 rfl rfl rfl ?_
                refine AOps.s 74 rfl rfl rfl (q_pick_true true rfl rfl rfl rfl) ?_
                refine AOps.nil ?_
                refine AGo.cond_true true rfl rfl ?_
                refine AGo.seq ?_
                refine AGo.region ?_
                refine AOps.s 4 rfl rfl rfl (q_move (.inr rfl) rfl) ?_
                refine AOps.nil ?_
                refine AGo.ret ?_
                refine ⟨[_], ⟨rfl, trivial⟩, ?_, rfl⟩
                show AV.bool false = _
                rw [decide_eq_false (by rintro rfl; rw [hx] at hy; cases hy; simp_all)]
              · -- False
                refine AOps.s 67 rfl rfl rfl (q_fieldAddr tok rfl rfl rfl rfl rfl rfl) ?_
                refine AOps.s 68 rfl rfl rfl (q_load tok rfl rfl rfl (by first | exact .loc _ | exact .ptr _ _ _ _ _ _ _ _ rfl rfl rfl) rfl) ?_
                refine AOps.s 69 rfl rfl rfl (q_len tok rfl rfl rfl rfl rfl) ?_
                refine AOps.s 70 rfl rfl rfl (q_fieldAddr tok rfl rfl rfl rfl rfl rfl) ?_
                refine AOps.s 71 rfl rfl rfl (q_load tok rfl rfl rfl (by first | exact .loc _ | exact .ptr _ _ _ _ _ _ _ _ rfl rfl rfl) rfl) ?_
                refine AOps.s 72 rfl rfl rfl (q_len tok rfl rfl rfl rfl rfl) ?_
                refine AOps.s 73 rfl rfl rfl (q_bin rfl rfl rfl rfl) ?_
                refine AOps.s 74 rfl rfl rfl (q_pick_false false rfl rfl rfl rfl) ?_
                refine AOps.nil ?_
                refine AGo.split 74 rfl (fun hb8 => ?_) (fun hb8 => ?_)
                · -- True
                  refine AGo.cond_true true rfl rfl ?_
                  refine AGo.seq ?_
                  refine AGo.region ?_
                  refine AOps.s 4 rfl rfl rfl (q_move (.inr rfl) rfl) ?_
                  refine AOps.nil ?_
                  refine AGo.ret ?_
                  refine ⟨[_], ⟨rfl, trivial⟩, ?_, rfl⟩
                  show AV.bool false = _
                  rw [decide_eq_false (by rintro rfl; rw [hx] at hy; cases hy; simp_all)]
                · -- False
                  refine AGo.cond_false false rfl rfl ?_
                  refine AGo.skip ?_
                  refine AGo.seq ?_
                  refine AGo.region ?_
                  refine AOps.s 8 rfl rfl rfl (q_move (.inr rfl) rfl) ?_
                  refine AOps.nil ?_
                  refine AGo.block ?_
                  refine AGo.loopD (γ := Nat) 4 (fun j => ⟨93, (eput (eput (eput (eput (eput (eput eNew 2 (.ptr 0 1 0 0)) 3 (.ptr 1 1 0 0)) 5 (.int .i64 (k : Int))) 6 (.ptr 2 1 0 0)) 7 (.ptr 3 1 0 0)) 8 (.int .i64 (j : Int))), (hput (hput (hput (hput (hFrom 4) 0 (.row false 2 [BFunc.cells f])) 1 (.row false 2 [BFunc.cells g])) 2 (.row false 5 [x.cells])) 3 (.row false 5 [y.cells]))⟩) (fun j => j ≤ x.ins.length ∧ x.ins.length = y.ins.length ∧ x.ins.take j = y.ins.take j) (fun j => x.ins.length - j) 0 (Sub.mk' (by repeat (first | exact ESub.new _ | refine ESub.put ?_ (by rfl))) (by repeat (first | exact HSub.none _ | exact HSub.from_new _ | exact HSub.from_from (by decide) | refine HSub.put ?_ (by rfl) | refine HSub.from_put ?_ (by decide) | refine HSub.from_rm ?_ (by decide)))) ⟨Nat.zero_le _, by have h := hb8; simp at h; omega, rfl⟩ (fun _ => hput_free (hput_free (hput_free (hput_free (fun b hb => hFrom_free hb) rfl) rfl) rfl) rfl) ?_
                  intro j ⟨hj, hjl, hjt⟩
                  refine AGo.seq ?_
                  refine AGo.seq ?_
                  refine AGo.region ?_
                  refine AOps.s 75 rfl rfl rfl (q_move (.inl rfl) rfl) ?_
                  refine AOps.s 76 rfl rfl rfl (q_fieldAddr tok rfl rfl rfl rfl rfl rfl) ?_
                  refine AOps.s 77 rfl rfl rfl (q_load tok rfl rfl rfl (by first | exact .loc _ | exact .ptr _ _ _ _ _ _ _ _ rfl rfl rfl) rfl) ?_
                  refine AOps.s 78 rfl rfl rfl (q_len tok rfl rfl rfl rfl rfl) ?_
                  refine AOps.s 79 rfl rfl rfl (q_bin rfl rfl rfl rfl) ?_
                  refine AOps.nil ?_
                  refine AGo.split 79 rfl (fun hb9 => ?_) (fun hb9 => ?_)
                  · -- True
                    refine AGo.cond_true true rfl rfl ?_
                    have hjk : j < x.ins.length := lt_of_idx hb9
                    obtain ⟨u, hu⟩ := get_of_lt hjk
                    obtain ⟨v, hv⟩ := get_of_lt (l := y.ins) (k := j) (by omega)
                    refine AGo.skip ?_
                    refine AGo.seq ?_
                    refine AGo.block ?_
                    refine AGo.seq ?_
                    refine AGo.draw mix ?_
                    refine DOps.s 82 rfl rfl rfl (q_fieldAddr tok rfl rfl rfl rfl rfl rfl) ?_
                    refine DOps.s 83 rfl rfl rfl (q_load tok rfl rfl rfl (by first | exact .loc _ | exact .ptr _ _ _ _ _ _ _ _ rfl rfl rfl) rfl) ?_
                    refine DOps.s 84 rfl rfl rfl (q_move (.inl rfl) rfl) ?_
                    refine DOps.s 85 rfl rfl rfl (q_index_lst tok rfl rfl rfl rfl rfl rfl (Int.natCast_nonneg _) (idx_map (by assumption)) rfl) ?_
                    refine DOps.s 86 rfl rfl rfl (q_load tok rfl rfl rfl (by first | exact .loc _ | exact .ptr _ _ _ _ _ _ _ _ rfl rfl rfl) rfl) ?_
                    refine DOps.s 87 rfl rfl rfl (q_fieldAddr tok rfl rfl rfl rfl rfl rfl) ?_
                    refine DOps.s 88 rfl rfl rfl (q_load tok rfl rfl rfl (by first | exact .loc _ | exact .ptr _ _ _ _ _ _ _ _ rfl rfl rfl) rfl) ?_
                    refine DOps.s 89 rfl rfl rfl (q_move (.inl rfl) rfl) ?_
                    refine DOps.s 90 rfl rfl rfl (q_index_lst tok rfl rfl rfl rfl rfl rfl (Int.natCast_nonneg _) (idx_map (by assumption)) rfl) ?_
                    refine DOps.s 91 rfl rfl rfl (q_load tok rfl rfl rfl (by first | exact .loc _ | exact .ptr _ _ _ _ _ _ _ _ rfl rfl rfl) rfl) ?_
                    refine DOps.s 92 rfl rfl rfl (q_eqStruct tok true rfl rfl rfl (by kernel_rfl) rfl rfl rfl rfl rfl) ?_
                    refine DOps.nil (by kernel_rfl) ?_
                    refine AGo.split 92 rfl (fun hb10 => ?_) (fun hb10 => ?_)
                    · -- True
                      refine AGo.cond_true true rfl rfl ?_
                      refine AGo.seq ?_
                      refine AGo.region ?_
                      refine AOps.s 4 rfl rfl rfl (q_move (.inr rfl) rfl) ?_
                      refine AOps.nil ?_
                      refine AGo.ret ?_
                      refine ⟨[_], ⟨rfl, trivial⟩, ?_, rfl⟩
                      show AV.bool false = _
                      rw [decide_eq_false (by rintro rfl; rw [hx] at hy; cases hy; rw [hu] at hv; cases hv; simp_all)]
                    · -- False
                      refine AGo.cond_false false rfl rfl ?_
                      have huv : u = v := by cases u; cases v; simpa using hb10
                      refine AGo.skip ?_
                      refine AGo.region ?_
                      refine AOps.s 80 rfl rfl rfl (q_move (.inl rfl) rfl) ?_
                      refine AOps.s 81 rfl rfl rfl (q_inc rfl rfl hjk (hfit.2 x (List.mem_of_getElem? hx))) ?_
                      refine AOps.s 8 rfl rfl rfl (q_move (.inr rfl) rfl) ?_
                      refine AOps.nil ?_
                      exact ⟨j+1, Drop.mk' (by repeat (first | exact EDrop.new _ _ | refine EDrop.put ?_ (by rfl) rfl)) (by repeat (first | exact HDrop.none _ _ | exact HDrop.tail _ _ | refine HDrop.put ?_ (by rfl) rfl rfl)), ⟨hjk, hjl, by rw [take_succ_eq hu, take_succ_eq hv, hjt, huv]⟩, by omega⟩
                  · -- False
                    refine AGo.cond_false false rfl rfl ?_
                    have hge2 := ge_of_idx hb9
                    have hxy : x = y := by
                      have := take_all hjt hge2 (hjl ▸ hge2)
                      cases x; cases y; simp_all
                    refine AGo.exit ?_
                    refine AGo.region ?_
                    refine AOps.s 28 rfl rfl rfl (q_move (.inl rfl) rfl) ?_
                    refine AOps.s 29 rfl rfl rfl (q_inc rfl rfl hkl hfit.1) ?_
                    refine AOps.s 5 rfl rfl rfl (q_move (.inr rfl) rfl) ?_
                    refine AOps.nil ?_
                    exact ⟨k+1, Drop.mk' (by repeat (first | exact EDrop.new _ _ | refine EDrop.put ?_ (by rfl) rfl)) (by repeat (first | exact HDrop.none _ _ | exact HDrop.tail _ _ | refine HDrop.put ?_ (by rfl) rfl rfl)), ⟨hkl, hr, hl, by rw [take_succ_eq hx, take_succ_eq hy, ht, hxy]⟩, by omega⟩
      · -- False
        refine AGo.cond_false false rfl rfl ?_
        have hge := ge_of_idx hb3
        refine AGo.exit ?_
        refine AGo.seq ?_
        refine AGo.region ?_
        refine AOps.s 4 rfl rfl rfl (q_move (.inr rfl) rfl) ?_
        refine AOps.nil ?_
        refine AGo.ret ?_
        refine ⟨[_], ⟨rfl, trivial⟩, ?_, rfl⟩
        show AV.bool true = _
        rw [decide_eq_true (BFunc.ext' hr (take_all ht hge (hl ▸ hge)))]

set_option maxRecDepth 100000 in
theorem small_ok (b : Blocks) (most : Int) (htight : b.tight) : APure Try.prog 12 [.agg b.cells, .int .i64 most] (fun r => r = .bool (b.small most)) := by
  refine APure.of_body (n := 73) tok Try.func12 rfl rfl ?_
  refine AGo.seq ?_
  refine AGo.slot 0 rfl (fun H ι v => rel_prog) (fun hfit => ?_)
  refine AGo.region ?_
  refine AOps.x 2 rfl rfl rfl (o_box (sz := 2) 0 rfl rfl rfl rfl (Nat.zero_lt_succ _) rfl) ?_
  refine AOps.s 4 rfl rfl rfl (q_move (.inr rfl) rfl) ?_
  refine AOps.nil ?_
  refine AGo.seq ?_
  refine AGo.region ?_
  refine AOps.s 5 rfl rfl rfl (q_move (.inr rfl) rfl) ?_
  refine AOps.nil ?_
  refine AGo.seq ?_
  refine AGo.seq ?_
  refine AGo.region ?_
  refine AOps.s 8 rfl rfl rfl (q_fieldAddr tok rfl rfl rfl rfl rfl rfl) ?_
  refine AOps.s 9 rfl rfl rfl (q_load tok rfl rfl rfl (by first | exact .loc _ | exact .ptr _ _ _ _ _ _ _ _ rfl rfl rfl) rfl) ?_
  refine AOps.s 10 rfl rfl rfl (q_bin rfl rfl rfl rfl) ?_
  refine AOps.s 11 rfl rfl rfl (q_move (.inl rfl) rfl) ?_
  refine AOps.split 11 rfl (fun hb1 => ?_) (fun hb1 => ?_)
  · -- True
    refine AOps.k 12 rfl rfl rfl ?_
    refine AOps.k 13 rfl rfl rfl ?_
    refine AOps.k 14 rfl rfl rfl ?_
    refine AOps.k 15 rfl rfl rfl ?_
    refine AOps.s 16 rfl rfl rfl (q_pick_true true rfl rfl rfl rfl) ?_
    refine AOps.nil ?_
    refine AGo.cond_true true rfl rfl ?_
    refine AGo.seq ?_
    refine AGo.region ?_
    refine AOps.s 4 rfl rfl rfl (q_move (.inr rfl) rfl) ?_
    refine AOps.nil ?_
    refine AGo.ret ?_
    refine ⟨[_], ⟨rfl, trivial⟩, ?_, rfl⟩
    show AV.bool _ = AV.bool _
    congr 1
    exact (small_bad1 (by simp_all <;> omega)).symm
  · -- False
    refine AOps.s 12 rfl rfl rfl (q_fieldAddr tok rfl rfl rfl rfl rfl rfl) ?_
    refine AOps.s 13 rfl rfl rfl (q_load tok rfl rfl rfl (by first | exact .loc _ | exact .ptr _ _ _ _ _ _ _ _ rfl rfl rfl) rfl) ?_
    refine AOps.s 14 rfl rfl rfl (q_len tok rfl rfl rfl rfl rfl) ?_
    refine AOps.s 15 rfl rfl rfl (q_bin rfl rfl rfl rfl) ?_
    refine AOps.s 16 rfl rfl rfl (q_pick_false false rfl rfl rfl rfl) ?_
    refine AOps.nil ?_
    refine AGo.split 16 rfl (fun hb2 => ?_) (fun hb2 => ?_)
    · -- True
      refine AGo.cond_true true rfl rfl ?_
      refine AGo.seq ?_
      refine AGo.region ?_
      refine AOps.s 4 rfl rfl rfl (q_move (.inr rfl) rfl) ?_
      refine AOps.nil ?_
      refine AGo.ret ?_
      refine ⟨[_], ⟨rfl, trivial⟩, ?_, rfl⟩
      show AV.bool _ = AV.bool _
      congr 1
      exact (small_bad1 (by simp_all <;> omega)).symm
    · -- False
      refine AGo.cond_false false rfl rfl ?_
      have h0 : b.words ≤ 500 ∧ b.funcs.length ≤ 10 := by simp_all <;> omega
      refine AGo.skip ?_
      refine AGo.seq ?_
      refine AGo.seq ?_
      refine AGo.region ?_
      refine AOps.s 6 rfl rfl rfl (q_move (.inr rfl) rfl) ?_
      refine AOps.nil ?_
      refine AGo.block ?_
      refine AGo.loopD (γ := Nat) 1 (fun k => ⟨73, (eput (eput (eput (eput eNew 1 (.int .i64 most)) 2 (.ptr 0 1 0 0)) 5 (.int .i64 ((((b.funcs.take k).map BFunc.count).sum : Nat) : Int))) 6 (.int .i64 (k : Int))), (hput (hFrom 1) 0 (.row false 2 [b.cells]))⟩) (fun k => (b.funcs.take k).all BFunc.low = true) (fun k => b.funcs.length - k) 0 (Sub.mk' (by repeat (first | exact ESub.new _ | refine ESub.put ?_ (by rfl))) (by repeat (first | exact HSub.none _ | exact HSub.from_new _ | exact HSub.from_from (by decide) | refine HSub.put ?_ (by rfl) | refine HSub.from_put ?_ (by decide) | refine HSub.from_rm ?_ (by decide)))) rfl (fun _ => hput_free (fun b hb => hFrom_free hb) rfl) ?_
      intro k hk
      refine AGo.seq ?_
      refine AGo.seq ?_
      refine AGo.region ?_
      refine AOps.s 17 rfl rfl rfl (q_move (.inl rfl) rfl) ?_
      refine AOps.s 18 rfl rfl rfl (q_fieldAddr tok rfl rfl rfl rfl rfl rfl) ?_
      refine AOps.s 19 rfl rfl rfl (q_load tok rfl rfl rfl (by first | exact .loc _ | exact .ptr _ _ _ _ _ _ _ _ rfl rfl rfl) rfl) ?_
      refine AOps.s 20 rfl rfl rfl (q_len tok rfl rfl rfl rfl rfl) ?_
      refine AOps.s 21 rfl rfl rfl (q_bin rfl rfl rfl rfl) ?_
      refine AOps.nil ?_
      refine AGo.split 21 rfl (fun hb3 => ?_) (fun hb3 => ?_)
      · -- True
        refine AGo.cond_true true rfl rfl ?_
        have hkl : k < b.funcs.length := lt_of_idx hb3
        obtain ⟨f, hx⟩ := get_of_lt hkl
        refine AGo.skip ?_
        refine AGo.seq ?_
        refine AGo.block ?_
        refine AGo.seq ?_
        refine AGo.seq ?_
        refine AGo.region ?_
        refine AOps.s 24 rfl rfl rfl (q_fieldAddr tok rfl rfl rfl rfl rfl rfl) ?_
        refine AOps.s 25 rfl rfl rfl (q_load tok rfl rfl rfl (by first | exact .loc _ | exact .ptr _ _ _ _ _ _ _ _ rfl rfl rfl) rfl) ?_
        refine AOps.s 26 rfl rfl rfl (q_move (.inl rfl) rfl) ?_
        refine AOps.s 27 rfl rfl rfl (q_index_lst tok rfl rfl rfl rfl rfl rfl (Int.natCast_nonneg _) (idx_map (by assumption)) rfl) ?_
        refine AOps.s 28 rfl rfl rfl (q_fieldAddr tok rfl rfl rfl rfl rfl rfl) ?_
        refine AOps.s 29 rfl rfl rfl (q_load tok rfl rfl rfl (by first | exact .loc _ | exact .ptr _ _ _ _ _ _ _ _ rfl rfl rfl) rfl) ?_
        refine AOps.s 30 rfl rfl rfl (q_bin rfl rfl rfl rfl) ?_
        refine AOps.s 31 rfl rfl rfl (q_move (.inl rfl) rfl) ?_
        refine AOps.split 31 rfl (fun hb4 => ?_) (fun hb4 => ?_)
        · -- True
          refine AOps.k 32 rfl rfl rfl ?_
          refine AOps.k 33 rfl rfl rfl ?_
          refine AOps.k 34 rfl rfl rfl ?_
          refine AOps.k 35 rfl rfl rfl ?_
          refine AOps.k 36 rfl rfl rfl ?_
          refine AOps.k 37 rfl rfl rfl ?_
          refine AOps.k 38 rfl rfl rfl ?_
          refine AOps.k 39 rfl rfl rfl ?_
          refine AOps.s 40 rfl rfl rfl (q_pick_true true rfl rfl rfl rfl) ?_
          refine AOps.nil ?_
          refine AGo.cond_true true rfl rfl ?_
          refine AGo.seq ?_
          refine AGo.region ?_
          refine AOps.s 4 rfl rfl rfl (q_move (.inr rfl) rfl) ?_
          refine AOps.nil ?_
          refine AGo.ret ?_
          refine ⟨[_], ⟨rfl, trivial⟩, ?_, rfl⟩
          show AV.bool _ = AV.bool _
          congr 1
          exact (small_bad2 (all_bad hx (by simp [BFunc.low] at *; omega))).symm
        · -- False
          refine AOps.s 32 rfl rfl rfl (q_fieldAddr tok rfl rfl rfl rfl rfl rfl) ?_
          refine AOps.s 33 rfl rfl rfl (q_load tok rfl rfl rfl (by first | exact .loc _ | exact .ptr _ _ _ _ _ _ _ _ rfl rfl rfl) rfl) ?_
          refine AOps.s 34 rfl rfl rfl (q_move (.inl rfl) rfl) ?_
          refine AOps.s 35 rfl rfl rfl (q_index_lst tok rfl rfl rfl rfl rfl rfl (Int.natCast_nonneg _) (idx_map (by assumption)) rfl) ?_
          refine AOps.s 36 rfl rfl rfl (q_fieldAddr tok rfl rfl rfl rfl rfl rfl) ?_
          refine AOps.s 37 rfl rfl rfl (q_load tok rfl rfl rfl (by first | exact .loc _ | exact .ptr _ _ _ _ _ _ _ _ rfl rfl rfl) rfl) ?_
          refine AOps.s 38 rfl rfl rfl (q_len tok rfl rfl rfl rfl rfl) ?_
          refine AOps.s 39 rfl rfl rfl (q_bin rfl rfl rfl rfl) ?_
          refine AOps.s 40 rfl rfl rfl (q_pick_false false rfl rfl rfl rfl) ?_
          refine AOps.nil ?_
          refine AGo.split 40 rfl (fun hb5 => ?_) (fun hb5 => ?_)
          · -- True
            refine AGo.cond_true true rfl rfl ?_
            refine AGo.seq ?_
            refine AGo.region ?_
            refine AOps.s 4 rfl rfl rfl (q_move (.inr rfl) rfl) ?_
            refine AOps.nil ?_
            refine AGo.ret ?_
            refine ⟨[_], ⟨rfl, trivial⟩, ?_, rfl⟩
            show AV.bool _ = AV.bool _
            congr 1
            exact (small_bad2 (all_bad hx (by simp [BFunc.low] at *; omega))).symm
          · -- False
            refine AGo.cond_false false rfl rfl ?_
            have hlow : BFunc.low f = true := by simp [BFunc.low] at *; omega
            have hlow2 : f.blocks.length ≤ 40 := by simp [BFunc.low] at hlow; omega
            have hn1 := counts_le (l := b.funcs.take k) (m := 10) (fun x hx => htight x (List.mem_of_mem_take hx)) hk (by rw [List.length_take]; omega)
            refine AGo.skip ?_
            refine AGo.seq ?_
            refine AGo.region ?_
            refine AOps.s 7 rfl rfl rfl (q_move (.inr rfl) rfl) ?_
            refine AOps.nil ?_
            refine AGo.block ?_
            refine AGo.loopD (γ := Nat) 1 (fun j => ⟨73, (eput (eput (eput (eput (eput eNew 1 (.int .i64 most)) 2 (.ptr 0 1 0 0)) 5 (.int .i64 ((((b.funcs.take k).map BFunc.count).sum + ((f.blocks.take j).map Block.count).sum : Nat) : Int))) 6 (.int .i64 (k : Int))) 7 (.int .i64 (j : Int))), (hput (hFrom 1) 0 (.row false 2 [b.cells]))⟩) (fun j => True) (fun j => f.blocks.length - j) 0 (Sub.mk' (by repeat (first | exact ESub.new _ | refine ESub.put ?_ (by rfl))) (by repeat (first | exact HSub.none _ | exact HSub.from_new _ | exact HSub.from_from (by decide) | refine HSub.put ?_ (by rfl) | refine HSub.from_put ?_ (by decide) | refine HSub.from_rm ?_ (by decide)))) trivial (fun _ => hput_free (fun b hb => hFrom_free hb) rfl) ?_
            intro j _
            refine AGo.seq ?_
            refine AGo.seq ?_
            refine AGo.region ?_
            refine AOps.s 41 rfl rfl rfl (q_move (.inl rfl) rfl) ?_
            refine AOps.s 42 rfl rfl rfl (q_fieldAddr tok rfl rfl rfl rfl rfl rfl) ?_
            refine AOps.s 43 rfl rfl rfl (q_load tok rfl rfl rfl (by first | exact .loc _ | exact .ptr _ _ _ _ _ _ _ _ rfl rfl rfl) rfl) ?_
            refine AOps.s 44 rfl rfl rfl (q_move (.inl rfl) rfl) ?_
            refine AOps.s 45 rfl rfl rfl (q_index_lst tok rfl rfl rfl rfl rfl rfl (Int.natCast_nonneg _) (idx_map (by assumption)) rfl) ?_
            refine AOps.s 46 rfl rfl rfl (q_fieldAddr tok rfl rfl rfl rfl rfl rfl) ?_
            refine AOps.s 47 rfl rfl rfl (q_load tok rfl rfl rfl (by first | exact .loc _ | exact .ptr _ _ _ _ _ _ _ _ rfl rfl rfl) rfl) ?_
            refine AOps.s 48 rfl rfl rfl (q_len tok rfl rfl rfl rfl rfl) ?_
            refine AOps.s 49 rfl rfl rfl (q_bin rfl rfl rfl rfl) ?_
            refine AOps.nil ?_
            refine AGo.split 49 rfl (fun hb6 => ?_) (fun hb6 => ?_)
            · -- True
              refine AGo.cond_true true rfl rfl ?_
              have hjk : j < f.blocks.length := lt_of_idx hb6
              obtain ⟨x, hj⟩ := get_of_lt hjk
              have hn2 := count_le (l := f.blocks.take j) (m := 40) (fun y hy => htight f (List.mem_of_getElem? hx) y (List.mem_of_mem_take hy)) (by rw [List.length_take]; omega)
              refine AGo.skip ?_
              refine AGo.seq ?_
              refine AGo.block ?_
              refine AGo.region ?_
              refine AOps.s 52 rfl rfl rfl (q_move (.inl rfl) rfl) ?_
              refine AOps.s 53 rfl rfl rfl (q_bin rfl rfl rfl rfl) ?_
              refine AOps.s 54 rfl rfl rfl (q_fieldAddr tok rfl rfl rfl rfl rfl rfl) ?_
              refine AOps.s 55 rfl rfl rfl (q_load tok rfl rfl rfl (by first | exact .loc _ | exact .ptr _ _ _ _ _ _ _ _ rfl rfl rfl) rfl) ?_
              refine AOps.s 56 rfl rfl rfl (q_move (.inl rfl) rfl) ?_
              refine AOps.s 57 rfl rfl rfl (q_index_lst tok rfl rfl rfl rfl rfl rfl (Int.natCast_nonneg _) (idx_map (by assumption)) rfl) ?_
              refine AOps.s 58 rfl rfl rfl (q_fieldAddr tok rfl rfl rfl rfl rfl rfl) ?_
              refine AOps.s 59 rfl rfl rfl (q_load tok rfl rfl rfl (by first | exact .loc _ | exact .ptr _ _ _ _ _ _ _ _ rfl rfl rfl) rfl) ?_
              refine AOps.s 60 rfl rfl rfl (q_move (.inl rfl) rfl) ?_
              refine AOps.s 61 rfl rfl rfl (q_index_lst tok rfl rfl rfl rfl rfl rfl (Int.natCast_nonneg _) (idx_map (by assumption)) rfl) ?_
              refine AOps.s 62 rfl rfl rfl (q_fieldAddr tok rfl rfl rfl rfl rfl rfl) ?_
              refine AOps.s 63 rfl rfl rfl (q_load tok rfl rfl rfl (by first | exact .loc _ | exact .ptr _ _ _ _ _ _ _ _ rfl rfl rfl) rfl) ?_
              refine AOps.s 64 rfl rfl rfl (q_len tok rfl rfl rfl rfl rfl) ?_
              refine AOps.s 65 rfl rfl rfl (q_bin (r := .int .i64 ((((b.funcs.take k).map BFunc.count).sum + ((f.blocks.take (j + 1)).map Block.count).sum : Nat) : Int)) rfl rfl rfl (by rw [sum_succ hj, show x.count = 1 + (List.map Tac.cells x.ins).length by rw [List.length_map]; rfl]; exact count_step hn1 hn2 (show List.length (List.map Tac.cells x.ins) ≤ big by rw [List.length_map]; exact htight f (List.mem_of_getElem? hx) x (List.mem_of_getElem? hj)))) ?_
              refine AOps.s 5 rfl rfl rfl (q_move (.inr rfl) rfl) ?_
              refine AOps.nil ?_
              refine AGo.region ?_
              refine AOps.s 50 rfl rfl rfl (q_move (.inl rfl) rfl) ?_
              refine AOps.s 51 rfl rfl rfl (q_inc rfl rfl hjk (hfit.2 f (List.mem_of_getElem? hx)).1) ?_
              refine AOps.s 7 rfl rfl rfl (q_move (.inr rfl) rfl) ?_
              refine AOps.nil ?_
              exact ⟨j+1, Drop.mk' (by repeat (first | exact EDrop.new _ _ | refine EDrop.put ?_ (by rfl) rfl)) (by repeat (first | exact HDrop.none _ _ | exact HDrop.tail _ _ | refine HDrop.put ?_ (by rfl) rfl rfl)), trivial, by omega⟩
            · -- False
              refine AGo.cond_false false rfl rfl ?_
              have hge2 := ge_of_idx hb6
              refine AGo.exit ?_
              refine AGo.region ?_
              refine AOps.s 22 rfl rfl rfl (q_move (.inl rfl) rfl) ?_
              refine AOps.s 23 rfl rfl rfl (q_inc rfl rfl hkl hfit.1) ?_
              refine AOps.s 6 rfl rfl rfl (q_move (.inr rfl) rfl) ?_
              refine AOps.nil ?_
              exact ⟨k+1, Drop.mk' (by repeat (first | exact EDrop.new _ _ | refine EDrop.put ?_ (by first | rfl | exact congrArg (fun (z : Nat) => some (AV.int .i64 (z : Int))) (by rw [sum_succ hx, BFunc.count, sum_end (p := Block.count) hge2])) rfl)) (by repeat (first | exact HDrop.none _ _ | exact HDrop.tail _ _ | refine HDrop.put ?_ (by rfl) rfl rfl)), all_succ hx hk hlow, by omega⟩
      · -- False
        refine AGo.cond_false false rfl rfl ?_
        have hge := ge_of_idx hb3
        have hall := all_end hk hge
        refine AGo.exit ?_
        refine AGo.seq ?_
        rw [show ((b.funcs.take k).map BFunc.count).sum = b.count from sum_end hge]
        refine AGo.region ?_
        refine AOps.s 66 rfl rfl rfl (q_move (.inl rfl) rfl) ?_
        refine AOps.s 67 rfl rfl rfl (q_move (.inl rfl) rfl) ?_
        refine AOps.s 68 rfl rfl rfl (q_bin rfl rfl rfl rfl) ?_
        refine AOps.s 69 rfl rfl rfl (q_move (.inl rfl) rfl) ?_
        refine AOps.split 69 rfl (fun hb7 => ?_) (fun hb7 => ?_)
        · -- True
          refine AOps.s 70 rfl rfl rfl (q_load tok rfl rfl rfl (by first | exact .loc _ | exact .ptr _ _ _ _ _ _ _ _ rfl rfl rfl) rfl) ?_
          refine AOps.x 71 rfl rfl rfl (o_pure rfl Try.func22 (by kernel_rfl) rfl rfl rfl (right_ok _)) ?_
          refine AOps.s 72 rfl rfl rfl (q_pick_true true rfl rfl rfl rfl) ?_
          refine AOps.s 4 rfl rfl rfl (q_move (.inr rfl) rfl) ?_
          refine AOps.nil ?_
          refine AGo.ret ?_
          refine ⟨[_], ⟨rfl, trivial⟩, ?_, rfl⟩
          show AV.bool _ = AV.bool _
          congr 1
          rw [small_all h0.1 h0.2 hall]
          first | (simp_all; done) | (simp_all; omega)
        · -- False
          refine AOps.k 70 rfl rfl rfl ?_
          refine AOps.k 71 rfl rfl rfl ?_
          refine AOps.s 72 rfl rfl rfl (q_pick_false false rfl rfl rfl rfl) ?_
          refine AOps.s 4 rfl rfl rfl (q_move (.inr rfl) rfl) ?_
          refine AOps.nil ?_
          refine AGo.ret ?_
          refine ⟨[_], ⟨rfl, trivial⟩, ?_, rfl⟩
          show AV.bool _ = AV.bool _
          congr 1
          rw [small_all h0.1 h0.2 hall]
          first | (simp_all; done) | (simp_all; omega)

end Go.Proofs.Ytidfabbnobipkaa.Sv

namespace Go.Proofs.Ytidfabbnobipkaa.Sv
open Go
set_option linter.unusedVariables false
set_option linter.unusedSimpArgs false

set_option maxRecDepth 100000 in
theorem next_ok (f : BFunc) (hn : f.blocks.length ≤ 100000) : APure Try.prog 27 [.agg f.cells] (fun r => r = pathsAV f.nexts) := by
  refine APure.of_body (n := 40) tok Try.func27 rfl rfl ?_
  refine AGo.seq ?_
  refine AGo.region ?_
  refine AOps.x 1 rfl rfl rfl (o_box (sz := 2) 0 rfl rfl rfl rfl (Nat.zero_lt_succ _) rfl) ?_
  refine AOps.s 2 rfl rfl rfl (q_move (.inr rfl) rfl) ?_
  refine AOps.nil ?_
  refine AGo.seq ?_
  refine AGo.region ?_
  refine AOps.s 6 rfl rfl rfl (q_fieldAddr tok rfl rfl rfl rfl rfl rfl) ?_
  refine AOps.s 7 rfl rfl rfl (q_load tok rfl rfl rfl (by first | exact .loc _ | exact .ptr _ _ _ _ _ _ _ _ rfl rfl rfl) rfl) ?_
  refine AOps.s 8 rfl rfl rfl (q_len tok rfl rfl rfl rfl rfl) ?_
  refine AOps.x 9 rfl rfl rfl (o_makeSlice tok (n := f.blocks.length) (m := f.blocks.length) 1 true rfl rfl rfl (by simp) (by simp) rfl rfl rfl rfl rfl (Nat.zero_lt_succ _) rfl (Nat.le_refl _) (by show 24 * f.blocks.length ≤ _; omega) (by simp only [maxLen]; omega)) ?_
  refine AOps.s 3 rfl rfl rfl (q_move (.inr rfl) rfl) ?_
  refine AOps.nil ?_
  refine AGo.seq ?_
  refine AGo.seq ?_
  refine AGo.ghost (Ghost.weakRow 1 (es' := List.replicate f.blocks.length [.lst false []]) rfl (by simp) (weak_nils _)) ?_
  refine AGo.region ?_
  refine AOps.s 10 rfl rfl rfl (q_fieldAddr tok rfl rfl rfl rfl rfl rfl) ?_
  refine AOps.s 11 rfl rfl rfl (q_load tok rfl rfl rfl (by first | exact .loc _ | exact .ptr _ _ _ _ _ _ _ _ rfl rfl rfl) rfl) ?_
  refine AOps.s 12 rfl rfl rfl (q_len tok rfl rfl rfl rfl rfl) ?_
  refine AOps.s 13 rfl rfl rfl (q_move (.inl rfl) rfl) ?_
  refine AOps.nil ?_
  refine AGo.block ?_
  refine AGo.loopD (γ := Nat) 2 (fun k => ⟨40, (eput (eput (eput (eput eNew 3 (.ref 1 f.blocks.length 0 f.blocks.length)) 11 (blocksAV f.blocks)) 12 (.int .i64 (f.blocks.length : Int))) 13 (.int .i64 (k : Int))), (hput (hput (hFrom 2) 0 (.row false 2 [f.cells])) 1 (.row true 1 (((f.nexts.take (k)).map pathCell) ++ List.replicate (f.blocks.length - (k)) [.lst false []])))⟩) (fun k => k ≤ f.blocks.length) (fun k => f.blocks.length - k) 0 (Sub.mk' (by repeat (first | exact ESub.new _ | refine ESub.put ?_ (by first | rfl | exact congrArg (fun (n : Nat) => some (AV.int .i64 (n : Int))) (by simp)))) (by repeat (first | exact HSub.none _ | exact HSub.from_new _ | exact HSub.from_from (by decide) | refine HSub.put ?_ (by rfl) | refine HSub.from_put ?_ (by decide)))) (Nat.zero_le _) (fun _ => hput_free (hput_free (fun b hb => hFrom_free hb) rfl) rfl) ?_
  intro k hk
  refine AGo.seq ?_
  refine AGo.region ?_
  refine AOps.s 14 rfl rfl rfl (q_bin rfl rfl rfl rfl) ?_
  refine AOps.nil ?_
  refine AGo.seq ?_
  refine AGo.split 14 rfl (fun hb1 => ?_) (fun hb1 => ?_)
  · -- True
    refine AGo.cond_true true rfl rfl ?_
    have hkl : k < f.blocks.length := by simpa using hb1
    obtain ⟨x, hx⟩ := get_of_lt hkl
    have hnx := nexts_get hx
    refine AGo.skip ?_
    refine AGo.seq ?_
    refine AGo.block ?_
    refine AGo.seq ?_
    refine AGo.region ?_
    refine AOps.s 15 rfl rfl rfl (q_move (.inl rfl) rfl) ?_
    refine AOps.s 16 rfl rfl rfl (q_index_lst tok rfl rfl rfl rfl rfl rfl (Int.natCast_nonneg _) (idx_map (by assumption)) rfl) ?_
    refine AOps.s 17 rfl rfl rfl (q_load tok rfl rfl rfl (by first | exact .loc _ | exact .ptr _ _ _ _ _ _ _ _ rfl rfl rfl) rfl) ?_
    refine AOps.x 5 rfl rfl rfl (o_alloc tok 2 rfl rfl rfl rfl (Nat.zero_lt_succ _) rfl) ?_
    refine AOps.s 4 rfl rfl rfl (q_move (.inr rfl) rfl) ?_
    refine AOps.w rfl rfl (o_store tok rfl rfl rfl rfl rfl rfl rfl rfl rfl (by decide) rfl (by first | exact fun _ => rfl | (intro h; cases h))) ?_
    refine AOps.nil ?_
    refine AGo.seq ?_
    refine AGo.region ?_
    refine AOps.s 18 rfl rfl rfl (q_fieldAddr tok rfl rfl rfl rfl rfl rfl) ?_
    refine AOps.s 19 rfl rfl rfl (q_load tok rfl rfl rfl (by first | exact .loc _ | exact .ptr _ _ _ _ _ _ _ _ rfl rfl rfl) rfl) ?_
    refine AOps.nil ?_
    refine AGo.block ?_
    refine AGo.seq ?_
    refine AGo.region ?_
    refine AOps.s 21 rfl rfl rfl (q_bin rfl rfl rfl rfl) ?_
    refine AOps.s 20 rfl rfl rfl (q_move (.inr rfl) rfl) ?_
    refine AOps.nil ?_
    refine AGo.split 20 rfl (fun hb2 => ?_) (fun hb2 => ?_)
    · -- True
      refine AGo.cond_true true rfl rfl ?_
      refine AGo.region ?_
      refine AOps.s 22 rfl rfl rfl (q_move (.inl rfl) rfl) ?_
      refine AOps.s 23 rfl rfl rfl (q_move (.inl rfl) rfl) ?_
      refine AOps.s 24 rfl rfl rfl (q_fieldAddr tok rfl rfl rfl rfl rfl rfl) ?_
      refine AOps.s 25 rfl rfl rfl (q_load tok rfl rfl rfl (by first | exact .loc _ | exact .ptr _ _ _ _ _ _ _ _ rfl rfl rfl) rfl) ?_
      refine AOps.x 26 rfl rfl rfl (o_lit' tok rfl rfl rfl rfl rfl rfl (by decide) rfl rfl rfl rfl rfl rfl) ?_
      refine AOps.s 27 rfl rfl rfl (q_index_ref tok rfl rfl rfl rfl rfl rfl rfl (fill_len (nexts_length f) (Nat.le_of_lt hkl)) rfl (Int.natCast_nonneg _) (by omega)) ?_
      refine AOps.w rfl rfl (o_store tok rfl rfl rfl rfl rfl rfl (fill_len (nexts_length f) (Nat.le_of_lt hkl)) (fill_get (nexts_length f) hkl) rfl (by decide) rfl (by first | exact fun _ => rfl | (intro h; cases h))) ?_
      refine AOps.nil ?_
      refine AGo.region ?_
      refine AOps.s 38 rfl rfl rfl (q_inc rfl rfl hkl (show f.blocks.length ≤ maxLen by simp only [maxLen]; omega)) ?_
      refine AOps.s 13 rfl rfl rfl (q_move (.inl rfl) rfl) ?_
      refine AOps.nil ?_
      exact ⟨k+1, Drop.mk' (by repeat (first | exact EDrop.new _ _ | refine EDrop.put ?_ (by rfl) rfl)) (by repeat (first | exact HDrop.none _ _ | exact HDrop.tail _ _ | refine HDrop.put ?_ (by first | rfl | exact congrArg (fun es => some (AObj.row true 1 es)) (fill_put (f := pathCell) (x := [x.to]) (nexts_length f) (by rw [hnx]; simp [Block.nexts, *])) | exact congrArg (fun es => some (AObj.row true 1 es)) (fill_put (f := pathCell) (x := [x.to, x.els]) (nexts_length f) (by rw [hnx]; simp [Block.nexts, *])) | exact congrArg (fun es => some (AObj.row true 1 es)) (fill_skip (f := pathCell) (x := []) (nexts_length f) (by rw [hnx]; simp [Block.nexts, *]) rfl)) rfl rfl)), hkl, by omega⟩
    · -- False
      refine AGo.cond_false false rfl rfl ?_
      refine AGo.seq ?_
      refine AGo.region ?_
      refine AOps.s 29 rfl rfl rfl (q_bin rfl rfl rfl rfl) ?_
      refine AOps.s 28 rfl rfl rfl (q_move (.inr rfl) rfl) ?_
      refine AOps.nil ?_
      refine AGo.split 28 rfl (fun hb3 => ?_) (fun hb3 => ?_)
      · -- True
        refine AGo.cond_true true rfl rfl ?_
        refine AGo.region ?_
        refine AOps.s 30 rfl rfl rfl (q_move (.inl rfl) rfl) ?_
        refine AOps.s 31 rfl rfl rfl (q_move (.inl rfl) rfl) ?_
        refine AOps.s 32 rfl rfl rfl (q_fieldAddr tok rfl rfl rfl rfl rfl rfl) ?_
        refine AOps.s 33 rfl rfl rfl (q_load tok rfl rfl rfl (by first | exact .loc _ | exact .ptr _ _ _ _ _ _ _ _ rfl rfl rfl) rfl) ?_
        refine AOps.s 34 rfl rfl rfl (q_fieldAddr tok rfl rfl rfl rfl rfl rfl) ?_
        refine AOps.s 35 rfl rfl rfl (q_load tok rfl rfl rfl (by first | exact .loc _ | exact .ptr _ _ _ _ _ _ _ _ rfl rfl rfl) rfl) ?_
        refine AOps.x 36 rfl rfl rfl (o_lit' tok rfl rfl rfl rfl rfl rfl (by decide) rfl rfl rfl rfl rfl rfl) ?_
        refine AOps.s 37 rfl rfl rfl (q_index_ref tok rfl rfl rfl rfl rfl rfl rfl (fill_len (nexts_length f) (Nat.le_of_lt hkl)) rfl (Int.natCast_nonneg _) (by omega)) ?_
        refine AOps.w rfl rfl (o_store tok rfl rfl rfl rfl rfl rfl (fill_len (nexts_length f) (Nat.le_of_lt hkl)) (fill_get (nexts_length f) hkl) rfl (by decide) rfl (by first | exact fun _ => rfl | (intro h; cases h))) ?_
        refine AOps.nil ?_
        refine AGo.region ?_
        refine AOps.s 38 rfl rfl rfl (q_inc rfl rfl hkl (show f.blocks.length ≤ maxLen by simp only [maxLen]; omega)) ?_
        refine AOps.s 13 rfl rfl rfl (q_move (.inl rfl) rfl) ?_
        refine AOps.nil ?_
        exact ⟨k+1, Drop.mk' (by repeat (first | exact EDrop.new _ _ | refine EDrop.put ?_ (by rfl) rfl)) (by repeat (first | exact HDrop.none _ _ | exact HDrop.tail _ _ | refine HDrop.put ?_ (by first | rfl | exact congrArg (fun es => some (AObj.row true 1 es)) (fill_put (f := pathCell) (x := [x.to]) (nexts_length f) (by rw [hnx]; simp [Block.nexts, *])) | exact congrArg (fun es => some (AObj.row true 1 es)) (fill_put (f := pathCell) (x := [x.to, x.els]) (nexts_length f) (by rw [hnx]; simp [Block.nexts, *])) | exact congrArg (fun es => some (AObj.row true 1 es)) (fill_skip (f := pathCell) (x := []) (nexts_length f) (by rw [hnx]; simp [Block.nexts, *]) rfl)) rfl rfl)), hkl, by omega⟩
      · -- False
        refine AGo.cond_false false rfl rfl ?_
        refine AGo.skip ?_
        refine AGo.region ?_
        refine AOps.s 38 rfl rfl rfl (q_inc rfl rfl hkl (show f.blocks.length ≤ maxLen by simp only [maxLen]; omega)) ?_
        refine AOps.s 13 rfl rfl rfl (q_move (.inl rfl) rfl) ?_
        refine AOps.nil ?_
        exact ⟨k+1, Drop.mk' (by repeat (first | exact EDrop.new _ _ | refine EDrop.put ?_ (by rfl) rfl)) (by repeat (first | exact HDrop.none _ _ | exact HDrop.tail _ _ | refine HDrop.put ?_ (by first | rfl | exact congrArg (fun es => some (AObj.row true 1 es)) (fill_put (f := pathCell) (x := [x.to]) (nexts_length f) (by rw [hnx]; simp [Block.nexts, *])) | exact congrArg (fun es => some (AObj.row true 1 es)) (fill_put (f := pathCell) (x := [x.to, x.els]) (nexts_length f) (by rw [hnx]; simp [Block.nexts, *])) | exact congrArg (fun es => some (AObj.row true 1 es)) (fill_skip (f := pathCell) (x := []) (nexts_length f) (by rw [hnx]; simp [Block.nexts, *]) rfl)) rfl rfl)), hkl, by omega⟩
  · -- False
    refine AGo.cond_false false rfl rfl ?_
    have hge : f.blocks.length ≤ k := by simpa using hb1
    refine AGo.exit ?_
    refine AGo.seq ?_
    refine AGo.ghost (.freeze 3 1 rfl rfl (fill_len (nexts_length f) hk)) ?_
    refine AGo.region ?_
    refine AOps.s 39 rfl rfl rfl (q_move (.inl rfl) rfl) ?_
    refine AOps.s 2 rfl rfl rfl (q_move (.inr rfl) rfl) ?_
    refine AOps.nil ?_
    refine AGo.ret ?_
    refine ⟨[_], ⟨rfl, trivial⟩, ?_, rfl⟩
    show AV.lst false _ = AV.lst false _
    rw [fill_end (nexts_length f) hge]
    rfl

set_option maxRecDepth 100000 in
theorem into_ok (next : List (List Int)) (hnl : next.length ≤ 100000) (b : Int) (s : DS) (es : List (List AV)) (hl : s.been.length = next.length) (hw : WayIn next.length s es) : ACall Try.prog 51 [.int .i64 b, .ptr 1 1 0 0, .ptr 2 1 0 0, .ptr 3 1 0 0] (hput (hput (hput (hput (hput hNew 0 (.row true 1 ((s).been.map boolCells))) 1 (.row false 1 [[pathsAV next]])) 2 (.row false 1 [[.ref 0 next.length 0 next.length]])) 3 (.row false 1 [[.ref 4 (es).length 0 (s).way.length]])) 4 (.row true 2 (es))) (fun r h' => r = .tup [] ∧ HSub (hput (hput (hput (hput (hput hNone 0 (.row true 1 (((dinto b s)).been.map boolCells))) 1 (.row false 1 [[pathsAV next]])) 2 (.row false 1 [[.ref 0 next.length 0 next.length]])) 3 (.row false 1 [[.ref 4 ((ies b s es)).length 0 ((dinto b s)).way.length]])) 4 (.row true 2 ((ies b s es)))) h') := by
  refine ACall.of_body (n := 28) tok Try.func51 rfl rfl ?_
  refine AGo.seq ?_
  refine AGo.region ?_
  refine AOps.s 5 rfl rfl rfl (q_move (.inl rfl) rfl) ?_
  refine AOps.s 6 rfl rfl rfl (q_bin rfl rfl rfl rfl) ?_
  refine AOps.s 7 rfl rfl rfl (q_move (.inl rfl) rfl) ?_
  refine AOps.split 7 rfl (fun hb1 => ?_) (fun hb1 => ?_)
  · -- True
    refine AOps.s 8 rfl rfl rfl (q_move (.inl rfl) rfl) ?_
    refine AOps.s 9 rfl rfl rfl (q_load tok rfl rfl rfl (by first | exact .loc _ | exact .ptr _ _ _ _ _ _ _ _ rfl rfl rfl) rfl) ?_
    refine AOps.s 10 rfl rfl rfl (q_len tok rfl rfl rfl rfl rfl) ?_
    refine AOps.s 11 rfl rfl rfl (q_bin rfl rfl rfl rfl) ?_
    refine AOps.s 12 rfl rfl rfl (q_pick_true true rfl rfl rfl rfl) ?_
    refine AOps.s 13 rfl rfl rfl (q_move (.inl rfl) rfl) ?_
    refine AOps.split 13 rfl (fun hb2 => ?_) (fun hb2 => ?_)
    · -- True
      have hb0 : 0 ≤ b ∧ b < s.been.length := by simp_all [pathsAV] <;> omega
      obtain ⟨v, hv⟩ := get_of_lt (l := s.been) (k := b.toNat) (by omega)
      refine AOps.s 14 rfl rfl rfl (q_load tok rfl rfl rfl (by first | exact .loc _ | exact .ptr _ _ _ _ _ _ _ _ rfl rfl rfl) rfl) ?_
      refine AOps.s 15 rfl rfl rfl (q_move (.inl rfl) rfl) ?_
      refine AOps.s 16 rfl rfl rfl (q_index_ref tok rfl rfl rfl rfl rfl rfl rfl (by simp [hl]) rfl hb0.1 (by omega)) ?_
      refine AOps.s 17 rfl rfl rfl (q_load tok rfl rfl rfl (.ptr _ _ _ _ _ _ _ _ rfl (by simp [hl]) (show _ = some [AV.bool v] by rw [Nat.zero_add, List.getElem?_map, hv]; rfl)) rfl) ?_
      refine AOps.s 18 rfl rfl rfl (q_not rfl rfl) ?_
      refine AOps.s 19 rfl rfl rfl (q_pick_true true rfl rfl rfl rfl) ?_
      refine AOps.nil ?_
      refine AGo.split 19 rfl (fun hb3 => ?_) (fun hb3 => ?_)
      · -- True
        refine AGo.cond_true true rfl rfl ?_
        have hnb : notBeen s.been b = true := by rw [notBeen, hv]; simp_all
        have hcap := hw.cap
        have hle := hw.le
        refine AGo.seq ?_
        refine AGo.region ?_
        refine AOps.s 20 rfl rfl rfl (q_load tok rfl rfl rfl (by first | exact .loc _ | exact .ptr _ _ _ _ _ _ _ _ rfl rfl rfl) rfl) ?_
        refine AOps.s 21 rfl rfl rfl (q_move (.inl rfl) rfl) ?_
        refine AOps.s 22 rfl rfl rfl (q_index_ref tok rfl rfl rfl rfl rfl rfl rfl (by simp [hl]) rfl hb0.1 (by omega)) ?_
        refine AOps.w rfl rfl (o_store tok rfl rfl rfl rfl rfl rfl (by simp [hl]) (show _ = some [AV.bool v] by rw [Nat.zero_add, List.getElem?_map, hv]; rfl) rfl (by decide) rfl (by first | exact fun _ => rfl | (intro h; cases h))) ?_
        refine AOps.nil ?_
        refine AGo.region ?_
        refine AOps.s 23 rfl rfl rfl (q_load tok rfl rfl rfl (by first | exact .loc _ | exact .ptr _ _ _ _ _ _ _ _ rfl rfl rfl) rfl) ?_
        refine AOps.s 24 rfl rfl rfl (q_move (.inl rfl) rfl) ?_
        refine AOps.s 25 rfl rfl rfl (q_build tok rfl rfl rfl rfl rfl (by decide) rfl rfl rfl) ?_
        refine AOps.x 26 rfl rfl rfl (o_lit' tok rfl rfl rfl rfl rfl rfl (by decide) rfl rfl rfl rfl rfl rfl) ?_
        refine AOps.x 27 rfl rfl rfl (o_push tok (es := es) rfl rfl rfl rfl rfl rfl rfl rfl rfl rfl hw.le rfl rfl (Nat.zero_lt_succ _) (.lst _ _) rfl (fun _ => rfl) (by show _ * 16 ≤ _; omega) (by simp only [maxLen]; omega)) ?_
        refine AOps.w rfl rfl (o_store tok rfl rfl rfl rfl rfl rfl rfl rfl rfl (by decide) rfl (by first | exact fun _ => rfl | (intro h; cases h))) ?_
        refine AOps.nil ?_
        refine ⟨[], trivial, rfl, ?_⟩
        rw [show dinto b s = _ from dinto_eq hnb, show ies b s es = _ from ies_eq hnb]
        exact HSub.put (HSub.put (HSub.put (HSub.put (HSub.put (HSub.none _) (by first | rfl | exact congrArg (fun es => some (AObj.row true 1 es)) (been_set _ _ _))) rfl) rfl) (by first | rfl | exact congrArg (fun m => some (AObj.row false 1 [[AV.ref 4 _ 0 m]])) (by simp))) (by rfl)
      · -- False
        refine AGo.cond_false false rfl rfl ?_
        have hnb : notBeen s.been b = false := by
          rw [Bool.eq_false_iff]
          intro h
          obtain ⟨h1, h2, h3⟩ := notBeen_get h
          first | (simp_all [pathsAV]; done) | (simp_all [pathsAV]; omega)
        refine AGo.skip ?_
        refine ⟨[], trivial, rfl, ?_⟩
        rw [show dinto b s = _ from dinto_eq hnb, show ies b s es = _ from ies_eq hnb]
        exact HSub.put (HSub.put (HSub.put (HSub.put (HSub.put (HSub.none _) (by first | rfl | exact congrArg (fun es => some (AObj.row true 1 es)) (been_set _ _ _))) rfl) rfl) (by first | rfl | exact congrArg (fun m => some (AObj.row false 1 [[AV.ref 4 _ 0 m]])) (by simp))) (by rfl)
    · -- False
      refine AOps.k 14 rfl rfl rfl ?_
      refine AOps.k 15 rfl rfl rfl ?_
      refine AOps.k 16 rfl rfl rfl ?_
      refine AOps.k 17 rfl rfl rfl ?_
      refine AOps.k 18 rfl rfl rfl ?_
      refine AOps.s 19 rfl rfl rfl (q_pick_false false rfl rfl rfl rfl) ?_
      refine AOps.nil ?_
      refine AGo.cond_false false rfl rfl ?_
      have hnb : notBeen s.been b = false := by
        rw [Bool.eq_false_iff]
        intro h
        obtain ⟨h1, h2, h3⟩ := notBeen_get h
        first | (simp_all [pathsAV]; done) | (simp_all [pathsAV]; omega)
      refine AGo.skip ?_
      refine ⟨[], trivial, rfl, ?_⟩
      rw [show dinto b s = _ from dinto_eq hnb, show ies b s es = _ from ies_eq hnb]
      exact HSub.put (HSub.put (HSub.put (HSub.put (HSub.put (HSub.none _) (by first | rfl | exact congrArg (fun es => some (AObj.row true 1 es)) (been_set _ _ _))) rfl) rfl) (by first | rfl | exact congrArg (fun m => some (AObj.row false 1 [[AV.ref 4 _ 0 m]])) (by simp))) (by rfl)
  · -- False
    refine AOps.k 8 rfl rfl rfl ?_
    refine AOps.k 9 rfl rfl rfl ?_
    refine AOps.k 10 rfl rfl rfl ?_
    refine AOps.k 11 rfl rfl rfl ?_
    refine AOps.s 12 rfl rfl rfl (q_pick_false false rfl rfl rfl rfl) ?_
    refine AOps.s 13 rfl rfl rfl (q_move (.inl rfl) rfl) ?_
    refine AOps.k 14 rfl rfl rfl ?_
    refine AOps.k 15 rfl rfl rfl ?_
    refine AOps.k 16 rfl rfl rfl ?_
    refine AOps.k 17 rfl rfl rfl ?_
    refine AOps.k 18 rfl rfl rfl ?_
    refine AOps.s 19 rfl rfl rfl (q_pick_false false rfl rfl rfl rfl) ?_
    refine AOps.nil ?_
    refine AGo.cond_false false rfl rfl ?_
    have hnb : notBeen s.been b = false := by
      rw [Bool.eq_false_iff]
      intro h
      obtain ⟨h1, h2, h3⟩ := notBeen_get h
      first | (simp_all [pathsAV]; done) | (simp_all [pathsAV]; omega)
    refine AGo.skip ?_
    refine ⟨[], trivial, rfl, ?_⟩
    rw [show dinto b s = _ from dinto_eq hnb, show ies b s es = _ from ies_eq hnb]
    exact HSub.put (HSub.put (HSub.put (HSub.put (HSub.put (HSub.none _) (by first | rfl | exact congrArg (fun es => some (AObj.row true 1 es)) (been_set _ _ _))) rfl) rfl) (by first | rfl | exact congrArg (fun m => some (AObj.row false 1 [[AV.ref 4 _ 0 m]])) (by simp))) (by rfl)

set_option maxRecDepth 100000 in
theorem idle_ok (b : Int) : ACall Try.prog 42 [.int .i64 b] hNew (fun r h' => r = .tup [] ∧ HSub hNone h') := by
  refine ACall.of_body (n := 2) tok Try.func42 rfl rfl ?_
  refine AGo.skip ?_
  exact ⟨[], trivial, rfl, HSub.none _⟩

set_option maxRecDepth 100000 in
theorem walk_ok (next : List (List Int)) (hnl : next.length ≤ 100000) (hsm : ∀ l ∈ next, l.length ≤ 100000) (been : List Bool) (hbl : been.length = next.length) : ACall Try.prog 41 [pathsAV next, .ref 0 next.length 0 next.length, .fn (.func 42) [] []] (hput hNew 0 (.row true 1 (been.map boolCells))) (fun r h' => r = .tup [] ∧ HSub (hput hNone 0 (.row true 1 ((dreach next been).map boolCells))) h') := by
  refine ACall.of_body (n := 69) tok Try.func41 rfl rfl ?_
  refine AGo.seq ?_
  refine AGo.region ?_
  refine AOps.x 3 rfl rfl rfl (o_box (sz := 1) 1 rfl rfl rfl rfl (Nat.zero_lt_succ _) rfl) ?_
  refine AOps.x 4 rfl rfl rfl (o_box (sz := 1) 2 rfl rfl rfl rfl (Nat.zero_lt_succ _) rfl) ?_
  refine AOps.nil ?_
  refine AGo.seq ?_
  refine AGo.region ?_
  refine AOps.x 6 rfl rfl rfl (o_alloc tok 3 rfl rfl rfl rfl (Nat.zero_lt_succ _) rfl) ?_
  refine AOps.nil ?_
  refine AGo.seq ?_
  refine AGo.ghost (.dryCell 3 0 0 4 2 true rfl rfl rfl rfl rfl (by decide)) ?_
  refine AGo.region ?_
  refine AOps.s 10 rfl rfl rfl (q_makeFunc rfl rfl rfl) ?_
  refine AOps.s 7 rfl rfl rfl (q_move (.inr rfl) rfl) ?_
  refine AOps.nil ?_
  refine AGo.seq ?_
  refine AGo.region ?_
  refine AOps.s 11 rfl rfl rfl (q_move (.inl rfl) rfl) ?_
  refine AOps.x 12 rfl rfl rfl (o_callF (hc := (hput (hput (hput (hput (hput hNew 0 (.row true 1 (((DS.mk been [])).been.map boolCells))) 1 (.row false 1 [[pathsAV next]])) 2 (.row false 1 [[.ref 0 next.length 0 next.length]])) 3 (.row false 1 [[.ref 4 (([] : List (List AV))).length 0 ((DS.mk been [])).way.length]])) 4 (.row true 2 (([] : List (List AV)))))) (hw := (hput (hput (hput (hput (hput hNone 0 (.row true 1 (((dinto 0 (DS.mk been []))).been.map boolCells))) 1 (.row false 1 [[pathsAV next]])) 2 (.row false 1 [[.ref 0 next.length 0 next.length]])) 3 (.row false 1 [[.ref 4 ((ies 0 (DS.mk been []) ([] : List (List AV)))).length 0 ((dinto 0 (DS.mk been []))).way.length]])) 4 (.row true 2 ((ies 0 (DS.mk been []) ([] : List (List AV))))))) [4, 3, 2, 1, 0] [(0, (.row true 1 (((dinto 0 (DS.mk been []))).been.map boolCells))), (1, (.row false 1 [[pathsAV next]])), (2, (.row false 1 [[.ref 0 next.length 0 next.length]])), (3, (.row false 1 [[.ref 4 ((ies 0 (DS.mk been []) ([] : List (List AV)))).length 0 ((dinto 0 (DS.mk been []))).way.length]])), (4, (.row true 2 ((ies 0 (DS.mk been []) ([] : List (List AV))))))] rfl rfl Try.func51 (by kernel_rfl) rfl rfl rfl ⟨⟨_, rfl, rfl⟩, ⟨_, rfl, rfl⟩, ⟨_, rfl, rfl⟩, ⟨_, rfl, rfl⟩, ⟨_, rfl, rfl⟩, trivial⟩ rfl (hres_cons rfl (hres_cons rfl (hres_cons rfl (hres_cons rfl (hres_cons rfl (hres_nil _)))))) ⟨⟨_, rfl, rfl, rfl⟩, ⟨_, rfl, rfl, rfl⟩, ⟨_, rfl, rfl, rfl⟩, ⟨_, rfl, rfl, rfl⟩, ⟨_, rfl, rfl, rfl⟩, trivial⟩ rfl (into_ok next hnl 0 (DS.mk been []) ([] : List (List AV)) hbl (way_first hbl))) ?_
  refine AOps.nil ?_
  refine AGo.block ?_
  refine AGo.loopD (γ := FW) 5 (fun q => ⟨69, (eput (eput (eput (eput (eput eNew 2 (.fn (.func 42) [] [])) 3 (.ptr 1 1 0 0)) 4 (.ptr 2 1 0 0)) 6 (.ptr 3 1 0 0)) 7 (.fn (.func 51) [] [.ptr 1 1 0 0, .ptr 2 1 0 0, .ptr 3 1 0 0])), (hput (hput (hput (hput (hput (hFrom 5) 0 (.row true 1 ((q.s).been.map boolCells))) 1 (.row false 1 [[pathsAV next]])) 2 (.row false 1 [[.ref 0 next.length 0 next.length]])) 3 (.row false 1 [[.ref 4 (q.es).length 0 (q.s).way.length]])) 4 (.row true 2 (q.es)))⟩) (fun q => FWInv next (drun next (dmu next (dstart been) + 1) (dstart been)) q) (fun q => q.g) ⟨dstart been, ies 0 (DS.mk been []) [], dmu next (dstart been) + 1⟩ (Sub.mk' (by repeat (first | exact ESub.new _ | refine ESub.put ?_ (by rfl))) (by repeat (first | exact HSub.none _ | exact HSub.from_new _ | exact HSub.from_from (by decide) | refine HSub.put ?_ (by rfl) | refine HSub.from_put ?_ (by decide)))) (FWInv.first hbl) (fun _ => hput_free (hput_free (hput_free (hput_free (hput_free (fun b hb => hFrom_free hb) rfl) rfl) rfl) rfl) rfl) ?_
  intro q hF
  refine AGo.seq ?_
  refine AGo.seq ?_
  refine AGo.region ?_
  refine AOps.s 13 rfl rfl rfl (q_load tok rfl rfl rfl (by first | exact .loc _ | exact .ptr _ _ _ _ _ _ _ _ rfl rfl rfl) rfl) ?_
  refine AOps.s 14 rfl rfl rfl (q_len tok rfl rfl rfl rfl rfl) ?_
  refine AOps.s 15 rfl rfl rfl (q_bin rfl rfl rfl rfl) ?_
  refine AOps.nil ?_
  refine AGo.split 15 rfl (fun hb1 => ?_) (fun hb1 => ?_)
  · -- True
    refine AGo.cond_true true rfl rfl ?_
    have hpos : 0 < q.s.way.length := by simpa using hb1
    obtain ⟨⟨b, i⟩, hp⟩ : ∃ p, q.s.way.getLast? = some p := ⟨_, List.getLast?_eq_some_getLast (List.ne_nil_of_length_pos hpos)⟩
    have htop := (hF.way.top hp).1
    have hbi := hF.ok.way (b, i) (by rw [way_last hp]; simp)
    simp only at hbi
    obtain ⟨l, hnx⟩ := get_of_lt (l := next) (k := b.toNat) (by omega)
    have hrl : rowAt next b = l := by simp [rowAt, hnx]
    rw [hrl] at hbi
    refine AGo.skip ?_
    refine AGo.block ?_
    refine AGo.seq ?_
    refine AGo.region ?_
    refine AOps.s 16 rfl rfl rfl (q_load tok rfl rfl rfl (by first | exact .loc _ | exact .ptr _ _ _ _ _ _ _ _ rfl rfl rfl) rfl) ?_
    refine AOps.s 17 rfl rfl rfl (q_load tok rfl rfl rfl (by first | exact .loc _ | exact .ptr _ _ _ _ _ _ _ _ rfl rfl rfl) rfl) ?_
    refine AOps.s 18 rfl rfl rfl (q_len tok rfl rfl rfl rfl rfl) ?_
    refine AOps.s 19 rfl rfl rfl (q_bin (r := .int .i64 ((q.s.way.length - 1 : Nat) : Int)) rfl rfl rfl (len_pred hpos (by have := hF.way.cap; have := hF.way.le; omega))) ?_
    refine AOps.s 20 rfl rfl rfl (q_index_ref tok rfl rfl rfl rfl rfl rfl rfl rfl rfl (Int.natCast_nonneg _) (by have := hF.way.le; omega)) ?_
    refine AOps.s 8 rfl rfl rfl (q_move (.inr rfl) rfl) ?_
    refine AOps.nil ?_
    refine AGo.seq ?_
    refine AGo.seq ?_
    refine AGo.draw mix ?_
    refine DOps.s 21 rfl rfl rfl (q_move (.inl rfl) rfl) ?_
    refine DOps.s 22 rfl rfl rfl (q_nilCheck rfl rfl rfl) ?_
    refine DOps.s 23 rfl rfl rfl (q_fieldAddr tok rfl rfl rfl rfl rfl rfl) ?_
    refine DOps.s 24 rfl rfl rfl (q_load tok rfl rfl rfl (.ptr _ _ _ _ _ _ _ _ rfl rfl (show _ = some (wcell (b, i)) by rw [Nat.zero_add, Int.toNat_natCast]; exact htop)) rfl) ?_
    refine DOps.s 25 rfl rfl rfl (q_load tok rfl rfl rfl (by first | exact .loc _ | exact .ptr _ _ _ _ _ _ _ _ rfl rfl rfl) rfl) ?_
    refine DOps.s 26 rfl rfl rfl (q_move (.inl rfl) rfl) ?_
    refine DOps.s 27 rfl rfl rfl (q_nilCheck rfl rfl rfl) ?_
    refine DOps.s 28 rfl rfl rfl (q_fieldAddr tok rfl rfl rfl rfl rfl rfl) ?_
    refine DOps.s 29 rfl rfl rfl (q_load tok rfl rfl rfl (.ptr _ _ _ _ _ _ _ _ rfl rfl (show _ = some (wcell (b, i)) by rw [Nat.zero_add, Int.toNat_natCast]; exact htop)) rfl) ?_
    refine DOps.s 30 rfl rfl rfl (q_index_lst tok rfl rfl rfl rfl rfl rfl hbi.1 (idx_mapZ hnx) rfl) ?_
    refine DOps.s 31 rfl rfl rfl (q_load tok rfl rfl rfl (by first | exact .loc _ | exact .ptr _ _ _ _ _ _ _ _ rfl rfl rfl) rfl) ?_
    refine DOps.s 32 rfl rfl rfl (q_len tok rfl rfl rfl rfl rfl) ?_
    refine DOps.s 33 rfl rfl rfl (q_bin rfl rfl rfl rfl) ?_
    refine DOps.nil (by kernel_rfl) ?_
    refine AGo.split 33 rfl (fun hb2 => ?_) (fun hb2 => ?_)
    · -- True
      refine AGo.cond_true true rfl rfl ?_
      have hil : i < l.length := by have h := hb2; simp at h; exact h
      obtain ⟨y, hlx⟩ := get_of_lt (l := l) (k := i.toNat) (by omega)
      refine AGo.seq ?_
      refine AGo.region ?_
      refine AOps.s 34 rfl rfl rfl (q_move (.inl rfl) rfl) ?_
      refine AOps.s 35 rfl rfl rfl (q_nilCheck rfl rfl rfl) ?_
      refine AOps.s 36 rfl rfl rfl (q_fieldAddr tok rfl rfl rfl rfl rfl rfl) ?_
      refine AOps.s 37 rfl rfl rfl (q_load tok rfl rfl rfl (.ptr _ _ _ _ _ _ _ _ rfl rfl (show _ = some (wcell (b, i)) by rw [Nat.zero_add, Int.toNat_natCast]; exact htop)) rfl) ?_
      refine AOps.s 38 rfl rfl rfl (q_bin (r := .int .i64 (i + 1)) rfl rfl rfl (by simp only [evalBin, evalInt, isShift, cond_false, if_true]; rw [wrap_i64 (by omega) (by have := hsm _ (List.mem_of_getElem? hnx); omega)])) ?_
      refine AOps.s 39 rfl rfl rfl (q_nilCheck rfl rfl rfl) ?_
      refine AOps.s 40 rfl rfl rfl (q_fieldAddr tok rfl rfl rfl rfl rfl rfl) ?_
      refine AOps.w rfl rfl (o_store tok rfl rfl rfl rfl rfl rfl rfl (show _ = some (wcell (b, i)) by rw [Nat.zero_add, Int.toNat_natCast]; exact htop) rfl (by decide) rfl (by first | exact fun _ => rfl | (intro h; cases h))) ?_
      refine AOps.nil ?_
      refine AGo.seq ?_
      refine AGo.sub (s' := ⟨69, (eput (eput (eput (eput (eput (eput eNew 2 (.fn (.func 42) [] [])) 3 (.ptr 1 1 0 0)) 4 (.ptr 2 1 0 0)) 6 (.ptr 3 1 0 0)) 7 (.fn (.func 51) [] [.ptr 1 1 0 0, .ptr 2 1 0 0, .ptr 3 1 0 0])) 8 (.ptr 4 q.es.length (0 + (((q.s.way.length - 1 : Nat) : Int)).toNat) 0)), (hput (hput (hput (hput (hput hNone 0 (.row true 1 (((DS.mk q.s.been (q.s.way.dropLast ++ [(b, i + 1)]))).been.map boolCells))) 1 (.row false 1 [[pathsAV next]])) 2 (.row false 1 [[.ref 0 next.length 0 next.length]])) 3 (.row false 1 [[.ref 4 ((q.es.set (q.s.way.length - 1) (wcell (b, i + 1)))).length 0 ((DS.mk q.s.been (q.s.way.dropLast ++ [(b, i + 1)]))).way.length]])) 4 (.row true 2 ((q.es.set (q.s.way.length - 1) (wcell (b, i + 1))))))⟩) (Sub.mk' (by repeat (first | exact ESub.new _ | refine ESub.put ?_ (by rfl))) (by repeat (first | exact HSub.none _ | exact HSub.from_new _ | exact HSub.from_from (by decide) | refine HSub.put ?_ (by first | rfl | exact congrArg (fun es => some (AObj.row true 2 es)) (by rw [Nat.zero_add, Int.toNat_natCast]; rfl) | exact congrArg (fun p : Nat × Nat => some (AObj.row false 1 [[AV.ref 4 p.1 0 p.2]])) (way_seen_len hp _ _)) | refine HSub.from_put ?_ (by decide)))) ?_
      refine AGo.draw mix ?_
      refine DOps.s 41 rfl rfl rfl (q_move (.inl rfl) rfl) ?_
      refine DOps.s 42 rfl rfl rfl (q_load tok rfl rfl rfl (by first | exact .loc _ | exact .ptr _ _ _ _ _ _ _ _ rfl rfl rfl) rfl) ?_
      refine DOps.s 43 rfl rfl rfl (q_move (.inl rfl) rfl) ?_
      refine DOps.s 44 rfl rfl rfl (q_nilCheck rfl rfl rfl) ?_
      refine DOps.s 45 rfl rfl rfl (q_fieldAddr tok rfl rfl rfl rfl rfl rfl) ?_
      refine DOps.s 46 rfl rfl rfl (q_load tok rfl rfl rfl (.ptr _ _ _ _ _ _ _ _ rfl (by simp) (show _ = some (wcell (b, i + 1)) by rw [Nat.zero_add, Int.toNat_natCast, List.getElem?_set_self (by have := hF.way.le; omega)])) rfl) ?_
      refine DOps.s 47 rfl rfl rfl (q_index_lst tok rfl rfl rfl rfl rfl rfl hbi.1 (idx_mapZ hnx) rfl) ?_
      refine DOps.s 48 rfl rfl rfl (q_load tok rfl rfl rfl (by first | exact .loc _ | exact .ptr _ _ _ _ _ _ _ _ rfl rfl rfl) rfl) ?_
      refine DOps.s 49 rfl rfl rfl (q_move (.inl rfl) rfl) ?_
      refine DOps.s 50 rfl rfl rfl (q_nilCheck rfl rfl rfl) ?_
      refine DOps.s 51 rfl rfl rfl (q_fieldAddr tok rfl rfl rfl rfl rfl rfl) ?_
      refine DOps.s 52 rfl rfl rfl (q_load tok rfl rfl rfl (.ptr _ _ _ _ _ _ _ _ rfl (by simp) (show _ = some (wcell (b, i + 1)) by rw [Nat.zero_add, Int.toNat_natCast, List.getElem?_set_self (by have := hF.way.le; omega)])) rfl) ?_
      refine DOps.s 53 rfl rfl rfl (q_bin (r := .int .i64 i) rfl rfl rfl (by simp only [evalBin, evalInt, isShift, cond_false, if_true]; rw [show i + 1 - 1 = i by omega, wrap_i64 (by omega) (by have := hsm _ (List.mem_of_getElem? hnx); omega)])) ?_
      refine DOps.s 54 rfl rfl rfl (q_index_lst tok rfl rfl rfl rfl rfl rfl hbi.2.2.1 (cs := [.int .i64 (((rowAt next b)[i.toNat]?).getD 0)]) (by show (List.map (fun b => [AV.int .i64 b]) l)[i.toNat]? = _; rw [List.getElem?_map, hlx, hrl, hlx]; rfl) rfl) ?_
      refine DOps.s 55 rfl rfl rfl (q_load tok rfl rfl rfl (by first | exact .loc _ | exact .ptr _ _ _ _ _ _ _ _ rfl rfl rfl) rfl) ?_
      refine DOps.x 56 rfl rfl rfl (o_callF (hc := (hput (hput (hput (hput (hput hNew 0 (.row true 1 (((DS.mk q.s.been (q.s.way.dropLast ++ [(b, i + 1)]))).been.map boolCells))) 1 (.row false 1 [[pathsAV next]])) 2 (.row false 1 [[.ref 0 next.length 0 next.length]])) 3 (.row false 1 [[.ref 4 ((q.es.set (q.s.way.length - 1) (wcell (b, i + 1)))).length 0 ((DS.mk q.s.been (q.s.way.dropLast ++ [(b, i + 1)]))).way.length]])) 4 (.row true 2 ((q.es.set (q.s.way.length - 1) (wcell (b, i + 1))))))) (hw := (hput (hput (hput (hput (hput hNone 0 (.row true 1 (((dinto (((rowAt next b)[i.toNat]?).getD 0) (DS.mk q.s.been (q.s.way.dropLast ++ [(b, i + 1)])))).been.map boolCells))) 1 (.row false 1 [[pathsAV next]])) 2 (.row false 1 [[.ref 0 next.length 0 next.length]])) 3 (.row false 1 [[.ref 4 ((ies (((rowAt next b)[i.toNat]?).getD 0) (DS.mk q.s.been (q.s.way.dropLast ++ [(b, i + 1)])) (q.es.set (q.s.way.length - 1) (wcell (b, i + 1))))).length 0 ((dinto (((rowAt next b)[i.toNat]?).getD 0) (DS.mk q.s.been (q.s.way.dropLast ++ [(b, i + 1)])))).way.length]])) 4 (.row true 2 ((ies (((rowAt next b)[i.toNat]?).getD 0) (DS.mk q.s.been (q.s.way.dropLast ++ [(b, i + 1)])) (q.es.set (q.s.way.length - 1) (wcell (b, i + 1)))))))) [4, 3, 2, 1, 0] [(0, (.row true 1 (((dinto (((rowAt next b)[i.toNat]?).getD 0) (DS.mk q.s.been (q.s.way.dropLast ++ [(b, i + 1)])))).been.map boolCells))), (1, (.row false 1 [[pathsAV next]])), (2, (.row false 1 [[.ref 0 next.length 0 next.length]])), (3, (.row false 1 [[.ref 4 ((ies (((rowAt next b)[i.toNat]?).getD 0) (DS.mk q.s.been (q.s.way.dropLast ++ [(b, i + 1)])) (q.es.set (q.s.way.length - 1) (wcell (b, i + 1))))).length 0 ((dinto (((rowAt next b)[i.toNat]?).getD 0) (DS.mk q.s.been (q.s.way.dropLast ++ [(b, i + 1)])))).way.length]])), (4, (.row true 2 ((ies (((rowAt next b)[i.toNat]?).getD 0) (DS.mk q.s.been (q.s.way.dropLast ++ [(b, i + 1)])) (q.es.set (q.s.way.length - 1) (wcell (b, i + 1)))))))] rfl rfl Try.func51 (by kernel_rfl) rfl rfl rfl ⟨⟨_, rfl, rfl⟩, ⟨_, rfl, rfl⟩, ⟨_, rfl, rfl⟩, ⟨_, rfl, rfl⟩, ⟨_, rfl, rfl⟩, trivial⟩ rfl (hres_cons rfl (hres_cons rfl (hres_cons rfl (hres_cons rfl (hres_cons rfl (hres_nil _)))))) ⟨⟨_, rfl, rfl, rfl⟩, ⟨_, rfl, rfl, rfl⟩, ⟨_, rfl, rfl, rfl⟩, ⟨_, rfl, rfl, rfl⟩, ⟨_, rfl, rfl, rfl⟩, trivial⟩ rfl (into_ok next hnl (((rowAt next b)[i.toNat]?).getD 0) (DS.mk q.s.been (q.s.way.dropLast ++ [(b, i + 1)])) (q.es.set (q.s.way.length - 1) (wcell (b, i + 1))) hF.ok.len (hF.way.seen hp))) ?_
      refine DOps.nil (by kernel_rfl) ?_
      refine AGo.exit ?_
      first
      | have hnx2 := hF.next (s' := dinto (((rowAt next b)[i.toNat]?).getD 0) (DS.mk q.s.been (q.s.way.dropLast ++ [(b, i + 1)]))) (es' := ies (((rowAt next b)[i.toNat]?).getD 0) (DS.mk q.s.been (q.s.way.dropLast ++ [(b, i + 1)])) (q.es.set (q.s.way.length - 1) (wcell (b, i + 1)))) hp (dstep_in hp (by rw [hrl]; simpa using hil)) (hF.way.seen hp).into
      | have hnx2 := hF.next (s' := ⟨q.s.been, q.s.way.dropLast⟩) (es' := q.es) hp (dstep_out hp (by rw [hrl]; simpa using hil)) (hF.way.pop hp)
      exact ⟨⟨_, _, q.g - 1⟩, Drop.mk' (by repeat (first | exact EDrop.new _ _ | refine EDrop.put ?_ (by rfl) rfl)) (by repeat (first | exact HDrop.none _ _ | exact HDrop.tail _ _ | refine HDrop.put ?_ (by rfl) rfl rfl)), hnx2.1, hnx2.2⟩
    · -- False
      refine AGo.cond_false false rfl rfl ?_
      have hil : ¬ i < l.length := by have h := hb2; simp at h; omega
      refine AGo.skip ?_
      refine AGo.seq ?_
      refine AGo.region ?_
      refine AOps.s 57 rfl rfl rfl (q_move (.inl rfl) rfl) ?_
      refine AOps.s 58 rfl rfl rfl (q_nilCheck rfl rfl rfl) ?_
      refine AOps.s 59 rfl rfl rfl (q_fieldAddr tok rfl rfl rfl rfl rfl rfl) ?_
      refine AOps.s 60 rfl rfl rfl (q_load tok rfl rfl rfl (.ptr _ _ _ _ _ _ _ _ rfl rfl (show _ = some (wcell (b, i)) by rw [Nat.zero_add, Int.toNat_natCast]; exact htop)) rfl) ?_
      refine AOps.s 9 rfl rfl rfl (q_move (.inr rfl) rfl) ?_
      refine AOps.nil ?_
      refine AGo.seq ?_
      refine AGo.region ?_
      refine AOps.s 61 rfl rfl rfl (q_load tok rfl rfl rfl (by first | exact .loc _ | exact .ptr _ _ _ _ _ _ _ _ rfl rfl rfl) rfl) ?_
      refine AOps.s 62 rfl rfl rfl (q_load tok rfl rfl rfl (by first | exact .loc _ | exact .ptr _ _ _ _ _ _ _ _ rfl rfl rfl) rfl) ?_
      refine AOps.s 63 rfl rfl rfl (q_len tok rfl rfl rfl rfl rfl) ?_
      refine AOps.s 64 rfl rfl rfl (q_bin (r := .int .i64 ((q.s.way.length - 1 : Nat) : Int)) rfl rfl rfl (len_pred hpos (by have := hF.way.cap; have := hF.way.le; omega))) ?_
      refine AOps.s 65 rfl rfl rfl (q_slice_ref (m := (DS.mk q.s.been q.s.way.dropLast).way.length) tok rfl rfl rfl rfl rfl rfl rfl rfl (by simp) (by simp)) ?_
      refine AOps.w rfl rfl (o_store tok rfl rfl rfl rfl rfl rfl rfl rfl rfl (by decide) rfl (by first | exact fun _ => rfl | (intro h; cases h))) ?_
      refine AOps.nil ?_
      refine AGo.region ?_
      refine AOps.s 66 rfl rfl rfl (q_move (.inl rfl) rfl) ?_
      refine AOps.s 67 rfl rfl rfl (q_move (.inl rfl) rfl) ?_
      refine AOps.x 68 rfl rfl rfl (o_callF (hc := hNew) (hw := hNone) [] [] rfl rfl Try.func42 (by kernel_rfl) rfl rfl rfl trivial rfl (hres_nil _) trivial rfl (idle_ok b)) ?_
      refine AOps.nil ?_
      first
      | have hnx2 := hF.next (s' := dinto (((rowAt next b)[i.toNat]?).getD 0) (DS.mk q.s.been (q.s.way.dropLast ++ [(b, i + 1)]))) (es' := ies (((rowAt next b)[i.toNat]?).getD 0) (DS.mk q.s.been (q.s.way.dropLast ++ [(b, i + 1)])) (q.es.set (q.s.way.length - 1) (wcell (b, i + 1)))) hp (dstep_in hp (by rw [hrl]; simpa using hil)) (hF.way.seen hp).into
      | have hnx2 := hF.next (s' := ⟨q.s.been, q.s.way.dropLast⟩) (es' := q.es) hp (dstep_out hp (by rw [hrl]; simpa using hil)) (hF.way.pop hp)
      exact ⟨⟨_, _, q.g - 1⟩, Drop.mk' (by repeat (first | exact EDrop.new _ _ | refine EDrop.put ?_ (by rfl) rfl)) (by repeat (first | exact HDrop.none _ _ | exact HDrop.tail _ _ | refine HDrop.put ?_ (by rfl) rfl rfl)), hnx2.1, hnx2.2⟩
  · -- False
    refine AGo.cond_false false rfl rfl ?_
    have hnil : q.s.way = [] := List.length_eq_zero_iff.1 (by have h := hb1; simp at h; simpa using h)
    refine AGo.exit ?_
    refine ⟨[], trivial, rfl, ?_⟩
    rw [show dreach next been = q.s.been from (congrArg DS.been (hF.done hnil)).symm]
    exact HSub.put (HSub.none _) rfl

set_option maxRecDepth 100000 in
theorem reach_ok (next : List (List Int)) (hnl : next.length ≤ 100000) (hsm : ∀ l ∈ next, l.length ≤ 100000) : APure Try.prog 28 [pathsAV next] (fun r => r = boolsAV (dreach next (List.replicate next.length false))) := by
  refine APure.of_body (n := 11) tok Try.func28 rfl rfl ?_
  refine AGo.seq ?_
  refine AGo.region ?_
  refine AOps.s 2 rfl rfl rfl (q_move (.inr rfl) rfl) ?_
  refine AOps.nil ?_
  refine AGo.seq ?_
  refine AGo.region ?_
  refine AOps.s 4 rfl rfl rfl (q_move (.inl rfl) rfl) ?_
  refine AOps.s 5 rfl rfl rfl (q_len tok rfl rfl rfl rfl rfl) ?_
  refine AOps.x 6 rfl rfl rfl (o_makeSlice tok (n := next.length) (m := next.length) 0 true rfl rfl rfl (by simp) (by simp) rfl rfl rfl rfl rfl (Nat.zero_lt_succ _) rfl (Nat.le_refl _) (by show 1 * next.length ≤ _; omega) (by simp only [maxLen]; omega)) ?_
  refine AOps.s 3 rfl rfl rfl (q_move (.inr rfl) rfl) ?_
  refine AOps.nil ?_
  refine AGo.seq ?_
  refine AGo.sub (s' := ⟨11, (eput (eput eNew 0 (pathsAV next)) 3 (.ref 0 next.length 0 next.length)), (hput hNone 0 (.row true 1 (((List.replicate next.length false)).map boolCells)))⟩) (Sub.mk' (by repeat (first | exact ESub.new _ | refine ESub.put ?_ (by rfl))) (by repeat (first | exact HSub.none _ | exact HSub.from_new _ | exact HSub.from_from (by decide) | refine HSub.put ?_ (by first | rfl | exact congrArg (fun es => some (AObj.row true 1 es)) (by rw [List.map_replicate]; rfl)) | refine HSub.from_put ?_ (by decide)))) ?_
  refine AGo.region ?_
  refine AOps.s 7 rfl rfl rfl (q_move (.inl rfl) rfl) ?_
  refine AOps.s 8 rfl rfl rfl (q_move (.inl rfl) rfl) ?_
  refine AOps.x 9 rfl rfl rfl (o_call (hc := hput hNew 0 (.row true 1 (((List.replicate next.length false)).map boolCells))) (hw := hput hNone 0 (.row true 1 ((dreach next (List.replicate next.length false)).map boolCells))) [0] [(0, (.row true 1 ((dreach next (List.replicate next.length false)).map boolCells)))] rfl Try.func41 (by kernel_rfl) rfl rfl rfl ⟨⟨_, rfl, rfl⟩, trivial⟩ rfl (hres_cons rfl (hres_nil _)) ⟨⟨_, rfl, rfl, rfl⟩, trivial⟩ rfl (walk_ok next hnl hsm (List.replicate next.length false) (by simp))) ?_
  refine AOps.nil ?_
  refine AGo.seq ?_
  refine AGo.ghost (.freezeA 3 0 rfl rfl (by simp [dreach_length])) ?_
  refine AGo.region ?_
  refine AOps.s 10 rfl rfl rfl (q_move (.inl rfl) rfl) ?_
  refine AOps.s 2 rfl rfl rfl (q_move (.inr rfl) rfl) ?_
  refine AOps.nil ?_
  refine AGo.ret ?_
  refine ⟨[_], ⟨rfl, trivial⟩, ?_, rfl⟩
  rfl

end Go.Proofs.Ytidfabbnobipkaa.Sv
