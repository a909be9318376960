/-
  WALKS: printed by a program of our own from the code's tree.
-/
import Derived.Test.YtidfabbnobipkaaSp28
import Derived.Test.YtidfabbnobipkaaLw5
import Derived.Test.YtidfabbnobipkaaLw6
namespace Go.Proofs.Ytidfabbnobipkaa.Sv
open Go
set_option linter.unusedVariables false
set_option linter.unusedSimpArgs false

set_option maxRecDepth 100000 in
theorem tidyCheck_ok (old new : BFunc) (paths : List (List Int)) (ho : old.Ok) (hn : new.Ok) (hp : pathsOk paths) : APure Try.prog 4 [.agg old.cells, .agg new.cells, pathsAV paths] (fun r => r = .bool true) := by
  refine APure.of_body (n := 31) tok Try.func4 rfl rfl ?_
  refine AGo.seq ?_
  refine AGo.region ?_
  refine AOps.x 3 rfl rfl rfl (o_box (sz := 2) 0 rfl rfl rfl rfl (Nat.zero_lt_succ _) rfl) ?_
  refine AOps.x 4 rfl rfl rfl (o_box (sz := 2) 1 rfl rfl rfl rfl (Nat.zero_lt_succ _) rfl) ?_
  refine AOps.s 6 rfl rfl rfl (q_move (.inr rfl) rfl) ?_
  refine AOps.nil ?_
  refine AGo.seq ?_
  refine AGo.seq ?_
  refine AGo.region ?_
  refine AOps.x 7 rfl rfl rfl (o_pure rfl Try.func11 (by kernel_rfl) rfl rfl rfl (awake_ok)) ?_
  refine AOps.s 8 rfl rfl rfl (q_not rfl rfl) ?_
  refine AOps.nil ?_
  refine AGo.cond_false false rfl rfl ?_
  refine AGo.skip ?_
  refine AGo.seq ?_
  refine AGo.seq ?_
  refine AGo.region ?_
  refine AOps.s 9 rfl rfl rfl (q_load tok rfl rfl rfl (by first | exact .loc _ | exact .ptr _ _ _ _ _ _ _ _ rfl rfl rfl) rfl) ?_
  refine AOps.x 10 rfl rfl rfl (o_pure rfl Try.func18 (by kernel_rfl) rfl rfl rfl (few_ok old 40 200 (by decide) ho.tight)) ?_
  refine AOps.s 11 rfl rfl rfl (q_not rfl rfl) ?_
  refine AOps.s 12 rfl rfl rfl (q_move (.inl rfl) rfl) ?_
  refine AOps.split 12 rfl (fun hb1 => ?_) (fun hb1 => ?_)
  · -- True
    refine AOps.k 13 rfl rfl rfl ?_
    refine AOps.k 14 rfl rfl rfl ?_
    refine AOps.k 15 rfl rfl rfl ?_
    refine AOps.s 16 rfl rfl rfl (q_pick_true true rfl rfl rfl rfl) ?_
    refine AOps.s 17 rfl rfl rfl (q_move (.inl rfl) rfl) ?_
    refine AOps.k 18 rfl rfl rfl ?_
    refine AOps.k 19 rfl rfl rfl ?_
    refine AOps.k 20 rfl rfl rfl ?_
    refine AOps.s 21 rfl rfl rfl (q_pick_true true rfl rfl rfl rfl) ?_
    refine AOps.nil ?_
    refine AGo.cond_true true rfl rfl ?_
    refine AGo.seq ?_
    refine AGo.region ?_
    refine AOps.s 6 rfl rfl rfl (q_move (.inr rfl) rfl) ?_
    refine AOps.nil ?_
    refine AGo.ret ?_
    refine ⟨[_], ⟨rfl, trivial⟩, ?_, rfl⟩
    rfl
  · -- False
    have hf1 : old.few 40 200 = true := by simpa using hb1
    refine AOps.s 13 rfl rfl rfl (q_load tok rfl rfl rfl (by first | exact .loc _ | exact .ptr _ _ _ _ _ _ _ _ rfl rfl rfl) rfl) ?_
    refine AOps.x 14 rfl rfl rfl (o_pure rfl Try.func18 (by kernel_rfl) rfl rfl rfl (few_ok new 40 200 (by decide) hn.tight)) ?_
    refine AOps.s 15 rfl rfl rfl (q_not rfl rfl) ?_
    refine AOps.s 16 rfl rfl rfl (q_pick_false false rfl rfl rfl rfl) ?_
    refine AOps.s 17 rfl rfl rfl (q_move (.inl rfl) rfl) ?_
    refine AOps.split 17 rfl (fun hb2 => ?_) (fun hb2 => ?_)
    · -- True
      refine AOps.k 18 rfl rfl rfl ?_
      refine AOps.k 19 rfl rfl rfl ?_
      refine AOps.k 20 rfl rfl rfl ?_
      refine AOps.s 21 rfl rfl rfl (q_pick_true true rfl rfl rfl rfl) ?_
      refine AOps.nil ?_
      refine AGo.cond_true true rfl rfl ?_
      refine AGo.seq ?_
      refine AGo.region ?_
      refine AOps.s 6 rfl rfl rfl (q_move (.inr rfl) rfl) ?_
      refine AOps.nil ?_
      refine AGo.ret ?_
      refine ⟨[_], ⟨rfl, trivial⟩, ?_, rfl⟩
      rfl
    · -- False
      have hf2 : new.few 40 200 = true := by simpa using hb2
      refine AOps.s 18 rfl rfl rfl (q_move (.inl rfl) rfl) ?_
      refine AOps.x 19 rfl rfl rfl (o_pure rfl Try.func19 (by kernel_rfl) rfl rfl rfl (smallP_ok paths 40 200 (by decide) hp.len.1 hp.len.2)) ?_
      refine AOps.s 20 rfl rfl rfl (q_not rfl rfl) ?_
      refine AOps.s 21 rfl rfl rfl (q_pick_false false rfl rfl rfl rfl) ?_
      refine AOps.nil ?_
      refine AGo.split 21 rfl (fun hb3 => ?_) (fun hb3 => ?_)
      · -- True
        refine AGo.cond_true true rfl rfl ?_
        refine AGo.seq ?_
        refine AGo.region ?_
        refine AOps.s 6 rfl rfl rfl (q_move (.inr rfl) rfl) ?_
        refine AOps.nil ?_
        refine AGo.ret ?_
        refine ⟨[_], ⟨rfl, trivial⟩, ?_, rfl⟩
        rfl
      · -- False
        refine AGo.cond_false false rfl rfl ?_
        have hf3 : smallP paths 40 200 = true := by simpa using hb3
        have hol := few_ins hf1 (by decide)
        have hnl := few_ins hf2 (by decide)
        have hsp := smallP_spec hf3 (by decide)
        have hpl : paths.length ≤ 100000 := by have := hsp.1; omega
        have hps : ∀ p ∈ paths, p.length ≤ 100000 := fun p hp => by have := hsp.2 p hp; omega
        refine AGo.skip ?_
        refine AGo.seq ?_
        refine AGo.draw mix ?_
        refine DOps.s 22 rfl rfl rfl (q_load tok rfl rfl rfl (by first | exact .loc _ | exact .ptr _ _ _ _ _ _ _ _ rfl rfl rfl) rfl) ?_
        refine DOps.s 23 rfl rfl rfl (q_load tok rfl rfl rfl (by first | exact .loc _ | exact .ptr _ _ _ _ _ _ _ _ rfl rfl rfl) rfl) ?_
        refine DOps.s 24 rfl rfl rfl (q_move (.inl rfl) rfl) ?_
        refine DOps.x 25 rfl rfl rfl (o_pure rfl Try.func17 (by kernel_rfl) rfl rfl rfl (check_ok old new paths hnl hpl hps)) ?_
        refine DOps.s 26 rfl rfl rfl (q_load tok rfl rfl rfl (by first | exact .loc _ | exact .ptr _ _ _ _ _ _ _ _ rfl rfl rfl) rfl) ?_
        refine DOps.s 27 rfl rfl rfl (q_load tok rfl rfl rfl (by first | exact .loc _ | exact .ptr _ _ _ _ _ _ _ _ rfl rfl rfl) rfl) ?_
        refine DOps.s 28 rfl rfl rfl (q_move (.inl rfl) rfl) ?_
        refine DOps.x 29 rfl rfl rfl (o_pure rfl Try.func20 (by kernel_rfl) rfl rfl rfl (rcheck_ok old new paths hol hnl hpl hps)) ?_
        refine DOps.s 30 rfl rfl rfl (q_boolEq tok false rfl rfl rfl rfl rfl) ?_
        refine DOps.s 6 rfl rfl rfl (q_move (.inr rfl) rfl) ?_
        refine DOps.nil (by kernel_rfl) ?_
        refine AGo.ret ?_
        refine ⟨[_], ⟨rfl, trivial⟩, ?_, rfl⟩
        show AV.bool _ = AV.bool true
        congr 1
        first | rfl | simp | (cases checkB old new paths <;> rfl)

end Go.Proofs.Ytidfabbnobipkaa.Sv
