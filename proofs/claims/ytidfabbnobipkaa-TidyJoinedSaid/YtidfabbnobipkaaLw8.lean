/-
  WALKS: printed by a program of our own from the code's tree.
-/
import Derived.Test.YtidfabbnobipkaaSp29
import Derived.Test.YtidfabbnobipkaaLw5
namespace Go.Proofs.Ytidfabbnobipkaa.Sv
open Go
set_option linter.unusedVariables false
set_option linter.unusedSimpArgs false

set_option maxRecDepth 100000 in
theorem tidyJoined_ok (A B C : BFunc) (P Q : List (List Int)) (hA : A.Ok) (hB : B.Ok) (hC : C.Ok) (hP : pathsOk P) (hQ : pathsOk Q) : APure Try.prog 10 [.agg (twoCells A B C P Q)] (fun r => r = .bool true) := by
  refine APure.of_body (n := 121) tok Try.func10 rfl rfl ?_
  refine AGo.seq ?_
  refine AGo.region ?_
  refine AOps.x 1 rfl rfl rfl (o_box (sz := 8) 0 rfl rfl rfl rfl (Nat.zero_lt_succ _) rfl) ?_
  refine AOps.s 2 rfl rfl rfl (q_move (.inr rfl) rfl) ?_
  refine AOps.nil ?_
  refine AGo.seq ?_
  refine AGo.seq ?_
  refine AGo.region ?_
  refine AOps.x 7 rfl rfl rfl (o_pure rfl Try.func11 (by kernel_rfl) rfl rfl rfl (awake_ok)) ?_
  refine AOps.s 8 rfl rfl rfl (q_not rfl rfl) ?_
  refine AOps.nil ?_
  refine AGo.cond_false false rfl rfl ?_
  refine AGo.skip ?_
  refine AGo.seq ?_
  refine AGo.seq ?_
  refine AGo.region ?_
  refine AOps.s 9 rfl rfl rfl (q_fieldAddr tok rfl rfl rfl rfl rfl rfl) ?_
  refine AOps.s 10 rfl rfl rfl (q_load tok rfl rfl rfl (by first | exact .loc _ | exact .ptr _ _ _ _ _ _ _ _ rfl rfl rfl) rfl) ?_
  refine AOps.x 11 rfl rfl rfl (o_pure rfl Try.func18 (by kernel_rfl) rfl rfl rfl (few_ok A 40 200 (by decide) hA.tight)) ?_
  refine AOps.s 12 rfl rfl rfl (q_not rfl rfl) ?_
  refine AOps.s 13 rfl rfl rfl (q_move (.inl rfl) rfl) ?_
  refine AOps.split 13 rfl (fun hb1 => ?_) (fun hb1 => ?_)
  · -- True
    refine AOps.k 14 rfl rfl rfl ?_
    refine AOps.k 15 rfl rfl rfl ?_
    refine AOps.k 16 rfl rfl rfl ?_
    refine AOps.k 17 rfl rfl rfl ?_
    refine AOps.s 18 rfl rfl rfl (q_pick_true true rfl rfl rfl rfl) ?_
    refine AOps.s 19 rfl rfl rfl (q_move (.inl rfl) rfl) ?_
    refine AOps.k 20 rfl rfl rfl ?_
    refine AOps.k 21 rfl rfl rfl ?_
    refine AOps.k 22 rfl rfl rfl ?_
    refine AOps.k 23 rfl rfl rfl ?_
    refine AOps.s 24 rfl rfl rfl (q_pick_true true rfl rfl rfl rfl) ?_
    refine AOps.s 25 rfl rfl rfl (q_move (.inl rfl) rfl) ?_
    refine AOps.k 26 rfl rfl rfl ?_
    refine AOps.k 27 rfl rfl rfl ?_
    refine AOps.k 28 rfl rfl rfl ?_
    refine AOps.k 29 rfl rfl rfl ?_
    refine AOps.s 30 rfl rfl rfl (q_pick_true true rfl rfl rfl rfl) ?_
    refine AOps.s 31 rfl rfl rfl (q_move (.inl rfl) rfl) ?_
    refine AOps.k 32 rfl rfl rfl ?_
    refine AOps.k 33 rfl rfl rfl ?_
    refine AOps.k 34 rfl rfl rfl ?_
    refine AOps.k 35 rfl rfl rfl ?_
    refine AOps.s 36 rfl rfl rfl (q_pick_true true rfl rfl rfl rfl) ?_
    refine AOps.s 37 rfl rfl rfl (q_move (.inl rfl) rfl) ?_
    refine AOps.k 38 rfl rfl rfl ?_
    refine AOps.k 39 rfl rfl rfl ?_
    refine AOps.k 40 rfl rfl rfl ?_
    refine AOps.k 41 rfl rfl rfl ?_
    refine AOps.k 42 rfl rfl rfl ?_
    refine AOps.k 43 rfl rfl rfl ?_
    refine AOps.k 44 rfl rfl rfl ?_
    refine AOps.k 45 rfl rfl rfl ?_
    refine AOps.s 46 rfl rfl rfl (q_pick_true true rfl rfl rfl rfl) ?_
    refine AOps.s 47 rfl rfl rfl (q_move (.inl rfl) rfl) ?_
    refine AOps.k 48 rfl rfl rfl ?_
    refine AOps.k 49 rfl rfl rfl ?_
    refine AOps.k 50 rfl rfl rfl ?_
    refine AOps.k 51 rfl rfl rfl ?_
    refine AOps.k 52 rfl rfl rfl ?_
    refine AOps.k 53 rfl rfl rfl ?_
    refine AOps.k 54 rfl rfl rfl ?_
    refine AOps.k 55 rfl rfl rfl ?_
    refine AOps.s 56 rfl rfl rfl (q_pick_true true rfl rfl rfl rfl) ?_
    refine AOps.nil ?_
    refine AGo.cond_true true rfl rfl ?_
    refine AGo.seq ?_
    refine AGo.region ?_
    refine AOps.s 2 rfl rfl rfl (q_move (.inr rfl) rfl) ?_
    refine AOps.nil ?_
    refine AGo.ret ?_
    refine ⟨[_], ⟨rfl, trivial⟩, ?_, rfl⟩
    rfl
  · -- False
    have hf1 : A.few 40 200 = true := by simpa using hb1
    refine AOps.s 14 rfl rfl rfl (q_fieldAddr tok rfl rfl rfl rfl rfl rfl) ?_
    refine AOps.s 15 rfl rfl rfl (q_load tok rfl rfl rfl (by first | exact .loc _ | exact .ptr _ _ _ _ _ _ _ _ rfl rfl rfl) rfl) ?_
    refine AOps.x 16 rfl rfl rfl (o_pure rfl Try.func18 (by kernel_rfl) rfl rfl rfl (few_ok B 40 200 (by decide) hB.tight)) ?_
    refine AOps.s 17 rfl rfl rfl (q_not rfl rfl) ?_
    refine AOps.s 18 rfl rfl rfl (q_pick_false false rfl rfl rfl rfl) ?_
    refine AOps.s 19 rfl rfl rfl (q_move (.inl rfl) rfl) ?_
    refine AOps.split 19 rfl (fun hb2 => ?_) (fun hb2 => ?_)
    · -- True
      refine AOps.k 20 rfl rfl rfl ?_
      refine AOps.k 21 rfl rfl rfl ?_
      refine AOps.k 22 rfl rfl rfl ?_
      refine AOps.k 23 rfl rfl rfl ?_
      refine AOps.s 24 rfl rfl rfl (q_pick_true true rfl rfl rfl rfl) ?_
      refine AOps.s 25 rfl rfl rfl (q_move (.inl rfl) rfl) ?_
      refine AOps.k 26 rfl rfl rfl ?_
      refine AOps.k 27 rfl rfl rfl ?_
      refine AOps.k 28 rfl rfl rfl ?_
      refine AOps.k 29 rfl rfl rfl ?_
      refine AOps.s 30 rfl rfl rfl (q_pick_true true rfl rfl rfl rfl) ?_
      refine AOps.s 31 rfl rfl rfl (q_move (.inl rfl) rfl) ?_
      refine AOps.k 32 rfl rfl rfl ?_
      refine AOps.k 33 rfl rfl rfl ?_
      refine AOps.k 34 rfl rfl rfl ?_
      refine AOps.k 35 rfl rfl rfl ?_
      refine AOps.s 36 rfl rfl rfl (q_pick_true true rfl rfl rfl rfl) ?_
      refine AOps.s 37 rfl rfl rfl (q_move (.inl rfl) rfl) ?_
      refine AOps.k 38 rfl rfl rfl ?_
      refine AOps.k 39 rfl rfl rfl ?_
      refine AOps.k 40 rfl rfl rfl ?_
      refine AOps.k 41 rfl rfl rfl ?_
      refine AOps.k 42 rfl rfl rfl ?_
      refine AOps.k 43 rfl rfl rfl ?_
      refine AOps.k 44 rfl rfl rfl ?_
      refine AOps.k 45 rfl rfl rfl ?_
      refine AOps.s 46 rfl rfl rfl (q_pick_true true rfl rfl rfl rfl) ?_
      refine AOps.s 47 rfl rfl rfl (q_move (.inl rfl) rfl) ?_
      refine AOps.k 48 rfl rfl rfl ?_
      refine AOps.k 49 rfl rfl rfl ?_
      refine AOps.k 50 rfl rfl rfl ?_
      refine AOps.k 51 rfl rfl rfl ?_
      refine AOps.k 52 rfl rfl rfl ?_
      refine AOps.k 53 rfl rfl rfl ?_
      refine AOps.k 54 rfl rfl rfl ?_
      refine AOps.k 55 rfl rfl rfl ?_
      refine AOps.s 56 rfl rfl rfl (q_pick_true true rfl rfl rfl rfl) ?_
      refine AOps.nil ?_
      refine AGo.cond_true true rfl rfl ?_
      refine AGo.seq ?_
      refine AGo.region ?_
      refine AOps.s 2 rfl rfl rfl (q_move (.inr rfl) rfl) ?_
      refine AOps.nil ?_
      refine AGo.ret ?_
      refine ⟨[_], ⟨rfl, trivial⟩, ?_, rfl⟩
      rfl
    · -- False
      have hf2 : B.few 40 200 = true := by simpa using hb2
      refine AOps.s 20 rfl rfl rfl (q_fieldAddr tok rfl rfl rfl rfl rfl rfl) ?_
      refine AOps.s 21 rfl rfl rfl (q_load tok rfl rfl rfl (by first | exact .loc _ | exact .ptr _ _ _ _ _ _ _ _ rfl rfl rfl) rfl) ?_
      refine AOps.x 22 rfl rfl rfl (o_pure rfl Try.func18 (by kernel_rfl) rfl rfl rfl (few_ok C 40 400 (by decide) hC.tight)) ?_
      refine AOps.s 23 rfl rfl rfl (q_not rfl rfl) ?_
      refine AOps.s 24 rfl rfl rfl (q_pick_false false rfl rfl rfl rfl) ?_
      refine AOps.s 25 rfl rfl rfl (q_move (.inl rfl) rfl) ?_
      refine AOps.split 25 rfl (fun hb3 => ?_) (fun hb3 => ?_)
      · -- True
        refine AOps.k 26 rfl rfl rfl ?_
        refine AOps.k 27 rfl rfl rfl ?_
        refine AOps.k 28 rfl rfl rfl ?_
        refine AOps.k 29 rfl rfl rfl ?_
        refine AOps.s 30 rfl rfl rfl (q_pick_true true rfl rfl rfl rfl) ?_
        refine AOps.s 31 rfl rfl rfl (q_move (.inl rfl) rfl) ?_
        refine AOps.k 32 rfl rfl rfl ?_
        refine AOps.k 33 rfl rfl rfl ?_
        refine AOps.k 34 rfl rfl rfl ?_
        refine AOps.k 35 rfl rfl rfl ?_
        refine AOps.s 36 rfl rfl rfl (q_pick_true true rfl rfl rfl rfl) ?_
        refine AOps.s 37 rfl rfl rfl (q_move (.inl rfl) rfl) ?_
        refine AOps.k 38 rfl rfl rfl ?_
        refine AOps.k 39 rfl rfl rfl ?_
        refine AOps.k 40 rfl rfl rfl ?_
        refine AOps.k 41 rfl rfl rfl ?_
        refine AOps.k 42 rfl rfl rfl ?_
        refine AOps.k 43 rfl rfl rfl ?_
        refine AOps.k 44 rfl rfl rfl ?_
        refine AOps.k 45 rfl rfl rfl ?_
        refine AOps.s 46 rfl rfl rfl (q_pick_true true rfl rfl rfl rfl) ?_
        refine AOps.s 47 rfl rfl rfl (q_move (.inl rfl) rfl) ?_
        refine AOps.k 48 rfl rfl rfl ?_
        refine AOps.k 49 rfl rfl rfl ?_
        refine AOps.k 50 rfl rfl rfl ?_
        refine AOps.k 51 rfl rfl rfl ?_
        refine AOps.k 52 rfl rfl rfl ?_
        refine AOps.k 53 rfl rfl rfl ?_
        refine AOps.k 54 rfl rfl rfl ?_
        refine AOps.k 55 rfl rfl rfl ?_
        refine AOps.s 56 rfl rfl rfl (q_pick_true true rfl rfl rfl rfl) ?_
        refine AOps.nil ?_
        refine AGo.cond_true true rfl rfl ?_
        refine AGo.seq ?_
        refine AGo.region ?_
        refine AOps.s 2 rfl rfl rfl (q_move (.inr rfl) rfl) ?_
        refine AOps.nil ?_
        refine AGo.ret ?_
        refine ⟨[_], ⟨rfl, trivial⟩, ?_, rfl⟩
        rfl
      · -- False
        have hf3 : C.few 40 400 = true := by simpa using hb3
        refine AOps.s 26 rfl rfl rfl (q_fieldAddr tok rfl rfl rfl rfl rfl rfl) ?_
        refine AOps.s 27 rfl rfl rfl (q_load tok rfl rfl rfl (by first | exact .loc _ | exact .ptr _ _ _ _ _ _ _ _ rfl rfl rfl) rfl) ?_
        refine AOps.x 28 rfl rfl rfl (o_pure rfl Try.func19 (by kernel_rfl) rfl rfl rfl (smallP_ok P 40 200 (by decide) hP.len.1 hP.len.2)) ?_
        refine AOps.s 29 rfl rfl rfl (q_not rfl rfl) ?_
        refine AOps.s 30 rfl rfl rfl (q_pick_false false rfl rfl rfl rfl) ?_
        refine AOps.s 31 rfl rfl rfl (q_move (.inl rfl) rfl) ?_
        refine AOps.split 31 rfl (fun hb4 => ?_) (fun hb4 => ?_)
        · -- True
          refine AOps.k 32 rfl rfl rfl ?_
          refine AOps.k 33 rfl rfl rfl ?_
          refine AOps.k 34 rfl rfl rfl ?_
          refine AOps.k 35 rfl rfl rfl ?_
          refine AOps.s 36 rfl rfl rfl (q_pick_true true rfl rfl rfl rfl) ?_
          refine AOps.s 37 rfl rfl rfl (q_move (.inl rfl) rfl) ?_
          refine AOps.k 38 rfl rfl rfl ?_
          refine AOps.k 39 rfl rfl rfl ?_
          refine AOps.k 40 rfl rfl rfl ?_
          refine AOps.k 41 rfl rfl rfl ?_
          refine AOps.k 42 rfl rfl rfl ?_
          refine AOps.k 43 rfl rfl rfl ?_
          refine AOps.k 44 rfl rfl rfl ?_
          refine AOps.k 45 rfl rfl rfl ?_
          refine AOps.s 46 rfl rfl rfl (q_pick_true true rfl rfl rfl rfl) ?_
          refine AOps.s 47 rfl rfl rfl (q_move (.inl rfl) rfl) ?_
          refine AOps.k 48 rfl rfl rfl ?_
          refine AOps.k 49 rfl rfl rfl ?_
          refine AOps.k 50 rfl rfl rfl ?_
          refine AOps.k 51 rfl rfl rfl ?_
          refine AOps.k 52 rfl rfl rfl ?_
          refine AOps.k 53 rfl rfl rfl ?_
          refine AOps.k 54 rfl rfl rfl ?_
          refine AOps.k 55 rfl rfl rfl ?_
          refine AOps.s 56 rfl rfl rfl (q_pick_true true rfl rfl rfl rfl) ?_
          refine AOps.nil ?_
          refine AGo.cond_true true rfl rfl ?_
          refine AGo.seq ?_
          refine AGo.region ?_
          refine AOps.s 2 rfl rfl rfl (q_move (.inr rfl) rfl) ?_
          refine AOps.nil ?_
          refine AGo.ret ?_
          refine ⟨[_], ⟨rfl, trivial⟩, ?_, rfl⟩
          rfl
        · -- False
          have hf4 : smallP P 40 200 = true := by simpa using hb4
          refine AOps.s 32 rfl rfl rfl (q_fieldAddr tok rfl rfl rfl rfl rfl rfl) ?_
          refine AOps.s 33 rfl rfl rfl (q_load tok rfl rfl rfl (by first | exact .loc _ | exact .ptr _ _ _ _ _ _ _ _ rfl rfl rfl) rfl) ?_
          refine AOps.x 34 rfl rfl rfl (o_pure rfl Try.func19 (by kernel_rfl) rfl rfl rfl (smallP_ok Q 40 200 (by decide) hQ.len.1 hQ.len.2)) ?_
          refine AOps.s 35 rfl rfl rfl (q_not rfl rfl) ?_
          refine AOps.s 36 rfl rfl rfl (q_pick_false false rfl rfl rfl rfl) ?_
          refine AOps.s 37 rfl rfl rfl (q_move (.inl rfl) rfl) ?_
          refine AOps.split 37 rfl (fun hb5 => ?_) (fun hb5 => ?_)
          · -- True
            refine AOps.k 38 rfl rfl rfl ?_
            refine AOps.k 39 rfl rfl rfl ?_
            refine AOps.k 40 rfl rfl rfl ?_
            refine AOps.k 41 rfl rfl rfl ?_
            refine AOps.k 42 rfl rfl rfl ?_
            refine AOps.k 43 rfl rfl rfl ?_
            refine AOps.k 44 rfl rfl rfl ?_
            refine AOps.k 45 rfl rfl rfl ?_
            refine AOps.s 46 rfl rfl rfl (q_pick_true true rfl rfl rfl rfl) ?_
            refine AOps.s 47 rfl rfl rfl (q_move (.inl rfl) rfl) ?_
            refine AOps.k 48 rfl rfl rfl ?_
            refine AOps.k 49 rfl rfl rfl ?_
            refine AOps.k 50 rfl rfl rfl ?_
            refine AOps.k 51 rfl rfl rfl ?_
            refine AOps.k 52 rfl rfl rfl ?_
            refine AOps.k 53 rfl rfl rfl ?_
            refine AOps.k 54 rfl rfl rfl ?_
            refine AOps.k 55 rfl rfl rfl ?_
            refine AOps.s 56 rfl rfl rfl (q_pick_true true rfl rfl rfl rfl) ?_
            refine AOps.nil ?_
            refine AGo.cond_true true rfl rfl ?_
            refine AGo.seq ?_
            refine AGo.region ?_
            refine AOps.s 2 rfl rfl rfl (q_move (.inr rfl) rfl) ?_
            refine AOps.nil ?_
            refine AGo.ret ?_
            refine ⟨[_], ⟨rfl, trivial⟩, ?_, rfl⟩
            rfl
          · -- False
            have hf5 : smallP Q 40 200 = true := by simpa using hb5
            have hbl := few_ins hf2 (by decide)
            have hcl := few_ins hf3 (by decide)
            have hsp := smallP_spec hf4 (by decide)
            have hsq := smallP_spec hf5 (by decide)
            have hps2 := smallP_spec2 hf4 (by decide)
            have hqs2 := smallP_spec2 hf5 (by decide)
            have hpl : P.length ≤ 100000 := by have := hsp.1; omega
            have hql : Q.length ≤ 100000 := by have := hsq.1; omega
            have hps : ∀ p ∈ P, p.length ≤ 100000 := fun p hp => by have := hsp.2 p hp; omega
            have hqs : ∀ p ∈ Q, p.length ≤ 100000 := fun p hp => by have := hsq.2 p hp; omega
            refine AOps.s 38 rfl rfl rfl (q_fieldAddr tok rfl rfl rfl rfl rfl rfl) ?_
            refine AOps.s 39 rfl rfl rfl (q_load tok rfl rfl rfl (by first | exact .loc _ | exact .ptr _ _ _ _ _ _ _ _ rfl rfl rfl) rfl) ?_
            refine AOps.s 40 rfl rfl rfl (q_fieldAddr tok rfl rfl rfl rfl rfl rfl) ?_
            refine AOps.s 41 rfl rfl rfl (q_load tok rfl rfl rfl (by first | exact .loc _ | exact .ptr _ _ _ _ _ _ _ _ rfl rfl rfl) rfl) ?_
            refine AOps.s 42 rfl rfl rfl (q_fieldAddr tok rfl rfl rfl rfl rfl rfl) ?_
            refine AOps.s 43 rfl rfl rfl (q_load tok rfl rfl rfl (by first | exact .loc _ | exact .ptr _ _ _ _ _ _ _ _ rfl rfl rfl) rfl) ?_
            refine AOps.x 44 rfl rfl rfl (o_pure rfl Try.func17 (by kernel_rfl) rfl rfl rfl (check_ok A B P hbl hpl hps)) ?_
            refine AOps.s 45 rfl rfl rfl (q_not rfl rfl) ?_
            refine AOps.s 46 rfl rfl rfl (q_pick_false false rfl rfl rfl rfl) ?_
            refine AOps.s 47 rfl rfl rfl (q_move (.inl rfl) rfl) ?_
            refine AOps.split 47 rfl (fun hb6 => ?_) (fun hb6 => ?_)
            · -- True
              refine AOps.k 48 rfl rfl rfl ?_
              refine AOps.k 49 rfl rfl rfl ?_
              refine AOps.k 50 rfl rfl rfl ?_
              refine AOps.k 51 rfl rfl rfl ?_
              refine AOps.k 52 rfl rfl rfl ?_
              refine AOps.k 53 rfl rfl rfl ?_
              refine AOps.k 54 rfl rfl rfl ?_
              refine AOps.k 55 rfl rfl rfl ?_
              refine AOps.s 56 rfl rfl rfl (q_pick_true true rfl rfl rfl rfl) ?_
              refine AOps.nil ?_
              refine AGo.cond_true true rfl rfl ?_
              refine AGo.seq ?_
              refine AGo.region ?_
              refine AOps.s 2 rfl rfl rfl (q_move (.inr rfl) rfl) ?_
              refine AOps.nil ?_
              refine AGo.ret ?_
              refine ⟨[_], ⟨rfl, trivial⟩, ?_, rfl⟩
              rfl
            · -- False
              have hc1 : checkB A B P = true := by simpa using hb6
              refine AOps.s 48 rfl rfl rfl (q_fieldAddr tok rfl rfl rfl rfl rfl rfl) ?_
              refine AOps.s 49 rfl rfl rfl (q_load tok rfl rfl rfl (by first | exact .loc _ | exact .ptr _ _ _ _ _ _ _ _ rfl rfl rfl) rfl) ?_
              refine AOps.s 50 rfl rfl rfl (q_fieldAddr tok rfl rfl rfl rfl rfl rfl) ?_
              refine AOps.s 51 rfl rfl rfl (q_load tok rfl rfl rfl (by first | exact .loc _ | exact .ptr _ _ _ _ _ _ _ _ rfl rfl rfl) rfl) ?_
              refine AOps.s 52 rfl rfl rfl (q_fieldAddr tok rfl rfl rfl rfl rfl rfl) ?_
              refine AOps.s 53 rfl rfl rfl (q_load tok rfl rfl rfl (by first | exact .loc _ | exact .ptr _ _ _ _ _ _ _ _ rfl rfl rfl) rfl) ?_
              refine AOps.x 54 rfl rfl rfl (o_pure rfl Try.func17 (by kernel_rfl) rfl rfl rfl (check_ok B C Q hcl hql hqs)) ?_
              refine AOps.s 55 rfl rfl rfl (q_not rfl rfl) ?_
              refine AOps.s 56 rfl rfl rfl (q_pick_false false rfl rfl rfl rfl) ?_
              refine AOps.nil ?_
              refine AGo.split 56 rfl (fun hb7 => ?_) (fun hb7 => ?_)
              · -- True
                refine AGo.cond_true true rfl rfl ?_
                refine AGo.seq ?_
                refine AGo.region ?_
                refine AOps.s 2 rfl rfl rfl (q_move (.inr rfl) rfl) ?_
                refine AOps.nil ?_
                refine AGo.ret ?_
                refine ⟨[_], ⟨rfl, trivial⟩, ?_, rfl⟩
                rfl
              · -- False
                refine AGo.cond_false false rfl rfl ?_
                have hc2 : checkB B C Q = true := by simpa using hb7
                have hh1 := check_iff.1 hc1
                have hh2 := check_iff.1 hc2
                have hold := holds_join hh1 hh2
                have hjl : (joinPs P Q).length = Q.length := by simp [joinPs]
                refine AGo.skip ?_
                refine AGo.seq ?_
                refine AGo.region ?_
                refine AOps.s 3 rfl rfl rfl (q_move (.inr rfl) rfl) ?_
                refine AOps.nil ?_
                refine AGo.seq ?_
                refine AGo.seq ?_
                refine AGo.ghost (.dry 3 1 1 true rfl rfl rfl (by decide)) ?_
                refine AGo.region ?_
                refine AOps.s 4 rfl rfl rfl (q_move (.inr rfl) rfl) ?_
                refine AOps.nil ?_
                refine AGo.block ?_
                refine AGo.loopD (γ := Nat) 2 (fun k => ⟨121, (eput (eput (eput eNew 1 (.ptr 0 1 0 0)) 3 (.ref 1 k 0 k)) 4 (.int .i64 (k : Int))), (hput (hput (hFrom 2) 0 (.row false 8 [twoCells A B C P Q])) 1 (.row true 1 (((joinPs P Q).take k).map pathCell)))⟩) (fun k => k ≤ Q.length) (fun k => Q.length - k) 0 (Sub.mk' (by repeat (first | exact ESub.new _ | refine ESub.put ?_ (by rfl))) (by repeat (first | exact HSub.none _ | exact HSub.from_new _ | exact HSub.from_from (by decide) | refine HSub.put ?_ (by rfl) | refine HSub.from_put ?_ (by decide) | refine HSub.from_rm ?_ (by decide)))) (Nat.zero_le _) (fun _ => hput_free (hput_free (fun b hb => hFrom_free hb) rfl) rfl) ?_
                intro k hk
                refine AGo.seq ?_
                refine AGo.seq ?_
                refine AGo.region ?_
                refine AOps.s 57 rfl rfl rfl (q_move (.inl rfl) rfl) ?_
                refine AOps.s 58 rfl rfl rfl (q_fieldAddr tok rfl rfl rfl rfl rfl rfl) ?_
                refine AOps.s 59 rfl rfl rfl (q_load tok rfl rfl rfl (by first | exact .loc _ | exact .ptr _ _ _ _ _ _ _ _ rfl rfl rfl) rfl) ?_
                refine AOps.s 60 rfl rfl rfl (q_len tok rfl rfl rfl rfl rfl) ?_
                refine AOps.s 61 rfl rfl rfl (q_bin rfl rfl rfl rfl) ?_
                refine AOps.nil ?_
                refine AGo.split 61 rfl (fun hb8 => ?_) (fun hb8 => ?_)
                · -- True
                  refine AGo.cond_true true rfl rfl ?_
                  have hkl : k < Q.length := lt_of_idx hb8
                  obtain ⟨q, hq⟩ := get_of_lt hkl
                  have hqm := List.mem_of_getElem? hq
                  have hjk : (joinPs P Q)[k]? = some (joinP P q) := by simp [joinPs, hq]
                  refine AGo.skip ?_
                  refine AGo.seq ?_
                  refine AGo.block ?_
                  refine AGo.seq ?_
                  refine AGo.region ?_
                  refine AOps.s 5 rfl rfl rfl (q_move (.inr rfl) rfl) ?_
                  refine AOps.nil ?_
                  refine AGo.seq ?_
                  refine AGo.seq ?_
                  refine AGo.ghost (.dry 5 2 1 true rfl rfl rfl (by decide)) ?_
                  refine AGo.region ?_
                  refine AOps.s 6 rfl rfl rfl (q_move (.inr rfl) rfl) ?_
                  refine AOps.nil ?_
                  refine AGo.block ?_
                  refine AGo.loopD (γ := Nat) 3 (fun j => ⟨121, (eput (eput (eput (eput (eput eNew 1 (.ptr 0 1 0 0)) 3 (.ref 1 k 0 k)) 4 (.int .i64 (k : Int))) 5 (.ref 2 (joinP P (q.take j)).length 0 (joinP P (q.take j)).length)) 6 (.int .i64 (j : Int))), (hput (hput (hput (hFrom 3) 0 (.row false 8 [twoCells A B C P Q])) 1 (.row true 1 (((joinPs P Q).take k).map pathCell))) 2 (.row true 1 (intCells (joinP P (q.take j)))))⟩) (fun j => True) (fun j => q.length - j) 0 (Sub.mk' (by repeat (first | exact ESub.new _ | refine ESub.put ?_ (by rfl))) (by repeat (first | exact HSub.none _ | exact HSub.from_new _ | exact HSub.from_from (by decide) | refine HSub.put ?_ (by rfl) | refine HSub.from_put ?_ (by decide) | refine HSub.from_rm ?_ (by decide)))) trivial (fun _ => hput_free (hput_free (hput_free (fun b hb => hFrom_free hb) rfl) rfl) rfl) ?_
                  intro j _
                  refine AGo.seq ?_
                  refine AGo.seq ?_
                  refine AGo.region ?_
                  refine AOps.s 64 rfl rfl rfl (q_move (.inl rfl) rfl) ?_
                  refine AOps.s 65 rfl rfl rfl (q_fieldAddr tok rfl rfl rfl rfl rfl rfl) ?_
                  refine AOps.s 66 rfl rfl rfl (q_load tok rfl rfl rfl (by first | exact .loc _ | exact .ptr _ _ _ _ _ _ _ _ rfl rfl rfl) rfl) ?_
                  refine AOps.s 67 rfl rfl rfl (q_move (.inl rfl) rfl) ?_
                  refine AOps.s 68 rfl rfl rfl (q_index_lst tok rfl rfl rfl rfl rfl rfl (Int.natCast_nonneg _) (idx_map hq) rfl) ?_
                  refine AOps.s 69 rfl rfl rfl (q_load tok rfl rfl rfl (by first | exact .loc _ | exact .ptr _ _ _ _ _ _ _ _ rfl rfl rfl) rfl) ?_
                  refine AOps.s 70 rfl rfl rfl (q_len tok rfl rfl rfl rfl rfl) ?_
                  refine AOps.s 71 rfl rfl rfl (q_bin rfl rfl rfl rfl) ?_
                  refine AOps.nil ?_
                  refine AGo.split 71 rfl (fun hb9 => ?_) (fun hb9 => ?_)
                  · -- True
                    refine AGo.cond_true true rfl rfl ?_
                    have hjlt : j < q.length := lt_of_idx hb9
                    obtain ⟨y, hy⟩ := get_of_lt hjlt
                    have hyr : 0 ≤ y ∧ y < P.length := by rw [hh1.len]; exact (hh2.all q hqm).2 y (List.mem_of_getElem? hy)
                    have hjb := joinP_len hps2 (q.take j)
                    have hjq := hqs2 q hqm
                    rw [List.length_take] at hjb
                    have hyl := hps2 _ (List.mem_of_getElem? (pathK_get hyr))
                    refine AGo.skip ?_
                    refine AGo.seq ?_
                    refine AGo.block ?_
                    refine AGo.seq ?_
                    refine AGo.seq ?_
                    refine AGo.draw mix ?_
                    refine DOps.s 74 rfl rfl rfl (q_fieldAddr tok rfl rfl rfl rfl rfl rfl) ?_
                    refine DOps.s 75 rfl rfl rfl (q_load tok rfl rfl rfl (by first | exact .loc _ | exact .ptr _ _ _ _ _ _ _ _ rfl rfl rfl) rfl) ?_
                    refine DOps.s 76 rfl rfl rfl (q_move (.inl rfl) rfl) ?_
                    refine DOps.s 77 rfl rfl rfl (q_index_lst tok rfl rfl rfl rfl rfl rfl (Int.natCast_nonneg _) (idx_map hq) rfl) ?_
                    refine DOps.s 78 rfl rfl rfl (q_load tok rfl rfl rfl (by first | exact .loc _ | exact .ptr _ _ _ _ _ _ _ _ rfl rfl rfl) rfl) ?_
                    refine DOps.s 79 rfl rfl rfl (q_move (.inl rfl) rfl) ?_
                    refine DOps.s 80 rfl rfl rfl (q_index_lst tok rfl rfl rfl rfl rfl rfl (Int.natCast_nonneg _) (idx_map hy) rfl) ?_
                    refine DOps.s 81 rfl rfl rfl (q_load tok rfl rfl rfl (by first | exact .loc _ | exact .ptr _ _ _ _ _ _ _ _ rfl rfl rfl) rfl) ?_
                    refine DOps.s 82 rfl rfl rfl (q_bin rfl rfl rfl rfl) ?_
                    refine DOps.s 83 rfl rfl rfl (q_move (.inl rfl) rfl) ?_
                    refine DOps.split 83 rfl (fun hb10 => ?_) (fun hb10 => ?_)
                    · -- True
                      refine DOps.u 84 rfl rfl rfl ?_
                      refine DOps.u 85 rfl rfl rfl ?_
                      refine DOps.u 86 rfl rfl rfl ?_
                      refine DOps.u 87 rfl rfl rfl ?_
                      refine DOps.u 88 rfl rfl rfl ?_
                      refine DOps.u 89 rfl rfl rfl ?_
                      refine DOps.u 90 rfl rfl rfl ?_
                      refine DOps.u 91 rfl rfl rfl ?_
                      refine DOps.u 92 rfl rfl rfl ?_
                      refine DOps.u 93 rfl rfl rfl ?_
                      refine DOps.u 94 rfl rfl rfl ?_
                      refine DOps.u 95 rfl rfl rfl ?_
                      refine DOps.s 96 rfl rfl rfl (q_pick_true true rfl rfl rfl rfl) ?_
                      refine DOps.nil (by kernel_rfl) ?_
                      refine AGo.cond_true true rfl rfl ?_
                      refine AGo.seq ?_
                      refine AGo.region ?_
                      refine AOps.s 2 rfl rfl rfl (q_move (.inr rfl) rfl) ?_
                      refine AOps.nil ?_
                      refine AGo.ret ?_
                      exfalso
                      simp_all [pathsAV]
                      omega
                    · -- False
                      refine DOps.s 84 rfl rfl rfl (q_fieldAddr tok rfl rfl rfl rfl rfl rfl) ?_
                      refine DOps.s 85 rfl rfl rfl (q_load tok rfl rfl rfl (by first | exact .loc _ | exact .ptr _ _ _ _ _ _ _ _ rfl rfl rfl) rfl) ?_
                      refine DOps.s 86 rfl rfl rfl (q_move (.inl rfl) rfl) ?_
                      refine DOps.s 87 rfl rfl rfl (q_index_lst tok rfl rfl rfl rfl rfl rfl (Int.natCast_nonneg _) (idx_map hq) rfl) ?_
                      refine DOps.s 88 rfl rfl rfl (q_load tok rfl rfl rfl (by first | exact .loc _ | exact .ptr _ _ _ _ _ _ _ _ rfl rfl rfl) rfl) ?_
                      refine DOps.s 89 rfl rfl rfl (q_move (.inl rfl) rfl) ?_
                      refine DOps.s 90 rfl rfl rfl (q_index_lst tok rfl rfl rfl rfl rfl rfl (Int.natCast_nonneg _) (idx_map hy) rfl) ?_
                      refine DOps.s 91 rfl rfl rfl (q_load tok rfl rfl rfl (by first | exact .loc _ | exact .ptr _ _ _ _ _ _ _ _ rfl rfl rfl) rfl) ?_
                      refine DOps.s 92 rfl rfl rfl (q_fieldAddr tok rfl rfl rfl rfl rfl rfl) ?_
                      refine DOps.s 93 rfl rfl rfl (q_load tok rfl rfl rfl (by first | exact .loc _ | exact .ptr _ _ _ _ _ _ _ _ rfl rfl rfl) rfl) ?_
                      refine DOps.s 94 rfl rfl rfl (q_len tok rfl rfl rfl rfl rfl) ?_
                      refine DOps.s 95 rfl rfl rfl (q_bin rfl rfl rfl rfl) ?_
                      refine DOps.s 96 rfl rfl rfl (q_pick_false false rfl rfl rfl rfl) ?_
                      refine DOps.nil (by kernel_rfl) ?_
                      refine AGo.split 96 rfl (fun hb11 => ?_) (fun hb11 => ?_)
                      · -- True
                        refine AGo.cond_true true rfl rfl ?_
                        refine AGo.seq ?_
                        refine AGo.region ?_
                        refine AOps.s 2 rfl rfl rfl (q_move (.inr rfl) rfl) ?_
                        refine AOps.nil ?_
                        refine AGo.ret ?_
                        exfalso
                        simp_all [pathsAV]
                        omega
                      · -- False
                        refine AGo.cond_false false rfl rfl ?_
                        refine AGo.skip ?_
                        refine AGo.draw mix ?_
                        refine DOps.s 97 rfl rfl rfl (q_move (.inl rfl) rfl) ?_
                        refine DOps.s 98 rfl rfl rfl (q_fieldAddr tok rfl rfl rfl rfl rfl rfl) ?_
                        refine DOps.s 99 rfl rfl rfl (q_load tok rfl rfl rfl (by first | exact .loc _ | exact .ptr _ _ _ _ _ _ _ _ rfl rfl rfl) rfl) ?_
                        refine DOps.s 100 rfl rfl rfl (q_fieldAddr tok rfl rfl rfl rfl rfl rfl) ?_
                        refine DOps.s 101 rfl rfl rfl (q_load tok rfl rfl rfl (by first | exact .loc _ | exact .ptr _ _ _ _ _ _ _ _ rfl rfl rfl) rfl) ?_
                        refine DOps.s 102 rfl rfl rfl (q_move (.inl rfl) rfl) ?_
                        refine DOps.s 103 rfl rfl rfl (q_index_lst tok rfl rfl rfl rfl rfl rfl (Int.natCast_nonneg _) (idx_map hq) rfl) ?_
                        refine DOps.s 104 rfl rfl rfl (q_load tok rfl rfl rfl (by first | exact .loc _ | exact .ptr _ _ _ _ _ _ _ _ rfl rfl rfl) rfl) ?_
                        refine DOps.s 105 rfl rfl rfl (q_move (.inl rfl) rfl) ?_
                        refine DOps.s 106 rfl rfl rfl (q_index_lst tok rfl rfl rfl rfl rfl rfl (Int.natCast_nonneg _) (idx_map hy) rfl) ?_
                        refine DOps.s 107 rfl rfl rfl (q_load tok rfl rfl rfl (by first | exact .loc _ | exact .ptr _ _ _ _ _ _ _ _ rfl rfl rfl) rfl) ?_
                        refine DOps.s 108 rfl rfl rfl (q_index_lst tok rfl rfl rfl rfl rfl rfl hyr.1 (idx_mapZ (pathK_get hyr)) rfl) ?_
                        refine DOps.s 109 rfl rfl rfl (q_load tok rfl rfl rfl (by first | exact .loc _ | exact .ptr _ _ _ _ _ _ _ _ rfl rfl rfl) rfl) ?_
                        refine DOps.x 110 rfl rfl rfl (o_append tok (n := (joinP P (q.take j)).length) (m := (pathK P y).length) rfl rfl rfl rfl rfl rfl rfl rfl rfl (by rw [intCells_len]) rfl rfl (Nat.zero_lt_succ _) (.lst _ _) (by intro cs h; simp at h; obtain ⟨v, _, rfl⟩ := h; rfl) (fun _ cs h => by simp at h; obtain ⟨v, _, rfl⟩ := h; rfl) (by simp) (by simp [intCells_len]; show _ * 8 ≤ _; omega) (by simp [intCells_len]; simp only [maxLen]; omega)) ?_
                        refine DOps.s 5 rfl rfl rfl (q_move (.inr rfl) rfl) ?_
                        refine DOps.nil (by kernel_rfl) ?_
                        refine AGo.region ?_
                        refine AOps.s 72 rfl rfl rfl (q_move (.inl rfl) rfl) ?_
                        refine AOps.s 73 rfl rfl rfl (q_inc rfl rfl hjlt (by simp only [maxLen]; omega)) ?_
                        refine AOps.s 6 rfl rfl rfl (q_move (.inr rfl) rfl) ?_
                        refine AOps.nil ?_
                        exact ⟨j+1, Drop.mk' (by repeat (first | exact EDrop.new _ _ | refine EDrop.put ?_ (by first | rfl | exact congrArg (fun n => some (AV.ref 2 n 0 n)) (by rw [joinP_succ hy, List.length_append])) rfl)) (by repeat (first | exact HDrop.none _ _ | exact HDrop.tail _ _ | refine HDrop.put ?_ (by first | rfl | exact congrArg (fun es => some (AObj.row true 1 es)) (by rw [joinP_succ hy]; simp [intCells])) rfl rfl)), trivial, by omega⟩
                  · -- False
                    refine AGo.cond_false false rfl rfl ?_
                    have hge2 := ge_of_idx hb9
                    have hqt : q.take j = q := List.take_of_length_le hge2
                    refine AGo.exit ?_
                    refine AGo.ghost (.freezeA 5 2 rfl rfl (by rw [intCells_len])) ?_
                    refine AGo.region ?_
                    refine AOps.s 111 rfl rfl rfl (q_move (.inl rfl) rfl) ?_
                    refine AOps.s 112 rfl rfl rfl (q_move (.inl rfl) rfl) ?_
                    refine AOps.x 113 rfl rfl rfl (o_lit' tok rfl rfl rfl rfl rfl rfl (by decide) rfl rfl rfl rfl rfl rfl) ?_
                    refine AOps.x 114 rfl rfl rfl (o_append tok (n := k) (m := 1) rfl rfl rfl rfl rfl rfl rfl rfl rfl (by simp [joinPs]; omega) rfl rfl (Nat.zero_lt_succ _) (.lst _ _) (by intro cs h; simp [partVals] at h; subst h; rfl) (fun _ cs h => by simp [partVals] at h; subst h; rfl) rfl (by simp [partVals, joinPs]; show _ * 24 ≤ _; omega) (by simp [partVals, joinPs]; simp only [maxLen]; omega)) ?_
                    refine AOps.s 3 rfl rfl rfl (q_move (.inr rfl) rfl) ?_
                    refine AOps.nil ?_
                    refine AGo.region ?_
                    refine AOps.s 62 rfl rfl rfl (q_move (.inl rfl) rfl) ?_
                    refine AOps.s 63 rfl rfl rfl (q_inc rfl rfl hkl (by simp only [maxLen]; omega)) ?_
                    refine AOps.s 4 rfl rfl rfl (q_move (.inr rfl) rfl) ?_
                    refine AOps.nil ?_
                    exact ⟨k+1, Drop.mk' (by repeat (first | exact EDrop.new _ _ | refine EDrop.put ?_ (by rfl) rfl)) (by repeat (first | exact HDrop.none _ _ | exact HDrop.tail _ _ | refine HDrop.put ?_ (by first | rfl | exact congrArg (fun es => some (AObj.row true 1 es)) (by rw [hqt, take_succ_eq hjk, List.map_append]; rfl)) rfl rfl)), hkl, by omega⟩
                · -- False
                  refine AGo.cond_false false rfl rfl ?_
                  have hge := ge_of_idx hb8
                  obtain rfl : k = Q.length := by omega
                  have htk : (joinPs P Q).take Q.length = joinPs P Q := List.take_of_length_le (by omega)
                  refine AGo.exit ?_
                  refine AGo.seq ?_
                  refine AGo.ghost (.freezeA 3 1 rfl rfl (by simp [joinPs])) ?_
                  refine AGo.region ?_
                  refine AOps.s 115 rfl rfl rfl (q_fieldAddr tok rfl rfl rfl rfl rfl rfl) ?_
                  refine AOps.s 116 rfl rfl rfl (q_load tok rfl rfl rfl (by first | exact .loc _ | exact .ptr _ _ _ _ _ _ _ _ rfl rfl rfl) rfl) ?_
                  refine AOps.s 117 rfl rfl rfl (q_fieldAddr tok rfl rfl rfl rfl rfl rfl) ?_
                  refine AOps.s 118 rfl rfl rfl (q_load tok rfl rfl rfl (by first | exact .loc _ | exact .ptr _ _ _ _ _ _ _ _ rfl rfl rfl) rfl) ?_
                  refine AOps.s 119 rfl rfl rfl (q_move (.inl rfl) rfl) ?_
                  refine AOps.x 120 rfl rfl rfl (o_pure rfl Try.func17 (by kernel_rfl) rfl rfl rfl ((check_ok A C ((joinPs P Q).take Q.length) hcl (by rw [List.length_take]; omega) (fun p hp => joinPs_len hps2 hqs2 p (List.mem_of_mem_take hp))).mono (fun r h => by rw [h, htk, check_iff.2 hold]))) ?_
                  refine AOps.s 2 rfl rfl rfl (q_move (.inr rfl) rfl) ?_
                  refine AOps.nil ?_
                  refine AGo.ret ?_
                  refine ⟨[_], ⟨rfl, trivial⟩, ?_, rfl⟩
                  rfl

end Go.Proofs.Ytidfabbnobipkaa.Sv
