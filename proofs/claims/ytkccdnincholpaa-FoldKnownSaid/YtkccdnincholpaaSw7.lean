/-
  WALKS: printed by a program of our own from the code's tree.
-/
import Derived.Test.YtkccdnincholpaaSp6
import Derived.Test.YtkccdnincholpaaSw5
import Derived.Test.YtkccdnincholpaaSw1
import Derived.Test.YtkccdnincholpaaSw2
import Derived.Test.YtkccdnincholpaaSw4
namespace Go.Proofs.Ytkccdnincholpaa.Sv
open Go
set_option linter.unusedVariables false
set_option linter.unusedSimpArgs false

set_option maxRecDepth 100000 in
theorem foldKnown_ok (a b : Int) (ops : List Int) (ha : isW a) (hb : isW b) : APure Try.prog 6 [.int .u32 a, .int .u32 b, (.lst false (ops.map fun n => [.int .u8 n]))] (fun r => r = .bool true) := by
  refine APure.of_body (n := 87) tok Try.func6 rfl rfl ?_
  refine AGo.seq ?_
  refine AGo.region ?_
  refine AOps.s 6 rfl rfl rfl (q_move (.inr rfl) rfl) ?_
  refine AOps.nil ?_
  refine AGo.seq ?_
  refine AGo.seq ?_
  refine AGo.region ?_
  refine AOps.x 18 rfl rfl rfl (o_pure rfl Try.func9 (by kernel_rfl) rfl rfl rfl (awake_ok)) ?_
  refine AOps.s 19 rfl rfl rfl (q_not rfl rfl) ?_
  refine AOps.nil ?_
  refine AGo.cond_false false rfl rfl ?_
  refine AGo.skip ?_
  refine AGo.seq ?_
  refine AGo.seq ?_
  refine AGo.region ?_
  refine AOps.s 20 rfl rfl rfl (q_move (.inl rfl) rfl) ?_
  refine AOps.s 21 rfl rfl rfl (q_len tok rfl rfl rfl rfl rfl) ?_
  refine AOps.s 22 rfl rfl rfl (q_bin rfl rfl rfl rfl) ?_
  refine AOps.nil ?_
  refine AGo.split 22 rfl (fun hb1 => ?_) (fun hb1 => ?_)
  · -- True
    refine AGo.cond_true true rfl rfl ?_
    refine AGo.seq ?_
    refine AGo.region ?_
    refine AOps.s 6 rfl rfl rfl (q_move (.inr rfl) rfl) ?_
    refine AOps.nil ?_
    refine AGo.ret ?_
    refine ⟨[_], ⟨rfl, trivial⟩, ?_, rfl⟩
    rfl
  · -- False
    refine AGo.cond_false false rfl rfl ?_
    have hlen : ops.length ≤ 20 := by have h := hb1; simp at h; omega
    refine AGo.skip ?_
    refine AGo.seq ?_
    refine AGo.region ?_
    refine AOps.s 23 rfl rfl rfl (q_move (.inl rfl) rfl) ?_
    refine AOps.s 24 rfl rfl rfl (q_build tok rfl rfl rfl rfl rfl (by decide) rfl rfl rfl) ?_
    refine AOps.s 25 rfl rfl rfl (q_move (.inl rfl) rfl) ?_
    refine AOps.s 26 rfl rfl rfl (q_build tok rfl rfl rfl rfl rfl (by decide) rfl rfl rfl) ?_
    refine AOps.x 27 rfl rfl rfl (o_litRow tok 0 true rfl rfl rfl rfl rfl rfl (by decide) rfl rfl rfl rfl (by first | exact fun _ => rfl | (intro h; cases h)) rfl rfl) ?_
    refine AOps.s 7 rfl rfl rfl (q_move (.inr rfl) rfl) ?_
    refine AOps.nil ?_
    refine AGo.seq ?_
    refine AGo.region ?_
    refine AOps.x 28 rfl rfl rfl (o_litRow tok 1 true rfl rfl rfl rfl rfl rfl (by decide) rfl rfl rfl rfl (by first | exact fun _ => rfl | (intro h; cases h)) rfl rfl) ?_
    refine AOps.s 29 rfl rfl rfl (q_move (.inl rfl) rfl) ?_
    refine AOps.x 30 rfl rfl rfl (o_append tok (es := []) rfl rfl rfl rfl rfl rfl rfl rfl rfl rfl rfl rfl (Nat.zero_lt_succ _) (.ref _ _ _ _ _ _ _ rfl rfl) (by intro cs h; simp [partVals] at h; rcases h with rfl | rfl <;> rfl) (fun _ cs h => by simp [partVals] at h; rcases h with rfl | rfl <;> rfl) rfl (by show (2 : Nat) * 64 ≤ 140737488355328; decide) (by show (2 : Nat) ≤ maxLen; decide)) ?_
    refine AOps.s 8 rfl rfl rfl (q_move (.inr rfl) rfl) ?_
    refine AOps.nil ?_
    refine AGo.seq ?_
    refine AGo.region ?_
    refine AOps.s 31 rfl rfl rfl (q_move (.inl rfl) rfl) ?_
    refine AOps.s 9 rfl rfl rfl (q_move (.inr rfl) rfl) ?_
    refine AOps.nil ?_
    refine AGo.seq ?_
    refine AGo.region ?_
    refine AOps.s 10 rfl rfl rfl (q_move (.inr rfl) rfl) ?_
    refine AOps.nil ?_
    refine AGo.seq ?_
    refine AGo.seq ?_
    refine AGo.region ?_
    refine AOps.s 11 rfl rfl rfl (q_move (.inr rfl) rfl) ?_
    refine AOps.nil ?_
    refine AGo.block ?_
    refine AGo.loopD (γ := Nat) 2 (fun k => ⟨87, (eput (eput (eput (eput (eput (eput (eput (eput eNew 0 (.int .u32 a)) 1 (.int .u32 b)) 2 (.lst false (ops.map fun n => [.int .u8 n]))) 7 (.ref 0 (k + 2) 0 (k + 2))) 8 (.ref 1 (k + 2) 0 (k + 2))) 9 (.int .u32 (fkS a b (ops.take k)).1)) 10 (.bool (fkS a b (ops.take k)).2)) 11 (.int .i64 (k : Int))), (hput (hput (hFrom 2) 0 (.row true 8 ((fkL a b (ops.take k)).map Tac.cells))) 1 (.row true 8 ((fkW a b (ops.take k)).map Tac.cells)))⟩) (fun k => k ≤ ops.length) (fun k => ops.length - k) 0 (Sub.mk' (by repeat (first | exact ESub.new _ | refine ESub.put ?_ (by rfl))) (by repeat (first | exact HSub.none _ | exact HSub.from_new _ | exact HSub.from_from (by decide) | refine HSub.put ?_ (by rfl) | refine HSub.from_put ?_ (by decide)))) (Nat.zero_le _) (fun _ => hput_free (hput_free (fun b hb => hFrom_free hb) rfl) rfl) ?_
    intro k hk
    refine AGo.seq ?_
    refine AGo.seq ?_
    refine AGo.region ?_
    refine AOps.s 32 rfl rfl rfl (q_move (.inl rfl) rfl) ?_
    refine AOps.s 33 rfl rfl rfl (q_move (.inl rfl) rfl) ?_
    refine AOps.s 34 rfl rfl rfl (q_len tok rfl rfl rfl rfl rfl) ?_
    refine AOps.s 35 rfl rfl rfl (q_bin rfl rfl rfl rfl) ?_
    refine AOps.nil ?_
    refine AGo.split 35 rfl (fun hb2 => ?_) (fun hb2 => ?_)
    · -- True
      refine AGo.cond_true true rfl rfl ?_
      have hkl : k < ops.length := lt_of_idx hb2
      obtain ⟨o, ho⟩ := get_of_lt hkl
      have hkt : (ops.take k).length = k := by rw [List.length_take]; omega
      refine AGo.skip ?_
      refine AGo.seq ?_
      refine AGo.block ?_
      refine AGo.seq ?_
      refine AGo.region ?_
      refine AOps.s 38 rfl rfl rfl (q_move (.inl rfl) rfl) ?_
      refine AOps.s 39 rfl rfl rfl (q_move (.inl rfl) rfl) ?_
      refine AOps.s 40 rfl rfl rfl (q_index_lst tok rfl rfl rfl rfl rfl rfl (Int.natCast_nonneg _) (idx_map (by assumption)) rfl) ?_
      refine AOps.s 41 rfl rfl rfl (q_load tok rfl rfl rfl (by first | exact .loc _ | exact .ptr _ _ _ _ _ _ _ _ rfl rfl rfl) rfl) ?_
      refine AOps.s 42 rfl rfl rfl (q_convInt tok rfl rfl rfl rfl rfl) ?_
      refine AOps.s 43 rfl rfl rfl (q_bin rfl rfl rfl rfl) ?_
      refine AOps.s 44 rfl rfl rfl (q_bin rfl rfl rfl rfl) ?_
      refine AOps.s 12 rfl rfl rfl (q_move (.inr rfl) rfl) ?_
      refine AOps.nil ?_
      refine AGo.seq ?_
      refine AGo.region ?_
      refine AOps.s 45 rfl rfl rfl (q_move (.inl rfl) rfl) ?_
      refine AOps.s 46 rfl rfl rfl (q_build tok rfl rfl rfl rfl rfl (by decide) rfl rfl rfl) ?_
      refine AOps.x 13 rfl rfl rfl (o_alloc tok 2 rfl rfl rfl rfl (Nat.zero_lt_succ _) rfl) ?_
      refine AOps.w rfl rfl (o_store tok rfl rfl rfl rfl rfl rfl rfl rfl rfl (by decide) rfl (by first | exact fun _ => rfl | (intro h; cases h))) ?_
      refine AOps.nil ?_
      refine AGo.seq ?_
      refine AGo.region ?_
      refine AOps.s 47 rfl rfl rfl (q_move (.inl rfl) rfl) ?_
      refine AOps.s 48 rfl rfl rfl (q_load tok rfl rfl rfl (by first | exact .loc _ | exact .ptr _ _ _ _ _ _ _ _ rfl rfl rfl) rfl) ?_
      refine AOps.x 49 rfl rfl rfl (o_lit' tok rfl rfl rfl rfl rfl rfl (by decide) rfl rfl rfl rfl rfl rfl) ?_
      refine AOps.x 50 rfl rfl rfl (o_append tok  rfl rfl rfl rfl rfl rfl rfl rfl rfl (by simp [fkL]; omega) rfl rfl (Nat.zero_lt_succ _) (.lst _ _) (by intro cs h; simp [partVals] at h; subst h; rfl) (fun _ cs h => by simp [partVals] at h; subst h; rfl) rfl (by simp [fkL, partVals]; show _ * 64 ≤ _; omega) (by simp [fkL, partVals]; simp only [maxLen]; omega)) ?_
      refine AOps.s 7 rfl rfl rfl (q_move (.inr rfl) rfl) ?_
      refine AOps.nil ?_
      refine AGo.seq ?_
      refine AGo.region ?_
      refine AOps.s 52 rfl rfl rfl (q_move (.inl rfl) rfl) ?_
      refine AOps.s 53 rfl rfl rfl (q_move (.inl rfl) rfl) ?_
      refine AOps.s 54 rfl rfl rfl (q_move (.inl rfl) rfl) ?_
      refine AOps.x 55 rfl rfl rfl (o_pure rfl Try.func17 (by kernel_rfl) rfl rfl rfl (apply_ok (kOp o) (fkS a b (ops.take k)).1 b hb.1)) ?_
      refine AOps.s 51 rfl rfl rfl (q_move (.inl rfl) rfl) ?_
      refine AOps.s 56 rfl rfl rfl (q_extract rfl rfl rfl) ?_
      refine AOps.s 57 rfl rfl rfl (q_extract rfl rfl rfl) ?_
      refine AOps.s 14 rfl rfl rfl (q_move (.inr rfl) rfl) ?_
      refine AOps.s 15 rfl rfl rfl (q_move (.inr rfl) rfl) ?_
      refine AOps.nil ?_
      refine AGo.seq ?_
      refine AGo.region ?_
      refine AOps.s 58 rfl rfl rfl (q_move (.inl rfl) rfl) ?_
      refine AOps.s 59 rfl rfl rfl (q_move (.inl rfl) rfl) ?_
      refine AOps.split 59 rfl (fun hb3 => ?_) (fun hb3 => ?_)
      · -- True
        refine AOps.s 60 rfl rfl rfl (q_move (.inl rfl) rfl) ?_
        refine AOps.s 61 rfl rfl rfl (q_bin rfl rfl rfl rfl) ?_
        refine AOps.s 62 rfl rfl rfl (q_pick_true true rfl rfl rfl rfl) ?_
        refine AOps.nil ?_
        refine AGo.split 62 rfl (fun hb4 => ?_) (fun hb4 => ?_)
        · -- True
          refine AGo.cond_true true rfl rfl ?_
          refine AGo.seq ?_
          refine AGo.region ?_
          refine AOps.s 63 rfl rfl rfl (q_move (.inl rfl) rfl) ?_
          refine AOps.s 64 rfl rfl rfl (q_move (.inl rfl) rfl) ?_
          refine AOps.s 65 rfl rfl rfl (q_build tok rfl rfl rfl rfl rfl (by decide) rfl rfl rfl) ?_
          refine AOps.x 66 rfl rfl rfl (o_lit' tok rfl rfl rfl rfl rfl rfl (by decide) rfl rfl rfl rfl rfl rfl) ?_
          refine AOps.x 67 rfl rfl rfl (o_append tok  rfl rfl rfl rfl rfl rfl rfl rfl rfl (by simp [fkW, fkWant_length]; omega) rfl rfl (Nat.zero_lt_succ _) (.lst _ _) (by intro cs h; simp [partVals] at h; subst h; rfl) (fun _ cs h => by simp [partVals] at h; subst h; rfl) rfl (by simp [fkW, fkWant_length, partVals]; show _ * 64 ≤ _; omega) (by simp [fkW, fkWant_length, partVals]; simp only [maxLen]; omega)) ?_
          refine AOps.s 8 rfl rfl rfl (q_move (.inr rfl) rfl) ?_
          refine AOps.nil ?_
          refine AGo.region ?_
          refine AOps.s 68 rfl rfl rfl (q_move (.inl rfl) rfl) ?_
          refine AOps.s 9 rfl rfl rfl (q_move (.inr rfl) rfl) ?_
          refine AOps.nil ?_
          refine AGo.region ?_
          refine AOps.s 36 rfl rfl rfl (q_move (.inl rfl) rfl) ?_
          refine AOps.s 37 rfl rfl rfl (q_inc rfl rfl hkl (by simp only [maxLen]; omega)) ?_
          refine AOps.s 11 rfl rfl rfl (q_move (.inr rfl) rfl) ?_
          refine AOps.nil ?_
          exact ⟨k+1, Drop.mk' (by repeat (first | exact EDrop.new _ _ | refine EDrop.put ?_ (by first | rfl | exact congrArg (fun (z : Int) => some (AV.int .u32 z)) (by rw [fkS_succ ho]; simp [fkStep, fkOk, *]) | exact congrArg (fun (z : Bool) => some (AV.bool z)) (by rw [fkS_succ ho]; simp [fkStep, fkOk, *])) rfl)) (by repeat (first | exact HDrop.none _ _ | exact HDrop.tail _ _ | refine HDrop.put ?_ (by first | rfl | exact congrArg (fun es => some (AObj.row true 8 es)) (by rw [fkL_succ ho, List.map_append]; rfl) | exact congrArg (fun es => some (AObj.row true 8 es)) (by rw [fkW_succ ho, List.map_append]; congr 1; simp [fkTac, fkOk, *]; rfl)) rfl rfl)), hkl, by omega⟩
        · -- False
          refine AGo.cond_false false rfl rfl ?_
          refine AGo.seq ?_
          refine AGo.region ?_
          refine AOps.s 10 rfl rfl rfl (q_move (.inr rfl) rfl) ?_
          refine AOps.nil ?_
          refine AGo.region ?_
          refine AOps.s 69 rfl rfl rfl (q_move (.inl rfl) rfl) ?_
          refine AOps.s 70 rfl rfl rfl (q_load tok rfl rfl rfl (by first | exact .loc _ | exact .ptr _ _ _ _ _ _ _ _ rfl rfl rfl) rfl) ?_
          refine AOps.x 71 rfl rfl rfl (o_lit' tok rfl rfl rfl rfl rfl rfl (by decide) rfl rfl rfl rfl rfl rfl) ?_
          refine AOps.x 72 rfl rfl rfl (o_append tok  rfl rfl rfl rfl rfl rfl rfl rfl rfl (by simp [fkW, fkWant_length]; omega) rfl rfl (Nat.zero_lt_succ _) (.lst _ _) (by intro cs h; simp [partVals] at h; subst h; rfl) (fun _ cs h => by simp [partVals] at h; subst h; rfl) rfl (by simp [fkW, fkWant_length, partVals]; show _ * 64 ≤ _; omega) (by simp [fkW, fkWant_length, partVals]; simp only [maxLen]; omega)) ?_
          refine AOps.s 8 rfl rfl rfl (q_move (.inr rfl) rfl) ?_
          refine AOps.nil ?_
          refine AGo.region ?_
          refine AOps.s 36 rfl rfl rfl (q_move (.inl rfl) rfl) ?_
          refine AOps.s 37 rfl rfl rfl (q_inc rfl rfl hkl (by simp only [maxLen]; omega)) ?_
          refine AOps.s 11 rfl rfl rfl (q_move (.inr rfl) rfl) ?_
          refine AOps.nil ?_
          exact ⟨k+1, Drop.mk' (by repeat (first | exact EDrop.new _ _ | refine EDrop.put ?_ (by first | rfl | exact congrArg (fun (z : Int) => some (AV.int .u32 z)) (by rw [fkS_succ ho]; simp [fkStep, fkOk, *]) | exact congrArg (fun (z : Bool) => some (AV.bool z)) (by rw [fkS_succ ho]; simp [fkStep, fkOk, *])) rfl)) (by repeat (first | exact HDrop.none _ _ | exact HDrop.tail _ _ | refine HDrop.put ?_ (by first | rfl | exact congrArg (fun es => some (AObj.row true 8 es)) (by rw [fkL_succ ho, List.map_append]; rfl) | exact congrArg (fun es => some (AObj.row true 8 es)) (by rw [fkW_succ ho, List.map_append]; congr 1; simp [fkTac, fkOk, *]; rfl)) rfl rfl)), hkl, by omega⟩
      · -- False
        refine AOps.k 60 rfl rfl rfl ?_
        refine AOps.k 61 rfl rfl rfl ?_
        refine AOps.s 62 rfl rfl rfl (q_pick_false false rfl rfl rfl rfl) ?_
        refine AOps.nil ?_
        refine AGo.cond_false false rfl rfl ?_
        refine AGo.seq ?_
        refine AGo.region ?_
        refine AOps.s 10 rfl rfl rfl (q_move (.inr rfl) rfl) ?_
        refine AOps.nil ?_
        refine AGo.region ?_
        refine AOps.s 69 rfl rfl rfl (q_move (.inl rfl) rfl) ?_
        refine AOps.s 70 rfl rfl rfl (q_load tok rfl rfl rfl (by first | exact .loc _ | exact .ptr _ _ _ _ _ _ _ _ rfl rfl rfl) rfl) ?_
        refine AOps.x 71 rfl rfl rfl (o_lit' tok rfl rfl rfl rfl rfl rfl (by decide) rfl rfl rfl rfl rfl rfl) ?_
        refine AOps.x 72 rfl rfl rfl (o_append tok  rfl rfl rfl rfl rfl rfl rfl rfl rfl (by simp [fkW, fkWant_length]; omega) rfl rfl (Nat.zero_lt_succ _) (.lst _ _) (by intro cs h; simp [partVals] at h; subst h; rfl) (fun _ cs h => by simp [partVals] at h; subst h; rfl) rfl (by simp [fkW, fkWant_length, partVals]; show _ * 64 ≤ _; omega) (by simp [fkW, fkWant_length, partVals]; simp only [maxLen]; omega)) ?_
        refine AOps.s 8 rfl rfl rfl (q_move (.inr rfl) rfl) ?_
        refine AOps.nil ?_
        refine AGo.region ?_
        refine AOps.s 36 rfl rfl rfl (q_move (.inl rfl) rfl) ?_
        refine AOps.s 37 rfl rfl rfl (q_inc rfl rfl hkl (by simp only [maxLen]; omega)) ?_
        refine AOps.s 11 rfl rfl rfl (q_move (.inr rfl) rfl) ?_
        refine AOps.nil ?_
        exact ⟨k+1, Drop.mk' (by repeat (first | exact EDrop.new _ _ | refine EDrop.put ?_ (by first | rfl | exact congrArg (fun (z : Int) => some (AV.int .u32 z)) (by rw [fkS_succ ho]; simp [fkStep, fkOk, *]) | exact congrArg (fun (z : Bool) => some (AV.bool z)) (by rw [fkS_succ ho]; simp [fkStep, fkOk, *])) rfl)) (by repeat (first | exact HDrop.none _ _ | exact HDrop.tail _ _ | refine HDrop.put ?_ (by first | rfl | exact congrArg (fun es => some (AObj.row true 8 es)) (by rw [fkL_succ ho, List.map_append]; rfl) | exact congrArg (fun es => some (AObj.row true 8 es)) (by rw [fkW_succ ho, List.map_append]; congr 1; simp [fkTac, fkOk, *]; rfl)) rfl rfl)), hkl, by omega⟩
    · -- False
      refine AGo.cond_false false rfl rfl ?_
      have hge := ge_of_idx hb2
      have hkt : (ops.take k).length = k := by rw [List.length_take]; omega
      refine AGo.exit ?_
      refine AGo.seq ?_
      refine AGo.ghost (.freezeAll 7 0 rfl rfl (by simp [fkL]; omega)) ?_
      refine AGo.region ?_
      refine AOps.s 74 rfl rfl rfl (q_move (.inl rfl) rfl) ?_
      refine AOps.s 75 rfl rfl rfl (q_build tok rfl rfl rfl rfl rfl (by decide) rfl rfl rfl) ?_
      refine AOps.x 76 rfl rfl rfl (o_lit' tok rfl rfl rfl rfl rfl rfl (by decide) rfl rfl rfl rfl rfl rfl) ?_
      refine AOps.s 77 rfl rfl rfl (q_build tok rfl rfl rfl rfl rfl (by decide) rfl rfl rfl) ?_
      refine AOps.x 78 rfl rfl rfl (o_pure rfl Try.func11 (by kernel_rfl) rfl rfl rfl (foldOf_ok (fkF a b (ops.take k)) (fkF_mild ha hb (by rw [List.length_take]; omega)))) ?_
      refine AOps.s 73 rfl rfl rfl (q_move (.inl rfl) rfl) ?_
      refine AOps.s 79 rfl rfl rfl (q_extract rfl rfl rfl) ?_
      refine AOps.s 80 rfl rfl rfl (q_extract rfl rfl rfl) ?_
      refine AOps.x 16 rfl rfl rfl (o_alloc tok 2 rfl rfl rfl rfl (Nat.zero_lt_succ _) rfl) ?_
      refine AOps.x 17 rfl rfl rfl (o_alloc tok 3 rfl rfl rfl rfl (Nat.zero_lt_succ _) rfl) ?_
      refine AOps.w rfl rfl (o_store tok rfl rfl rfl rfl rfl rfl rfl rfl rfl (by decide) rfl (by first | exact fun _ => rfl | (intro h; cases h))) ?_
      refine AOps.w rfl rfl (o_store tok rfl rfl rfl rfl rfl rfl rfl rfl rfl (by decide) rfl (by first | exact fun _ => rfl | (intro h; cases h))) ?_
      refine AOps.nil ?_
      refine AGo.seq ?_
      refine AGo.ghost (.freezeAll 8 1 rfl rfl (by simp [fkW, fkWant_length]; omega)) ?_
      refine AGo.region ?_
      refine AOps.s 81 rfl rfl rfl (q_load tok rfl rfl rfl (by first | exact .loc _ | exact .ptr _ _ _ _ _ _ _ _ rfl rfl rfl) rfl) ?_
      refine AOps.s 82 rfl rfl rfl (q_move (.inl rfl) rfl) ?_
      refine AOps.s 83 rfl rfl rfl (q_build tok rfl rfl rfl rfl rfl (by decide) rfl rfl rfl) ?_
      refine AOps.x 84 rfl rfl rfl (o_lit' tok rfl rfl rfl rfl rfl rfl (by decide) rfl rfl rfl rfl rfl rfl) ?_
      refine AOps.s 85 rfl rfl rfl (q_build tok rfl rfl rfl rfl rfl (by decide) rfl rfl rfl) ?_
      refine AOps.x 86 rfl rfl rfl (o_pure rfl Try.func13 (by kernel_rfl) rfl rfl rfl ((sameFunc_ok (fkF a b (ops.take k)).fold (fkG a b (ops.take k))).mono (fun r h => by rw [h, decide_eq_true (fkF_fold a b _)]))) ?_
      refine AOps.s 6 rfl rfl rfl (q_move (.inr rfl) rfl) ?_
      refine AOps.nil ?_
      refine AGo.ret ?_
      refine ⟨[_], ⟨rfl, trivial⟩, ?_, rfl⟩
      rfl

end Go.Proofs.Ytkccdnincholpaa.Sv
