/-
  WALKS: printed by a program of our own from the code's tree.
-/
import Derived.Test.YtkccdnincholpaaSp14
import Derived.Test.YtkccdnincholpaaSw5
import Derived.Test.YtkccdnincholpaaSw14
import Derived.Test.YtkccdnincholpaaSw1
import Derived.Test.YtkccdnincholpaaSw2
import Derived.Test.YtkccdnincholpaaSw4
namespace Go.Proofs.Ytkccdnincholpaa.Sv
open Go
set_option linter.unusedVariables false
set_option linter.unusedSimpArgs false

set_option maxRecDepth 100000 in
theorem foldMeans_ok (b : Blocks) (s : ByteArray) (fuel : Int) (hb : b.Ok) (hfu : 0 ≤ fuel ∧ fuel ≤ 255) : APure Try.prog 4 [.agg b.cells, .str s, .int .u8 fuel] (fun r => r = .bool true) := by
  refine APure.of_body (n := 61) tok Try.func4 rfl rfl ?_
  refine AGo.seq ?_
  refine AGo.region ?_
  refine AOps.x 3 rfl rfl rfl (o_box (sz := 2) 0 rfl rfl rfl rfl (Nat.zero_lt_succ _) rfl) ?_
  refine AOps.s 6 rfl rfl rfl (q_move (.inr rfl) rfl) ?_
  refine AOps.nil ?_
  refine AGo.seq ?_
  refine AGo.seq ?_
  refine AGo.region ?_
  refine AOps.x 11 rfl rfl rfl (o_pure rfl Try.func9 (by kernel_rfl) rfl rfl rfl (awake_ok)) ?_
  refine AOps.s 12 rfl rfl rfl (q_not rfl rfl) ?_
  refine AOps.nil ?_
  refine AGo.cond_false false rfl rfl ?_
  refine AGo.skip ?_
  refine AGo.seq ?_
  refine AGo.seq ?_
  refine AGo.region ?_
  refine AOps.s 13 rfl rfl rfl (q_load tok rfl rfl rfl (by first | exact .loc _ | exact .ptr _ _ _ _ _ _ _ _ rfl rfl rfl) rfl) ?_
  refine AOps.x 14 rfl rfl rfl (o_pure rfl Try.func10 (by kernel_rfl) rfl rfl rfl (small_ok b 100 hb.tight)) ?_
  refine AOps.s 15 rfl rfl rfl (q_not rfl rfl) ?_
  refine AOps.s 16 rfl rfl rfl (q_move (.inl rfl) rfl) ?_
  refine AOps.split 16 rfl (fun hb1 => ?_) (fun hb1 => ?_)
  · -- True
    refine AOps.k 17 rfl rfl rfl ?_
    refine AOps.k 18 rfl rfl rfl ?_
    refine AOps.k 19 rfl rfl rfl ?_
    refine AOps.s 20 rfl rfl rfl (q_pick_true true rfl rfl rfl rfl) ?_
    refine AOps.nil ?_
    refine AGo.cond_true true rfl rfl ?_
    refine AGo.seq ?_
    refine AGo.region ?_
    refine AOps.s 6 rfl rfl rfl (q_move (.inr rfl) rfl) ?_
    refine AOps.nil ?_
    refine AGo.ret ?_
    refine ⟨[_], ⟨rfl, trivial⟩, ?_, rfl⟩
    rfl
  · -- False
    have hsm : b.small 100 = true := by simpa using hb1
    refine AOps.s 17 rfl rfl rfl (q_move (.inl rfl) rfl) ?_
    refine AOps.s 18 rfl rfl rfl (q_len tok rfl rfl rfl rfl rfl) ?_
    refine AOps.s 19 rfl rfl rfl (q_bin rfl rfl rfl rfl) ?_
    refine AOps.s 20 rfl rfl rfl (q_pick_false false rfl rfl rfl rfl) ?_
    refine AOps.nil ?_
    refine AGo.split 20 rfl (fun hb2 => ?_) (fun hb2 => ?_)
    · -- True
      refine AGo.cond_true true rfl rfl ?_
      refine AGo.seq ?_
      refine AGo.region ?_
      refine AOps.s 6 rfl rfl rfl (q_move (.inr rfl) rfl) ?_
      refine AOps.nil ?_
      refine AGo.ret ?_
      refine ⟨[_], ⟨rfl, trivial⟩, ?_, rfl⟩
      rfl
    · -- False
      refine AGo.cond_false false rfl rfl ?_
      have hsl : s.size ≤ 30 := by have h := hb2; simp at h; omega
      have hsp := small_spec hsm
      have hr := hsp.2.2.2.2
      have hrf := right_fold hr
      have hrun := mrun_fold hr s fuel
      have hiw := small_insW hb
      have hil := small_len (by decide) hsm
      have hfl := hsp.2.1
      refine AGo.skip ?_
      refine AGo.seq ?_
      refine AGo.region ?_
      refine AOps.s 21 rfl rfl rfl (q_fieldAddr tok rfl rfl rfl rfl rfl rfl) ?_
      refine AOps.s 22 rfl rfl rfl (q_load tok rfl rfl rfl (by first | exact .loc _ | exact .ptr _ _ _ _ _ _ _ _ rfl rfl rfl) rfl) ?_
      refine AOps.s 23 rfl rfl rfl (q_build tok rfl rfl rfl rfl rfl (by decide) rfl rfl rfl) ?_
      refine AOps.x 7 rfl rfl rfl (o_alloc tok 1 rfl rfl rfl rfl (Nat.zero_lt_succ _) rfl) ?_
      refine AOps.w rfl rfl (o_store tok rfl rfl rfl rfl rfl rfl rfl rfl rfl (by decide) rfl (by first | exact fun _ => rfl | (intro h; cases h))) ?_
      refine AOps.nil ?_
      refine AGo.seq ?_
      refine AGo.seq ?_
      refine AGo.ghost (.dryCell 1 0 1 2 2 true rfl rfl rfl rfl rfl (by decide)) ?_
      refine AGo.region ?_
      refine AOps.s 8 rfl rfl rfl (q_move (.inr rfl) rfl) ?_
      refine AOps.nil ?_
      refine AGo.block ?_
      refine AGo.loopD (γ := Nat) 3 (fun k => ⟨61, (eput (eput (eput (eput (eput eNew 1 (.str s)) 2 (.int .u8 fuel)) 3 (.ptr 0 1 0 0)) 7 (.ptr 1 1 0 0)) 8 (.int .i64 (k : Int))), (hput (hput (hput (hFrom 3) 0 (.row false 2 [b.cells])) 1 (.row false 2 [[.int .i64 b.words, .ref 2 k 0 k]])) 2 (.row true 2 (((b.funcs.map BFunc.fold).take k).map BFunc.cells)))⟩) (fun k => k ≤ b.funcs.length) (fun k => b.funcs.length - k) 0 (Sub.mk' (by repeat (first | exact ESub.new _ | refine ESub.put ?_ (by rfl))) (by repeat (first | exact HSub.none _ | exact HSub.from_new _ | exact HSub.from_from (by decide) | refine HSub.put ?_ (by rfl) | refine HSub.from_put ?_ (by decide)))) (Nat.zero_le _) (fun _ => hput_free (hput_free (hput_free (fun b hb => hFrom_free hb) rfl) rfl) rfl) ?_
      intro k hk
      refine AGo.seq ?_
      refine AGo.seq ?_
      refine AGo.region ?_
      refine AOps.s 24 rfl rfl rfl (q_move (.inl rfl) rfl) ?_
      refine AOps.s 25 rfl rfl rfl (q_fieldAddr tok rfl rfl rfl rfl rfl rfl) ?_
      refine AOps.s 26 rfl rfl rfl (q_load tok rfl rfl rfl (by first | exact .loc _ | exact .ptr _ _ _ _ _ _ _ _ rfl rfl rfl) rfl) ?_
      refine AOps.s 27 rfl rfl rfl (q_len tok rfl rfl rfl rfl rfl) ?_
      refine AOps.s 28 rfl rfl rfl (q_bin rfl rfl rfl rfl) ?_
      refine AOps.nil ?_
      refine AGo.split 28 rfl (fun hb3 => ?_) (fun hb3 => ?_)
      · -- True
        refine AGo.cond_true true rfl rfl ?_
        have hkl : k < b.funcs.length := lt_of_idx hb3
        obtain ⟨f, hx⟩ := get_of_lt hkl
        refine AGo.skip ?_
        refine AGo.seq ?_
        refine AGo.block ?_
        refine AGo.seq ?_
        refine AGo.region ?_
        refine AOps.s 32 rfl rfl rfl (q_fieldAddr tok rfl rfl rfl rfl rfl rfl) ?_
        refine AOps.s 33 rfl rfl rfl (q_load tok rfl rfl rfl (by first | exact .loc _ | exact .ptr _ _ _ _ _ _ _ _ rfl rfl rfl) rfl) ?_
        refine AOps.s 34 rfl rfl rfl (q_move (.inl rfl) rfl) ?_
        refine AOps.s 35 rfl rfl rfl (q_index_lst tok rfl rfl rfl rfl rfl rfl (Int.natCast_nonneg _) (idx_map (by assumption)) rfl) ?_
        refine AOps.s 36 rfl rfl rfl (q_load tok rfl rfl rfl (by first | exact .loc _ | exact .ptr _ _ _ _ _ _ _ _ rfl rfl rfl) rfl) ?_
        refine AOps.x 37 rfl rfl rfl (o_pure rfl Try.func11 (by kernel_rfl) rfl rfl rfl (foldOf_ok f (small_mild (by decide) hb hsm (List.mem_of_getElem? hx)))) ?_
        refine AOps.s 31 rfl rfl rfl (q_move (.inl rfl) rfl) ?_
        refine AOps.s 38 rfl rfl rfl (q_extract rfl rfl rfl) ?_
        refine AOps.s 39 rfl rfl rfl (q_extract rfl rfl rfl) ?_
        refine AOps.x 9 rfl rfl rfl (o_alloc tok 3 rfl rfl rfl rfl (Nat.zero_lt_succ _) rfl) ?_
        refine AOps.x 10 rfl rfl rfl (o_alloc tok 4 rfl rfl rfl rfl (Nat.zero_lt_succ _) rfl) ?_
        refine AOps.w rfl rfl (o_store tok rfl rfl rfl rfl rfl rfl rfl rfl rfl (by decide) rfl (by first | exact fun _ => rfl | (intro h; cases h))) ?_
        refine AOps.w rfl rfl (o_store tok rfl rfl rfl rfl rfl rfl rfl rfl rfl (by decide) rfl (by first | exact fun _ => rfl | (intro h; cases h))) ?_
        refine AOps.nil ?_
        refine AGo.region ?_
        refine AOps.s 40 rfl rfl rfl (q_fieldAddr tok rfl rfl rfl rfl rfl rfl) ?_
        refine AOps.s 41 rfl rfl rfl (q_load tok rfl rfl rfl (by first | exact .loc _ | exact .ptr _ _ _ _ _ _ _ _ rfl rfl rfl) rfl) ?_
        refine AOps.s 42 rfl rfl rfl (q_load tok rfl rfl rfl (by first | exact .loc _ | exact .ptr _ _ _ _ _ _ _ _ rfl rfl rfl) rfl) ?_
        refine AOps.x 43 rfl rfl rfl (o_lit' tok rfl rfl rfl rfl rfl rfl (by decide) rfl rfl rfl rfl rfl rfl) ?_
        refine AOps.x 44 rfl rfl rfl (o_append tok (n := k) (m := 1) rfl rfl rfl rfl rfl rfl rfl rfl rfl (by simp; omega) rfl rfl (Nat.zero_lt_succ _) (.lst _ _) (by intro cs h; simp [partVals] at h; subst h; rfl) (fun _ cs h => by simp [partVals] at h; subst h; rfl) rfl (by simp [partVals]; show _ * 32 ≤ _; omega) (by simp [partVals]; simp only [maxLen]; omega)) ?_
        refine AOps.s 45 rfl rfl rfl (q_fieldAddr tok rfl rfl rfl rfl rfl rfl) ?_
        refine AOps.w rfl rfl (o_store tok rfl rfl rfl rfl rfl rfl rfl rfl rfl (by decide) rfl (by first | exact fun _ => rfl | (intro h; cases h))) ?_
        refine AOps.nil ?_
        refine AGo.region ?_
        refine AOps.s 29 rfl rfl rfl (q_move (.inl rfl) rfl) ?_
        refine AOps.s 30 rfl rfl rfl (q_inc rfl rfl hkl (by simp only [maxLen]; omega)) ?_
        refine AOps.s 8 rfl rfl rfl (q_move (.inr rfl) rfl) ?_
        refine AOps.nil ?_
        exact ⟨k+1, Drop.mk' (by repeat (first | exact EDrop.new _ _ | refine EDrop.put ?_ (by rfl) rfl)) (by repeat (first | exact HDrop.none _ _ | exact HDrop.tail _ _ | refine HDrop.put ?_ (by first | rfl | exact congrArg (fun es => some (AObj.row true 2 es)) (by rw [take_succ_eq (show (b.funcs.map BFunc.fold)[k]? = some f.fold by simp [hx]), List.map_append]; rfl)) rfl rfl)), hkl, by omega⟩
      · -- False
        refine AGo.cond_false false rfl rfl ?_
        have hge := ge_of_idx hb3
        obtain rfl : k = b.funcs.length := by omega
        refine AGo.exit ?_
        refine AGo.seq ?_
        refine AGo.ghost (.freezeCell 1 0 1 2 rfl rfl rfl rfl (by simp) (by decide)) ?_
        refine AGo.sub (s' := ⟨61, (eput (eput (eput (eput eNew 1 (.str s)) 2 (.int .u8 fuel)) 3 (.ptr 0 1 0 0)) 7 (.ptr 1 1 0 0)), (hput (hput hNone 0 (.row false 2 [b.cells])) 1 (.row false 2 [b.foldAll.cells]))⟩) (Sub.mk' (by repeat (first | exact ESub.new _ | refine ESub.put ?_ (by rfl))) (by repeat (first | exact HSub.none _ | exact HSub.from_new _ | exact HSub.from_from (by decide) | refine HSub.put ?_ (by first | rfl | exact congrArg (fun es => some (AObj.row false 2 [[.int .i64 b.words, .lst false es]])) (by rw [List.drop_zero, List.take_of_length_le (by simp), List.take_of_length_le (by simp)] <;> rfl)) | refine HSub.from_put ?_ (by decide)))) ?_
        refine AGo.draw mix ?_
        refine DOps.s 46 rfl rfl rfl (q_load tok rfl rfl rfl (by first | exact .loc _ | exact .ptr _ _ _ _ _ _ _ _ rfl rfl rfl) rfl) ?_
        refine DOps.x 47 rfl rfl rfl (o_pure rfl Try.func15 (by kernel_rfl) rfl rfl rfl ((right_ok b.foldAll).mono (fun r h => by rw [h, hrf]))) ?_
        refine DOps.s 48 rfl rfl rfl (q_move (.inl rfl) rfl) ?_
        refine DOps.s 49 rfl rfl rfl (q_load tok rfl rfl rfl (by first | exact .loc _ | exact .ptr _ _ _ _ _ _ _ _ rfl rfl rfl) rfl) ?_
        refine DOps.s 50 rfl rfl rfl (q_move (.inl rfl) rfl) ?_
        refine DOps.s 51 rfl rfl rfl (q_move (.inl rfl) rfl) ?_
        refine DOps.s 52 rfl rfl rfl (q_convTo tok rfl rfl rfl rfl rfl (r := fuel) (wrap_i64 (by omega) (by omega))) ?_
        refine DOps.x 53 rfl rfl rfl (o_pure rfl Try.func16 (by kernel_rfl) rfl rfl rfl ((run_ok b.foldAll s fuel (by omega) (by omega) hrf (foldAll_insW hiw) (foldAll_len hil)).mono (fun r h => by rw [h, ‹mrun b.foldAll s fuel = mrun b s fuel›]))) ?_
        refine DOps.s 54 rfl rfl rfl (q_load tok rfl rfl rfl (by first | exact .loc _ | exact .ptr _ _ _ _ _ _ _ _ rfl rfl rfl) rfl) ?_
        refine DOps.s 55 rfl rfl rfl (q_move (.inl rfl) rfl) ?_
        refine DOps.s 56 rfl rfl rfl (q_move (.inl rfl) rfl) ?_
        refine DOps.s 57 rfl rfl rfl (q_convTo tok rfl rfl rfl rfl rfl (r := fuel) (wrap_i64 (by omega) (by omega))) ?_
        refine DOps.x 58 rfl rfl rfl (o_pure rfl Try.func16 (by kernel_rfl) rfl rfl rfl (run_ok b s fuel (by omega) (by omega) hr hiw hil)) ?_
        refine DOps.s 59 rfl rfl rfl (q_eqStruct tok false (r := true) rfl rfl rfl (by kernel_rfl) rfl rfl rfl rfl (eq_resCells _)) ?_
        refine DOps.s 60 rfl rfl rfl (q_pick_true true rfl rfl rfl rfl) ?_
        refine DOps.s 6 rfl rfl rfl (q_move (.inr rfl) rfl) ?_
        refine DOps.nil (by kernel_rfl) ?_
        refine AGo.ret ?_
        refine ⟨[_], ⟨rfl, trivial⟩, ?_, rfl⟩
        rfl

end Go.Proofs.Ytkccdnincholpaa.Sv
