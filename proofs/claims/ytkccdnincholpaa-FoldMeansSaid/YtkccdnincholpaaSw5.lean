/-
  WALKS: printed by a program of our own from the code's tree.
-/
import Derived.Test.YtkccdnincholpaaSp5
import Derived.Test.YtkccdnincholpaaSw1
import Derived.Test.YtkccdnincholpaaSw2
import Derived.Test.YtkccdnincholpaaSw4
namespace Go.Proofs.Ytkccdnincholpaa.Sv
open Go
set_option linter.unusedVariables false
set_option linter.unusedSimpArgs false

set_option maxRecDepth 100000 in
theorem awake_ok  : APure Try.prog 9 [] (fun r => r = .bool true) := by
  refine APure.of_body (n := 49) tok Try.func9 rfl rfl ?_
  refine AGo.seq ?_
  refine AGo.region ?_
  refine AOps.s 0 rfl rfl rfl (q_move (.inr rfl) rfl) ?_
  refine AOps.nil ?_
  refine AGo.seq ?_
  refine AGo.region ?_
  refine AOps.s 5 rfl rfl rfl (q_build tok rfl rfl rfl rfl rfl (by decide) rfl rfl rfl) ?_
  refine AOps.s 6 rfl rfl rfl (q_build tok rfl rfl rfl rfl rfl (by decide) rfl rfl rfl) ?_
  refine AOps.s 7 rfl rfl rfl (q_build tok rfl rfl rfl rfl rfl (by decide) rfl rfl rfl) ?_
  refine AOps.x 8 rfl rfl rfl (o_lit' tok rfl rfl rfl rfl rfl rfl (by decide) rfl rfl rfl rfl rfl rfl) ?_
  refine AOps.s 9 rfl rfl rfl (q_build tok rfl rfl rfl rfl rfl (by decide) rfl rfl rfl) ?_
  refine AOps.x 10 rfl rfl rfl (o_lit' tok rfl rfl rfl rfl rfl rfl (by decide) rfl rfl rfl rfl rfl rfl) ?_
  refine AOps.s 11 rfl rfl rfl (q_build tok rfl rfl rfl rfl rfl (by decide) rfl rfl rfl) ?_
  refine AOps.x 1 rfl rfl rfl (o_alloc tok 0 rfl rfl rfl rfl (Nat.zero_lt_succ _) rfl) ?_
  refine AOps.w rfl rfl (o_store tok rfl rfl rfl rfl rfl rfl rfl rfl rfl (by decide) rfl (by first | exact fun _ => rfl | (intro h; cases h))) ?_
  refine AOps.nil ?_
  refine AGo.seq ?_
  refine AGo.region ?_
  refine AOps.s 12 rfl rfl rfl (q_build tok rfl rfl rfl rfl rfl (by decide) rfl rfl rfl) ?_
  refine AOps.s 13 rfl rfl rfl (q_build tok rfl rfl rfl rfl rfl (by decide) rfl rfl rfl) ?_
  refine AOps.s 14 rfl rfl rfl (q_build tok rfl rfl rfl rfl rfl (by decide) rfl rfl rfl) ?_
  refine AOps.x 15 rfl rfl rfl (o_lit' tok rfl rfl rfl rfl rfl rfl (by decide) rfl rfl rfl rfl rfl rfl) ?_
  refine AOps.s 16 rfl rfl rfl (q_build tok rfl rfl rfl rfl rfl (by decide) rfl rfl rfl) ?_
  refine AOps.x 17 rfl rfl rfl (o_lit' tok rfl rfl rfl rfl rfl rfl (by decide) rfl rfl rfl rfl rfl rfl) ?_
  refine AOps.s 18 rfl rfl rfl (q_build tok rfl rfl rfl rfl rfl (by decide) rfl rfl rfl) ?_
  refine AOps.x 2 rfl rfl rfl (o_alloc tok 1 rfl rfl rfl rfl (Nat.zero_lt_succ _) rfl) ?_
  refine AOps.w rfl rfl (o_store tok rfl rfl rfl rfl rfl rfl rfl rfl rfl (by decide) rfl (by first | exact fun _ => rfl | (intro h; cases h))) ?_
  refine AOps.nil ?_
  refine AGo.seq ?_
  refine AGo.region ?_
  refine AOps.s 20 rfl rfl rfl (q_load tok rfl rfl rfl (by first | exact .loc _ | exact .ptr _ _ _ _ _ _ _ _ rfl rfl rfl) rfl) ?_
  refine AOps.x 21 rfl rfl rfl (o_pure rfl Try.func11 (by kernel_rfl) rfl rfl rfl (foldOf_ok awakeF awake_mild)) ?_
  refine AOps.s 19 rfl rfl rfl (q_move (.inl rfl) rfl) ?_
  refine AOps.s 22 rfl rfl rfl (q_extract rfl rfl rfl) ?_
  refine AOps.s 23 rfl rfl rfl (q_extract rfl rfl rfl) ?_
  refine AOps.x 3 rfl rfl rfl (o_alloc tok 2 rfl rfl rfl rfl (Nat.zero_lt_succ _) rfl) ?_
  refine AOps.x 4 rfl rfl rfl (o_alloc tok 3 rfl rfl rfl rfl (Nat.zero_lt_succ _) rfl) ?_
  refine AOps.w rfl rfl (o_store tok rfl rfl rfl rfl rfl rfl rfl rfl rfl (by decide) rfl (by first | exact fun _ => rfl | (intro h; cases h))) ?_
  refine AOps.w rfl rfl (o_store tok rfl rfl rfl rfl rfl rfl rfl rfl rfl (by decide) rfl (by first | exact fun _ => rfl | (intro h; cases h))) ?_
  refine AOps.nil ?_
  refine AGo.seq ?_
  refine AGo.region ?_
  refine AOps.s 24 rfl rfl rfl (q_load tok rfl rfl rfl (by first | exact .loc _ | exact .ptr _ _ _ _ _ _ _ _ rfl rfl rfl) rfl) ?_
  refine AOps.s 25 rfl rfl rfl (q_load tok rfl rfl rfl (by first | exact .loc _ | exact .ptr _ _ _ _ _ _ _ _ rfl rfl rfl) rfl) ?_
  refine AOps.x 26 rfl rfl rfl (o_pure rfl Try.func13 (by kernel_rfl) rfl rfl rfl ((sameFunc_ok awakeF.fold awakeW).mono (fun r h => by rw [h, decide_eq_true awake_fold]))) ?_
  refine AOps.s 27 rfl rfl rfl (q_move (.inl rfl) rfl) ?_
  refine AOps.s 28 rfl rfl rfl (q_fieldAddr tok rfl rfl rfl rfl rfl rfl) ?_
  refine AOps.s 29 rfl rfl rfl (q_load tok rfl rfl rfl (by first | exact .loc _ | exact .ptr _ _ _ _ _ _ _ _ rfl rfl rfl) rfl) ?_
  refine AOps.s 30 rfl rfl rfl (q_len tok rfl rfl rfl rfl rfl) ?_
  refine AOps.s 31 rfl rfl rfl (q_bin (r := .bool true) rfl rfl rfl (by rfl)) ?_
  refine AOps.s 32 rfl rfl rfl (q_pick_true true rfl rfl rfl rfl) ?_
  refine AOps.s 33 rfl rfl rfl (q_move (.inl rfl) rfl) ?_
  refine AOps.s 34 rfl rfl rfl (q_fieldAddr tok rfl rfl rfl rfl rfl rfl) ?_
  refine AOps.s 35 rfl rfl rfl (q_load tok rfl rfl rfl (by first | exact .loc _ | exact .ptr _ _ _ _ _ _ _ _ rfl rfl rfl) rfl) ?_
  refine AOps.s 36 rfl rfl rfl (q_index_lst tok rfl rfl rfl rfl rfl rfl (by decide) (cs := [boolsAV [true, true, true]]) rfl rfl) ?_
  refine AOps.s 37 rfl rfl rfl (q_load tok rfl rfl rfl (by first | exact .loc _ | exact .ptr _ _ _ _ _ _ _ _ rfl rfl rfl) rfl) ?_
  refine AOps.s 38 rfl rfl rfl (q_len tok rfl rfl rfl rfl rfl) ?_
  refine AOps.s 39 rfl rfl rfl (q_bin (r := .bool true) rfl rfl rfl (by rfl)) ?_
  refine AOps.s 40 rfl rfl rfl (q_pick_true true rfl rfl rfl rfl) ?_
  refine AOps.s 41 rfl rfl rfl (q_move (.inl rfl) rfl) ?_
  refine AOps.s 42 rfl rfl rfl (q_fieldAddr tok rfl rfl rfl rfl rfl rfl) ?_
  refine AOps.s 43 rfl rfl rfl (q_load tok rfl rfl rfl (by first | exact .loc _ | exact .ptr _ _ _ _ _ _ _ _ rfl rfl rfl) rfl) ?_
  refine AOps.s 44 rfl rfl rfl (q_index_lst tok rfl rfl rfl rfl rfl rfl (by decide) (cs := [boolsAV [true, true, true]]) rfl rfl) ?_
  refine AOps.s 45 rfl rfl rfl (q_load tok rfl rfl rfl (by first | exact .loc _ | exact .ptr _ _ _ _ _ _ _ _ rfl rfl rfl) rfl) ?_
  refine AOps.s 46 rfl rfl rfl (q_index_lst tok rfl rfl rfl rfl rfl rfl (by decide) (cs := [.bool true]) rfl rfl) ?_
  refine AOps.s 47 rfl rfl rfl (q_load tok rfl rfl rfl (by first | exact .loc _ | exact .ptr _ _ _ _ _ _ _ _ rfl rfl rfl) rfl) ?_
  refine AOps.s 48 rfl rfl rfl (q_pick_true true rfl rfl rfl rfl) ?_
  refine AOps.s 0 rfl rfl rfl (q_move (.inr rfl) rfl) ?_
  refine AOps.nil ?_
  refine AGo.ret ?_
  refine ⟨[_], ⟨rfl, trivial⟩, ?_, rfl⟩
  rfl

set_option maxRecDepth 100000 in
theorem foldLocal_ok (b : Blocks) (i k : Int) (hb : b.Ok) (hi : 0 ≤ i ∧ i ≤ 255) (hk : 0 ≤ k ∧ k ≤ 255) : APure Try.prog 7 [.agg b.cells, .int .u8 i, .int .u8 k] (fun r => r = .bool true) := by
  refine APure.of_body (n := 122) tok Try.func7 rfl rfl ?_
  refine AGo.seq ?_
  refine AGo.region ?_
  refine AOps.x 3 rfl rfl rfl (o_box (sz := 2) 0 rfl rfl rfl rfl (Nat.zero_lt_succ _) rfl) ?_
  refine AOps.s 6 rfl rfl rfl (q_move (.inr rfl) rfl) ?_
  refine AOps.nil ?_
  refine AGo.seq ?_
  refine AGo.seq ?_
  refine AGo.region ?_
  refine AOps.x 14 rfl rfl rfl (o_pure rfl Try.func9 (by kernel_rfl) rfl rfl rfl (awake_ok)) ?_
  refine AOps.s 15 rfl rfl rfl (q_not rfl rfl) ?_
  refine AOps.nil ?_
  refine AGo.cond_false false rfl rfl ?_
  refine AGo.skip ?_
  refine AGo.seq ?_
  refine AGo.seq ?_
  refine AGo.region ?_
  refine AOps.s 16 rfl rfl rfl (q_load tok rfl rfl rfl (by first | exact .loc _ | exact .ptr _ _ _ _ _ _ _ _ rfl rfl rfl) rfl) ?_
  refine AOps.x 17 rfl rfl rfl (o_pure rfl Try.func10 (by kernel_rfl) rfl rfl rfl (small_ok b 150 hb.tight)) ?_
  refine AOps.s 18 rfl rfl rfl (q_not rfl rfl) ?_
  refine AOps.s 19 rfl rfl rfl (q_move (.inl rfl) rfl) ?_
  refine AOps.split 19 rfl (fun hb1 => ?_) (fun hb1 => ?_)
  · -- True
    refine AOps.k 20 rfl rfl rfl ?_
    refine AOps.k 21 rfl rfl rfl ?_
    refine AOps.k 22 rfl rfl rfl ?_
    refine AOps.k 23 rfl rfl rfl ?_
    refine AOps.k 24 rfl rfl rfl ?_
    refine AOps.k 25 rfl rfl rfl ?_
    refine AOps.s 26 rfl rfl rfl (q_pick_true true rfl rfl rfl rfl) ?_
    refine AOps.s 27 rfl rfl rfl (q_move (.inl rfl) rfl) ?_
    refine AOps.k 28 rfl rfl rfl ?_
    refine AOps.k 29 rfl rfl rfl ?_
    refine AOps.k 30 rfl rfl rfl ?_
    refine AOps.k 31 rfl rfl rfl ?_
    refine AOps.k 32 rfl rfl rfl ?_
    refine AOps.k 33 rfl rfl rfl ?_
    refine AOps.k 34 rfl rfl rfl ?_
    refine AOps.k 35 rfl rfl rfl ?_
    refine AOps.k 36 rfl rfl rfl ?_
    refine AOps.k 37 rfl rfl rfl ?_
    refine AOps.s 38 rfl rfl rfl (q_pick_true true rfl rfl rfl rfl) ?_
    refine AOps.nil ?_
    refine AGo.cond_true true rfl rfl ?_
    refine AGo.seq ?_
    refine AGo.region ?_
    refine AOps.s 6 rfl rfl rfl (q_move (.inr rfl) rfl) ?_
    refine AOps.nil ?_
    refine AGo.ret ?_
    refine ⟨[_], ⟨rfl, trivial⟩, ?_, rfl⟩
    rfl
  · -- False
    have hsm : b.small 150 = true := by simpa using hb1
    refine AOps.s 20 rfl rfl rfl (q_move (.inl rfl) rfl) ?_
    refine AOps.s 21 rfl rfl rfl (q_convInt tok rfl rfl rfl rfl rfl) ?_
    refine AOps.s 22 rfl rfl rfl (q_fieldAddr tok rfl rfl rfl rfl rfl rfl) ?_
    refine AOps.s 23 rfl rfl rfl (q_load tok rfl rfl rfl (by first | exact .loc _ | exact .ptr _ _ _ _ _ _ _ _ rfl rfl rfl) rfl) ?_
    refine AOps.s 24 rfl rfl rfl (q_len tok rfl rfl rfl rfl rfl) ?_
    refine AOps.s 25 rfl rfl rfl (q_bin rfl rfl rfl rfl) ?_
    refine AOps.s 26 rfl rfl rfl (q_pick_false false rfl rfl rfl rfl) ?_
    refine AOps.s 27 rfl rfl rfl (q_move (.inl rfl) rfl) ?_
    refine AOps.split 27 rfl (fun hb2 => ?_) (fun hb2 => ?_)
    · -- True
      refine AOps.k 28 rfl rfl rfl ?_
      refine AOps.k 29 rfl rfl rfl ?_
      refine AOps.k 30 rfl rfl rfl ?_
      refine AOps.k 31 rfl rfl rfl ?_
      refine AOps.k 32 rfl rfl rfl ?_
      refine AOps.k 33 rfl rfl rfl ?_
      refine AOps.k 34 rfl rfl rfl ?_
      refine AOps.k 35 rfl rfl rfl ?_
      refine AOps.k 36 rfl rfl rfl ?_
      refine AOps.k 37 rfl rfl rfl ?_
      refine AOps.s 38 rfl rfl rfl (q_pick_true true rfl rfl rfl rfl) ?_
      refine AOps.nil ?_
      refine AGo.cond_true true rfl rfl ?_
      refine AGo.seq ?_
      refine AGo.region ?_
      refine AOps.s 6 rfl rfl rfl (q_move (.inr rfl) rfl) ?_
      refine AOps.nil ?_
      refine AGo.ret ?_
      refine ⟨[_], ⟨rfl, trivial⟩, ?_, rfl⟩
      rfl
    · -- False
      have hil : i.toNat < b.funcs.length := by
        have h := hb2
        rw [wrap_i64 (by omega) (by omega)] at h
        simp [blocksAV, funcsAV] at h
        omega
      obtain ⟨f, hf⟩ := get_of_lt hil
      have hmild := small_mild (by decide) hb hsm (List.mem_of_getElem? hf)
      refine AOps.s 28 rfl rfl rfl (q_move (.inl rfl) rfl) ?_
      refine AOps.s 29 rfl rfl rfl (q_convInt tok rfl rfl rfl rfl rfl) ?_
      refine AOps.s 30 rfl rfl rfl (q_fieldAddr tok rfl rfl rfl rfl rfl rfl) ?_
      refine AOps.s 31 rfl rfl rfl (q_load tok rfl rfl rfl (by first | exact .loc _ | exact .ptr _ _ _ _ _ _ _ _ rfl rfl rfl) rfl) ?_
      refine AOps.s 32 rfl rfl rfl (q_move (.inl rfl) rfl) ?_
      refine AOps.s 33 rfl rfl rfl (q_index_lst tok rfl rfl rfl rfl rfl rfl hi.1 (idx_map2 hf) rfl) ?_
      refine AOps.s 34 rfl rfl rfl (q_fieldAddr tok rfl rfl rfl rfl rfl rfl) ?_
      refine AOps.s 35 rfl rfl rfl (q_load tok rfl rfl rfl (by first | exact .loc _ | exact .ptr _ _ _ _ _ _ _ _ rfl rfl rfl) rfl) ?_
      refine AOps.s 36 rfl rfl rfl (q_len tok rfl rfl rfl rfl rfl) ?_
      refine AOps.s 37 rfl rfl rfl (q_bin rfl rfl rfl rfl) ?_
      refine AOps.s 38 rfl rfl rfl (q_pick_false false rfl rfl rfl rfl) ?_
      refine AOps.nil ?_
      refine AGo.split 38 rfl (fun hb3 => ?_) (fun hb3 => ?_)
      · -- True
        refine AGo.cond_true true rfl rfl ?_
        refine AGo.seq ?_
        refine AGo.region ?_
        refine AOps.s 6 rfl rfl rfl (q_move (.inr rfl) rfl) ?_
        refine AOps.nil ?_
        refine AGo.ret ?_
        refine ⟨[_], ⟨rfl, trivial⟩, ?_, rfl⟩
        rfl
      · -- False
        refine AGo.cond_false false rfl rfl ?_
        have hkl : k.toNat < f.blocks.length := by
          have h := hb3
          rw [wrap_i64 (by omega) (by omega)] at h
          simp [blocksAV, funcsAV] at h
          omega
        obtain ⟨x, hx⟩ := get_of_lt hkl
        have hxm := List.mem_of_getElem? hx
        refine AGo.skip ?_
        refine AGo.seq ?_
        refine AGo.region ?_
        refine AOps.s 39 rfl rfl rfl (q_fieldAddr tok rfl rfl rfl rfl rfl rfl) ?_
        refine AOps.s 40 rfl rfl rfl (q_load tok rfl rfl rfl (by first | exact .loc _ | exact .ptr _ _ _ _ _ _ _ _ rfl rfl rfl) rfl) ?_
        refine AOps.s 41 rfl rfl rfl (q_move (.inl rfl) rfl) ?_
        refine AOps.s 42 rfl rfl rfl (q_index_lst tok rfl rfl rfl rfl rfl rfl hi.1 (idx_map2 hf) rfl) ?_
        refine AOps.s 43 rfl rfl rfl (q_load tok rfl rfl rfl (by first | exact .loc _ | exact .ptr _ _ _ _ _ _ _ _ rfl rfl rfl) rfl) ?_
        refine AOps.x 7 rfl rfl rfl (o_alloc tok 1 rfl rfl rfl rfl (Nat.zero_lt_succ _) rfl) ?_
        refine AOps.w rfl rfl (o_store tok rfl rfl rfl rfl rfl rfl rfl rfl rfl (by decide) rfl (by first | exact fun _ => rfl | (intro h; cases h))) ?_
        refine AOps.nil ?_
        refine AGo.seq ?_
        refine AGo.region ?_
        refine AOps.s 44 rfl rfl rfl (q_fieldAddr tok rfl rfl rfl rfl rfl rfl) ?_
        refine AOps.s 45 rfl rfl rfl (q_load tok rfl rfl rfl (by first | exact .loc _ | exact .ptr _ _ _ _ _ _ _ _ rfl rfl rfl) rfl) ?_
        refine AOps.s 46 rfl rfl rfl (q_move (.inl rfl) rfl) ?_
        refine AOps.s 47 rfl rfl rfl (q_index_lst tok rfl rfl rfl rfl rfl rfl hk.1 (idx_map2 hx) rfl) ?_
        refine AOps.s 48 rfl rfl rfl (q_fieldAddr tok rfl rfl rfl rfl rfl rfl) ?_
        refine AOps.s 49 rfl rfl rfl (q_load tok rfl rfl rfl (by first | exact .loc _ | exact .ptr _ _ _ _ _ _ _ _ rfl rfl rfl) rfl) ?_
        refine AOps.s 50 rfl rfl rfl (q_build tok rfl rfl rfl rfl rfl (by decide) rfl rfl rfl) ?_
        refine AOps.x 8 rfl rfl rfl (o_alloc tok 2 rfl rfl rfl rfl (Nat.zero_lt_succ _) rfl) ?_
        refine AOps.w rfl rfl (o_store tok rfl rfl rfl rfl rfl rfl rfl rfl rfl (by decide) rfl (by first | exact fun _ => rfl | (intro h; cases h))) ?_
        refine AOps.nil ?_
        refine AGo.seq ?_
        refine AGo.region ?_
        refine AOps.s 52 rfl rfl rfl (q_load tok rfl rfl rfl (by first | exact .loc _ | exact .ptr _ _ _ _ _ _ _ _ rfl rfl rfl) rfl) ?_
        refine AOps.x 53 rfl rfl rfl (o_pure rfl Try.func11 (by kernel_rfl) rfl rfl rfl (foldOf_ok f hmild)) ?_
        refine AOps.s 51 rfl rfl rfl (q_move (.inl rfl) rfl) ?_
        refine AOps.s 54 rfl rfl rfl (q_extract rfl rfl rfl) ?_
        refine AOps.s 55 rfl rfl rfl (q_extract rfl rfl rfl) ?_
        refine AOps.x 9 rfl rfl rfl (o_alloc tok 3 rfl rfl rfl rfl (Nat.zero_lt_succ _) rfl) ?_
        refine AOps.x 10 rfl rfl rfl (o_alloc tok 4 rfl rfl rfl rfl (Nat.zero_lt_succ _) rfl) ?_
        refine AOps.w rfl rfl (o_store tok rfl rfl rfl rfl rfl rfl rfl rfl rfl (by decide) rfl (by first | exact fun _ => rfl | (intro h; cases h))) ?_
        refine AOps.w rfl rfl (o_store tok rfl rfl rfl rfl rfl rfl rfl rfl rfl (by decide) rfl (by first | exact fun _ => rfl | (intro h; cases h))) ?_
        refine AOps.nil ?_
        refine AGo.seq ?_
        refine AGo.region ?_
        refine AOps.s 57 rfl rfl rfl (q_fieldAddr tok rfl rfl rfl rfl rfl rfl) ?_
        refine AOps.s 58 rfl rfl rfl (q_load tok rfl rfl rfl (by first | exact .loc _ | exact .ptr _ _ _ _ _ _ _ _ rfl rfl rfl) rfl) ?_
        refine AOps.s 59 rfl rfl rfl (q_load tok rfl rfl rfl (by first | exact .loc _ | exact .ptr _ _ _ _ _ _ _ _ rfl rfl rfl) rfl) ?_
        refine AOps.x 60 rfl rfl rfl (o_lit' tok rfl rfl rfl rfl rfl rfl (by decide) rfl rfl rfl rfl rfl rfl) ?_
        refine AOps.s 61 rfl rfl rfl (q_build tok rfl rfl rfl rfl rfl (by decide) rfl rfl rfl) ?_
        refine AOps.x 62 rfl rfl rfl (o_pure rfl Try.func11 (by kernel_rfl) rfl rfl rfl (foldOf_ok (alone f x) (alone_mild hmild hxm))) ?_
        refine AOps.s 56 rfl rfl rfl (q_move (.inl rfl) rfl) ?_
        refine AOps.s 63 rfl rfl rfl (q_extract rfl rfl rfl) ?_
        refine AOps.s 64 rfl rfl rfl (q_extract rfl rfl rfl) ?_
        refine AOps.x 11 rfl rfl rfl (o_alloc tok 5 rfl rfl rfl rfl (Nat.zero_lt_succ _) rfl) ?_
        refine AOps.x 12 rfl rfl rfl (o_alloc tok 6 rfl rfl rfl rfl (Nat.zero_lt_succ _) rfl) ?_
        refine AOps.w rfl rfl (o_store tok rfl rfl rfl rfl rfl rfl rfl rfl rfl (by decide) rfl (by first | exact fun _ => rfl | (intro h; cases h))) ?_
        refine AOps.w rfl rfl (o_store tok rfl rfl rfl rfl rfl rfl rfl rfl rfl (by decide) rfl (by first | exact fun _ => rfl | (intro h; cases h))) ?_
        refine AOps.nil ?_
        refine AGo.seq ?_
        refine AGo.seq ?_
        refine AGo.draw mix ?_
        refine DOps.s 65 rfl rfl rfl (q_fieldAddr tok rfl rfl rfl rfl rfl rfl) ?_
        refine DOps.s 66 rfl rfl rfl (q_load tok rfl rfl rfl (by first | exact .loc _ | exact .ptr _ _ _ _ _ _ _ _ rfl rfl rfl) rfl) ?_
        refine DOps.s 67 rfl rfl rfl (q_len tok rfl rfl rfl rfl rfl) ?_
        refine DOps.s 68 rfl rfl rfl (q_fieldAddr tok rfl rfl rfl rfl rfl rfl) ?_
        refine DOps.s 69 rfl rfl rfl (q_load tok rfl rfl rfl (by first | exact .loc _ | exact .ptr _ _ _ _ _ _ _ _ rfl rfl rfl) rfl) ?_
        refine DOps.s 70 rfl rfl rfl (q_len tok rfl rfl rfl rfl rfl) ?_
        refine DOps.s 71 rfl rfl rfl (q_bin (r := .bool false) rfl rfl rfl (by simp [evalBin, evalInt, isShift, BFunc.fold])) ?_
        refine DOps.s 72 rfl rfl rfl (q_move (.inl rfl) rfl) ?_
        refine DOps.s 73 rfl rfl rfl (q_fieldAddr tok rfl rfl rfl rfl rfl rfl) ?_
        refine DOps.s 74 rfl rfl rfl (q_load tok rfl rfl rfl (by first | exact .loc _ | exact .ptr _ _ _ _ _ _ _ _ rfl rfl rfl) rfl) ?_
        refine DOps.s 75 rfl rfl rfl (q_len tok rfl rfl rfl rfl rfl) ?_
        refine DOps.s 76 rfl rfl rfl (q_bin (r := .bool false) rfl rfl rfl (by rfl)) ?_
        refine DOps.s 77 rfl rfl rfl (q_pick_false false rfl rfl rfl rfl) ?_
        refine DOps.s 78 rfl rfl rfl (q_move (.inl rfl) rfl) ?_
        refine DOps.s 79 rfl rfl rfl (q_fieldAddr tok rfl rfl rfl rfl rfl rfl) ?_
        refine DOps.s 80 rfl rfl rfl (q_load tok rfl rfl rfl (by first | exact .loc _ | exact .ptr _ _ _ _ _ _ _ _ rfl rfl rfl) rfl) ?_
        refine DOps.s 81 rfl rfl rfl (q_move (.inl rfl) rfl) ?_
        refine DOps.s 82 rfl rfl rfl (q_index_lst tok rfl rfl rfl rfl rfl rfl hk.1 (cs := x.fold.cells) (idx_map2 (fold_get hx)) rfl) ?_
        refine DOps.s 83 rfl rfl rfl (q_fieldAddr tok rfl rfl rfl rfl rfl rfl) ?_
        refine DOps.s 84 rfl rfl rfl (q_load tok rfl rfl rfl (by first | exact .loc _ | exact .ptr _ _ _ _ _ _ _ _ rfl rfl rfl) rfl) ?_
        refine DOps.s 85 rfl rfl rfl (q_len tok rfl rfl rfl rfl rfl) ?_
        refine DOps.s 86 rfl rfl rfl (q_fieldAddr tok rfl rfl rfl rfl rfl rfl) ?_
        refine DOps.s 87 rfl rfl rfl (q_load tok rfl rfl rfl (by first | exact .loc _ | exact .ptr _ _ _ _ _ _ _ _ rfl rfl rfl) rfl) ?_
        refine DOps.s 88 rfl rfl rfl (q_index_lst tok rfl rfl rfl rfl rfl rfl (by decide) (cs := (Block.fold ⟨x.ins, 3, 0, 0, 0⟩).cells) rfl rfl) ?_
        refine DOps.s 89 rfl rfl rfl (q_fieldAddr tok rfl rfl rfl rfl rfl rfl) ?_
        refine DOps.s 90 rfl rfl rfl (q_load tok rfl rfl rfl (by first | exact .loc _ | exact .ptr _ _ _ _ _ _ _ _ rfl rfl rfl) rfl) ?_
        refine DOps.s 91 rfl rfl rfl (q_len tok rfl rfl rfl rfl rfl) ?_
        refine DOps.s 92 rfl rfl rfl (q_bin (r := .bool false) rfl rfl rfl (by simp [evalBin, evalInt, isShift, Block.fold])) ?_
        refine DOps.s 93 rfl rfl rfl (q_pick_false false rfl rfl rfl rfl) ?_
        refine DOps.nil (by kernel_rfl) ?_
        refine AGo.cond_false false rfl rfl ?_
        refine AGo.skip ?_
        refine AGo.seq ?_
        refine AGo.seq ?_
        refine AGo.region ?_
        refine AOps.s 13 rfl rfl rfl (q_move (.inr rfl) rfl) ?_
        refine AOps.nil ?_
        refine AGo.block ?_
        refine AGo.loopD (γ := Nat) 7 (fun j => ⟨122, (eput (eput (eput (eput eNew 2 (.int .u8 k)) 9 (.ptr 3 1 0 0)) 11 (.ptr 5 1 0 0)) 13 (.int .i64 (j : Int))), (hput (hput (hFrom 7) 3 (.row false 2 [f.fold.cells])) 5 (.row false 2 [(alone f x).fold.cells]))⟩) (fun j => True) (fun j => (foldIns [] x.ins).length - j) 0 (Sub.mk' (by repeat (first | exact ESub.new _ | refine ESub.put ?_ (by rfl))) (by repeat (first | exact HSub.none _ | exact HSub.from_new _ | exact HSub.from_from (by decide) | refine HSub.put ?_ (by rfl) | refine HSub.from_put ?_ (by decide)))) trivial (fun _ => hput_free (hput_free (fun b hb => hFrom_free hb) rfl) rfl) ?_
        intro j _
        refine AGo.seq ?_
        refine AGo.seq ?_
        refine AGo.region ?_
        refine AOps.s 94 rfl rfl rfl (q_move (.inl rfl) rfl) ?_
        refine AOps.s 95 rfl rfl rfl (q_fieldAddr tok rfl rfl rfl rfl rfl rfl) ?_
        refine AOps.s 96 rfl rfl rfl (q_load tok rfl rfl rfl (by first | exact .loc _ | exact .ptr _ _ _ _ _ _ _ _ rfl rfl rfl) rfl) ?_
        refine AOps.s 97 rfl rfl rfl (q_index_lst tok rfl rfl rfl rfl rfl rfl (by decide) (cs := (Block.fold ⟨x.ins, 3, 0, 0, 0⟩).cells) rfl rfl) ?_
        refine AOps.s 98 rfl rfl rfl (q_fieldAddr tok rfl rfl rfl rfl rfl rfl) ?_
        refine AOps.s 99 rfl rfl rfl (q_load tok rfl rfl rfl (by first | exact .loc _ | exact .ptr _ _ _ _ _ _ _ _ rfl rfl rfl) rfl) ?_
        refine AOps.s 100 rfl rfl rfl (q_len tok rfl rfl rfl rfl rfl) ?_
        refine AOps.s 101 rfl rfl rfl (q_bin rfl rfl rfl rfl) ?_
        refine AOps.nil ?_
        refine AGo.split 101 rfl (fun hb4 => ?_) (fun hb4 => ?_)
        · -- True
          refine AGo.cond_true true rfl rfl ?_
          have hjl : j < (foldIns [] x.ins).length := lt_of_idx hb4
          obtain ⟨u, hu⟩ := get_of_lt hjl
          refine AGo.skip ?_
          refine AGo.seq ?_
          refine AGo.block ?_
          refine AGo.seq ?_
          refine AGo.draw mix ?_
          refine DOps.s 104 rfl rfl rfl (q_fieldAddr tok rfl rfl rfl rfl rfl rfl) ?_
          refine DOps.s 105 rfl rfl rfl (q_load tok rfl rfl rfl (by first | exact .loc _ | exact .ptr _ _ _ _ _ _ _ _ rfl rfl rfl) rfl) ?_
          refine DOps.s 106 rfl rfl rfl (q_move (.inl rfl) rfl) ?_
          refine DOps.s 107 rfl rfl rfl (q_index_lst tok rfl rfl rfl rfl rfl rfl hk.1 (cs := x.fold.cells) (idx_map2 (fold_get hx)) rfl) ?_
          refine DOps.s 108 rfl rfl rfl (q_fieldAddr tok rfl rfl rfl rfl rfl rfl) ?_
          refine DOps.s 109 rfl rfl rfl (q_load tok rfl rfl rfl (by first | exact .loc _ | exact .ptr _ _ _ _ _ _ _ _ rfl rfl rfl) rfl) ?_
          refine DOps.s 110 rfl rfl rfl (q_move (.inl rfl) rfl) ?_
          refine DOps.s 111 rfl rfl rfl (q_index_lst tok rfl rfl rfl rfl rfl rfl (Int.natCast_nonneg _) (idx_map (by assumption)) rfl) ?_
          refine DOps.s 112 rfl rfl rfl (q_load tok rfl rfl rfl (by first | exact .loc _ | exact .ptr _ _ _ _ _ _ _ _ rfl rfl rfl) rfl) ?_
          refine DOps.s 113 rfl rfl rfl (q_fieldAddr tok rfl rfl rfl rfl rfl rfl) ?_
          refine DOps.s 114 rfl rfl rfl (q_load tok rfl rfl rfl (by first | exact .loc _ | exact .ptr _ _ _ _ _ _ _ _ rfl rfl rfl) rfl) ?_
          refine DOps.s 115 rfl rfl rfl (q_index_lst tok rfl rfl rfl rfl rfl rfl (by decide) (cs := (Block.fold ⟨x.ins, 3, 0, 0, 0⟩).cells) rfl rfl) ?_
          refine DOps.s 116 rfl rfl rfl (q_fieldAddr tok rfl rfl rfl rfl rfl rfl) ?_
          refine DOps.s 117 rfl rfl rfl (q_load tok rfl rfl rfl (by first | exact .loc _ | exact .ptr _ _ _ _ _ _ _ _ rfl rfl rfl) rfl) ?_
          refine DOps.s 118 rfl rfl rfl (q_move (.inl rfl) rfl) ?_
          refine DOps.s 119 rfl rfl rfl (q_index_lst tok rfl rfl rfl rfl rfl rfl (Int.natCast_nonneg _) (idx_map (by assumption)) rfl) ?_
          refine DOps.s 120 rfl rfl rfl (q_load tok rfl rfl rfl (by first | exact .loc _ | exact .ptr _ _ _ _ _ _ _ _ rfl rfl rfl) rfl) ?_
          refine DOps.s 121 rfl rfl rfl (q_eqStruct tok true (r := true) rfl rfl rfl (by kernel_rfl) rfl rfl rfl rfl (same_cells u)) ?_
          refine DOps.nil (by kernel_rfl) ?_
          refine AGo.cond_false false rfl rfl ?_
          refine AGo.skip ?_
          refine AGo.region ?_
          refine AOps.s 102 rfl rfl rfl (q_move (.inl rfl) rfl) ?_
          refine AOps.s 103 rfl rfl rfl (q_inc rfl rfl hjl (show (foldIns [] x.ins).length ≤ maxLen by rw [foldIns_length]; have := (hmild.2.2.2 x hxm).1; simp only [maxLen]; omega)) ?_
          refine AOps.s 13 rfl rfl rfl (q_move (.inr rfl) rfl) ?_
          refine AOps.nil ?_
          exact ⟨j+1, Drop.mk' (by repeat (first | exact EDrop.new _ _ | refine EDrop.put ?_ (by rfl) rfl)) (by repeat (first | exact HDrop.none _ _ | exact HDrop.tail _ _ | refine HDrop.put ?_ (by rfl) rfl rfl)), trivial, by omega⟩
        · -- False
          refine AGo.cond_false false rfl rfl ?_
          refine AGo.exit ?_
          refine AGo.seq ?_
          refine AGo.region ?_
          refine AOps.s 6 rfl rfl rfl (q_move (.inr rfl) rfl) ?_
          refine AOps.nil ?_
          refine AGo.ret ?_
          refine ⟨[_], ⟨rfl, trivial⟩, ?_, rfl⟩
          rfl

end Go.Proofs.Ytkccdnincholpaa.Sv
