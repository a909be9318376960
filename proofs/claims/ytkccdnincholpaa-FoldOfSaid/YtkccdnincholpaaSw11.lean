/-
  WALKS: printed by a program of our own from the code's tree.
-/
import Derived.Test.YtkccdnincholpaaSp11
import Derived.Test.YtkccdnincholpaaSw5
import Derived.Test.YtkccdnincholpaaSw10
import Derived.Test.YtkccdnincholpaaSw1
import Derived.Test.YtkccdnincholpaaSw2
import Derived.Test.YtkccdnincholpaaSw4
namespace Go.Proofs.Ytkccdnincholpaa.Sv
open Go
set_option linter.unusedVariables false
set_option linter.unusedSimpArgs false

set_option maxRecDepth 100000 in
theorem foldOfLaw_ok (b : Blocks) (i : Int) (hb : b.Ok) (hi : 0 ≤ i ∧ i ≤ 255) : APure Try.prog 3 [.agg b.cells, .int .u8 i] (fun r => r = .bool true) := by
  refine APure.of_body (n := 48) tok Try.func3 rfl rfl ?_
  refine AGo.seq ?_
  refine AGo.region ?_
  refine AOps.x 2 rfl rfl rfl (o_box (sz := 2) 0 rfl rfl rfl rfl (Nat.zero_lt_succ _) rfl) ?_
  refine AOps.s 4 rfl rfl rfl (q_move (.inr rfl) rfl) ?_
  refine AOps.nil ?_
  refine AGo.seq ?_
  refine AGo.seq ?_
  refine AGo.region ?_
  refine AOps.x 9 rfl rfl rfl (o_pure rfl Try.func9 (by kernel_rfl) rfl rfl rfl (awake_ok)) ?_
  refine AOps.s 10 rfl rfl rfl (q_not rfl rfl) ?_
  refine AOps.nil ?_
  refine AGo.cond_false false rfl rfl ?_
  refine AGo.skip ?_
  refine AGo.seq ?_
  refine AGo.seq ?_
  refine AGo.region ?_
  refine AOps.s 11 rfl rfl rfl (q_load tok rfl rfl rfl (by first | exact .loc _ | exact .ptr _ _ _ _ _ _ _ _ rfl rfl rfl) rfl) ?_
  refine AOps.x 12 rfl rfl rfl (o_pure rfl Try.func10 (by kernel_rfl) rfl rfl rfl (small_ok b 150 hb.tight)) ?_
  refine AOps.s 13 rfl rfl rfl (q_not rfl rfl) ?_
  refine AOps.s 14 rfl rfl rfl (q_move (.inl rfl) rfl) ?_
  refine AOps.split 14 rfl (fun hb1 => ?_) (fun hb1 => ?_)
  · -- True
    refine AOps.k 15 rfl rfl rfl ?_
    refine AOps.k 16 rfl rfl rfl ?_
    refine AOps.k 17 rfl rfl rfl ?_
    refine AOps.k 18 rfl rfl rfl ?_
    refine AOps.k 19 rfl rfl rfl ?_
    refine AOps.k 20 rfl rfl rfl ?_
    refine AOps.s 21 rfl rfl rfl (q_pick_true true rfl rfl rfl rfl) ?_
    refine AOps.nil ?_
    refine AGo.cond_true true rfl rfl ?_
    refine AGo.seq ?_
    refine AGo.region ?_
    refine AOps.s 4 rfl rfl rfl (q_move (.inr rfl) rfl) ?_
    refine AOps.nil ?_
    refine AGo.ret ?_
    refine ⟨[_], ⟨rfl, trivial⟩, ?_, rfl⟩
    rfl
  · -- False
    have hsm : b.small 150 = true := by simpa using hb1
    refine AOps.s 15 rfl rfl rfl (q_move (.inl rfl) rfl) ?_
    refine AOps.s 16 rfl rfl rfl (q_convInt tok rfl rfl rfl rfl rfl) ?_
    refine AOps.s 17 rfl rfl rfl (q_fieldAddr tok rfl rfl rfl rfl rfl rfl) ?_
    refine AOps.s 18 rfl rfl rfl (q_load tok rfl rfl rfl (by first | exact .loc _ | exact .ptr _ _ _ _ _ _ _ _ rfl rfl rfl) rfl) ?_
    refine AOps.s 19 rfl rfl rfl (q_len tok rfl rfl rfl rfl rfl) ?_
    refine AOps.s 20 rfl rfl rfl (q_bin rfl rfl rfl rfl) ?_
    refine AOps.s 21 rfl rfl rfl (q_pick_false false rfl rfl rfl rfl) ?_
    refine AOps.nil ?_
    refine AGo.split 21 rfl (fun hb2 => ?_) (fun hb2 => ?_)
    · -- True
      refine AGo.cond_true true rfl rfl ?_
      refine AGo.seq ?_
      refine AGo.region ?_
      refine AOps.s 4 rfl rfl rfl (q_move (.inr rfl) rfl) ?_
      refine AOps.nil ?_
      refine AGo.ret ?_
      refine ⟨[_], ⟨rfl, trivial⟩, ?_, rfl⟩
      rfl
    · -- False
      refine AGo.cond_false false rfl rfl ?_
      have hil : i.toNat < b.funcs.length := by
        have h := hb2
        rw [wrap_i64 (by omega) (by omega)] at h
        simp [blocksAV, funcsAV] at h
        omega
      obtain ⟨f, hf⟩ := get_of_lt hil
      have hmild := small_mild (by decide) hb hsm (List.mem_of_getElem? hf)
      have hin := small_inR hsm hf
      refine AGo.skip ?_
      refine AGo.seq ?_
      refine AGo.region ?_
      refine AOps.s 23 rfl rfl rfl (q_fieldAddr tok rfl rfl rfl rfl rfl rfl) ?_
      refine AOps.s 24 rfl rfl rfl (q_load tok rfl rfl rfl (by first | exact .loc _ | exact .ptr _ _ _ _ _ _ _ _ rfl rfl rfl) rfl) ?_
      refine AOps.s 25 rfl rfl rfl (q_move (.inl rfl) rfl) ?_
      refine AOps.s 26 rfl rfl rfl (q_index_lst tok rfl rfl rfl rfl rfl rfl hi.1 (idx_map2 hf) rfl) ?_
      refine AOps.s 27 rfl rfl rfl (q_load tok rfl rfl rfl (by first | exact .loc _ | exact .ptr _ _ _ _ _ _ _ _ rfl rfl rfl) rfl) ?_
      refine AOps.x 28 rfl rfl rfl (o_pure rfl Try.func11 (by kernel_rfl) rfl rfl rfl (foldOf_ok f hmild)) ?_
      refine AOps.s 22 rfl rfl rfl (q_move (.inl rfl) rfl) ?_
      refine AOps.s 29 rfl rfl rfl (q_extract rfl rfl rfl) ?_
      refine AOps.s 30 rfl rfl rfl (q_extract rfl rfl rfl) ?_
      refine AOps.x 5 rfl rfl rfl (o_alloc tok 1 rfl rfl rfl rfl (Nat.zero_lt_succ _) rfl) ?_
      refine AOps.x 6 rfl rfl rfl (o_alloc tok 2 rfl rfl rfl rfl (Nat.zero_lt_succ _) rfl) ?_
      refine AOps.w rfl rfl (o_store tok rfl rfl rfl rfl rfl rfl rfl rfl rfl (by decide) rfl (by first | exact fun _ => rfl | (intro h; cases h))) ?_
      refine AOps.w rfl rfl (o_store tok rfl rfl rfl rfl rfl rfl rfl rfl rfl (by decide) rfl (by first | exact fun _ => rfl | (intro h; cases h))) ?_
      refine AOps.nil ?_
      refine AGo.seq ?_
      refine AGo.region ?_
      refine AOps.s 32 rfl rfl rfl (q_fieldAddr tok rfl rfl rfl rfl rfl rfl) ?_
      refine AOps.s 33 rfl rfl rfl (q_load tok rfl rfl rfl (by first | exact .loc _ | exact .ptr _ _ _ _ _ _ _ _ rfl rfl rfl) rfl) ?_
      refine AOps.s 34 rfl rfl rfl (q_move (.inl rfl) rfl) ?_
      refine AOps.s 35 rfl rfl rfl (q_index_lst tok rfl rfl rfl rfl rfl rfl hi.1 (idx_map2 hf) rfl) ?_
      refine AOps.s 36 rfl rfl rfl (q_load tok rfl rfl rfl (by first | exact .loc _ | exact .ptr _ _ _ _ _ _ _ _ rfl rfl rfl) rfl) ?_
      refine AOps.x 37 rfl rfl rfl (o_pure rfl Try.func12 (by kernel_rfl) rfl rfl rfl (rfoldOf_ok f hmild hin)) ?_
      refine AOps.s 31 rfl rfl rfl (q_move (.inl rfl) rfl) ?_
      refine AOps.s 38 rfl rfl rfl (q_extract rfl rfl rfl) ?_
      refine AOps.s 39 rfl rfl rfl (q_extract rfl rfl rfl) ?_
      refine AOps.x 7 rfl rfl rfl (o_alloc tok 3 rfl rfl rfl rfl (Nat.zero_lt_succ _) rfl) ?_
      refine AOps.x 8 rfl rfl rfl (o_alloc tok 4 rfl rfl rfl rfl (Nat.zero_lt_succ _) rfl) ?_
      refine AOps.w rfl rfl (o_store tok rfl rfl rfl rfl rfl rfl rfl rfl rfl (by decide) rfl (by first | exact fun _ => rfl | (intro h; cases h))) ?_
      refine AOps.w rfl rfl (o_store tok rfl rfl rfl rfl rfl rfl rfl rfl rfl (by decide) rfl (by first | exact fun _ => rfl | (intro h; cases h))) ?_
      refine AOps.nil ?_
      refine AGo.seq ?_
      refine AGo.region ?_
      refine AOps.s 40 rfl rfl rfl (q_load tok rfl rfl rfl (by first | exact .loc _ | exact .ptr _ _ _ _ _ _ _ _ rfl rfl rfl) rfl) ?_
      refine AOps.s 41 rfl rfl rfl (q_load tok rfl rfl rfl (by first | exact .loc _ | exact .ptr _ _ _ _ _ _ _ _ rfl rfl rfl) rfl) ?_
      refine AOps.x 42 rfl rfl rfl (o_pure rfl Try.func13 (by kernel_rfl) rfl rfl rfl ((sameFunc_ok f.fold f.fold).mono (fun r h => by rw [h, decide_eq_true rfl]))) ?_
      refine AOps.s 43 rfl rfl rfl (q_move (.inl rfl) rfl) ?_
      refine AOps.s 44 rfl rfl rfl (q_load tok rfl rfl rfl (by first | exact .loc _ | exact .ptr _ _ _ _ _ _ _ _ rfl rfl rfl) rfl) ?_
      refine AOps.s 45 rfl rfl rfl (q_load tok rfl rfl rfl (by first | exact .loc _ | exact .ptr _ _ _ _ _ _ _ _ rfl rfl rfl) rfl) ?_
      refine AOps.x 46 rfl rfl rfl (o_pure rfl Try.func14 (by kernel_rfl) rfl rfl rfl ((sameCert_ok f.all f.all).mono (fun r h => by rw [h, decide_eq_true rfl]))) ?_
      refine AOps.s 47 rfl rfl rfl (q_pick_true true rfl rfl rfl rfl) ?_
      refine AOps.s 4 rfl rfl rfl (q_move (.inr rfl) rfl) ?_
      refine AOps.nil ?_
      refine AGo.ret ?_
      refine ⟨[_], ⟨rfl, trivial⟩, ?_, rfl⟩
      rfl

end Go.Proofs.Ytkccdnincholpaa.Sv
