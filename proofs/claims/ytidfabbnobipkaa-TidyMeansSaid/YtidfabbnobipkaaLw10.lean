/-
  WALKS: printed by a program of our own from the code's tree.
-/
import Derived.Test.YtidfabbnobipkaaSp35
import Derived.Test.YtidfabbnobipkaaLw9
namespace Go.Proofs.Ytidfabbnobipkaa.Sv
open Go
set_option linter.unusedVariables false
set_option linter.unusedSimpArgs false

set_option maxRecDepth 100000 in
theorem tidyMeans_ok (b : Blocks) (s : ByteArray) (fuel : Int) (hb : b.Ok) (hfu : 0 ≤ fuel ∧ fuel ≤ 255) : APure Try.prog 5 [.agg b.cells, .str s, .int .u8 fuel] (fun r => r = .bool true) := by
  refine APure.of_body (n := 74) tok Try.func5 rfl rfl ?_
  refine AGo.seq ?_
  refine AGo.region ?_
  refine AOps.x 3 rfl rfl rfl (o_box (sz := 2) 0 rfl rfl rfl rfl (Nat.zero_lt_succ _) rfl) ?_
  refine AOps.s 6 rfl rfl rfl (q_move (.inr rfl) rfl) ?_
  refine AOps.nil ?_
  refine AGo.seq ?_
  refine AGo.seq ?_
  refine AGo.region ?_
  refine AOps.x 12 rfl rfl rfl (o_pure rfl Try.func11 (by kernel_rfl) rfl rfl rfl (awake_ok)) ?_
  refine AOps.s 13 rfl rfl rfl (q_not rfl rfl) ?_
  refine AOps.nil ?_
  refine AGo.cond_false false rfl rfl ?_
  refine AGo.skip ?_
  refine AGo.seq ?_
  refine AGo.seq ?_
  refine AGo.region ?_
  refine AOps.s 14 rfl rfl rfl (q_load tok rfl rfl rfl (by first | exact .loc _ | exact .ptr _ _ _ _ _ _ _ _ rfl rfl rfl) rfl) ?_
  refine AOps.x 15 rfl rfl rfl (o_pure rfl Try.func12 (by kernel_rfl) rfl rfl rfl (small_ok b 100 hb.tight)) ?_
  refine AOps.s 16 rfl rfl rfl (q_not rfl rfl) ?_
  refine AOps.s 17 rfl rfl rfl (q_move (.inl rfl) rfl) ?_
  refine AOps.split 17 rfl (fun hb1 => ?_) (fun hb1 => ?_)
  · -- True
    refine AOps.k 18 rfl rfl rfl ?_
    refine AOps.k 19 rfl rfl rfl ?_
    refine AOps.k 20 rfl rfl rfl ?_
    refine AOps.s 21 rfl rfl rfl (q_pick_true true rfl rfl rfl rfl) ?_
    refine AOps.nil ?_
    refine AGo.cond_true true rfl rfl ?_
    refine AGo.seq ?_
    refine AGo.region ?_
    refine AOps.s 6 rfl rfl rfl (q_move (.inr rfl) rfl) ?_
    refine AOps.nil ?_
    refine AGo.ret ?_
    refine ⟨[_], ⟨rfl, trivial⟩, ?_, rfl⟩
    rfl
  · -- False
    have hsm : b.small 100 = true := by simpa using hb1
    have hsp := small_spec hsm
    have hr := hsp.2.2.2.2
    have hne : 0 < b.funcs.length := List.length_pos_iff.2 (right_spec hr).2.2.1
    have hf10 := hsp.2.1
    obtain ⟨old, hold⟩ := get_of_lt (l := b.funcs) (k := b.funcs.length - 1) (by omega)
    refine AOps.s 18 rfl rfl rfl (q_move (.inl rfl) rfl) ?_
    refine AOps.s 19 rfl rfl rfl (q_len tok rfl rfl rfl rfl rfl) ?_
    refine AOps.s 20 rfl rfl rfl (q_bin rfl rfl rfl rfl) ?_
    refine AOps.s 21 rfl rfl rfl (q_pick_false false rfl rfl rfl rfl) ?_
    refine AOps.nil ?_
    refine AGo.split 21 rfl (fun hb2 => ?_) (fun hb2 => ?_)
    · -- True
      refine AGo.cond_true true rfl rfl ?_
      refine AGo.seq ?_
      refine AGo.region ?_
      refine AOps.s 6 rfl rfl rfl (q_move (.inr rfl) rfl) ?_
      refine AOps.nil ?_
      refine AGo.ret ?_
      refine ⟨[_], ⟨rfl, trivial⟩, ?_, rfl⟩
      rfl
    · -- False
      refine AGo.cond_false false rfl rfl ?_
      have hsl : s.size ≤ 30 := by have h := hb2; simp at h; omega
      have htame := tame_small (by decide) hsm hold
      have hH := holds_small hsm hold
      have hrc := right_put hr hold hH
      have hrun := run_put hr hold hH s fuel
      have hiw := small_insWZ hb
      have hil := small_lenZ (by decide) hsm
      refine AGo.skip ?_
      refine AGo.seq ?_
      refine AGo.region ?_
      refine AOps.s 23 rfl rfl rfl (q_fieldAddr tok rfl rfl rfl rfl rfl rfl) ?_
      refine AOps.s 24 rfl rfl rfl (q_load tok rfl rfl rfl (by first | exact .loc _ | exact .ptr _ _ _ _ _ _ _ _ rfl rfl rfl) rfl) ?_
      refine AOps.s 25 rfl rfl rfl (q_fieldAddr tok rfl rfl rfl rfl rfl rfl) ?_
      refine AOps.s 26 rfl rfl rfl (q_load tok rfl rfl rfl (by first | exact .loc _ | exact .ptr _ _ _ _ _ _ _ _ rfl rfl rfl) rfl) ?_
      refine AOps.s 27 rfl rfl rfl (q_len tok rfl rfl rfl rfl rfl) ?_
      refine AOps.s 28 rfl rfl rfl (q_bin (r := .int .i64 ((b.funcs.length - 1 : Nat) : Int)) rfl rfl rfl (by rw [List.length_map]; exact len_pred hne (by omega))) ?_
      refine AOps.s 29 rfl rfl rfl (q_index_lst tok rfl rfl rfl rfl rfl rfl (Int.natCast_nonneg _) (cs := old.cells) (by rw [Int.toNat_natCast, List.getElem?_map, hold]; rfl) rfl) ?_
      refine AOps.s 30 rfl rfl rfl (q_load tok rfl rfl rfl (by first | exact .loc _ | exact .ptr _ _ _ _ _ _ _ _ rfl rfl rfl) rfl) ?_
      refine AOps.x 31 rfl rfl rfl (o_pure rfl Try.func13 (by kernel_rfl) rfl rfl rfl (tidyOf_ok old htame)) ?_
      refine AOps.s 22 rfl rfl rfl (q_move (.inl rfl) rfl) ?_
      refine AOps.s 32 rfl rfl rfl (q_extract rfl rfl rfl) ?_
      refine AOps.s 33 rfl rfl rfl (q_extract rfl rfl rfl) ?_
      refine AOps.x 7 rfl rfl rfl (o_alloc tok 1 rfl rfl rfl rfl (Nat.zero_lt_succ _) rfl) ?_
      refine AOps.w rfl rfl (o_store tok rfl rfl rfl rfl rfl rfl rfl rfl rfl (by decide) rfl (by first | exact fun _ => rfl | (intro h; cases h))) ?_
      refine AOps.s 8 rfl rfl rfl (q_move (.inr rfl) rfl) ?_
      refine AOps.nil ?_
      refine AGo.seq ?_
      refine AGo.region ?_
      refine AOps.s 34 rfl rfl rfl (q_load tok rfl rfl rfl (by first | exact .loc _ | exact .ptr _ _ _ _ _ _ _ _ rfl rfl rfl) rfl) ?_
      refine AOps.s 35 rfl rfl rfl (q_load tok rfl rfl rfl (by first | exact .loc _ | exact .ptr _ _ _ _ _ _ _ _ rfl rfl rfl) rfl) ?_
      refine AOps.x 36 rfl rfl rfl (o_pure rfl Try.func21 (by kernel_rfl) rfl rfl rfl (put_ok b old.tidy hne (by omega))) ?_
      refine AOps.x 9 rfl rfl rfl (o_alloc tok 2 rfl rfl rfl rfl (Nat.zero_lt_succ _) rfl) ?_
      refine AOps.w rfl rfl (o_store tok rfl rfl rfl rfl rfl rfl rfl rfl rfl (by decide) rfl (by first | exact fun _ => rfl | (intro h; cases h))) ?_
      refine AOps.nil ?_
      refine AGo.seq ?_
      refine AGo.seq ?_
      refine AGo.region ?_
      refine AOps.s 37 rfl rfl rfl (q_load tok rfl rfl rfl (by first | exact .loc _ | exact .ptr _ _ _ _ _ _ _ _ rfl rfl rfl) rfl) ?_
      refine AOps.x 38 rfl rfl rfl (o_pure rfl Try.func22 (by kernel_rfl) rfl rfl rfl ((right_ok (b.put old.tidy)).mono (fun r h => by rw [h, hrc]))) ?_
      refine AOps.s 39 rfl rfl rfl (q_not rfl rfl) ?_
      refine AOps.nil ?_
      refine AGo.cond_false false rfl rfl ?_
      refine AGo.skip ?_
      refine AGo.seq ?_
      refine AGo.region ?_
      refine AOps.s 40 rfl rfl rfl (q_load tok rfl rfl rfl (by first | exact .loc _ | exact .ptr _ _ _ _ _ _ _ _ rfl rfl rfl) rfl) ?_
      refine AOps.s 41 rfl rfl rfl (q_move (.inl rfl) rfl) ?_
      refine AOps.s 42 rfl rfl rfl (q_move (.inl rfl) rfl) ?_
      refine AOps.s 43 rfl rfl rfl (q_convTo tok rfl rfl rfl rfl rfl (r := fuel) (wrap_i64 (by omega) (by omega))) ?_
      refine AOps.x 44 rfl rfl rfl (o_pure rfl Try.func23 (by kernel_rfl) rfl rfl rfl (run_ok b s fuel (by omega) (by omega) hr hiw hil)) ?_
      refine AOps.x 10 rfl rfl rfl (o_alloc tok 3 rfl rfl rfl rfl (Nat.zero_lt_succ _) rfl) ?_
      refine AOps.w rfl rfl (o_store tok rfl rfl rfl rfl rfl rfl rfl rfl rfl (by decide) rfl (by first | exact fun _ => rfl | (intro h; cases h))) ?_
      refine AOps.nil ?_
      refine AGo.seq ?_
      refine AGo.region ?_
      refine AOps.s 45 rfl rfl rfl (q_load tok rfl rfl rfl (by first | exact .loc _ | exact .ptr _ _ _ _ _ _ _ _ rfl rfl rfl) rfl) ?_
      refine AOps.s 46 rfl rfl rfl (q_move (.inl rfl) rfl) ?_
      refine AOps.s 47 rfl rfl rfl (q_move (.inl rfl) rfl) ?_
      refine AOps.s 48 rfl rfl rfl (q_convTo tok rfl rfl rfl rfl rfl (r := fuel) (wrap_i64 (by omega) (by omega))) ?_
      refine AOps.x 49 rfl rfl rfl (o_pure rfl Try.func23 (by kernel_rfl) rfl rfl rfl (run_ok (b.put old.tidy) s fuel (by omega) (by omega) hrc (put_insW hiw (tidy_insW htame (hiw old (List.mem_of_getElem? hold)))) (put_lens hil (tidy_lens htame)))) ?_
      refine AOps.x 11 rfl rfl rfl (o_alloc tok 4 rfl rfl rfl rfl (Nat.zero_lt_succ _) rfl) ?_
      refine AOps.w rfl rfl (o_store tok rfl rfl rfl rfl rfl rfl rfl rfl rfl (by decide) rfl (by first | exact fun _ => rfl | (intro h; cases h))) ?_
      refine AOps.nil ?_
      refine AGo.seq ?_
      refine AGo.region ?_
      refine AOps.s 50 rfl rfl rfl (q_fieldAddr tok rfl rfl rfl rfl rfl rfl) ?_
      refine AOps.s 51 rfl rfl rfl (q_load tok rfl rfl rfl (by first | exact .loc _ | exact .ptr _ _ _ _ _ _ _ _ rfl rfl rfl) rfl) ?_
      refine AOps.s 52 rfl rfl rfl (q_bin rfl rfl rfl rfl) ?_
      refine AOps.s 53 rfl rfl rfl (q_move (.inl rfl) rfl) ?_
      refine AOps.split 53 rfl (fun hb3 => ?_) (fun hb3 => ?_)
      · -- True
        refine AOps.k 54 rfl rfl rfl ?_
        refine AOps.k 55 rfl rfl rfl ?_
        refine AOps.k 56 rfl rfl rfl ?_
        refine AOps.k 57 rfl rfl rfl ?_
        refine AOps.k 58 rfl rfl rfl ?_
        refine AOps.k 59 rfl rfl rfl ?_
        refine AOps.k 60 rfl rfl rfl ?_
        refine AOps.k 61 rfl rfl rfl ?_
        refine AOps.k 62 rfl rfl rfl ?_
        refine AOps.k 63 rfl rfl rfl ?_
        refine AOps.k 64 rfl rfl rfl ?_
        refine AOps.k 65 rfl rfl rfl ?_
        refine AOps.k 66 rfl rfl rfl ?_
        refine AOps.k 67 rfl rfl rfl ?_
        refine AOps.k 68 rfl rfl rfl ?_
        refine AOps.k 69 rfl rfl rfl ?_
        refine AOps.k 70 rfl rfl rfl ?_
        refine AOps.k 71 rfl rfl rfl ?_
        refine AOps.k 72 rfl rfl rfl ?_
        refine AOps.s 73 rfl rfl rfl (q_pick_true true rfl rfl rfl rfl) ?_
        refine AOps.s 6 rfl rfl rfl (q_move (.inr rfl) rfl) ?_
        refine AOps.nil ?_
        refine AGo.ret ?_
        refine ⟨[_], ⟨rfl, trivial⟩, ?_, rfl⟩
        show AV.bool _ = AV.bool true
        first
        | rfl
        | (congr 1
           rcases hrun with h | ⟨h1, h2, h3⟩
           · first | (simp_all; done) | (exfalso; simp_all)
           · first | (simp_all; done) | (exfalso; simp_all))
      · -- False
        refine AOps.s 54 rfl rfl rfl (q_fieldAddr tok rfl rfl rfl rfl rfl rfl) ?_
        refine AOps.s 55 rfl rfl rfl (q_load tok rfl rfl rfl (by first | exact .loc _ | exact .ptr _ _ _ _ _ _ _ _ rfl rfl rfl) rfl) ?_
        refine AOps.s 56 rfl rfl rfl (q_fieldAddr tok rfl rfl rfl rfl rfl rfl) ?_
        refine AOps.s 57 rfl rfl rfl (q_load tok rfl rfl rfl (by first | exact .loc _ | exact .ptr _ _ _ _ _ _ _ _ rfl rfl rfl) rfl) ?_
        refine AOps.s 58 rfl rfl rfl (q_bin rfl rfl rfl rfl) ?_
        refine AOps.s 59 rfl rfl rfl (q_move (.inl rfl) rfl) ?_
        refine AOps.split 59 rfl (fun hb4 => ?_) (fun hb4 => ?_)
        · -- True
          refine AOps.s 60 rfl rfl rfl (q_fieldAddr tok rfl rfl rfl rfl rfl rfl) ?_
          refine AOps.s 61 rfl rfl rfl (q_load tok rfl rfl rfl (by first | exact .loc _ | exact .ptr _ _ _ _ _ _ _ _ rfl rfl rfl) rfl) ?_
          refine AOps.s 62 rfl rfl rfl (q_fieldAddr tok rfl rfl rfl rfl rfl rfl) ?_
          refine AOps.s 63 rfl rfl rfl (q_load tok rfl rfl rfl (by first | exact .loc _ | exact .ptr _ _ _ _ _ _ _ _ rfl rfl rfl) rfl) ?_
          refine AOps.s 64 rfl rfl rfl (q_bin rfl rfl rfl rfl) ?_
          refine AOps.s 65 rfl rfl rfl (q_pick_true true rfl rfl rfl rfl) ?_
          refine AOps.s 66 rfl rfl rfl (q_move (.inl rfl) rfl) ?_
          refine AOps.split 66 rfl (fun hb5 => ?_) (fun hb5 => ?_)
          · -- True
            refine AOps.s 67 rfl rfl rfl (q_fieldAddr tok rfl rfl rfl rfl rfl rfl) ?_
            refine AOps.s 68 rfl rfl rfl (q_load tok rfl rfl rfl (by first | exact .loc _ | exact .ptr _ _ _ _ _ _ _ _ rfl rfl rfl) rfl) ?_
            refine AOps.s 69 rfl rfl rfl (q_fieldAddr tok rfl rfl rfl rfl rfl rfl) ?_
            refine AOps.s 70 rfl rfl rfl (q_load tok rfl rfl rfl (by first | exact .loc _ | exact .ptr _ _ _ _ _ _ _ _ rfl rfl rfl) rfl) ?_
            refine AOps.s 71 rfl rfl rfl (q_bin rfl rfl rfl rfl) ?_
            refine AOps.s 72 rfl rfl rfl (q_pick_true true rfl rfl rfl rfl) ?_
            refine AOps.s 73 rfl rfl rfl (q_pick_false false rfl rfl rfl rfl) ?_
            refine AOps.s 6 rfl rfl rfl (q_move (.inr rfl) rfl) ?_
            refine AOps.nil ?_
            refine AGo.ret ?_
            refine ⟨[_], ⟨rfl, trivial⟩, ?_, rfl⟩
            show AV.bool _ = AV.bool true
            first
            | rfl
            | (congr 1
               rcases hrun with h | ⟨h1, h2, h3⟩
               · first | (simp_all; done) | (exfalso; simp_all)
               · first | (simp_all; done) | (exfalso; simp_all))
          · -- False
            refine AOps.k 67 rfl rfl rfl ?_
            refine AOps.k 68 rfl rfl rfl ?_
            refine AOps.k 69 rfl rfl rfl ?_
            refine AOps.k 70 rfl rfl rfl ?_
            refine AOps.k 71 rfl rfl rfl ?_
            refine AOps.s 72 rfl rfl rfl (q_pick_false false rfl rfl rfl rfl) ?_
            refine AOps.s 73 rfl rfl rfl (q_pick_false false rfl rfl rfl rfl) ?_
            refine AOps.s 6 rfl rfl rfl (q_move (.inr rfl) rfl) ?_
            refine AOps.nil ?_
            refine AGo.ret ?_
            refine ⟨[_], ⟨rfl, trivial⟩, ?_, rfl⟩
            show AV.bool _ = AV.bool true
            first
            | rfl
            | (congr 1
               rcases hrun with h | ⟨h1, h2, h3⟩
               · first | (simp_all; done) | (exfalso; simp_all)
               · first | (simp_all; done) | (exfalso; simp_all))
        · -- False
          refine AOps.k 60 rfl rfl rfl ?_
          refine AOps.k 61 rfl rfl rfl ?_
          refine AOps.k 62 rfl rfl rfl ?_
          refine AOps.k 63 rfl rfl rfl ?_
          refine AOps.k 64 rfl rfl rfl ?_
          refine AOps.s 65 rfl rfl rfl (q_pick_false false rfl rfl rfl rfl) ?_
          refine AOps.s 66 rfl rfl rfl (q_move (.inl rfl) rfl) ?_
          refine AOps.k 67 rfl rfl rfl ?_
          refine AOps.k 68 rfl rfl rfl ?_
          refine AOps.k 69 rfl rfl rfl ?_
          refine AOps.k 70 rfl rfl rfl ?_
          refine AOps.k 71 rfl rfl rfl ?_
          refine AOps.s 72 rfl rfl rfl (q_pick_false false rfl rfl rfl rfl) ?_
          refine AOps.s 73 rfl rfl rfl (q_pick_false false rfl rfl rfl rfl) ?_
          refine AOps.s 6 rfl rfl rfl (q_move (.inr rfl) rfl) ?_
          refine AOps.nil ?_
          refine AGo.ret ?_
          refine ⟨[_], ⟨rfl, trivial⟩, ?_, rfl⟩
          show AV.bool _ = AV.bool true
          first
          | rfl
          | (congr 1
             rcases hrun with h | ⟨h1, h2, h3⟩
             · first | (simp_all; done) | (exfalso; simp_all)
             · first | (simp_all; done) | (exfalso; simp_all))

end Go.Proofs.Ytidfabbnobipkaa.Sv
