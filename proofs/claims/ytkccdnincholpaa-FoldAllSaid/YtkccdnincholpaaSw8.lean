/-
  WALKS: printed by a program of our own from the code's tree.
-/
import Derived.Test.YtkccdnincholpaaSp7
import Derived.Test.YtkccdnincholpaaSw5
import Derived.Test.YtkccdnincholpaaSw1
import Derived.Test.YtkccdnincholpaaSw2
import Derived.Test.YtkccdnincholpaaSw4
namespace Go.Proofs.Ytkccdnincholpaa.Sv
open Go
set_option linter.unusedVariables false
set_option linter.unusedSimpArgs false

set_option maxRecDepth 100000 in
theorem foldAll_ok (first : List Int) (thn : List Quad) (hf : ∀ v ∈ first, isW v) (ht : ∀ q ∈ thn, q.Ok) : APure Try.prog 8 [(.lst false (first.map fun n => [.int .u32 n])), (.lst false (thn.map Quad.cells))] (fun r => r = .bool true) := by
  refine APure.of_body (n := 160) tok Try.func8 rfl rfl ?_
  refine AGo.seq ?_
  refine AGo.region ?_
  refine AOps.s 4 rfl rfl rfl (q_move (.inr rfl) rfl) ?_
  refine AOps.nil ?_
  refine AGo.seq ?_
  refine AGo.seq ?_
  refine AGo.region ?_
  refine AOps.x 20 rfl rfl rfl (o_pure rfl Try.func9 (by kernel_rfl) rfl rfl rfl (awake_ok)) ?_
  refine AOps.s 21 rfl rfl rfl (q_not rfl rfl) ?_
  refine AOps.nil ?_
  refine AGo.cond_false false rfl rfl ?_
  refine AGo.skip ?_
  refine AGo.seq ?_
  refine AGo.region ?_
  refine AOps.s 22 rfl rfl rfl (q_move (.inl rfl) rfl) ?_
  refine AOps.s 23 rfl rfl rfl (q_len tok rfl rfl rfl rfl rfl) ?_
  refine AOps.s 5 rfl rfl rfl (q_move (.inr rfl) rfl) ?_
  refine AOps.nil ?_
  refine AGo.seq ?_
  refine AGo.seq ?_
  refine AGo.region ?_
  refine AOps.s 24 rfl rfl rfl (q_move (.inl rfl) rfl) ?_
  refine AOps.s 25 rfl rfl rfl (q_bin rfl rfl rfl rfl) ?_
  refine AOps.s 26 rfl rfl rfl (q_move (.inl rfl) rfl) ?_
  refine AOps.split 26 rfl (fun hb1 => ?_) (fun hb1 => ?_)
  · -- True
    refine AOps.k 27 rfl rfl rfl ?_
    refine AOps.k 28 rfl rfl rfl ?_
    refine AOps.s 29 rfl rfl rfl (q_pick_true true rfl rfl rfl rfl) ?_
    refine AOps.s 30 rfl rfl rfl (q_move (.inl rfl) rfl) ?_
    refine AOps.k 31 rfl rfl rfl ?_
    refine AOps.k 32 rfl rfl rfl ?_
    refine AOps.k 33 rfl rfl rfl ?_
    refine AOps.s 34 rfl rfl rfl (q_pick_true true rfl rfl rfl rfl) ?_
    refine AOps.nil ?_
    refine AGo.cond_true true rfl rfl ?_
    refine AGo.seq ?_
    refine AGo.region ?_
    refine AOps.s 4 rfl rfl rfl (q_move (.inr rfl) rfl) ?_
    refine AOps.nil ?_
    refine AGo.ret ?_
    refine ⟨[_], ⟨rfl, trivial⟩, ?_, rfl⟩
    rfl
  · -- False
    refine AOps.s 27 rfl rfl rfl (q_move (.inl rfl) rfl) ?_
    refine AOps.s 28 rfl rfl rfl (q_bin rfl rfl rfl rfl) ?_
    refine AOps.s 29 rfl rfl rfl (q_pick_false false rfl rfl rfl rfl) ?_
    refine AOps.s 30 rfl rfl rfl (q_move (.inl rfl) rfl) ?_
    refine AOps.split 30 rfl (fun hb2 => ?_) (fun hb2 => ?_)
    · -- True
      refine AOps.k 31 rfl rfl rfl ?_
      refine AOps.k 32 rfl rfl rfl ?_
      refine AOps.k 33 rfl rfl rfl ?_
      refine AOps.s 34 rfl rfl rfl (q_pick_true true rfl rfl rfl rfl) ?_
      refine AOps.nil ?_
      refine AGo.cond_true true rfl rfl ?_
      refine AGo.seq ?_
      refine AGo.region ?_
      refine AOps.s 4 rfl rfl rfl (q_move (.inr rfl) rfl) ?_
      refine AOps.nil ?_
      refine AGo.ret ?_
      refine ⟨[_], ⟨rfl, trivial⟩, ?_, rfl⟩
      rfl
    · -- False
      refine AOps.s 31 rfl rfl rfl (q_move (.inl rfl) rfl) ?_
      refine AOps.s 32 rfl rfl rfl (q_len tok rfl rfl rfl rfl rfl) ?_
      refine AOps.s 33 rfl rfl rfl (q_bin rfl rfl rfl rfl) ?_
      refine AOps.s 34 rfl rfl rfl (q_pick_false false rfl rfl rfl rfl) ?_
      refine AOps.nil ?_
      refine AGo.split 34 rfl (fun hb3 => ?_) (fun hb3 => ?_)
      · -- True
        refine AGo.cond_true true rfl rfl ?_
        refine AGo.seq ?_
        refine AGo.region ?_
        refine AOps.s 4 rfl rfl rfl (q_move (.inr rfl) rfl) ?_
        refine AOps.nil ?_
        refine AGo.ret ?_
        refine ⟨[_], ⟨rfl, trivial⟩, ?_, rfl⟩
        rfl
      · -- False
        refine AGo.cond_false false rfl rfl ?_
        have hn : 0 < first.length ∧ first.length ≤ 8 ∧ thn.length ≤ 30 := by simp at *; omega
        refine AGo.skip ?_
        refine AGo.seq ?_
        refine AGo.region ?_
        refine AOps.x 35 rfl rfl rfl (o_lit' tok rfl rfl rfl rfl rfl rfl (by decide) rfl rfl rfl rfl rfl rfl) ?_
        refine AOps.s 6 rfl rfl rfl (q_move (.inr rfl) rfl) ?_
        refine AOps.nil ?_
        refine AGo.seq ?_
        refine AGo.region ?_
        refine AOps.s 7 rfl rfl rfl (q_move (.inr rfl) rfl) ?_
        refine AOps.nil ?_
        refine AGo.seq ?_
        refine AGo.region ?_
        refine AOps.s 8 rfl rfl rfl (q_move (.inr rfl) rfl) ?_
        refine AOps.nil ?_
        refine AGo.seq ?_
        refine AGo.region ?_
        refine AOps.x 36 rfl rfl rfl (o_litRow tok 0 true rfl rfl rfl rfl rfl rfl (by decide) rfl rfl rfl rfl (by first | exact fun _ => rfl | (intro h; cases h)) rfl rfl) ?_
        refine AOps.s 37 rfl rfl rfl (q_move (.inl rfl) rfl) ?_
        refine AOps.x 38 rfl rfl rfl (o_append tok (es := []) rfl rfl rfl rfl rfl rfl rfl rfl rfl rfl rfl rfl (Nat.zero_lt_succ _) (.lst _ _) (by intro cs h; simp at h; obtain ⟨v, _, rfl⟩ := h; rfl) (fun _ cs h => by simp at h; obtain ⟨v, _, rfl⟩ := h; rfl) rfl (by simp; show _ * 4 ≤ _; omega) (by simp; simp only [maxLen]; omega)) ?_
        refine AOps.s 9 rfl rfl rfl (q_move (.inr rfl) rfl) ?_
        refine AOps.nil ?_
        refine AGo.seq ?_
        refine AGo.seq ?_
        refine AGo.ghost (.dry 7 1 8 true rfl rfl rfl (by decide)) ?_
        refine AGo.ghost (.dry 8 2 8 true rfl rfl rfl (by decide)) ?_
        refine AGo.region ?_
        refine AOps.s 10 rfl rfl rfl (q_move (.inr rfl) rfl) ?_
        refine AOps.nil ?_
        refine AGo.block ?_
        refine AGo.loopD (γ := Nat) 3 (fun k => ⟨160, (eput (eput (eput (eput (eput (eput (eput (eput eNew 0 (.lst false (first.map fun n => [.int .u32 n]))) 1 (.lst false (thn.map Quad.cells))) 5 (.int .i64 (first.length : Int))) 6 (.lst false (faTab.map fun n => [.int .i64 n]))) 7 (.ref 1 k 0 k)) 8 (.ref 2 0 0 0)) 9 (.ref 0 first.length 0 first.length)) 10 (.int .i64 (k : Int))), (hput (hput (hput (hFrom 3) 0 (.row true 1 ((first).map (fun n : Int => [AV.int .u32 n])))) 1 (.row true 8 ((faFirst 0 (first.take k)).map Tac.cells))) 2 (.row true 8 []))⟩) (fun k => k ≤ first.length) (fun k => first.length - k) 0 (Sub.mk' (by repeat (first | exact ESub.new _ | refine ESub.put ?_ (by first | rfl | exact congrArg (fun (n : Nat) => some (AV.int .i64 (n : Int))) (by simp) | exact congrArg (fun (n : Nat) => some (AV.ref 0 n 0 n)) (by simp)))) (by repeat (first | exact HSub.none _ | exact HSub.from_new _ | exact HSub.from_from (by decide) | refine HSub.put ?_ (by rfl) | refine HSub.from_put ?_ (by decide)))) (Nat.zero_le _) (fun _ => hput_free (hput_free (hput_free (fun b hb => hFrom_free hb) rfl) rfl) rfl) ?_
        intro k hk
        refine AGo.seq ?_
        refine AGo.seq ?_
        refine AGo.region ?_
        refine AOps.s 39 rfl rfl rfl (q_move (.inl rfl) rfl) ?_
        refine AOps.s 40 rfl rfl rfl (q_move (.inl rfl) rfl) ?_
        refine AOps.s 41 rfl rfl rfl (q_bin rfl rfl rfl rfl) ?_
        refine AOps.nil ?_
        refine AGo.split 41 rfl (fun hb4 => ?_) (fun hb4 => ?_)
        · -- True
          refine AGo.cond_true true rfl rfl ?_
          have hkl : k < first.length := by simpa using hb4
          obtain ⟨w, hw⟩ := get_of_lt hkl
          refine AGo.skip ?_
          refine AGo.seq ?_
          refine AGo.block ?_
          refine AGo.region ?_
          refine AOps.s 44 rfl rfl rfl (q_move (.inl rfl) rfl) ?_
          refine AOps.s 45 rfl rfl rfl (q_move (.inl rfl) rfl) ?_
          refine AOps.s 46 rfl rfl rfl (q_move (.inl rfl) rfl) ?_
          refine AOps.s 47 rfl rfl rfl (q_move (.inl rfl) rfl) ?_
          refine AOps.s 48 rfl rfl rfl (q_index_lst tok rfl rfl rfl rfl rfl rfl (Int.natCast_nonneg _) (idx_map (by assumption)) rfl) ?_
          refine AOps.s 49 rfl rfl rfl (q_load tok rfl rfl rfl (by first | exact .loc _ | exact .ptr _ _ _ _ _ _ _ _ rfl rfl rfl) rfl) ?_
          refine AOps.s 50 rfl rfl rfl (q_build tok rfl rfl rfl rfl rfl (by decide) rfl rfl rfl) ?_
          refine AOps.x 51 rfl rfl rfl (o_lit' tok rfl rfl rfl rfl rfl rfl (by decide) rfl rfl rfl rfl rfl rfl) ?_
          refine AOps.x 52 rfl rfl rfl (o_append tok  rfl rfl rfl rfl rfl rfl rfl rfl rfl (by simp [faFirst_length, faWant_length, faVals_length] <;> omega) rfl rfl (Nat.zero_lt_succ _) (.lst _ _) (by intro cs h; simp [partVals] at h; subst h; rfl) (fun _ cs h => by simp [partVals] at h; subst h; rfl) rfl (by simp [faFirst_length, faWant_length, faVals_length, partVals]; show _ * 64 ≤ _; omega) (by simp [faFirst_length, faWant_length, faVals_length, partVals]; simp only [maxLen]; omega)) ?_
          refine AOps.s 7 rfl rfl rfl (q_move (.inr rfl) rfl) ?_
          refine AOps.nil ?_
          refine AGo.region ?_
          refine AOps.s 42 rfl rfl rfl (q_move (.inl rfl) rfl) ?_
          refine AOps.s 43 rfl rfl rfl (q_inc rfl rfl hkl (by simp only [maxLen]; omega)) ?_
          refine AOps.s 10 rfl rfl rfl (q_move (.inr rfl) rfl) ?_
          refine AOps.nil ?_
          exact ⟨k+1, Drop.mk' (by repeat (first | exact EDrop.new _ _ | refine EDrop.put ?_ (by rfl) rfl)) (by repeat (first | exact HDrop.none _ _ | exact HDrop.tail _ _ | refine HDrop.put ?_ (by first | rfl | exact congrArg (fun es => some (AObj.row true 8 es)) (by rw [faFirst_succ hw, List.map_append]; rfl)) rfl rfl)), hkl, by omega⟩
        · -- False
          refine AGo.cond_false false rfl rfl ?_
          have hge : first.length ≤ k := by simpa using hb4
          refine AGo.exit ?_
          refine AGo.seq ?_
          obtain ⟨rfl⟩ : k = first.length := by omega
          rw [List.take_length]
          refine AGo.region ?_
          refine AOps.s 53 rfl rfl rfl (q_move (.inl rfl) rfl) ?_
          refine AOps.s 54 rfl rfl rfl (q_move (.inl rfl) rfl) ?_
          refine AOps.x 55 rfl rfl rfl (o_append tok (es := []) (m := first.length) rfl rfl rfl rfl rfl rfl rfl rfl rfl rfl rfl rfl (Nat.zero_lt_succ _) (.ref _ _ _ _ _ _ _ rfl (by simp [faFirst_length])) (by intro cs h; have h := List.mem_of_mem_drop (List.mem_of_mem_take h); simp at h; obtain ⟨v, _, rfl⟩ := h; rfl) (fun _ cs h => by have h := List.mem_of_mem_drop (List.mem_of_mem_take h); simp at h; obtain ⟨v, _, rfl⟩ := h; rfl) (by simp [faFirst_length]) (by simp [faFirst_length]; show _ * 64 ≤ _; omega) (by simp [faFirst_length]; simp only [maxLen]; omega)) ?_
          refine AOps.s 8 rfl rfl rfl (q_move (.inr rfl) rfl) ?_
          refine AOps.nil ?_
          refine AGo.seq ?_
          refine AGo.seq ?_
          refine AGo.region ?_
          refine AOps.s 11 rfl rfl rfl (q_move (.inr rfl) rfl) ?_
          refine AOps.nil ?_
          refine AGo.block ?_
          refine AGo.loopD (γ := Nat) 3 (fun j => ⟨160, (eput (eput (eput (eput (eput (eput (eput eNew 1 (.lst false (thn.map Quad.cells))) 5 (.int .i64 (first.length : Int))) 6 (.lst false (faTab.map fun n => [.int .i64 n]))) 7 (.ref 1 (first.length + j) 0 (first.length + j))) 8 (.ref 2 (first.length + j) 0 (first.length + j))) 9 (.ref 0 first.length 0 first.length)) 11 (.int .i64 (j : Int))), (hput (hput (hput (hFrom 3) 0 (.row true 1 ((faVals first ((thn.take (j)).map (Quad.fa first.length))).map (fun n : Int => [AV.int .u32 n])))) 1 (.row true 8 ((faFirst 0 first ++ ((thn.take (j)).map (Quad.fa first.length)).map FaOp.tac).map Tac.cells))) 2 (.row true 8 ((faFirst 0 first ++ faWant first ((thn.take (j)).map (Quad.fa first.length))).map Tac.cells)))⟩) (fun j => j ≤ thn.length) (fun j => thn.length - j) 0 (Sub.mk' (by repeat (first | exact ESub.new _ | refine ESub.put ?_ (by first | rfl | exact congrArg (fun (n : Nat) => some (AV.ref 2 n 0 n)) (by simp)))) (by repeat (first | exact HSub.none _ | exact HSub.from_new _ | exact HSub.from_from (by decide) | refine HSub.put ?_ (by first | rfl | exact congrArg (fun es => some (AObj.row true 8 es)) (by show List.take _ (List.drop 0 _) = _; rw [List.drop_zero, List.take_of_length_le (by simp [faFirst_length])]; simp [faWant]) | exact congrArg (fun es => some (AObj.row true 8 es)) (by simp [faWant])) | refine HSub.from_put ?_ (by decide)))) (Nat.zero_le _) (fun _ => hput_free (hput_free (hput_free (fun b hb => hFrom_free hb) rfl) rfl) rfl) ?_
          intro j hj
          refine AGo.seq ?_
          refine AGo.seq ?_
          refine AGo.region ?_
          refine AOps.s 56 rfl rfl rfl (q_move (.inl rfl) rfl) ?_
          refine AOps.s 57 rfl rfl rfl (q_move (.inl rfl) rfl) ?_
          refine AOps.s 58 rfl rfl rfl (q_len tok rfl rfl rfl rfl rfl) ?_
          refine AOps.s 59 rfl rfl rfl (q_bin rfl rfl rfl rfl) ?_
          refine AOps.nil ?_
          refine AGo.split 59 rfl (fun hb5 => ?_) (fun hb5 => ?_)
          · -- True
            refine AGo.cond_true true rfl rfl ?_
            have hjl : j < thn.length := lt_of_idx hb5
            obtain ⟨q, hqj⟩ := get_of_lt hjl
            have hq := ht q (List.mem_of_getElem? hqj)
            have hjt : (thn.take j).length = j := by rw [List.length_take]; omega
            obtain ⟨va, hva⟩ : ∃ va, (faVals first ((thn.take (j)).map (Quad.fa first.length)))[q.q2.toNat % first.length]? = some va := get_of_lt (by rw [faVals_length]; exact Nat.mod_lt _ hn.1)
            obtain ⟨vb, hvb0⟩ : ∃ va, (faVals first ((thn.take (j)).map (Quad.fa first.length)))[q.q3.toNat % first.length]? = some va := get_of_lt (by rw [faVals_length]; exact Nat.mod_lt _ hn.1)
            obtain ⟨vd, hvd⟩ : ∃ va, (faVals first ((thn.take (j)).map (Quad.fa first.length)))[q.q1.toNat % first.length]? = some va := get_of_lt (by rw [faVals_length]; exact Nat.mod_lt _ hn.1)
            have hvb := faVals_w _ first hf vb (List.mem_of_getElem? hvb0)
            refine AGo.skip ?_
            refine AGo.seq ?_
            refine AGo.block ?_
            refine AGo.seq ?_
            refine AGo.region ?_
            refine AOps.s 62 rfl rfl rfl (q_move (.inl rfl) rfl) ?_
            refine AOps.s 63 rfl rfl rfl (q_move (.inl rfl) rfl) ?_
            refine AOps.s 64 rfl rfl rfl (q_index_lst tok rfl rfl rfl rfl rfl rfl (Int.natCast_nonneg _) (idx_map (by assumption)) rfl) ?_
            refine AOps.s 65 rfl rfl rfl (q_index_arr tok rfl rfl rfl rfl rfl rfl (by decide) (by decide) rfl) ?_
            refine AOps.s 66 rfl rfl rfl (q_load tok rfl rfl rfl (by first | exact .loc _ | exact .ptr _ _ _ _ _ _ _ _ rfl rfl rfl) rfl) ?_
            refine AOps.s 67 rfl rfl rfl (q_convInt tok rfl rfl rfl rfl rfl) ?_
            refine AOps.s 68 rfl rfl rfl (q_move (.inl rfl) rfl) ?_
            refine AOps.s 69 rfl rfl rfl (q_bin (r := .int .i64 ((q.q1.toNat % first.length : Nat) : Int)) rfl rfl rfl (rem_nat hq.q1 hn.1)) ?_
            refine AOps.s 12 rfl rfl rfl (q_move (.inr rfl) rfl) ?_
            refine AOps.nil ?_
            refine AGo.seq ?_
            refine AGo.region ?_
            refine AOps.s 70 rfl rfl rfl (q_move (.inl rfl) rfl) ?_
            refine AOps.s 71 rfl rfl rfl (q_move (.inl rfl) rfl) ?_
            refine AOps.s 72 rfl rfl rfl (q_index_lst tok rfl rfl rfl rfl rfl rfl (Int.natCast_nonneg _) (idx_map (by assumption)) rfl) ?_
            refine AOps.s 73 rfl rfl rfl (q_index_arr tok rfl rfl rfl rfl rfl rfl (by decide) (by decide) rfl) ?_
            refine AOps.s 74 rfl rfl rfl (q_load tok rfl rfl rfl (by first | exact .loc _ | exact .ptr _ _ _ _ _ _ _ _ rfl rfl rfl) rfl) ?_
            refine AOps.s 75 rfl rfl rfl (q_convInt tok rfl rfl rfl rfl rfl) ?_
            refine AOps.s 76 rfl rfl rfl (q_move (.inl rfl) rfl) ?_
            refine AOps.s 77 rfl rfl rfl (q_bin (r := .int .i64 ((q.q2.toNat % first.length : Nat) : Int)) rfl rfl rfl (rem_nat hq.q2 hn.1)) ?_
            refine AOps.s 13 rfl rfl rfl (q_move (.inr rfl) rfl) ?_
            refine AOps.nil ?_
            refine AGo.seq ?_
            refine AGo.region ?_
            refine AOps.s 78 rfl rfl rfl (q_move (.inl rfl) rfl) ?_
            refine AOps.s 79 rfl rfl rfl (q_move (.inl rfl) rfl) ?_
            refine AOps.s 80 rfl rfl rfl (q_index_lst tok rfl rfl rfl rfl rfl rfl (Int.natCast_nonneg _) (idx_map (by assumption)) rfl) ?_
            refine AOps.s 81 rfl rfl rfl (q_index_arr tok rfl rfl rfl rfl rfl rfl (by decide) (by decide) rfl) ?_
            refine AOps.s 82 rfl rfl rfl (q_load tok rfl rfl rfl (by first | exact .loc _ | exact .ptr _ _ _ _ _ _ _ _ rfl rfl rfl) rfl) ?_
            refine AOps.s 83 rfl rfl rfl (q_convInt tok rfl rfl rfl rfl rfl) ?_
            refine AOps.s 84 rfl rfl rfl (q_move (.inl rfl) rfl) ?_
            refine AOps.s 85 rfl rfl rfl (q_bin (r := .int .i64 ((q.q3.toNat % first.length : Nat) : Int)) rfl rfl rfl (rem_nat hq.q3 hn.1)) ?_
            refine AOps.s 14 rfl rfl rfl (q_move (.inr rfl) rfl) ?_
            refine AOps.nil ?_
            refine AGo.seq ?_
            refine AGo.region ?_
            refine AOps.s 86 rfl rfl rfl (q_move (.inl rfl) rfl) ?_
            refine AOps.s 87 rfl rfl rfl (q_move (.inl rfl) rfl) ?_
            refine AOps.s 88 rfl rfl rfl (q_build tok rfl rfl rfl rfl rfl (by decide) rfl rfl rfl) ?_
            refine AOps.x 15 rfl rfl rfl (o_alloc tok 3 rfl rfl rfl rfl (Nat.zero_lt_succ _) rfl) ?_
            refine AOps.w rfl rfl (o_store tok rfl rfl rfl rfl rfl rfl rfl rfl rfl (by decide) rfl (by first | exact fun _ => rfl | (intro h; cases h))) ?_
            refine AOps.nil ?_
            refine AGo.seq ?_
            refine AGo.region ?_
            refine AOps.s 89 rfl rfl rfl (q_move (.inl rfl) rfl) ?_
            refine AOps.s 90 rfl rfl rfl (q_move (.inl rfl) rfl) ?_
            refine AOps.s 91 rfl rfl rfl (q_index_ref tok rfl rfl rfl rfl rfl rfl rfl (by simp [faVals_length]) rfl (Int.natCast_nonneg _) (by have := Nat.mod_lt q.q2.toNat hn.1; omega)) ?_
            refine AOps.s 92 rfl rfl rfl (q_load tok rfl rfl rfl (by exact .ptr _ _ _ _ _ _ _ _ rfl (by simp [faVals_length]) (show _ = some [AV.int .u32 va] by rw [Nat.zero_add, Int.toNat_natCast, List.getElem?_map, hva]; rfl)) rfl) ?_
            refine AOps.s 16 rfl rfl rfl (q_move (.inr rfl) rfl) ?_
            refine AOps.nil ?_
            refine AGo.seq ?_
            refine AGo.join (γ := Int) (fun v => ⟨160, (eput (eput (eput (eput (eput (eput (eput (eput (eput (eput eNew 5 (.int .i64 (first.length : Int))) 6 (.lst false (faTab.map fun n => [.int .i64 n]))) 7 (.ref 1 (first.length + j) 0 (first.length + j))) 8 (.ref 2 (first.length + j) 0 (first.length + j))) 9 (.ref 0 first.length 0 first.length)) 11 (.int .i64 (j : Int))) 1 (.lst false (thn.map Quad.cells))) 12 (.int .i64 ((q.q1.toNat % first.length : Nat) : Int))) 15 (.ptr 3 1 0 0)) 16 (.int .u32 v)), (hput (hput (hput (hput (hFrom 4) 0 (.row true 1 ((faVals first ((thn.take (j)).map (Quad.fa first.length))).map (fun n : Int => [AV.int .u32 n])))) 1 (.row true 8 ((faFirst 0 first ++ ((thn.take (j)).map (Quad.fa first.length)).map FaOp.tac).map Tac.cells))) 2 (.row true 8 ((faFirst 0 first ++ faWant first ((thn.take (j)).map (Quad.fa first.length))).map Tac.cells))) 3 (.row false 8 [(q.fa first.length).tac.cells]))⟩) (fun v => v = (q.fa first.length).val (faVals first ((thn.take (j)).map (Quad.fa first.length)))) ?_ ?_
            · -- to the join
              refine AGo.seq ?_
              refine AGo.region ?_
              refine AOps.s 93 rfl rfl rfl (q_move (.inl rfl) rfl) ?_
              refine AOps.s 94 rfl rfl rfl (q_move (.inl rfl) rfl) ?_
              refine AOps.s 95 rfl rfl rfl (q_index_lst tok rfl rfl rfl rfl rfl rfl (Int.natCast_nonneg _) (idx_map (by assumption)) rfl) ?_
              refine AOps.s 96 rfl rfl rfl (q_index_arr tok rfl rfl rfl rfl rfl rfl (by decide) (by decide) rfl) ?_
              refine AOps.s 97 rfl rfl rfl (q_load tok rfl rfl rfl (by first | exact .loc _ | exact .ptr _ _ _ _ _ _ _ _ rfl rfl rfl) rfl) ?_
              refine AOps.s 98 rfl rfl rfl (q_bin rfl rfl rfl rfl) ?_
              refine AOps.s 99 rfl rfl rfl (q_bin rfl rfl rfl rfl) ?_
              refine AOps.nil ?_
              refine AGo.split 99 rfl (fun hb6 => ?_) (fun hb6 => ?_)
              · -- True
                refine AGo.cond_true true rfl rfl ?_
                have hop : q.q0.tmod 4 > 0 := by simpa using hb6
                obtain ⟨tv, htv, htm⟩ := faTab_get (Nat.mod_lt q.q0.toNat (by decide : 0 < 10))
                have hqo := q_bin_op hop htv
                refine AGo.seq ?_
                refine AGo.region ?_
                refine AOps.s 100 rfl rfl rfl (q_move (.inl rfl) rfl) ?_
                refine AOps.s 101 rfl rfl rfl (q_move (.inl rfl) rfl) ?_
                refine AOps.s 102 rfl rfl rfl (q_move (.inl rfl) rfl) ?_
                refine AOps.s 103 rfl rfl rfl (q_index_lst tok rfl rfl rfl rfl rfl rfl (Int.natCast_nonneg _) (idx_map (by assumption)) rfl) ?_
                refine AOps.s 104 rfl rfl rfl (q_index_arr tok rfl rfl rfl rfl rfl rfl (by decide) (by decide) rfl) ?_
                refine AOps.s 105 rfl rfl rfl (q_load tok rfl rfl rfl (by first | exact .loc _ | exact .ptr _ _ _ _ _ _ _ _ rfl rfl rfl) rfl) ?_
                refine AOps.s 106 rfl rfl rfl (q_convInt tok rfl rfl rfl rfl rfl) ?_
                refine AOps.s 107 rfl rfl rfl (q_move (.inl rfl) rfl) ?_
                refine AOps.s 108 rfl rfl rfl (q_len tok rfl rfl rfl rfl rfl) ?_
                refine AOps.s 109 rfl rfl rfl (q_bin (r := .int .i64 ((q.q0.toNat % 10 : Nat) : Int)) rfl rfl rfl (rem_nat (n := 10) hq.q0 (by decide))) ?_
                refine AOps.s 110 rfl rfl rfl (q_index_lst tok rfl rfl rfl rfl rfl rfl (Int.natCast_nonneg _) (idx_map htv) rfl) ?_
                refine AOps.s 111 rfl rfl rfl (q_load tok rfl rfl rfl (by first | exact .loc _ | exact .ptr _ _ _ _ _ _ _ _ rfl rfl rfl) rfl) ?_
                refine AOps.s 17 rfl rfl rfl (q_move (.inr rfl) rfl) ?_
                refine AOps.nil ?_
                refine AGo.seq ?_
                refine AGo.region ?_
                refine AOps.s 112 rfl rfl rfl (q_move (.inl rfl) rfl) ?_
                refine AOps.s 113 rfl rfl rfl (q_move (.inl rfl) rfl) ?_
                refine AOps.s 114 rfl rfl rfl (q_move (.inl rfl) rfl) ?_
                refine AOps.s 115 rfl rfl rfl (q_move (.inl rfl) rfl) ?_
                refine AOps.s 116 rfl rfl rfl (q_build tok rfl rfl rfl rfl rfl (by decide) rfl rfl rfl) ?_
                refine AOps.w rfl rfl (o_store tok rfl rfl rfl rfl rfl rfl rfl rfl rfl (by decide) rfl (by first | exact fun _ => rfl | (intro h; cases h))) ?_
                refine AOps.nil ?_
                refine AGo.draw mix ?_
                refine DOps.s 118 rfl rfl rfl (q_move (.inl rfl) rfl) ?_
                refine DOps.s 119 rfl rfl rfl (q_move (.inl rfl) rfl) ?_
                refine DOps.s 120 rfl rfl rfl (q_move (.inl rfl) rfl) ?_
                refine DOps.s 121 rfl rfl rfl (q_index_ref tok rfl rfl rfl rfl rfl rfl rfl (by simp [faVals_length]) rfl (Int.natCast_nonneg _) (by have := Nat.mod_lt q.q2.toNat hn.1; omega)) ?_
                refine DOps.s 122 rfl rfl rfl (q_load tok rfl rfl rfl (by exact .ptr _ _ _ _ _ _ _ _ rfl (by simp [faVals_length]) (show _ = some [AV.int .u32 va] by rw [Nat.zero_add, Int.toNat_natCast, List.getElem?_map, hva]; rfl)) rfl) ?_
                refine DOps.s 123 rfl rfl rfl (q_move (.inl rfl) rfl) ?_
                refine DOps.s 124 rfl rfl rfl (q_move (.inl rfl) rfl) ?_
                refine DOps.s 125 rfl rfl rfl (q_index_ref tok rfl rfl rfl rfl rfl rfl rfl (by simp [faVals_length]) rfl (Int.natCast_nonneg _) (by have := Nat.mod_lt q.q3.toNat hn.1; omega)) ?_
                refine DOps.s 126 rfl rfl rfl (q_load tok rfl rfl rfl (by exact .ptr _ _ _ _ _ _ _ _ rfl (by simp [faVals_length]) (show _ = some [AV.int .u32 vb] by rw [Nat.zero_add, Int.toNat_natCast, List.getElem?_map, hvb0]; rfl)) rfl) ?_
                refine DOps.x 127 rfl rfl rfl (o_pure rfl Try.func17 (by kernel_rfl) rfl rfl rfl (apply_ok tv va vb hvb.1)) ?_
                refine DOps.s 117 rfl rfl rfl (q_move (.inl rfl) rfl) ?_
                refine DOps.s 128 rfl rfl rfl (q_extract rfl rfl rfl) ?_
                refine DOps.s 129 rfl rfl rfl (q_extract rfl rfl rfl) ?_
                refine DOps.s 16 rfl rfl rfl (q_move (.inr rfl) rfl) ?_
                refine DOps.nil (by kernel_rfl) ?_
                exact ⟨(wapp tv va vb).1, Sub.mk' (by repeat (first | exact ESub.new _ | refine ESub.put ?_ (by rfl))) (by repeat (first | exact HSub.none _ | exact HSub.from_new _ | exact HSub.from_from (by decide) | refine HSub.put ?_ (by first | rfl | exact congrArg (fun cs => some (AObj.row false 8 [cs])) (fa_tac_bin hqo (tab_ne htm)).symm | exact congrArg (fun cs => some (AObj.row false 8 [cs])) (fa_tac_copy hqo).symm) | refine HSub.from_put ?_ (by decide))), (fa_val_bin hqo (tab_ne htm) hva hvb0)⟩
              · -- False
                refine AGo.cond_false false rfl rfl ?_
                have hop : ¬ q.q0.tmod 4 > 0 := by simpa using hb6
                have hqo := q_copy_op hop
                refine AGo.skip ?_
                exact ⟨va, Sub.mk' (by repeat (first | exact ESub.new _ | refine ESub.put ?_ (by rfl))) (by repeat (first | exact HSub.none _ | exact HSub.from_new _ | exact HSub.from_from (by decide) | refine HSub.put ?_ (by first | rfl | exact congrArg (fun cs => some (AObj.row false 8 [cs])) (fa_tac_bin hqo (tab_ne htm)).symm | exact congrArg (fun cs => some (AObj.row false 8 [cs])) (fa_tac_copy hqo).symm) | refine HSub.from_put ?_ (by decide))), (fa_val_copy hqo hva)⟩
            intro v hv
            refine AGo.seq ?_
            refine AGo.region ?_
            refine AOps.s 130 rfl rfl rfl (q_move (.inl rfl) rfl) ?_
            refine AOps.s 131 rfl rfl rfl (q_load tok rfl rfl rfl (by first | exact .loc _ | exact .ptr _ _ _ _ _ _ _ _ rfl rfl rfl) rfl) ?_
            refine AOps.x 132 rfl rfl rfl (o_lit' tok rfl rfl rfl rfl rfl rfl (by decide) rfl rfl rfl rfl rfl rfl) ?_
            refine AOps.x 133 rfl rfl rfl (o_append tok  rfl rfl rfl rfl rfl rfl rfl rfl rfl (by simp [faFirst_length, faWant_length, faVals_length] <;> omega) rfl rfl (Nat.zero_lt_succ _) (.lst _ _) (by intro cs h; simp [partVals] at h; subst h; rfl) (fun _ cs h => by simp [partVals] at h; subst h; rfl) rfl (by simp [faFirst_length, faWant_length, faVals_length, partVals]; show _ * 64 ≤ _; omega) (by simp [faFirst_length, faWant_length, faVals_length, partVals]; simp only [maxLen]; omega)) ?_
            refine AOps.s 7 rfl rfl rfl (q_move (.inr rfl) rfl) ?_
            refine AOps.nil ?_
            refine AGo.seq ?_
            refine AGo.region ?_
            refine AOps.s 134 rfl rfl rfl (q_move (.inl rfl) rfl) ?_
            refine AOps.s 135 rfl rfl rfl (q_move (.inl rfl) rfl) ?_
            refine AOps.s 136 rfl rfl rfl (q_move (.inl rfl) rfl) ?_
            refine AOps.s 137 rfl rfl rfl (q_build tok rfl rfl rfl rfl rfl (by decide) rfl rfl rfl) ?_
            refine AOps.x 138 rfl rfl rfl (o_lit' tok rfl rfl rfl rfl rfl rfl (by decide) rfl rfl rfl rfl rfl rfl) ?_
            refine AOps.x 139 rfl rfl rfl (o_append tok  rfl rfl rfl rfl rfl rfl rfl rfl rfl (by simp [faFirst_length, faWant_length, faVals_length] <;> omega) rfl rfl (Nat.zero_lt_succ _) (.lst _ _) (by intro cs h; simp [partVals] at h; subst h; rfl) (fun _ cs h => by simp [partVals] at h; subst h; rfl) rfl (by simp [faFirst_length, faWant_length, faVals_length, partVals]; show _ * 64 ≤ _; omega) (by simp [faFirst_length, faWant_length, faVals_length, partVals]; simp only [maxLen]; omega)) ?_
            refine AOps.s 8 rfl rfl rfl (q_move (.inr rfl) rfl) ?_
            refine AOps.nil ?_
            refine AGo.region ?_
            refine AOps.s 140 rfl rfl rfl (q_move (.inl rfl) rfl) ?_
            refine AOps.s 141 rfl rfl rfl (q_move (.inl rfl) rfl) ?_
            refine AOps.s 142 rfl rfl rfl (q_move (.inl rfl) rfl) ?_
            refine AOps.s 143 rfl rfl rfl (q_index_ref tok rfl rfl rfl rfl rfl rfl rfl (by simp [faVals_length]) rfl (Int.natCast_nonneg _) (by have := Nat.mod_lt q.q1.toNat hn.1; omega)) ?_
            refine AOps.w rfl rfl (o_store tok rfl rfl rfl rfl rfl rfl (by simp [faVals_length]) (show _ = some [AV.int .u32 vd] by rw [Nat.zero_add, Int.toNat_natCast, List.getElem?_map, hvd]; rfl) rfl (by decide) rfl (by first | exact fun _ => rfl | (intro h; cases h))) ?_
            refine AOps.nil ?_
            refine AGo.region ?_
            refine AOps.s 60 rfl rfl rfl (q_move (.inl rfl) rfl) ?_
            refine AOps.s 61 rfl rfl rfl (q_inc rfl rfl hjl (by simp only [maxLen]; omega)) ?_
            refine AOps.s 11 rfl rfl rfl (q_move (.inr rfl) rfl) ?_
            refine AOps.nil ?_
            exact ⟨j+1, Drop.mk' (by repeat (first | exact EDrop.new _ _ | refine EDrop.put ?_ (by rfl) rfl)) (by repeat (first | exact HDrop.none _ _ | exact HDrop.tail _ _ | refine HDrop.put ?_ (by first | rfl | exact congrArg (fun es => some (AObj.row true 8 es)) (by rw [fa_L hqj, map_snoc]; rfl) | exact congrArg (fun es => some (AObj.row true 8 es)) (by rw [fa_W hqj, ← hv, map_snoc]; rfl) | exact congrArg (fun es => some (AObj.row true 1 es)) (by rw [fa_V hqj, ← hv, List.map_set, Nat.zero_add, Int.toNat_natCast]; rfl)) rfl rfl)), hjl, by omega⟩
          · -- False
            refine AGo.cond_false false rfl rfl ?_
            have hge2 := ge_of_idx hb5
            have hjt : (thn.take j).length = j := by rw [List.length_take]; omega
            refine AGo.exit ?_
            refine AGo.seq ?_
            refine AGo.ghost (.freezeAll 7 1 rfl rfl (by simp [faFirst_length, faWant_length, faVals_length]; omega)) ?_
            refine AGo.region ?_
            refine AOps.s 145 rfl rfl rfl (q_move (.inl rfl) rfl) ?_
            refine AOps.s 146 rfl rfl rfl (q_move (.inl rfl) rfl) ?_
            refine AOps.s 147 rfl rfl rfl (q_build tok rfl rfl rfl rfl rfl (by decide) rfl rfl rfl) ?_
            refine AOps.x 148 rfl rfl rfl (o_lit' tok rfl rfl rfl rfl rfl rfl (by decide) rfl rfl rfl rfl rfl rfl) ?_
            refine AOps.s 149 rfl rfl rfl (q_build tok rfl rfl rfl rfl rfl (by decide) rfl rfl rfl) ?_
            refine AOps.x 150 rfl rfl rfl (o_pure rfl Try.func11 (by kernel_rfl) rfl rfl rfl (foldOf_ok (faF first (thn.take j)) (faF_mild hf hn (by rw [List.length_take]; omega)))) ?_
            refine AOps.s 144 rfl rfl rfl (q_move (.inl rfl) rfl) ?_
            refine AOps.s 151 rfl rfl rfl (q_extract rfl rfl rfl) ?_
            refine AOps.s 152 rfl rfl rfl (q_extract rfl rfl rfl) ?_
            refine AOps.x 18 rfl rfl rfl (o_alloc tok 3 rfl rfl rfl rfl (Nat.zero_lt_succ _) rfl) ?_
            refine AOps.x 19 rfl rfl rfl (o_alloc tok 4 rfl rfl rfl rfl (Nat.zero_lt_succ _) rfl) ?_
            refine AOps.w rfl rfl (o_store tok rfl rfl rfl rfl rfl rfl rfl rfl rfl (by decide) rfl (by first | exact fun _ => rfl | (intro h; cases h))) ?_
            refine AOps.w rfl rfl (o_store tok rfl rfl rfl rfl rfl rfl rfl rfl rfl (by decide) rfl (by first | exact fun _ => rfl | (intro h; cases h))) ?_
            refine AOps.nil ?_
            refine AGo.seq ?_
            refine AGo.ghost (.freezeAll 8 2 rfl rfl (by simp [faFirst_length, faWant_length, faVals_length]; omega)) ?_
            refine AGo.region ?_
            refine AOps.s 153 rfl rfl rfl (q_load tok rfl rfl rfl (by first | exact .loc _ | exact .ptr _ _ _ _ _ _ _ _ rfl rfl rfl) rfl) ?_
            refine AOps.s 154 rfl rfl rfl (q_move (.inl rfl) rfl) ?_
            refine AOps.s 155 rfl rfl rfl (q_move (.inl rfl) rfl) ?_
            refine AOps.s 156 rfl rfl rfl (q_build tok rfl rfl rfl rfl rfl (by decide) rfl rfl rfl) ?_
            refine AOps.x 157 rfl rfl rfl (o_lit' tok rfl rfl rfl rfl rfl rfl (by decide) rfl rfl rfl rfl rfl rfl) ?_
            refine AOps.s 158 rfl rfl rfl (q_build tok rfl rfl rfl rfl rfl (by decide) rfl rfl rfl) ?_
            refine AOps.x 159 rfl rfl rfl (o_pure rfl Try.func13 (by kernel_rfl) rfl rfl rfl ((sameFunc_ok (faF first (thn.take j)).fold (faG first (thn.take j))).mono (fun r h => by rw [h, decide_eq_true (faF_fold first _ hn.1)]))) ?_
            refine AOps.s 4 rfl rfl rfl (q_move (.inr rfl) rfl) ?_
            refine AOps.nil ?_
            refine AGo.ret ?_
            refine ⟨[_], ⟨rfl, trivial⟩, ?_, rfl⟩
            rfl

end Go.Proofs.Ytkccdnincholpaa.Sv
