/-
  WALKS: printed by a program of our own from the code's tree.
-/
import Derived.Test.YtidfabbnobipkaaSp23
import Derived.Test.YtidfabbnobipkaaLw1
namespace Go.Proofs.Ytidfabbnobipkaa.Sv
open Go
set_option linter.unusedVariables false
set_option linter.unusedSimpArgs false

set_option maxRecDepth 100000 in
theorem takings_ok (f : BFunc) (reach : List Bool) (hn : f.blocks.length ≤ 1000) (hr : reach.length = f.blocks.length) (hle : f.leads) : APure Try.prog 29 [.agg f.cells, pathsAV f.nexts, boolsAV reach] (fun r => r = .tup [intsAV (f.takes reach), boolsAV (f.takenAt reach f.blocks.length)]) := by
  refine APure.of_body (n := 104) tok Try.func29 rfl rfl ?_
  refine AGo.seq ?_
  refine AGo.region ?_
  refine AOps.x 3 rfl rfl rfl (o_box (sz := 2) 0 rfl rfl rfl rfl (Nat.zero_lt_succ _) rfl) ?_
  refine AOps.s 6 rfl rfl rfl (q_move (.inr rfl) rfl) ?_
  refine AOps.s 7 rfl rfl rfl (q_move (.inr rfl) rfl) ?_
  refine AOps.nil ?_
  refine AGo.seq ?_
  refine AGo.region ?_
  refine AOps.s 15 rfl rfl rfl (q_fieldAddr tok rfl rfl rfl rfl rfl rfl) ?_
  refine AOps.s 16 rfl rfl rfl (q_load tok rfl rfl rfl (by first | exact .loc _ | exact .ptr _ _ _ _ _ _ _ _ rfl rfl rfl) rfl) ?_
  refine AOps.s 17 rfl rfl rfl (q_len tok rfl rfl rfl rfl rfl) ?_
  refine AOps.x 18 rfl rfl rfl (o_makeSlice tok (n := f.blocks.length) (m := f.blocks.length) 1 true rfl rfl rfl (by simp) (by simp) rfl rfl rfl rfl rfl (Nat.zero_lt_succ _) rfl (Nat.le_refl _) (by show 8 * f.blocks.length ≤ _; omega) (by simp only [maxLen]; omega)) ?_
  refine AOps.s 8 rfl rfl rfl (q_move (.inr rfl) rfl) ?_
  refine AOps.nil ?_
  refine AGo.seq ?_
  refine AGo.seq ?_
  refine AGo.region ?_
  refine AOps.s 19 rfl rfl rfl (q_move (.inl rfl) rfl) ?_
  refine AOps.s 20 rfl rfl rfl (q_len tok rfl rfl rfl rfl rfl) ?_
  refine AOps.s 21 rfl rfl rfl (q_move (.inl rfl) rfl) ?_
  refine AOps.nil ?_
  refine AGo.block ?_
  refine AGo.loopD (γ := Nat) 2 (fun k => ⟨104, (eput (eput (eput (eput (eput (eput (eput (eput eNew 0 (.agg f.cells)) 1 (pathsAV f.nexts)) 2 (boolsAV reach)) 3 (.ptr 0 1 0 0)) 8 (.ref 1 f.blocks.length 0 f.blocks.length)) 19 (pathsAV f.nexts)) 20 (.int .i64 (f.blocks.length : Int))) 21 (.int .i64 (k : Int))), (hput (hput (hFrom 2) 0 (.row false 2 [f.cells])) 1 (.row true 1 (intCells (waysAt f.nexts reach k))))⟩) (fun k => k ≤ f.blocks.length) (fun k => f.blocks.length - k) 0 (Sub.mk' (by repeat (first | exact ESub.new _ | refine ESub.put ?_ (by first | rfl | exact congrArg (fun (n : Nat) => some (AV.int .i64 (n : Int))) (by simp [nexts_length])))) (by repeat (first | exact HSub.none _ | exact HSub.from_new _ | exact HSub.from_from (by decide) | refine HSub.put ?_ (by first | rfl | exact congrArg (fun es => some (AObj.row true 1 es)) (by rw [waysAt, nexts_length]; exact intCells_rep _)) | refine HSub.from_put ?_ (by decide)))) (Nat.zero_le _) (fun _ => hput_free (hput_free (fun b hb => hFrom_free hb) rfl) rfl) ?_
  intro k hk
  refine AGo.seq ?_
  refine AGo.region ?_
  refine AOps.s 22 rfl rfl rfl (q_bin rfl rfl rfl rfl) ?_
  refine AOps.nil ?_
  refine AGo.seq ?_
  refine AGo.split 22 rfl (fun hb1 => ?_) (fun hb1 => ?_)
  · -- True
    refine AGo.cond_true true rfl rfl ?_
    have hkl : k < f.blocks.length := by simpa using hb1
    obtain ⟨x, hx⟩ := get_of_lt hkl
    have hnx := nexts_get hx
    obtain ⟨rk, hrk⟩ := get_of_lt (l := reach) (k := k) (by omega)
    refine AGo.skip ?_
    refine AGo.seq ?_
    refine AGo.block ?_
    refine AGo.seq ?_
    refine AGo.region ?_
    refine AOps.s 23 rfl rfl rfl (q_move (.inl rfl) rfl) ?_
    refine AOps.s 24 rfl rfl rfl (q_index_lst tok rfl rfl rfl rfl rfl rfl (Int.natCast_nonneg _) (idx_map (by assumption)) rfl) ?_
    refine AOps.s 25 rfl rfl rfl (q_load tok rfl rfl rfl (by first | exact .loc _ | exact .ptr _ _ _ _ _ _ _ _ rfl rfl rfl) rfl) ?_
    refine AOps.s 9 rfl rfl rfl (q_move (.inr rfl) rfl) ?_
    refine AOps.s 10 rfl rfl rfl (q_move (.inr rfl) rfl) ?_
    refine AOps.nil ?_
    refine AGo.seq ?_
    refine AGo.seq ?_
    refine AGo.region ?_
    refine AOps.s 26 rfl rfl rfl (q_move (.inl rfl) rfl) ?_
    refine AOps.s 27 rfl rfl rfl (q_move (.inl rfl) rfl) ?_
    refine AOps.s 28 rfl rfl rfl (q_index_lst tok rfl rfl rfl rfl rfl rfl (Int.natCast_nonneg _) (idx_map (by assumption)) rfl) ?_
    refine AOps.s 29 rfl rfl rfl (q_load tok rfl rfl rfl (by first | exact .loc _ | exact .ptr _ _ _ _ _ _ _ _ rfl rfl rfl) rfl) ?_
    refine AOps.s 30 rfl rfl rfl (q_not rfl rfl) ?_
    refine AOps.nil ?_
    refine AGo.split 30 rfl (fun hb2 => ?_) (fun hb2 => ?_)
    · -- True
      refine AGo.cond_true true rfl rfl ?_
      have hrf : reach[k]? = some false := by rw [hrk]; simpa using hb2
      refine AGo.exit ?_
      refine AGo.region ?_
      refine AOps.s 44 rfl rfl rfl (q_inc rfl rfl hkl (by simp only [maxLen]; omega)) ?_
      refine AOps.s 21 rfl rfl rfl (q_move (.inl rfl) rfl) ?_
      refine AOps.nil ?_
      exact ⟨k+1, Drop.mk' (by repeat (first | exact EDrop.new _ _ | refine EDrop.put ?_ (by rfl) rfl)) (by repeat (first | exact HDrop.none _ _ | exact HDrop.tail _ _ | refine HDrop.put ?_ (by first | rfl | exact congrArg (fun w => some (AObj.row true 1 (intCells w))) (ways_skip hrf) | exact congrArg (fun w => some (AObj.row true 1 (intCells w))) (ways_do hrt hnx hge2)) rfl rfl)), hkl, by omega⟩
    · -- False
      refine AGo.cond_false false rfl rfl ?_
      have hrt : reach[k]? = some true := by rw [hrk]; simpa using hb2
      have h2 := nexts_two f x.nexts (List.mem_of_getElem? hnx)
      refine AGo.skip ?_
      refine AGo.seq ?_
      refine AGo.region ?_
      refine AOps.s 31 rfl rfl rfl (q_move (.inl rfl) rfl) ?_
      refine AOps.s 32 rfl rfl rfl (q_len tok rfl rfl rfl rfl rfl) ?_
      refine AOps.s 33 rfl rfl rfl (q_move (.inl rfl) rfl) ?_
      refine AOps.nil ?_
      refine AGo.block ?_
      refine AGo.loopD (γ := Nat) 2 (fun j => ⟨104, (eput (eput (eput (eput (eput (eput (eput (eput (eput (eput (eput (eput eNew 0 (.agg f.cells)) 1 (pathsAV f.nexts)) 2 (boolsAV reach)) 3 (.ptr 0 1 0 0)) 8 (.ref 1 f.blocks.length 0 f.blocks.length)) 19 (pathsAV f.nexts)) 20 (.int .i64 (f.blocks.length : Int))) 21 (.int .i64 (k : Int))) 9 (.int .i64 (k : Int))) 31 (intsAV x.nexts)) 32 (.int .i64 (x.nexts.length : Int))) 33 (.int .i64 (j : Int))), (hput (hput (hFrom 2) 0 (.row false 2 [f.cells])) 1 (.row true 1 (intCells ((x.nexts.take j).foldl bump (waysAt f.nexts reach k)))))⟩) (fun j => j ≤ x.nexts.length) (fun j => x.nexts.length - j) 0 (Sub.mk' (by repeat (first | exact ESub.new _ | refine ESub.put ?_ (by first | rfl | exact congrArg (fun (n : Nat) => some (AV.int .i64 (n : Int))) (by simp)))) (by repeat (first | exact HSub.none _ | exact HSub.from_new _ | exact HSub.from_from (by decide) | refine HSub.put ?_ (by rfl) | refine HSub.from_put ?_ (by decide)))) (Nat.zero_le _) (fun _ => hput_free (hput_free (fun b hb => hFrom_free hb) rfl) rfl) ?_
      intro j hj
      refine AGo.seq ?_
      refine AGo.region ?_
      refine AOps.s 34 rfl rfl rfl (q_bin rfl rfl rfl rfl) ?_
      refine AOps.nil ?_
      refine AGo.seq ?_
      refine AGo.split 34 rfl (fun hb3 => ?_) (fun hb3 => ?_)
      · -- True
        refine AGo.cond_true true rfl rfl ?_
        have hjl : j < x.nexts.length := by simpa using hb3
        obtain ⟨y, hy⟩ := get_of_lt hjl
        have hyr := hle x.nexts (List.mem_of_getElem? hnx) y (List.mem_of_getElem? hy)
        have hub := iget_upTo (bumps_upTo (x.nexts.take j) (waysAt_upTo (nexts_two f) reach k)) y
        have hjt : (x.nexts.take j).length = j := by rw [List.length_take]; omega
        rw [hjt] at hub
        refine AGo.skip ?_
        refine AGo.seq ?_
        refine AGo.block ?_
        refine AGo.seq ?_
        refine AGo.region ?_
        refine AOps.s 35 rfl rfl rfl (q_index_lst tok rfl rfl rfl rfl rfl rfl (Int.natCast_nonneg _) (idx_map (by assumption)) rfl) ?_
        refine AOps.s 36 rfl rfl rfl (q_load tok rfl rfl rfl (by first | exact .loc _ | exact .ptr _ _ _ _ _ _ _ _ rfl rfl rfl) rfl) ?_
        refine AOps.s 12 rfl rfl rfl (q_move (.inr rfl) rfl) ?_
        refine AOps.nil ?_
        refine AGo.region ?_
        refine AOps.s 37 rfl rfl rfl (q_move (.inl rfl) rfl) ?_
        refine AOps.s 38 rfl rfl rfl (q_move (.inl rfl) rfl) ?_
        refine AOps.s 39 rfl rfl rfl (q_index_ref tok rfl rfl rfl rfl rfl rfl rfl (by rw [intCells_len, bumps_length, waysAt_length, nexts_length]) rfl hyr.1 (by omega)) ?_
        refine AOps.s 40 rfl rfl rfl (q_load tok rfl rfl rfl (.ptr _ _ _ _ _ _ _ _ rfl (by rw [intCells_len, bumps_length, waysAt_length, nexts_length]) (icell (by rw [bumps_length, waysAt_length, nexts_length]; exact hyr))) rfl) ?_
        refine AOps.s 41 rfl rfl rfl (q_bin (r := .int .i64 (iget ((x.nexts.take j).foldl bump (waysAt f.nexts reach k)) y + 1)) rfl rfl rfl (by simp only [evalBin, evalInt, isShift, cond_false, if_true]; rw [wrap_i64 (by omega) (by omega)])) ?_
        refine AOps.s 42 rfl rfl rfl (q_index_ref tok rfl rfl rfl rfl rfl rfl rfl (by rw [intCells_len, bumps_length, waysAt_length, nexts_length]) rfl hyr.1 (by omega)) ?_
        refine AOps.w rfl rfl (o_store tok rfl rfl rfl rfl rfl rfl (by rw [intCells_len, bumps_length, waysAt_length, nexts_length]) (icell (by rw [bumps_length, waysAt_length, nexts_length]; exact hyr)) rfl (by decide) rfl (by first | exact fun _ => rfl | (intro h; cases h))) ?_
        refine AOps.nil ?_
        refine AGo.region ?_
        refine AOps.s 43 rfl rfl rfl (q_inc rfl rfl hjl (by simp only [maxLen]; omega)) ?_
        refine AOps.s 33 rfl rfl rfl (q_move (.inl rfl) rfl) ?_
        refine AOps.nil ?_
        exact ⟨j+1, Drop.mk' (by repeat (first | exact EDrop.new _ _ | refine EDrop.put ?_ (by rfl) rfl)) (by repeat (first | exact HDrop.none _ _ | exact HDrop.tail _ _ | refine HDrop.put ?_ (by first | rfl | exact congrArg (fun es => some (AObj.row true 1 es)) (by rw [bumps_succ hy]; exact icell_set _ _ _)) rfl rfl)), hjl, by omega⟩
      · -- False
        refine AGo.cond_false false rfl rfl ?_
        have hge2 : x.nexts.length ≤ j := by simpa using hb3
        refine AGo.exit ?_
        refine AGo.region ?_
        refine AOps.s 44 rfl rfl rfl (q_inc rfl rfl hkl (by simp only [maxLen]; omega)) ?_
        refine AOps.s 21 rfl rfl rfl (q_move (.inl rfl) rfl) ?_
        refine AOps.nil ?_
        exact ⟨k+1, Drop.mk' (by repeat (first | exact EDrop.new _ _ | refine EDrop.put ?_ (by rfl) rfl)) (by repeat (first | exact HDrop.none _ _ | exact HDrop.tail _ _ | refine HDrop.put ?_ (by first | rfl | exact congrArg (fun w => some (AObj.row true 1 (intCells w))) (ways_skip hrf) | exact congrArg (fun w => some (AObj.row true 1 (intCells w))) (ways_do hrt hnx hge2)) rfl rfl)), hkl, by omega⟩
  · -- False
    refine AGo.cond_false false rfl rfl ?_
    have hge : f.blocks.length ≤ k := by simpa using hb1
    obtain rfl : k = f.blocks.length := by omega
    refine AGo.exit ?_
    refine AGo.seq ?_
    refine AGo.region ?_
    refine AOps.s 45 rfl rfl rfl (q_fieldAddr tok rfl rfl rfl rfl rfl rfl) ?_
    refine AOps.s 46 rfl rfl rfl (q_load tok rfl rfl rfl (by first | exact .loc _ | exact .ptr _ _ _ _ _ _ _ _ rfl rfl rfl) rfl) ?_
    refine AOps.s 47 rfl rfl rfl (q_len tok rfl rfl rfl rfl rfl) ?_
    refine AOps.x 48 rfl rfl rfl (o_makeSlice tok (n := f.blocks.length) (m := f.blocks.length) 2 true rfl rfl rfl (by simp) (by simp) rfl rfl rfl rfl rfl (Nat.zero_lt_succ _) rfl (Nat.le_refl _) (by show 8 * f.blocks.length ≤ _; omega) (by simp only [maxLen]; omega)) ?_
    refine AOps.s 6 rfl rfl rfl (q_move (.inr rfl) rfl) ?_
    refine AOps.nil ?_
    refine AGo.seq ?_
    refine AGo.region ?_
    refine AOps.s 49 rfl rfl rfl (q_fieldAddr tok rfl rfl rfl rfl rfl rfl) ?_
    refine AOps.s 50 rfl rfl rfl (q_load tok rfl rfl rfl (by first | exact .loc _ | exact .ptr _ _ _ _ _ _ _ _ rfl rfl rfl) rfl) ?_
    refine AOps.s 51 rfl rfl rfl (q_len tok rfl rfl rfl rfl rfl) ?_
    refine AOps.x 52 rfl rfl rfl (o_makeSlice tok (n := f.blocks.length) (m := f.blocks.length) 3 true rfl rfl rfl (by simp) (by simp) rfl rfl rfl rfl rfl (Nat.zero_lt_succ _) rfl (Nat.le_refl _) (by show 1 * f.blocks.length ≤ _; omega) (by simp only [maxLen]; omega)) ?_
    refine AOps.s 7 rfl rfl rfl (q_move (.inr rfl) rfl) ?_
    refine AOps.nil ?_
    refine AGo.seq ?_
    refine AGo.seq ?_
    refine AGo.region ?_
    refine AOps.s 53 rfl rfl rfl (q_fieldAddr tok rfl rfl rfl rfl rfl rfl) ?_
    refine AOps.s 54 rfl rfl rfl (q_load tok rfl rfl rfl (by first | exact .loc _ | exact .ptr _ _ _ _ _ _ _ _ rfl rfl rfl) rfl) ?_
    refine AOps.s 55 rfl rfl rfl (q_len tok rfl rfl rfl rfl rfl) ?_
    refine AOps.s 56 rfl rfl rfl (q_move (.inl rfl) rfl) ?_
    refine AOps.nil ?_
    refine AGo.block ?_
    refine AGo.loopD (γ := Nat) 4 (fun k => ⟨104, (eput (eput (eput (eput (eput (eput (eput (eput (eput (eput eNew 0 (.agg f.cells)) 1 (pathsAV f.nexts)) 2 (boolsAV reach)) 3 (.ptr 0 1 0 0)) 8 (.ref 1 f.blocks.length 0 f.blocks.length)) 6 (.ref 2 f.blocks.length 0 f.blocks.length)) 7 (.ref 3 f.blocks.length 0 f.blocks.length)) 54 (blocksAV f.blocks)) 55 (.int .i64 (f.blocks.length : Int))) 56 (.int .i64 (k : Int))), (hput (hput (hput (hput (hFrom 4) 0 (.row false 2 [f.cells])) 1 (.row true 1 (intCells (waysF f.nexts reach)))) 2 (.row true 1 (((f.takes reach).take k).map icell1 ++ List.replicate (f.blocks.length - k) [.int .i64 0]))) 3 (.row true 1 ((f.takenAt reach k).map boolCells)))⟩) (fun k => k ≤ f.blocks.length) (fun k => f.blocks.length - k) 0 (Sub.mk' (by repeat (first | exact ESub.new _ | refine ESub.put ?_ (by first | rfl | exact congrArg (fun (n : Nat) => some (AV.int .i64 (n : Int))) (by simp)))) (by repeat (first | exact HSub.none _ | exact HSub.from_new _ | exact HSub.from_from (by decide) | refine HSub.put ?_ (by first | rfl | exact congrArg (fun w => some (AObj.row true 1 (intCells w))) (by rw [waysF, nexts_length]) | exact congrArg (fun es => some (AObj.row true 1 es)) (by simp [BFunc.takenAt, boolCells])) | refine HSub.from_put ?_ (by decide)))) (Nat.zero_le _) (fun _ => hput_free (hput_free (hput_free (hput_free (fun b hb => hFrom_free hb) rfl) rfl) rfl) rfl) ?_
    intro k hk
    refine AGo.seq ?_
    refine AGo.region ?_
    refine AOps.s 57 rfl rfl rfl (q_bin rfl rfl rfl rfl) ?_
    refine AOps.nil ?_
    refine AGo.seq ?_
    refine AGo.split 57 rfl (fun hb4 => ?_) (fun hb4 => ?_)
    · -- True
      refine AGo.cond_true true rfl rfl ?_
      have hkl : k < f.blocks.length := by simpa using hb4
      obtain ⟨x, hx⟩ := get_of_lt hkl
      obtain ⟨rk, hrk⟩ := get_of_lt (l := reach) (k := k) (by omega)
      have htk := takes_get (reach := reach) hx
      refine AGo.skip ?_
      refine AGo.seq ?_
      refine AGo.block ?_
      refine AGo.seq ?_
      refine AGo.region ?_
      refine AOps.s 58 rfl rfl rfl (q_move (.inl rfl) rfl) ?_
      refine AOps.s 59 rfl rfl rfl (q_index_lst tok rfl rfl rfl rfl rfl rfl (Int.natCast_nonneg _) (idx_map (by assumption)) rfl) ?_
      refine AOps.s 60 rfl rfl rfl (q_load tok rfl rfl rfl (by first | exact .loc _ | exact .ptr _ _ _ _ _ _ _ _ rfl rfl rfl) rfl) ?_
      refine AOps.x 14 rfl rfl rfl (o_alloc tok 4 rfl rfl rfl rfl (Nat.zero_lt_succ _) rfl) ?_
      refine AOps.s 13 rfl rfl rfl (q_move (.inr rfl) rfl) ?_
      refine AOps.w rfl rfl (o_store tok rfl rfl rfl rfl rfl rfl rfl rfl rfl (by decide) rfl (by first | exact fun _ => rfl | (intro h; cases h))) ?_
      refine AOps.nil ?_
      refine AGo.seq ?_
      refine AGo.region ?_
      refine AOps.s 61 rfl rfl rfl (q_move (.inl rfl) rfl) ?_
      refine AOps.s 62 rfl rfl rfl (q_move (.inl rfl) rfl) ?_
      refine AOps.s 63 rfl rfl rfl (q_index_ref tok rfl rfl rfl rfl rfl rfl rfl (fill_len (takes_length f reach) (Nat.le_of_lt hkl)) rfl (Int.natCast_nonneg _) (by omega)) ?_
      refine AOps.w rfl rfl (o_store tok rfl rfl rfl rfl rfl rfl (fill_len (takes_length f reach) (Nat.le_of_lt hkl)) (fill_get (takes_length f reach) hkl) rfl (by decide) rfl (by first | exact fun _ => rfl | (intro h; cases h))) ?_
      refine AOps.nil ?_
      refine AGo.seq ?_
      refine AGo.region ?_
      refine AOps.s 64 rfl rfl rfl (q_move (.inl rfl) rfl) ?_
      refine AOps.s 65 rfl rfl rfl (q_move (.inl rfl) rfl) ?_
      refine AOps.s 66 rfl rfl rfl (q_index_lst tok rfl rfl rfl rfl rfl rfl (Int.natCast_nonneg _) (idx_map (by assumption)) rfl) ?_
      refine AOps.s 67 rfl rfl rfl (q_load tok rfl rfl rfl (by first | exact .loc _ | exact .ptr _ _ _ _ _ _ _ _ rfl rfl rfl) rfl) ?_
      refine AOps.s 68 rfl rfl rfl (q_move (.inl rfl) rfl) ?_
      refine AOps.split 68 rfl (fun hb5 => ?_) (fun hb5 => ?_)
      · -- True
        refine AOps.s 69 rfl rfl rfl (q_fieldAddr tok rfl rfl rfl rfl rfl rfl) ?_
        refine AOps.s 70 rfl rfl rfl (q_load tok rfl rfl rfl (by first | exact .loc _ | exact .ptr _ _ _ _ _ _ _ _ rfl rfl rfl) rfl) ?_
        refine AOps.s 71 rfl rfl rfl (q_bin rfl rfl rfl rfl) ?_
        refine AOps.s 72 rfl rfl rfl (q_pick_true true rfl rfl rfl rfl) ?_
        refine AOps.s 73 rfl rfl rfl (q_move (.inl rfl) rfl) ?_
        refine AOps.split 73 rfl (fun hb6 => ?_) (fun hb6 => ?_)
        · -- True
          refine AOps.s 74 rfl rfl rfl (q_fieldAddr tok rfl rfl rfl rfl rfl rfl) ?_
          refine AOps.s 75 rfl rfl rfl (q_load tok rfl rfl rfl (by first | exact .loc _ | exact .ptr _ _ _ _ _ _ _ _ rfl rfl rfl) rfl) ?_
          refine AOps.s 76 rfl rfl rfl (q_bin rfl rfl rfl rfl) ?_
          refine AOps.s 77 rfl rfl rfl (q_pick_true true rfl rfl rfl rfl) ?_
          refine AOps.s 78 rfl rfl rfl (q_move (.inl rfl) rfl) ?_
          refine AOps.split 78 rfl (fun hb7 => ?_) (fun hb7 => ?_)
          · -- True
            refine AOps.s 79 rfl rfl rfl (q_fieldAddr tok rfl rfl rfl rfl rfl rfl) ?_
            refine AOps.s 80 rfl rfl rfl (q_load tok rfl rfl rfl (by first | exact .loc _ | exact .ptr _ _ _ _ _ _ _ _ rfl rfl rfl) rfl) ?_
            refine AOps.s 81 rfl rfl rfl (q_move (.inl rfl) rfl) ?_
            refine AOps.s 82 rfl rfl rfl (q_bin rfl rfl rfl rfl) ?_
            refine AOps.s 83 rfl rfl rfl (q_pick_true true rfl rfl rfl rfl) ?_
            refine AOps.s 84 rfl rfl rfl (q_move (.inl rfl) rfl) ?_
            refine AOps.split 84 rfl (fun hb8 => ?_) (fun hb8 => ?_)
            · -- True
              have hto := leads_to hle hx (.inl (by simp_all))
              refine AOps.s 85 rfl rfl rfl (q_move (.inl rfl) rfl) ?_
              refine AOps.s 86 rfl rfl rfl (q_fieldAddr tok rfl rfl rfl rfl rfl rfl) ?_
              refine AOps.s 87 rfl rfl rfl (q_load tok rfl rfl rfl (by first | exact .loc _ | exact .ptr _ _ _ _ _ _ _ _ rfl rfl rfl) rfl) ?_
              refine AOps.s 88 rfl rfl rfl (q_index_ref tok rfl rfl rfl rfl rfl rfl rfl (by rw [intCells_len, waysF, waysAt_length, nexts_length]) rfl hto.1 (by omega)) ?_
              refine AOps.s 89 rfl rfl rfl (q_load tok rfl rfl rfl (.ptr _ _ _ _ _ _ _ _ rfl (by rw [intCells_len, waysF, waysAt_length, nexts_length]) (icell (by rw [waysF, waysAt_length, nexts_length]; exact hto))) rfl) ?_
              refine AOps.s 90 rfl rfl rfl (q_bin rfl rfl rfl rfl) ?_
              refine AOps.s 91 rfl rfl rfl (q_pick_true true rfl rfl rfl rfl) ?_
              refine AOps.nil ?_
              refine AGo.split 91 rfl (fun hb9 => ?_) (fun hb9 => ?_)
              · -- True
                refine AGo.cond_true true rfl rfl ?_
                have hyes : takeOf f.nexts reach k x = x.to := takeOf_yes hrk (by simp_all)
                refine AGo.seq ?_
                refine AGo.region ?_
                refine AOps.s 92 rfl rfl rfl (q_move (.inl rfl) rfl) ?_
                refine AOps.s 93 rfl rfl rfl (q_move (.inl rfl) rfl) ?_
                refine AOps.s 94 rfl rfl rfl (q_fieldAddr tok rfl rfl rfl rfl rfl rfl) ?_
                refine AOps.s 95 rfl rfl rfl (q_load tok rfl rfl rfl (by first | exact .loc _ | exact .ptr _ _ _ _ _ _ _ _ rfl rfl rfl) rfl) ?_
                refine AOps.s 96 rfl rfl rfl (q_index_ref tok rfl rfl rfl rfl rfl rfl rfl (by rw [List.length_set]; exact fill_len (takes_length f reach) (Nat.le_of_lt hkl)) rfl (Int.natCast_nonneg _) (by omega)) ?_
                refine AOps.w rfl rfl (o_store tok rfl rfl rfl rfl rfl rfl (by rw [List.length_set]; exact fill_len (takes_length f reach) (Nat.le_of_lt hkl)) (get_set_selfZ (fill_get (takes_length f reach) hkl)) rfl (by decide) rfl (by first | exact fun _ => rfl | (intro h; cases h))) ?_
                refine AOps.nil ?_
                refine AGo.region ?_
                refine AOps.s 97 rfl rfl rfl (q_move (.inl rfl) rfl) ?_
                refine AOps.s 98 rfl rfl rfl (q_fieldAddr tok rfl rfl rfl rfl rfl rfl) ?_
                refine AOps.s 99 rfl rfl rfl (q_load tok rfl rfl rfl (by first | exact .loc _ | exact .ptr _ _ _ _ _ _ _ _ rfl rfl rfl) rfl) ?_
                refine AOps.s 100 rfl rfl rfl (q_index_ref tok rfl rfl rfl rfl rfl rfl rfl (by rw [List.length_map, takenAt_length]) rfl hto.1 (by omega)) ?_
                refine AOps.w rfl rfl (o_store tok rfl rfl rfl rfl rfl rfl (by rw [List.length_map, takenAt_length]) (cs := [.bool (bget (f.takenAt reach k) x.to)]) (by rw [Nat.zero_add]; exact bcellZ (by rw [takenAt_length]; exact hto)) rfl (by decide) rfl (by first | exact fun _ => rfl | (intro h; cases h))) ?_
                refine AOps.nil ?_
                refine AGo.region ?_
                refine AOps.s 101 rfl rfl rfl (q_inc rfl rfl hkl (by simp only [maxLen]; omega)) ?_
                refine AOps.s 56 rfl rfl rfl (q_move (.inl rfl) rfl) ?_
                refine AOps.nil ?_
                exact ⟨k+1, Drop.mk' (by repeat (first | exact EDrop.new _ _ | refine EDrop.put ?_ (by rfl) rfl)) (by repeat (first | exact HDrop.none _ _ | exact HDrop.tail _ _ | refine HDrop.put ?_ (by first | rfl | exact congrArg (fun es => some (AObj.row true 1 es)) (fill_put (f := icell1) (x := -1) (takes_length f reach) (by rw [htk, hno])) | exact congrArg (fun w => some (AObj.row true 1 (List.map boolCells w))) (taken_no hx hno) | exact congrArg (fun es => some (AObj.row true 1 es)) (by rw [List.set_set]; exact fill_put (f := icell1) (x := x.to) (takes_length f reach) (by rw [htk, hyes])) | exact congrArg (fun es => some (AObj.row true 1 es)) (taken_yes hx hyes hto.1)) rfl rfl)), hkl, by omega⟩
              · -- False
                refine AGo.cond_false false rfl rfl ?_
                have hno : takeOf f.nexts reach k x = -1 := takeOf_no hrk (by simp_all)
                refine AGo.skip ?_
                refine AGo.region ?_
                refine AOps.s 101 rfl rfl rfl (q_inc rfl rfl hkl (by simp only [maxLen]; omega)) ?_
                refine AOps.s 56 rfl rfl rfl (q_move (.inl rfl) rfl) ?_
                refine AOps.nil ?_
                exact ⟨k+1, Drop.mk' (by repeat (first | exact EDrop.new _ _ | refine EDrop.put ?_ (by rfl) rfl)) (by repeat (first | exact HDrop.none _ _ | exact HDrop.tail _ _ | refine HDrop.put ?_ (by first | rfl | exact congrArg (fun es => some (AObj.row true 1 es)) (fill_put (f := icell1) (x := -1) (takes_length f reach) (by rw [htk, hno])) | exact congrArg (fun w => some (AObj.row true 1 (List.map boolCells w))) (taken_no hx hno) | exact congrArg (fun es => some (AObj.row true 1 es)) (by rw [List.set_set]; exact fill_put (f := icell1) (x := x.to) (takes_length f reach) (by rw [htk, hyes])) | exact congrArg (fun es => some (AObj.row true 1 es)) (taken_yes hx hyes hto.1)) rfl rfl)), hkl, by omega⟩
            · -- False
              refine AOps.k 85 rfl rfl rfl ?_
              refine AOps.k 86 rfl rfl rfl ?_
              refine AOps.k 87 rfl rfl rfl ?_
              refine AOps.k 88 rfl rfl rfl ?_
              refine AOps.k 89 rfl rfl rfl ?_
              refine AOps.k 90 rfl rfl rfl ?_
              refine AOps.s 91 rfl rfl rfl (q_pick_false false rfl rfl rfl rfl) ?_
              refine AOps.nil ?_
              refine AGo.cond_false false rfl rfl ?_
              have hno : takeOf f.nexts reach k x = -1 := takeOf_no hrk (by simp_all)
              refine AGo.skip ?_
              refine AGo.region ?_
              refine AOps.s 101 rfl rfl rfl (q_inc rfl rfl hkl (by simp only [maxLen]; omega)) ?_
              refine AOps.s 56 rfl rfl rfl (q_move (.inl rfl) rfl) ?_
              refine AOps.nil ?_
              exact ⟨k+1, Drop.mk' (by repeat (first | exact EDrop.new _ _ | refine EDrop.put ?_ (by rfl) rfl)) (by repeat (first | exact HDrop.none _ _ | exact HDrop.tail _ _ | refine HDrop.put ?_ (by first | rfl | exact congrArg (fun es => some (AObj.row true 1 es)) (fill_put (f := icell1) (x := -1) (takes_length f reach) (by rw [htk, hno])) | exact congrArg (fun w => some (AObj.row true 1 (List.map boolCells w))) (taken_no hx hno) | exact congrArg (fun es => some (AObj.row true 1 es)) (by rw [List.set_set]; exact fill_put (f := icell1) (x := x.to) (takes_length f reach) (by rw [htk, hyes])) | exact congrArg (fun es => some (AObj.row true 1 es)) (taken_yes hx hyes hto.1)) rfl rfl)), hkl, by omega⟩
          · -- False
            refine AOps.k 79 rfl rfl rfl ?_
            refine AOps.k 80 rfl rfl rfl ?_
            refine AOps.k 81 rfl rfl rfl ?_
            refine AOps.k 82 rfl rfl rfl ?_
            refine AOps.s 83 rfl rfl rfl (q_pick_false false rfl rfl rfl rfl) ?_
            refine AOps.s 84 rfl rfl rfl (q_move (.inl rfl) rfl) ?_
            refine AOps.k 85 rfl rfl rfl ?_
            refine AOps.k 86 rfl rfl rfl ?_
            refine AOps.k 87 rfl rfl rfl ?_
            refine AOps.k 88 rfl rfl rfl ?_
            refine AOps.k 89 rfl rfl rfl ?_
            refine AOps.k 90 rfl rfl rfl ?_
            refine AOps.s 91 rfl rfl rfl (q_pick_false false rfl rfl rfl rfl) ?_
            refine AOps.nil ?_
            refine AGo.cond_false false rfl rfl ?_
            have hno : takeOf f.nexts reach k x = -1 := takeOf_no hrk (by simp_all)
            refine AGo.skip ?_
            refine AGo.region ?_
            refine AOps.s 101 rfl rfl rfl (q_inc rfl rfl hkl (by simp only [maxLen]; omega)) ?_
            refine AOps.s 56 rfl rfl rfl (q_move (.inl rfl) rfl) ?_
            refine AOps.nil ?_
            exact ⟨k+1, Drop.mk' (by repeat (first | exact EDrop.new _ _ | refine EDrop.put ?_ (by rfl) rfl)) (by repeat (first | exact HDrop.none _ _ | exact HDrop.tail _ _ | refine HDrop.put ?_ (by first | rfl | exact congrArg (fun es => some (AObj.row true 1 es)) (fill_put (f := icell1) (x := -1) (takes_length f reach) (by rw [htk, hno])) | exact congrArg (fun w => some (AObj.row true 1 (List.map boolCells w))) (taken_no hx hno) | exact congrArg (fun es => some (AObj.row true 1 es)) (by rw [List.set_set]; exact fill_put (f := icell1) (x := x.to) (takes_length f reach) (by rw [htk, hyes])) | exact congrArg (fun es => some (AObj.row true 1 es)) (taken_yes hx hyes hto.1)) rfl rfl)), hkl, by omega⟩
        · -- False
          refine AOps.k 74 rfl rfl rfl ?_
          refine AOps.k 75 rfl rfl rfl ?_
          refine AOps.k 76 rfl rfl rfl ?_
          refine AOps.s 77 rfl rfl rfl (q_pick_false false rfl rfl rfl rfl) ?_
          refine AOps.s 78 rfl rfl rfl (q_move (.inl rfl) rfl) ?_
          refine AOps.k 79 rfl rfl rfl ?_
          refine AOps.k 80 rfl rfl rfl ?_
          refine AOps.k 81 rfl rfl rfl ?_
          refine AOps.k 82 rfl rfl rfl ?_
          refine AOps.s 83 rfl rfl rfl (q_pick_false false rfl rfl rfl rfl) ?_
          refine AOps.s 84 rfl rfl rfl (q_move (.inl rfl) rfl) ?_
          refine AOps.k 85 rfl rfl rfl ?_
          refine AOps.k 86 rfl rfl rfl ?_
          refine AOps.k 87 rfl rfl rfl ?_
          refine AOps.k 88 rfl rfl rfl ?_
          refine AOps.k 89 rfl rfl rfl ?_
          refine AOps.k 90 rfl rfl rfl ?_
          refine AOps.s 91 rfl rfl rfl (q_pick_false false rfl rfl rfl rfl) ?_
          refine AOps.nil ?_
          refine AGo.cond_false false rfl rfl ?_
          have hno : takeOf f.nexts reach k x = -1 := takeOf_no hrk (by simp_all)
          refine AGo.skip ?_
          refine AGo.region ?_
          refine AOps.s 101 rfl rfl rfl (q_inc rfl rfl hkl (by simp only [maxLen]; omega)) ?_
          refine AOps.s 56 rfl rfl rfl (q_move (.inl rfl) rfl) ?_
          refine AOps.nil ?_
          exact ⟨k+1, Drop.mk' (by repeat (first | exact EDrop.new _ _ | refine EDrop.put ?_ (by rfl) rfl)) (by repeat (first | exact HDrop.none _ _ | exact HDrop.tail _ _ | refine HDrop.put ?_ (by first | rfl | exact congrArg (fun es => some (AObj.row true 1 es)) (fill_put (f := icell1) (x := -1) (takes_length f reach) (by rw [htk, hno])) | exact congrArg (fun w => some (AObj.row true 1 (List.map boolCells w))) (taken_no hx hno) | exact congrArg (fun es => some (AObj.row true 1 es)) (by rw [List.set_set]; exact fill_put (f := icell1) (x := x.to) (takes_length f reach) (by rw [htk, hyes])) | exact congrArg (fun es => some (AObj.row true 1 es)) (taken_yes hx hyes hto.1)) rfl rfl)), hkl, by omega⟩
      · -- False
        refine AOps.k 69 rfl rfl rfl ?_
        refine AOps.k 70 rfl rfl rfl ?_
        refine AOps.k 71 rfl rfl rfl ?_
        refine AOps.s 72 rfl rfl rfl (q_pick_false false rfl rfl rfl rfl) ?_
        refine AOps.s 73 rfl rfl rfl (q_move (.inl rfl) rfl) ?_
        refine AOps.k 74 rfl rfl rfl ?_
        refine AOps.k 75 rfl rfl rfl ?_
        refine AOps.k 76 rfl rfl rfl ?_
        refine AOps.s 77 rfl rfl rfl (q_pick_false false rfl rfl rfl rfl) ?_
        refine AOps.s 78 rfl rfl rfl (q_move (.inl rfl) rfl) ?_
        refine AOps.k 79 rfl rfl rfl ?_
        refine AOps.k 80 rfl rfl rfl ?_
        refine AOps.k 81 rfl rfl rfl ?_
        refine AOps.k 82 rfl rfl rfl ?_
        refine AOps.s 83 rfl rfl rfl (q_pick_false false rfl rfl rfl rfl) ?_
        refine AOps.s 84 rfl rfl rfl (q_move (.inl rfl) rfl) ?_
        refine AOps.k 85 rfl rfl rfl ?_
        refine AOps.k 86 rfl rfl rfl ?_
        refine AOps.k 87 rfl rfl rfl ?_
        refine AOps.k 88 rfl rfl rfl ?_
        refine AOps.k 89 rfl rfl rfl ?_
        refine AOps.k 90 rfl rfl rfl ?_
        refine AOps.s 91 rfl rfl rfl (q_pick_false false rfl rfl rfl rfl) ?_
        refine AOps.nil ?_
        refine AGo.cond_false false rfl rfl ?_
        have hno : takeOf f.nexts reach k x = -1 := takeOf_no hrk (by simp_all)
        refine AGo.skip ?_
        refine AGo.region ?_
        refine AOps.s 101 rfl rfl rfl (q_inc rfl rfl hkl (by simp only [maxLen]; omega)) ?_
        refine AOps.s 56 rfl rfl rfl (q_move (.inl rfl) rfl) ?_
        refine AOps.nil ?_
        exact ⟨k+1, Drop.mk' (by repeat (first | exact EDrop.new _ _ | refine EDrop.put ?_ (by rfl) rfl)) (by repeat (first | exact HDrop.none _ _ | exact HDrop.tail _ _ | refine HDrop.put ?_ (by first | rfl | exact congrArg (fun es => some (AObj.row true 1 es)) (fill_put (f := icell1) (x := -1) (takes_length f reach) (by rw [htk, hno])) | exact congrArg (fun w => some (AObj.row true 1 (List.map boolCells w))) (taken_no hx hno) | exact congrArg (fun es => some (AObj.row true 1 es)) (by rw [List.set_set]; exact fill_put (f := icell1) (x := x.to) (takes_length f reach) (by rw [htk, hyes])) | exact congrArg (fun es => some (AObj.row true 1 es)) (taken_yes hx hyes hto.1)) rfl rfl)), hkl, by omega⟩
    · -- False
      refine AGo.cond_false false rfl rfl ?_
      have hge : f.blocks.length ≤ k := by simpa using hb4
      obtain rfl : k = f.blocks.length := by omega
      refine AGo.exit ?_
      refine AGo.seq ?_
      refine AGo.ghost (.freezeA 6 2 rfl rfl (fill_len (takes_length f reach) (Nat.le_refl _))) ?_
      refine AGo.ghost (.freezeA 7 3 rfl rfl (by rw [List.length_map, takenAt_length])) ?_
      refine AGo.region ?_
      refine AOps.s 102 rfl rfl rfl (q_move (.inl rfl) rfl) ?_
      refine AOps.s 103 rfl rfl rfl (q_move (.inl rfl) rfl) ?_
      refine AOps.s 6 rfl rfl rfl (q_move (.inr rfl) rfl) ?_
      refine AOps.s 7 rfl rfl rfl (q_move (.inr rfl) rfl) ?_
      refine AOps.nil ?_
      refine AGo.ret ?_
      refine ⟨[_, _], ⟨rfl, rfl, trivial⟩, ?_, rfl⟩
      have e1 := fill_end (f := icell1) (z := [.int .i64 0]) (takes_length f reach) (Nat.le_refl _)
      rw [List.drop_zero, List.take_of_length_le (Nat.le_of_eq (fill_len (takes_length f reach) (Nat.le_refl _)).symm)] at e1
      show AV.tup [.lst false _, .lst false _] = _
      rw [e1]
      rfl

set_option maxRecDepth 100000 in
theorem follow_ok (takes : List Int) (i : Int) (hn : takes.length ≤ 1000) (hi : 0 ≤ i ∧ i < takes.length) (hin : ∀ v ∈ takes, v = -1 ∨ (0 ≤ v ∧ v < takes.length)) (he : ends takes takes.length i = true) : ACall Try.prog 30 [.int .i64 i, .ptr 2 1 0 0] (hput hNew 2 (.row false 1 [[intsAV takes]])) (fun r h' => r = intsAV (pathOf takes i) ∧ HSub (hput hNone 2 (.row false 1 [[intsAV takes]])) h') := by
  refine ACall.of_body (n := 21) tok Try.func30 rfl rfl ?_
  refine AGo.seq ?_
  refine AGo.region ?_
  refine AOps.s 3 rfl rfl rfl (q_move (.inr rfl) rfl) ?_
  refine AOps.nil ?_
  refine AGo.seq ?_
  refine AGo.region ?_
  refine AOps.s 5 rfl rfl rfl (q_move (.inl rfl) rfl) ?_
  refine AOps.x 6 rfl rfl rfl (o_litRow tok 3 true rfl rfl rfl rfl rfl rfl (by decide) rfl rfl rfl rfl (by first | exact fun _ => rfl | (intro h; cases h)) rfl rfl) ?_
  refine AOps.s 4 rfl rfl rfl (q_move (.inr rfl) rfl) ?_
  refine AOps.nil ?_
  refine AGo.seq ?_
  refine AGo.block ?_
  refine AGo.loopI (γ := FG2) (fun q => ⟨21, (eput (eput (eput eNew 0 (.int .i64 q.c)) 1 (.ptr 2 1 0 0)) 4 (.ref 3 q.acc.length 0 q.acc.length)), (hput (hput hNone 2 (.row false 1 [[intsAV takes]])) 3 (.row true 1 (intCells q.acc)))⟩) (fun q => FInv2 takes (pathOf takes i) q) (fun q => q.g) ⟨i, [i], takes.length⟩ (Sub.mk' (by repeat (first | exact ESub.new _ | refine ESub.put ?_ (by rfl))) (by repeat (first | exact HSub.none _ | exact HSub.from_new _ | exact HSub.from_from (by decide) | refine HSub.put ?_ (by rfl) | refine HSub.from_put ?_ (by decide)))) (FInv2.first hi he) ?_
  intro q hF
  refine AGo.seq ?_
  refine AGo.seq ?_
  refine AGo.region ?_
  refine AOps.s 7 rfl rfl rfl (q_load tok rfl rfl rfl (by first | exact .loc _ | exact .ptr _ _ _ _ _ _ _ _ rfl rfl rfl) rfl) ?_
  refine AOps.s 8 rfl rfl rfl (q_move (.inl rfl) rfl) ?_
  refine AOps.s 9 rfl rfl rfl (q_index_lst tok rfl rfl rfl rfl rfl rfl hF.c.1 (icellZ hF.c) rfl) ?_
  refine AOps.s 10 rfl rfl rfl (q_load tok rfl rfl rfl (by first | exact .loc _ | exact .ptr _ _ _ _ _ _ _ _ rfl rfl rfl) rfl) ?_
  refine AOps.s 11 rfl rfl rfl (q_bin rfl rfl rfl rfl) ?_
  refine AOps.nil ?_
  refine AGo.split 11 rfl (fun hb1 => ?_) (fun hb1 => ?_)
  · -- True
    refine AGo.cond_true true rfl rfl ?_
    have hnx := hF.next hin hb1
    have hlen := hF.len
    have hg0 : 0 < q.g := by omega
    refine AGo.skip ?_
    refine AGo.block ?_
    refine AGo.seq ?_
    refine AGo.region ?_
    refine AOps.s 12 rfl rfl rfl (q_load tok rfl rfl rfl (by first | exact .loc _ | exact .ptr _ _ _ _ _ _ _ _ rfl rfl rfl) rfl) ?_
    refine AOps.s 13 rfl rfl rfl (q_move (.inl rfl) rfl) ?_
    refine AOps.s 14 rfl rfl rfl (q_index_lst tok rfl rfl rfl rfl rfl rfl hF.c.1 (icellZ hF.c) rfl) ?_
    refine AOps.s 15 rfl rfl rfl (q_load tok rfl rfl rfl (by first | exact .loc _ | exact .ptr _ _ _ _ _ _ _ _ rfl rfl rfl) rfl) ?_
    refine AOps.s 0 rfl rfl rfl (q_move (.inr rfl) rfl) ?_
    refine AOps.nil ?_
    refine AGo.region ?_
    refine AOps.s 16 rfl rfl rfl (q_move (.inl rfl) rfl) ?_
    refine AOps.s 17 rfl rfl rfl (q_move (.inl rfl) rfl) ?_
    refine AOps.x 18 rfl rfl rfl (o_lit' tok rfl rfl rfl rfl rfl rfl (by decide) rfl rfl rfl rfl rfl rfl) ?_
    refine AOps.x 19 rfl rfl rfl (o_append tok (n := q.acc.length) (m := 1) rfl rfl rfl rfl rfl rfl rfl rfl rfl (by rw [intCells_len]) rfl rfl (Nat.zero_lt_succ _) (.lst _ _) (by intro cs h; simp [partVals] at h; subst h; rfl) (fun _ cs h => by simp [partVals] at h; subst h; rfl) rfl (by simp [intCells_len, partVals]; show _ * 8 ≤ _; omega) (by simp [intCells_len, partVals]; simp only [maxLen]; omega)) ?_
    refine AOps.s 4 rfl rfl rfl (q_move (.inr rfl) rfl) ?_
    refine AOps.nil ?_
    exact ⟨⟨iget takes q.c, q.acc ++ [iget takes q.c], q.g - 1⟩, Sub.mk' (by repeat (first | exact ESub.new _ | refine ESub.put ?_ (by first | rfl | exact congrArg (fun n => some (AV.ref 3 n 0 n)) (by simp)))) (by repeat (first | exact HSub.none _ | exact HSub.from_new _ | exact HSub.from_from (by decide) | refine HSub.put ?_ (by first | rfl | exact congrArg (fun es => some (AObj.row true 1 es)) (by simp [intCells, partVals]; rfl)) | refine HSub.from_put ?_ (by decide))), hnx.1, hnx.2⟩
  · -- False
    refine AGo.cond_false false rfl rfl ?_
    have hdone := hF.done hb1
    refine AGo.exit ?_
    refine AGo.seq ?_
    refine AGo.ghost (.freezeA 4 3 rfl rfl (by rw [intCells_len])) ?_
    refine AGo.region ?_
    refine AOps.s 20 rfl rfl rfl (q_move (.inl rfl) rfl) ?_
    refine AOps.s 3 rfl rfl rfl (q_move (.inr rfl) rfl) ?_
    refine AOps.nil ?_
    refine AGo.ret ?_
    refine ⟨[_], ⟨rfl, trivial⟩, ?_, HSub.put (HSub.none _) rfl⟩
    rw [← hdone]
    rfl

set_option maxRecDepth 100000 in
theorem joined_ok (f : BFunc) (p : List Int) (hf : ∀ x ∈ f.blocks, x.ins.length ≤ 1000) (hp : inF f.blocks.length p) (hl : p.length ≤ 100000) : APure Try.prog 31 [.agg f.cells, intsAV p] (fun r => r = insAV (f.joined p)) := by
  obtain ⟨hne, hin⟩ := hp
  obtain ⟨i0, rest, rfl⟩ : ∃ i0 rest, p = i0 :: rest := ⟨p.head hne, p.tail, (List.cons_head_tail hne).symm⟩
  have h0 := hin i0 (by simp)
  have hrl : rest.length ≤ 100000 := by simp at hl; omega
  refine APure.of_body (n := 40) tok Try.func31 rfl rfl ?_
  refine AGo.seq ?_
  refine AGo.region ?_
  refine AOps.x 2 rfl rfl rfl (o_box (sz := 2) 0 rfl rfl rfl rfl (Nat.zero_lt_succ _) rfl) ?_
  refine AOps.s 4 rfl rfl rfl (q_move (.inr rfl) rfl) ?_
  refine AOps.nil ?_
  refine AGo.seq ?_
  refine AGo.draw mix ?_
  refine DOps.s 9 rfl rfl rfl (q_fieldAddr tok rfl rfl rfl rfl rfl rfl) ?_
  refine DOps.s 10 rfl rfl rfl (q_load tok rfl rfl rfl (by first | exact .loc _ | exact .ptr _ _ _ _ _ _ _ _ rfl rfl rfl) rfl) ?_
  refine DOps.s 11 rfl rfl rfl (q_move (.inl rfl) rfl) ?_
  refine DOps.s 12 rfl rfl rfl (q_index_lst tok rfl rfl rfl rfl rfl rfl (by decide) (cs := [.int .i64 i0]) rfl rfl) ?_
  refine DOps.s 13 rfl rfl rfl (q_load tok rfl rfl rfl (by first | exact .loc _ | exact .ptr _ _ _ _ _ _ _ _ rfl rfl rfl) rfl) ?_
  refine DOps.s 14 rfl rfl rfl (q_index_lst tok rfl rfl rfl rfl rfl rfl h0.1 (idx_mapZ (blockAt_get h0)) rfl) ?_
  refine DOps.s 15 rfl rfl rfl (q_fieldAddr tok rfl rfl rfl rfl rfl rfl) ?_
  refine DOps.s 16 rfl rfl rfl (q_load tok rfl rfl rfl (by first | exact .loc _ | exact .ptr _ _ _ _ _ _ _ _ rfl rfl rfl) rfl) ?_
  refine DOps.s 5 rfl rfl rfl (q_move (.inr rfl) rfl) ?_
  refine DOps.nil (by kernel_rfl) ?_
  refine AGo.seq ?_
  refine AGo.region ?_
  refine AOps.s 17 rfl rfl rfl (q_move (.inl rfl) rfl) ?_
  refine AOps.s 18 rfl rfl rfl (q_move (.inl rfl) rfl) ?_
  refine AOps.s 19 rfl rfl rfl (q_len tok rfl rfl rfl rfl rfl) ?_
  refine AOps.s 20 rfl rfl rfl (q_move (.inl rfl) rfl) ?_
  refine AOps.s 21 rfl rfl rfl (q_len tok rfl rfl rfl rfl rfl) ?_
  refine AOps.s 22 rfl rfl rfl (q_slice3 tok rfl rfl rfl rfl rfl rfl rfl) ?_
  refine AOps.s 6 rfl rfl rfl (q_move (.inr rfl) rfl) ?_
  refine AOps.nil ?_
  refine AGo.seq ?_
  refine AGo.seq ?_
  refine AGo.region ?_
  refine AOps.s 23 rfl rfl rfl (q_move (.inl rfl) rfl) ?_
  refine AOps.s 24 rfl rfl rfl (q_tail tok (c := [.int .i64 i0]) (es := intCells rest) rfl rfl rfl rfl rfl rfl (by intro cs h; simp [intCells] at h; rcases h with rfl | ⟨n, _, rfl⟩ <;> rfl)) ?_
  refine AOps.s 25 rfl rfl rfl (q_len tok rfl rfl rfl rfl rfl) ?_
  refine AOps.s 26 rfl rfl rfl (q_move (.inl rfl) rfl) ?_
  refine AOps.nil ?_
  refine AGo.block ?_
  refine AGo.loopI (γ := Nat) (fun k => ⟨40, (eput (eput (eput (eput (eput eNew 2 (.ptr 0 1 0 0)) 6 (jAV (jFlag f rest k) 1 (jList f i0 rest k))) 24 (intsAV rest)) 25 (.int .i64 (rest.length : Int))) 26 (.int .i64 (k : Int))), (hput (hput hNone 0 (.row false 2 [f.cells])) 1 (jObj (jFlag f rest k) 8 (jList f i0 rest k)))⟩) (fun k => k ≤ rest.length) (fun k => rest.length - k) 0 (Sub.mk' (by repeat (first | exact ESub.new _ | refine ESub.put ?_ (by first | rfl | exact congrArg (fun es => some (AV.lst true es)) (by simp [jList, BFunc.joined]) | exact congrArg (fun (n : Nat) => some (AV.int .i64 (n : Int))) (by simp [intCells_len])))) (by repeat (first | exact HSub.none _ | exact HSub.from_new _ | exact HSub.from_from (by decide) | refine HSub.put ?_ (by rfl) | refine HSub.from_put ?_ (by decide)))) (Nat.zero_le _) ?_
  intro k hk
  refine AGo.seq ?_
  refine AGo.region ?_
  refine AOps.s 27 rfl rfl rfl (q_bin rfl rfl rfl rfl) ?_
  refine AOps.nil ?_
  refine AGo.seq ?_
  refine AGo.split 27 rfl (fun hb1 => ?_) (fun hb1 => ?_)
  · -- True
    refine AGo.cond_true true rfl rfl ?_
    have hkl : k < rest.length := by simpa [intCells_len] using hb1
    obtain ⟨y, hy⟩ := get_of_lt hkl
    have hyr := hin y (by simp [List.mem_of_getElem? hy])
    have hb1 : (jList f i0 rest k).length + (List.map Tac.cells (f.blockAt y).ins).length ≤ 200000000 := by
      have h1 := joined_len hf (i0 :: (rest.take k))
      have h2 := joined_len hf [y]
      simp only [BFunc.joined, List.flatMap_cons, List.flatMap_nil, List.append_nil, List.length_append, List.length_cons, List.length_nil, List.length_take] at h1 h2
      simp only [jList, BFunc.joined, List.length_map, List.length_append]
      omega
    refine AGo.skip ?_
    refine AGo.seq ?_
    refine AGo.block ?_
    refine AGo.seq ?_
    refine AGo.region ?_
    refine AOps.s 28 rfl rfl rfl (q_index_lst tok rfl rfl rfl rfl rfl rfl (Int.natCast_nonneg _) (idx_map hy) rfl) ?_
    refine AOps.s 29 rfl rfl rfl (q_load tok rfl rfl rfl (by first | exact .loc _ | exact .ptr _ _ _ _ _ _ _ _ rfl rfl rfl) rfl) ?_
    refine AOps.s 8 rfl rfl rfl (q_move (.inr rfl) rfl) ?_
    refine AOps.nil ?_
    refine AGo.region ?_
    refine AOps.s 30 rfl rfl rfl (q_move (.inl rfl) rfl) ?_
    refine AOps.s 31 rfl rfl rfl (q_fieldAddr tok rfl rfl rfl rfl rfl rfl) ?_
    refine AOps.s 32 rfl rfl rfl (q_load tok rfl rfl rfl (by first | exact .loc _ | exact .ptr _ _ _ _ _ _ _ _ rfl rfl rfl) rfl) ?_
    refine AOps.s 33 rfl rfl rfl (q_move (.inl rfl) rfl) ?_
    refine AOps.s 34 rfl rfl rfl (q_index_lst tok rfl rfl rfl rfl rfl rfl hyr.1 (idx_mapZ (blockAt_get hyr)) rfl) ?_
    refine AOps.s 35 rfl rfl rfl (q_fieldAddr tok rfl rfl rfl rfl rfl rfl) ?_
    refine AOps.s 36 rfl rfl rfl (q_load tok rfl rfl rfl (by first | exact .loc _ | exact .ptr _ _ _ _ _ _ _ _ rfl rfl rfl) rfl) ?_
    refine AOps.x 37 rfl rfl rfl (o_appendJ tok 1 rfl rfl rfl rfl rfl rfl rfl rfl rfl rfl rfl (Nat.zero_lt_succ _) (jList_sizes f i0 rest k).1 (jList_sizes f i0 rest k).2 (ins_sizes _).1 (ins_sizes _).2 (by show _ * 64 ≤ _; omega) (by simp only [maxLen]; omega)) ?_
    refine AOps.s 6 rfl rfl rfl (q_move (.inr rfl) rfl) ?_
    refine AOps.nil ?_
    refine AGo.region ?_
    refine AOps.s 38 rfl rfl rfl (q_inc rfl rfl hkl (by simp only [maxLen]; omega)) ?_
    refine AOps.s 26 rfl rfl rfl (q_move (.inl rfl) rfl) ?_
    refine AOps.nil ?_
    exact ⟨k+1, Sub.mk' (by repeat (first | exact ESub.new _ | refine ESub.put ?_ (by first | rfl | exact congrArg (fun p : Bool × List (List AV) => some (jAV p.1 1 p.2)) (jstep hy)))) (by repeat (first | exact HSub.none _ | exact HSub.from_new _ | exact HSub.from_from (by decide) | refine HSub.put ?_ (by first | rfl | exact congrArg (fun p : Bool × List (List AV) => some (jObj p.1 8 p.2)) (jstep hy)) | refine HSub.from_put ?_ (by decide))), hkl, by omega⟩
  · -- False
    refine AGo.cond_false false rfl rfl ?_
    have hge : rest.length ≤ k := by simpa [intCells_len] using hb1
    obtain rfl : k = rest.length := by omega
    refine AGo.exit ?_
    refine AGo.seq ?_
    refine AGo.ghost (.endJ 6 1 rfl rfl) ?_
    refine AGo.region ?_
    refine AOps.s 39 rfl rfl rfl (q_move (.inl rfl) rfl) ?_
    refine AOps.s 4 rfl rfl rfl (q_move (.inr rfl) rfl) ?_
    refine AOps.nil ?_
    refine AGo.ret ?_
    refine ⟨[_], ⟨rfl, trivial⟩, ?_, rfl⟩
    show AV.lst false _ = AV.lst false _
    rw [jList, List.take_length]
    rfl

end Go.Proofs.Ytidfabbnobipkaa.Sv
