/-
  WALKS: printed by a program of our own from the code's tree.
-/
import Derived.Test.YtidfabbnobipkaaSp39
import Derived.Test.YtidfabbnobipkaaLw5
namespace Go.Proofs.Ytidfabbnobipkaa.Sv
open Go
set_option linter.unusedVariables false
set_option linter.unusedSimpArgs false

set_option maxRecDepth 100000 in
theorem rnext_ok (f : BFunc) (hn : f.blocks.length ≤ 100000) : APure Try.prog 25 [.agg f.cells] (fun r => r = pathsAV f.nexts) := by
  refine APure.of_body (n := 43) tok Try.func25 rfl rfl ?_
  refine AGo.seq ?_
  refine AGo.region ?_
  refine AOps.x 1 rfl rfl rfl (o_box (sz := 2) 0 rfl rfl rfl rfl (Nat.zero_lt_succ _) rfl) ?_
  refine AOps.s 2 rfl rfl rfl (q_move (.inr rfl) rfl) ?_
  refine AOps.nil ?_
  refine AGo.seq ?_
  refine AGo.region ?_
  refine AOps.s 6 rfl rfl rfl (q_fieldAddr tok rfl rfl rfl rfl rfl rfl) ?_
  refine AOps.s 7 rfl rfl rfl (q_load tok rfl rfl rfl (by first | exact .loc _ | exact .ptr _ _ _ _ _ _ _ _ rfl rfl rfl) rfl) ?_
  refine AOps.s 8 rfl rfl rfl (q_len tok rfl rfl rfl rfl rfl) ?_
  refine AOps.x 9 rfl rfl rfl (o_makeSlice tok (n := f.blocks.length) (m := f.blocks.length) 1 true rfl rfl rfl (by simp) (by simp) rfl rfl rfl rfl rfl (Nat.zero_lt_succ _) rfl (Nat.le_refl _) (by show 24 * f.blocks.length ≤ _; omega) (by simp only [maxLen]; omega)) ?_
  refine AOps.s 3 rfl rfl rfl (q_move (.inr rfl) rfl) ?_
  refine AOps.nil ?_
  refine AGo.seq ?_
  refine AGo.seq ?_
  refine AGo.ghost (Ghost.weakRow 1 (es' := List.replicate f.blocks.length [.lst false []]) rfl (by simp) (weak_nils _)) ?_
  refine AGo.region ?_
  refine AOps.s 4 rfl rfl rfl (q_move (.inr rfl) rfl) ?_
  refine AOps.nil ?_
  refine AGo.block ?_
  refine AGo.loopD (γ := Nat) 2 (fun k => ⟨43, (eput (eput (eput eNew 1 (.ptr 0 1 0 0)) 3 (.ref 1 f.blocks.length 0 f.blocks.length)) 4 (.int .i64 (k : Int))), (hput (hput (hFrom 2) 0 (.row false 2 [f.cells])) 1 (.row true 1 (((f.nexts.take (k)).map pathCell) ++ List.replicate (f.blocks.length - (k)) [.lst false []])))⟩) (fun k => k ≤ f.blocks.length) (fun k => f.blocks.length - k) 0 (Sub.mk' (by repeat (first | exact ESub.new _ | refine ESub.put ?_ (by first | rfl | exact congrArg (fun (n : Nat) => some (AV.int .i64 (n : Int))) (by simp)))) (by repeat (first | exact HSub.none _ | exact HSub.from_new _ | exact HSub.from_from (by decide) | refine HSub.put ?_ (by rfl) | refine HSub.from_put ?_ (by decide) | refine HSub.from_rm ?_ (by decide)))) (Nat.zero_le _) (fun _ => hput_free (hput_free (fun b hb => hFrom_free hb) rfl) rfl) ?_
  intro k hk
  refine AGo.seq ?_
  refine AGo.seq ?_
  refine AGo.region ?_
  refine AOps.s 10 rfl rfl rfl (q_move (.inl rfl) rfl) ?_
  refine AOps.s 11 rfl rfl rfl (q_fieldAddr tok rfl rfl rfl rfl rfl rfl) ?_
  refine AOps.s 12 rfl rfl rfl (q_load tok rfl rfl rfl (by first | exact .loc _ | exact .ptr _ _ _ _ _ _ _ _ rfl rfl rfl) rfl) ?_
  refine AOps.s 13 rfl rfl rfl (q_len tok rfl rfl rfl rfl rfl) ?_
  refine AOps.s 14 rfl rfl rfl (q_bin rfl rfl rfl rfl) ?_
  refine AOps.nil ?_
  refine AGo.split 14 rfl (fun hb1 => ?_) (fun hb1 => ?_)
  · -- True
    refine AGo.cond_true true rfl rfl ?_
    have hkl : k < f.blocks.length := by simpa using hb1
    obtain ⟨x, hx⟩ := get_of_lt hkl
    have hnx := nexts_get hx
    refine AGo.skip ?_
    refine AGo.seq ?_
    refine AGo.block ?_
    refine AGo.seq ?_
    refine AGo.region ?_
    refine AOps.s 17 rfl rfl rfl (q_fieldAddr tok rfl rfl rfl rfl rfl rfl) ?_
    refine AOps.s 18 rfl rfl rfl (q_load tok rfl rfl rfl (by first | exact .loc _ | exact .ptr _ _ _ _ _ _ _ _ rfl rfl rfl) rfl) ?_
    refine AOps.s 19 rfl rfl rfl (q_move (.inl rfl) rfl) ?_
    refine AOps.s 20 rfl rfl rfl (q_index_lst tok rfl rfl rfl rfl rfl rfl (Int.natCast_nonneg _) (idx_map (by assumption)) rfl) ?_
    refine AOps.s 21 rfl rfl rfl (q_load tok rfl rfl rfl (by first | exact .loc _ | exact .ptr _ _ _ _ _ _ _ _ rfl rfl rfl) rfl) ?_
    refine AOps.x 5 rfl rfl rfl (o_alloc tok 2 rfl rfl rfl rfl (Nat.zero_lt_succ _) rfl) ?_
    refine AOps.w rfl rfl (o_store tok rfl rfl rfl rfl rfl rfl rfl rfl rfl (by decide) rfl (by first | exact fun _ => rfl | (intro h; cases h))) ?_
    refine AOps.nil ?_
    refine AGo.seq ?_
    refine AGo.seq ?_
    refine AGo.region ?_
    refine AOps.s 22 rfl rfl rfl (q_fieldAddr tok rfl rfl rfl rfl rfl rfl) ?_
    refine AOps.s 23 rfl rfl rfl (q_load tok rfl rfl rfl (by first | exact .loc _ | exact .ptr _ _ _ _ _ _ _ _ rfl rfl rfl) rfl) ?_
    refine AOps.s 24 rfl rfl rfl (q_bin rfl rfl rfl rfl) ?_
    refine AOps.nil ?_
    refine AGo.split 24 rfl (fun hb2 => ?_) (fun hb2 => ?_)
    · -- True
      refine AGo.cond_true true rfl rfl ?_
      have hx1 : x.fin = 1 := by simpa using hb2
      refine AGo.region ?_
      refine AOps.s 25 rfl rfl rfl (q_move (.inl rfl) rfl) ?_
      refine AOps.s 26 rfl rfl rfl (q_move (.inl rfl) rfl) ?_
      refine AOps.s 27 rfl rfl rfl (q_fieldAddr tok rfl rfl rfl rfl rfl rfl) ?_
      refine AOps.s 28 rfl rfl rfl (q_load tok rfl rfl rfl (by first | exact .loc _ | exact .ptr _ _ _ _ _ _ _ _ rfl rfl rfl) rfl) ?_
      refine AOps.x 29 rfl rfl rfl (o_lit' tok rfl rfl rfl rfl rfl rfl (by decide) rfl rfl rfl rfl rfl rfl) ?_
      refine AOps.s 30 rfl rfl rfl (q_index_ref tok rfl rfl rfl rfl rfl rfl rfl (fill_len (nexts_length f) (Nat.le_of_lt hkl)) rfl (Int.natCast_nonneg _) (by omega)) ?_
      refine AOps.w rfl rfl (o_store tok rfl rfl rfl rfl rfl rfl (fill_len (nexts_length f) (Nat.le_of_lt hkl)) (fill_get (nexts_length f) hkl) rfl (by decide) rfl (by first | exact fun _ => rfl | (intro h; cases h))) ?_
      refine AOps.nil ?_
      refine AGo.seq ?_
      refine AGo.region ?_
      refine AOps.s 31 rfl rfl rfl (q_fieldAddr tok rfl rfl rfl rfl rfl rfl) ?_
      refine AOps.s 32 rfl rfl rfl (q_load tok rfl rfl rfl (by first | exact .loc _ | exact .ptr _ _ _ _ _ _ _ _ rfl rfl rfl) rfl) ?_
      refine AOps.s 33 rfl rfl rfl (q_bin (r := .bool false) rfl rfl rfl (by show some (AV.bool (x.fin == 2)) = _; rw [hx1]; rfl)) ?_
      refine AOps.nil ?_
      refine AGo.cond_false false rfl rfl ?_
      refine AGo.skip ?_
      refine AGo.region ?_
      refine AOps.s 15 rfl rfl rfl (q_move (.inl rfl) rfl) ?_
      refine AOps.s 16 rfl rfl rfl (q_inc rfl rfl hkl (show f.blocks.length ≤ maxLen by simp only [maxLen]; omega)) ?_
      refine AOps.s 4 rfl rfl rfl (q_move (.inr rfl) rfl) ?_
      refine AOps.nil ?_
      exact ⟨k+1, Drop.mk' (by repeat (first | exact EDrop.new _ _ | refine EDrop.put ?_ (by rfl) rfl)) (by repeat (first | exact HDrop.none _ _ | exact HDrop.tail _ _ | refine HDrop.put ?_ (by first | rfl | exact congrArg (fun es => some (AObj.row true 1 es)) (fill_put (f := pathCell) (x := [x.to]) (nexts_length f) (by rw [hnx]; simp [Block.nexts, *])) | exact congrArg (fun es => some (AObj.row true 1 es)) (fill_put (f := pathCell) (x := [x.to, x.els]) (nexts_length f) (by rw [hnx]; simp [Block.nexts, *])) | exact congrArg (fun es => some (AObj.row true 1 es)) (fill_skip (f := pathCell) (x := []) (nexts_length f) (by rw [hnx]; simp [Block.nexts, *]) rfl)) rfl rfl)), hkl, by omega⟩
    · -- False
      refine AGo.cond_false false rfl rfl ?_
      have hx1 : ¬ x.fin = 1 := by simpa using hb2
      refine AGo.skip ?_
      refine AGo.seq ?_
      refine AGo.region ?_
      refine AOps.s 31 rfl rfl rfl (q_fieldAddr tok rfl rfl rfl rfl rfl rfl) ?_
      refine AOps.s 32 rfl rfl rfl (q_load tok rfl rfl rfl (by first | exact .loc _ | exact .ptr _ _ _ _ _ _ _ _ rfl rfl rfl) rfl) ?_
      refine AOps.s 33 rfl rfl rfl (q_bin rfl rfl rfl rfl) ?_
      refine AOps.nil ?_
      refine AGo.split 33 rfl (fun hb3 => ?_) (fun hb3 => ?_)
      · -- True
        refine AGo.cond_true true rfl rfl ?_
        refine AGo.region ?_
        refine AOps.s 34 rfl rfl rfl (q_move (.inl rfl) rfl) ?_
        refine AOps.s 35 rfl rfl rfl (q_move (.inl rfl) rfl) ?_
        refine AOps.s 36 rfl rfl rfl (q_fieldAddr tok rfl rfl rfl rfl rfl rfl) ?_
        refine AOps.s 37 rfl rfl rfl (q_load tok rfl rfl rfl (by first | exact .loc _ | exact .ptr _ _ _ _ _ _ _ _ rfl rfl rfl) rfl) ?_
        refine AOps.s 38 rfl rfl rfl (q_fieldAddr tok rfl rfl rfl rfl rfl rfl) ?_
        refine AOps.s 39 rfl rfl rfl (q_load tok rfl rfl rfl (by first | exact .loc _ | exact .ptr _ _ _ _ _ _ _ _ rfl rfl rfl) rfl) ?_
        refine AOps.x 40 rfl rfl rfl (o_lit' tok rfl rfl rfl rfl rfl rfl (by decide) rfl rfl rfl rfl rfl rfl) ?_
        refine AOps.s 41 rfl rfl rfl (q_index_ref tok rfl rfl rfl rfl rfl rfl rfl (fill_len (nexts_length f) (Nat.le_of_lt hkl)) rfl (Int.natCast_nonneg _) (by omega)) ?_
        refine AOps.w rfl rfl (o_store tok rfl rfl rfl rfl rfl rfl (fill_len (nexts_length f) (Nat.le_of_lt hkl)) (fill_get (nexts_length f) hkl) rfl (by decide) rfl (by first | exact fun _ => rfl | (intro h; cases h))) ?_
        refine AOps.nil ?_
        refine AGo.region ?_
        refine AOps.s 15 rfl rfl rfl (q_move (.inl rfl) rfl) ?_
        refine AOps.s 16 rfl rfl rfl (q_inc rfl rfl hkl (show f.blocks.length ≤ maxLen by simp only [maxLen]; omega)) ?_
        refine AOps.s 4 rfl rfl rfl (q_move (.inr rfl) rfl) ?_
        refine AOps.nil ?_
        exact ⟨k+1, Drop.mk' (by repeat (first | exact EDrop.new _ _ | refine EDrop.put ?_ (by rfl) rfl)) (by repeat (first | exact HDrop.none _ _ | exact HDrop.tail _ _ | refine HDrop.put ?_ (by first | rfl | exact congrArg (fun es => some (AObj.row true 1 es)) (fill_put (f := pathCell) (x := [x.to]) (nexts_length f) (by rw [hnx]; simp [Block.nexts, *])) | exact congrArg (fun es => some (AObj.row true 1 es)) (fill_put (f := pathCell) (x := [x.to, x.els]) (nexts_length f) (by rw [hnx]; simp [Block.nexts, *])) | exact congrArg (fun es => some (AObj.row true 1 es)) (fill_skip (f := pathCell) (x := []) (nexts_length f) (by rw [hnx]; simp [Block.nexts, *]) rfl)) rfl rfl)), hkl, by omega⟩
      · -- False
        refine AGo.cond_false false rfl rfl ?_
        refine AGo.skip ?_
        refine AGo.region ?_
        refine AOps.s 15 rfl rfl rfl (q_move (.inl rfl) rfl) ?_
        refine AOps.s 16 rfl rfl rfl (q_inc rfl rfl hkl (show f.blocks.length ≤ maxLen by simp only [maxLen]; omega)) ?_
        refine AOps.s 4 rfl rfl rfl (q_move (.inr rfl) rfl) ?_
        refine AOps.nil ?_
        exact ⟨k+1, Drop.mk' (by repeat (first | exact EDrop.new _ _ | refine EDrop.put ?_ (by rfl) rfl)) (by repeat (first | exact HDrop.none _ _ | exact HDrop.tail _ _ | refine HDrop.put ?_ (by first | rfl | exact congrArg (fun es => some (AObj.row true 1 es)) (fill_put (f := pathCell) (x := [x.to]) (nexts_length f) (by rw [hnx]; simp [Block.nexts, *])) | exact congrArg (fun es => some (AObj.row true 1 es)) (fill_put (f := pathCell) (x := [x.to, x.els]) (nexts_length f) (by rw [hnx]; simp [Block.nexts, *])) | exact congrArg (fun es => some (AObj.row true 1 es)) (fill_skip (f := pathCell) (x := []) (nexts_length f) (by rw [hnx]; simp [Block.nexts, *]) rfl)) rfl rfl)), hkl, by omega⟩
  · -- False
    refine AGo.cond_false false rfl rfl ?_
    have hge : f.blocks.length ≤ k := by simpa using hb1
    refine AGo.exit ?_
    refine AGo.seq ?_
    refine AGo.ghost (.freezeA 3 1 rfl rfl (fill_len (nexts_length f) hk)) ?_
    refine AGo.region ?_
    refine AOps.s 42 rfl rfl rfl (q_move (.inl rfl) rfl) ?_
    refine AOps.s 2 rfl rfl rfl (q_move (.inr rfl) rfl) ?_
    refine AOps.nil ?_
    refine AGo.ret ?_
    refine ⟨[_], ⟨rfl, trivial⟩, ?_, rfl⟩
    have e1 := fill_end (f := pathCell) (z := [.lst false []]) (nexts_length f) hge
    rw [List.drop_zero, List.take_of_length_le (Nat.le_of_eq (fill_len (nexts_length f) hk).symm)] at e1
    show AV.lst false _ = AV.lst false _
    rw [e1]
    rfl

set_option maxRecDepth 100000 in
theorem tidyMost_ok (b : Blocks) (i : Int) (hb : b.Ok) (hi : 0 ≤ i ∧ i ≤ 255) : APure Try.prog 9 [.agg b.cells, .int .u8 i] (fun r => r = .bool true) := by
  refine APure.of_body (n := 95) tok Try.func9 rfl rfl ?_
  refine AGo.seq ?_
  refine AGo.region ?_
  refine AOps.x 2 rfl rfl rfl (o_box (sz := 2) 0 rfl rfl rfl rfl (Nat.zero_lt_succ _) rfl) ?_
  refine AOps.s 4 rfl rfl rfl (q_move (.inr rfl) rfl) ?_
  refine AOps.nil ?_
  refine AGo.seq ?_
  refine AGo.seq ?_
  refine AGo.region ?_
  refine AOps.x 13 rfl rfl rfl (o_pure rfl Try.func11 (by kernel_rfl) rfl rfl rfl (awake_ok)) ?_
  refine AOps.s 14 rfl rfl rfl (q_not rfl rfl) ?_
  refine AOps.nil ?_
  refine AGo.cond_false false rfl rfl ?_
  refine AGo.skip ?_
  refine AGo.seq ?_
  refine AGo.seq ?_
  refine AGo.region ?_
  refine AOps.s 15 rfl rfl rfl (q_load tok rfl rfl rfl (by first | exact .loc _ | exact .ptr _ _ _ _ _ _ _ _ rfl rfl rfl) rfl) ?_
  refine AOps.x 16 rfl rfl rfl (o_pure rfl Try.func12 (by kernel_rfl) rfl rfl rfl (small_ok b 150 hb.tight)) ?_
  refine AOps.s 17 rfl rfl rfl (q_not rfl rfl) ?_
  refine AOps.s 18 rfl rfl rfl (q_move (.inl rfl) rfl) ?_
  refine AOps.split 18 rfl (fun hb1 => ?_) (fun hb1 => ?_)
  · -- True
    refine AOps.k 19 rfl rfl rfl ?_
    refine AOps.k 20 rfl rfl rfl ?_
    refine AOps.k 21 rfl rfl rfl ?_
    refine AOps.k 22 rfl rfl rfl ?_
    refine AOps.k 23 rfl rfl rfl ?_
    refine AOps.k 24 rfl rfl rfl ?_
    refine AOps.s 25 rfl rfl rfl (q_pick_true true rfl rfl rfl rfl) ?_
    refine AOps.nil ?_
    refine AGo.cond_true true rfl rfl ?_
    refine AGo.seq ?_
    refine AGo.region ?_
    refine AOps.s 4 rfl rfl rfl (q_move (.inr rfl) rfl) ?_
    refine AOps.nil ?_
    refine AGo.ret ?_
    refine ⟨[_], ⟨rfl, trivial⟩, ?_, rfl⟩
    rfl
  · -- False
    have hsm : b.small 150 = true := by simpa using hb1
    refine AOps.s 19 rfl rfl rfl (q_move (.inl rfl) rfl) ?_
    refine AOps.s 20 rfl rfl rfl (q_convInt tok rfl rfl rfl rfl rfl) ?_
    refine AOps.s 21 rfl rfl rfl (q_fieldAddr tok rfl rfl rfl rfl rfl rfl) ?_
    refine AOps.s 22 rfl rfl rfl (q_load tok rfl rfl rfl (by first | exact .loc _ | exact .ptr _ _ _ _ _ _ _ _ rfl rfl rfl) rfl) ?_
    refine AOps.s 23 rfl rfl rfl (q_len tok rfl rfl rfl rfl rfl) ?_
    refine AOps.s 24 rfl rfl rfl (q_bin rfl rfl rfl rfl) ?_
    refine AOps.s 25 rfl rfl rfl (q_pick_false false rfl rfl rfl rfl) ?_
    refine AOps.nil ?_
    refine AGo.split 25 rfl (fun hb2 => ?_) (fun hb2 => ?_)
    · -- True
      refine AGo.cond_true true rfl rfl ?_
      refine AGo.seq ?_
      refine AGo.region ?_
      refine AOps.s 4 rfl rfl rfl (q_move (.inr rfl) rfl) ?_
      refine AOps.nil ?_
      refine AGo.ret ?_
      refine ⟨[_], ⟨rfl, trivial⟩, ?_, rfl⟩
      rfl
    · -- False
      refine AGo.cond_false false rfl rfl ?_
      have hil : i.toNat < b.funcs.length := by
        have h := hb2
        rw [wrap_i64 (by omega) (by omega)] at h
        simp [blocksAV, funcsAV] at h
        omega
      obtain ⟨f, hf⟩ := get_of_lt hil
      obtain ⟨htame, hfn, hins, hfl⟩ := tameS (by decide) hsm hf
      have hle := htame.leads
      have htl := tidy_blocks_len f
      refine AGo.skip ?_
      refine AGo.seq ?_
      refine AGo.region ?_
      refine AOps.s 27 rfl rfl rfl (q_fieldAddr tok rfl rfl rfl rfl rfl rfl) ?_
      refine AOps.s 28 rfl rfl rfl (q_load tok rfl rfl rfl (by first | exact .loc _ | exact .ptr _ _ _ _ _ _ _ _ rfl rfl rfl) rfl) ?_
      refine AOps.s 29 rfl rfl rfl (q_move (.inl rfl) rfl) ?_
      refine AOps.s 30 rfl rfl rfl (q_index_lst tok rfl rfl rfl rfl rfl rfl hi.1 (idx_mapN hf) rfl) ?_
      refine AOps.s 31 rfl rfl rfl (q_load tok rfl rfl rfl (by first | exact .loc _ | exact .ptr _ _ _ _ _ _ _ _ rfl rfl rfl) rfl) ?_
      refine AOps.x 32 rfl rfl rfl (o_pure rfl Try.func13 (by kernel_rfl) rfl rfl rfl (tidyOf_ok f htame)) ?_
      refine AOps.s 26 rfl rfl rfl (q_move (.inl rfl) rfl) ?_
      refine AOps.s 33 rfl rfl rfl (q_extract rfl rfl rfl) ?_
      refine AOps.s 34 rfl rfl rfl (q_extract rfl rfl rfl) ?_
      refine AOps.x 5 rfl rfl rfl (o_alloc tok 1 rfl rfl rfl rfl (Nat.zero_lt_succ _) rfl) ?_
      refine AOps.w rfl rfl (o_store tok rfl rfl rfl rfl rfl rfl rfl rfl rfl (by decide) rfl (by first | exact fun _ => rfl | (intro h; cases h))) ?_
      refine AOps.s 6 rfl rfl rfl (q_move (.inr rfl) rfl) ?_
      refine AOps.nil ?_
      refine AGo.seq ?_
      refine AGo.region ?_
      refine AOps.s 35 rfl rfl rfl (q_load tok rfl rfl rfl (by first | exact .loc _ | exact .ptr _ _ _ _ _ _ _ _ rfl rfl rfl) rfl) ?_
      refine AOps.x 36 rfl rfl rfl (o_pure rfl Try.func25 (by kernel_rfl) rfl rfl rfl (rnext_ok f.tidy (by omega))) ?_
      refine AOps.s 7 rfl rfl rfl (q_move (.inr rfl) rfl) ?_
      refine AOps.nil ?_
      refine AGo.seq ?_
      refine AGo.seq ?_
      refine AGo.region ?_
      refine AOps.s 8 rfl rfl rfl (q_move (.inr rfl) rfl) ?_
      refine AOps.nil ?_
      refine AGo.block ?_
      refine AGo.loopI (γ := Nat) (fun k => ⟨95, (eput (eput (eput eNew 5 (.ptr 1 1 0 0)) 7 (pathsAV f.tidy.nexts)) 8 (.int .i64 (k : Int))), (hput (hput hNone 0 (.row false 2 [b.cells])) 1 (.row false 2 [f.tidy.cells]))⟩) (fun k => 1 ≤ k) (fun k => f.tidy.blocks.length - k) 1 (Sub.mk' (by repeat (first | exact ESub.new _ | refine ESub.put ?_ (by rfl))) (by repeat (first | exact HSub.none _ | exact HSub.from_new _ | exact HSub.from_from (by decide) | refine HSub.put ?_ (by rfl) | refine HSub.from_put ?_ (by decide) | refine HSub.from_rm ?_ (by decide)))) (Nat.le_refl _) ?_
      intro k hk
      refine AGo.seq ?_
      refine AGo.seq ?_
      refine AGo.region ?_
      refine AOps.s 37 rfl rfl rfl (q_move (.inl rfl) rfl) ?_
      refine AOps.s 38 rfl rfl rfl (q_fieldAddr tok rfl rfl rfl rfl rfl rfl) ?_
      refine AOps.s 39 rfl rfl rfl (q_load tok rfl rfl rfl (by first | exact .loc _ | exact .ptr _ _ _ _ _ _ _ _ rfl rfl rfl) rfl) ?_
      refine AOps.s 40 rfl rfl rfl (q_len tok rfl rfl rfl rfl rfl) ?_
      refine AOps.s 41 rfl rfl rfl (q_bin rfl rfl rfl rfl) ?_
      refine AOps.nil ?_
      refine AGo.split 41 rfl (fun hb3 => ?_) (fun hb3 => ?_)
      · -- True
        refine AGo.cond_true true rfl rfl ?_
        have hkl : k < f.tidy.blocks.length := lt_of_idx hb3
        have hmost := tidy_most hle hfn hk hkl (marks := allT f.tidy.blocks.length) (fun j hj => allT_get hj)
        refine AGo.skip ?_
        refine AGo.seq ?_
        refine AGo.block ?_
        refine AGo.seq ?_
        refine AGo.region ?_
        refine AOps.s 9 rfl rfl rfl (q_move (.inr rfl) rfl) ?_
        refine AOps.nil ?_
        refine AGo.seq ?_
        refine AGo.region ?_
        refine AOps.s 10 rfl rfl rfl (q_move (.inr rfl) rfl) ?_
        refine AOps.nil ?_
        refine AGo.seq ?_
        refine AGo.seq ?_
        refine AGo.region ?_
        refine AOps.s 11 rfl rfl rfl (q_move (.inr rfl) rfl) ?_
        refine AOps.nil ?_
        refine AGo.block ?_
        refine AGo.loopI (γ := Nat × Int) (fun q => ⟨95, (eput (eput (eput (eput (eput (eput eNew 5 (.ptr 1 1 0 0)) 7 (pathsAV f.tidy.nexts)) 8 (.int .i64 (k : Int))) 9 (.int .i64 (((cntTo f.tidy.nexts (allT f.tidy.blocks.length) (k : Int) q.1) : Nat) : Int))) 10 (.int .i64 q.2)) 11 (.int .i64 (q.1 : Int))), (hput (hput hNone 0 (.row false 2 [b.cells])) 1 (.row false 2 [f.tidy.cells]))⟩) (fun q => q.1 ≤ f.tidy.blocks.length ∧ frOk f.tidy.nexts (k : Int) (cntTo f.tidy.nexts (allT f.tidy.blocks.length) (k : Int) q.1) q.2) (fun q => f.tidy.blocks.length - q.1) (0, -1) (Sub.mk' (by repeat (first | exact ESub.new _ | refine ESub.put ?_ (by rfl))) (by repeat (first | exact HSub.none _ | exact HSub.from_new _ | exact HSub.from_from (by decide) | refine HSub.put ?_ (by rfl) | refine HSub.from_put ?_ (by decide) | refine HSub.from_rm ?_ (by decide)))) ⟨Nat.zero_le _, fun h => by simp [cntTo] at h⟩ ?_
        intro q ⟨hqj, hF⟩
        refine AGo.seq ?_
        refine AGo.seq ?_
        refine AGo.region ?_
        refine AOps.s 44 rfl rfl rfl (q_move (.inl rfl) rfl) ?_
        refine AOps.s 45 rfl rfl rfl (q_move (.inl rfl) rfl) ?_
        refine AOps.s 46 rfl rfl rfl (q_len tok rfl rfl rfl rfl rfl) ?_
        refine AOps.s 47 rfl rfl rfl (q_bin rfl rfl rfl rfl) ?_
        refine AOps.nil ?_
        refine AGo.split 47 rfl (fun hb4 => ?_) (fun hb4 => ?_)
        · -- True
          refine AGo.cond_true true rfl rfl ?_
          have hjl0 : q.1 < f.tidy.nexts.length := lt_of_idx hb4
          have hjl : q.1 < f.tidy.blocks.length := by rwa [nexts_length] at hjl0
          obtain ⟨row, hrow⟩ := get_of_lt hjl0
          have hrl := nexts_two f.tidy row (List.mem_of_getElem? hrow)
          have hcb := cnt_bound (reach := allT f.tidy.blocks.length) (k := (k : Int)) (nexts_two f.tidy) q.1
          refine AGo.skip ?_
          refine AGo.seq ?_
          refine AGo.block ?_
          refine AGo.seq ?_
          refine AGo.region ?_
          refine AOps.s 12 rfl rfl rfl (q_move (.inr rfl) rfl) ?_
          refine AOps.nil ?_
          refine AGo.block ?_
          refine AGo.loopI (γ := Nat × Int) (fun p => ⟨95, (eput (eput (eput (eput (eput (eput (eput eNew 5 (.ptr 1 1 0 0)) 7 (pathsAV f.tidy.nexts)) 8 (.int .i64 (k : Int))) 9 (.int .i64 (((cntTo f.tidy.nexts (allT f.tidy.blocks.length) (k : Int) q.1) + (row.take p.1).count (k : Int) : Nat) : Int))) 10 (.int .i64 p.2)) 11 (.int .i64 (q.1 : Int))) 12 (.int .i64 (p.1 : Int))), (hput (hput hNone 0 (.row false 2 [b.cells])) 1 (.row false 2 [f.tidy.cells]))⟩) (fun p => frOk f.tidy.nexts (k : Int) ((cntTo f.tidy.nexts (allT f.tidy.blocks.length) (k : Int) q.1) + (row.take p.1).count (k : Int)) p.2) (fun p => row.length - p.1) (0, q.2) (Sub.mk' (by repeat (first | exact ESub.new _ | refine ESub.put ?_ (by first | rfl | exact congrArg (fun n : Nat => some (AV.int .i64 (n : Int))) (by simp)))) (by repeat (first | exact HSub.none _ | exact HSub.from_new _ | exact HSub.from_from (by decide) | refine HSub.put ?_ (by rfl) | refine HSub.from_put ?_ (by decide) | refine HSub.from_rm ?_ (by decide)))) (by simpa using hF) ?_
          intro p hG
          refine AGo.seq ?_
          refine AGo.seq ?_
          refine AGo.region ?_
          refine AOps.s 50 rfl rfl rfl (q_move (.inl rfl) rfl) ?_
          refine AOps.s 51 rfl rfl rfl (q_move (.inl rfl) rfl) ?_
          refine AOps.s 52 rfl rfl rfl (q_move (.inl rfl) rfl) ?_
          refine AOps.s 53 rfl rfl rfl (q_index_lst tok rfl rfl rfl rfl rfl rfl (Int.natCast_nonneg _) (idx_map hrow) rfl) ?_
          refine AOps.s 54 rfl rfl rfl (q_load tok rfl rfl rfl (by first | exact .loc _ | exact .ptr _ _ _ _ _ _ _ _ rfl rfl rfl) rfl) ?_
          refine AOps.s 55 rfl rfl rfl (q_len tok rfl rfl rfl rfl rfl) ?_
          refine AOps.s 56 rfl rfl rfl (q_bin rfl rfl rfl rfl) ?_
          refine AOps.nil ?_
          refine AGo.split 56 rfl (fun hb5 => ?_) (fun hb5 => ?_)
          · -- True
            refine AGo.cond_true true rfl rfl ?_
            have hml : p.1 < row.length := lt_of_idx hb5
            obtain ⟨y, hy⟩ := get_of_lt hml
            have hct := List.count_le_length (a := (k : Int)) (l := row.take p.1)
            rw [List.length_take] at hct
            refine AGo.skip ?_
            refine AGo.seq ?_
            refine AGo.block ?_
            refine AGo.seq ?_
            refine AGo.region ?_
            refine AOps.s 59 rfl rfl rfl (q_move (.inl rfl) rfl) ?_
            refine AOps.s 60 rfl rfl rfl (q_move (.inl rfl) rfl) ?_
            refine AOps.s 61 rfl rfl rfl (q_index_lst tok rfl rfl rfl rfl rfl rfl (Int.natCast_nonneg _) (idx_map hrow) rfl) ?_
            refine AOps.s 62 rfl rfl rfl (q_load tok rfl rfl rfl (by first | exact .loc _ | exact .ptr _ _ _ _ _ _ _ _ rfl rfl rfl) rfl) ?_
            refine AOps.s 63 rfl rfl rfl (q_move (.inl rfl) rfl) ?_
            refine AOps.s 64 rfl rfl rfl (q_index_lst tok rfl rfl rfl rfl rfl rfl (Int.natCast_nonneg _) (idx_map hy) rfl) ?_
            refine AOps.s 65 rfl rfl rfl (q_load tok rfl rfl rfl (by first | exact .loc _ | exact .ptr _ _ _ _ _ _ _ _ rfl rfl rfl) rfl) ?_
            refine AOps.s 66 rfl rfl rfl (q_move (.inl rfl) rfl) ?_
            refine AOps.s 67 rfl rfl rfl (q_bin rfl rfl rfl rfl) ?_
            refine AOps.nil ?_
            refine AGo.split 67 rfl (fun hb6 => ?_) (fun hb6 => ?_)
            · -- True
              refine AGo.cond_true true rfl rfl ?_
              have hyk : (y == (k : Int)) = true := hb6
              refine AGo.seq ?_
              refine AGo.region ?_
              refine AOps.s 68 rfl rfl rfl (q_move (.inl rfl) rfl) ?_
              refine AOps.s 69 rfl rfl rfl (q_inc rfl rfl (m := 1000000) (by omega) (by decide)) ?_
              refine AOps.s 9 rfl rfl rfl (q_move (.inr rfl) rfl) ?_
              refine AOps.nil ?_
              refine AGo.region ?_
              refine AOps.s 70 rfl rfl rfl (q_move (.inl rfl) rfl) ?_
              refine AOps.s 10 rfl rfl rfl (q_move (.inr rfl) rfl) ?_
              refine AOps.nil ?_
              refine AGo.region ?_
              refine AOps.s 57 rfl rfl rfl (q_move (.inl rfl) rfl) ?_
              refine AOps.s 58 rfl rfl rfl (q_inc rfl rfl hml (by simp only [maxLen]; omega)) ?_
              refine AOps.s 12 rfl rfl rfl (q_move (.inr rfl) rfl) ?_
              refine AOps.nil ?_
              exact ⟨(p.1 + 1, frNext (k : Int) q.1 y p.2), Sub.mk' (by repeat (first | exact ESub.new _ | refine ESub.put ?_ (by first | rfl | exact congrArg (fun n : Nat => some (AV.int .i64 (n : Int))) (count_hit hy hyk _).symm | exact congrArg (fun n : Nat => some (AV.int .i64 (n : Int))) (count_miss hy hyk _).symm | exact congrArg (fun z : Int => some (AV.int .i64 z)) (by simp [frNext, hyk])))) (by repeat (first | exact HSub.none _ | exact HSub.from_new _ | exact HSub.from_from (by decide) | refine HSub.put ?_ (by rfl) | refine HSub.from_put ?_ (by decide) | refine HSub.from_rm ?_ (by decide))), frOk_step hrow hy hG, by simp only; omega⟩
            · -- False
              refine AGo.cond_false false rfl rfl ?_
              have hyk : (y == (k : Int)) = false := hb6
              refine AGo.skip ?_
              refine AGo.region ?_
              refine AOps.s 57 rfl rfl rfl (q_move (.inl rfl) rfl) ?_
              refine AOps.s 58 rfl rfl rfl (q_inc rfl rfl hml (by simp only [maxLen]; omega)) ?_
              refine AOps.s 12 rfl rfl rfl (q_move (.inr rfl) rfl) ?_
              refine AOps.nil ?_
              exact ⟨(p.1 + 1, frNext (k : Int) q.1 y p.2), Sub.mk' (by repeat (first | exact ESub.new _ | refine ESub.put ?_ (by first | rfl | exact congrArg (fun n : Nat => some (AV.int .i64 (n : Int))) (count_hit hy hyk _).symm | exact congrArg (fun n : Nat => some (AV.int .i64 (n : Int))) (count_miss hy hyk _).symm | exact congrArg (fun z : Int => some (AV.int .i64 z)) (by simp [frNext, hyk])))) (by repeat (first | exact HSub.none _ | exact HSub.from_new _ | exact HSub.from_from (by decide) | refine HSub.put ?_ (by rfl) | refine HSub.from_put ?_ (by decide) | refine HSub.from_rm ?_ (by decide))), frOk_step hrow hy hG, by simp only; omega⟩
          · -- False
            refine AGo.cond_false false rfl rfl ?_
            have hge2 := ge_of_idx hb5
            have hrt : row.take p.1 = row := List.take_of_length_le hge2
            refine AGo.exit ?_
            refine AGo.region ?_
            refine AOps.s 48 rfl rfl rfl (q_move (.inl rfl) rfl) ?_
            refine AOps.s 49 rfl rfl rfl (q_inc rfl rfl hjl (by simp only [maxLen]; omega)) ?_
            refine AOps.s 11 rfl rfl rfl (q_move (.inr rfl) rfl) ?_
            refine AOps.nil ?_
            exact ⟨(q.1 + 1, p.2), Sub.mk' (by repeat (first | exact ESub.new _ | refine ESub.put ?_ (by first | rfl | exact congrArg (fun n : Nat => some (AV.int .i64 (n : Int))) (by simp only; rw [cnt_allT hjl hrow, hrt])))) (by repeat (first | exact HSub.none _ | exact HSub.from_new _ | exact HSub.from_from (by decide) | refine HSub.put ?_ (by rfl) | refine HSub.from_put ?_ (by decide) | refine HSub.from_rm ?_ (by decide))), ⟨hjl, by rw [cnt_allT hjl hrow, ← hrt]; exact hG⟩, by simp only; omega⟩
        · -- False
          refine AGo.cond_false false rfl rfl ?_
          have hge := ge_of_idx hb4
          obtain ⟨qj, qf⟩ := q
          simp only at hge hF hqj
          obtain rfl : qj = f.tidy.blocks.length := by rw [nexts_length] at hge; omega
          refine AGo.exit ?_
          refine AGo.seq ?_
          refine AGo.region ?_
          refine AOps.s 71 rfl rfl rfl (q_move (.inl rfl) rfl) ?_
          refine AOps.s 72 rfl rfl rfl (q_bin rfl rfl rfl rfl) ?_
          refine AOps.s 73 rfl rfl rfl (q_move (.inl rfl) rfl) ?_
          refine AOps.split 73 rfl (fun hb7 => ?_) (fun hb7 => ?_)
          · -- True
            refine AOps.k 74 rfl rfl rfl ?_
            refine AOps.k 75 rfl rfl rfl ?_
            refine AOps.k 76 rfl rfl rfl ?_
            refine AOps.k 77 rfl rfl rfl ?_
            refine AOps.k 78 rfl rfl rfl ?_
            refine AOps.k 79 rfl rfl rfl ?_
            refine AOps.k 80 rfl rfl rfl ?_
            refine AOps.k 81 rfl rfl rfl ?_
            refine AOps.k 82 rfl rfl rfl ?_
            refine AOps.k 83 rfl rfl rfl ?_
            refine AOps.k 84 rfl rfl rfl ?_
            refine AOps.k 85 rfl rfl rfl ?_
            refine AOps.k 86 rfl rfl rfl ?_
            refine AOps.k 87 rfl rfl rfl ?_
            refine AOps.k 88 rfl rfl rfl ?_
            refine AOps.k 89 rfl rfl rfl ?_
            refine AOps.s 90 rfl rfl rfl (q_pick_true true rfl rfl rfl rfl) ?_
            refine AOps.nil ?_
            refine AGo.cond_true true rfl rfl ?_
            refine AGo.seq ?_
            refine AGo.region ?_
            refine AOps.s 4 rfl rfl rfl (q_move (.inr rfl) rfl) ?_
            refine AOps.nil ?_
            refine AGo.ret ?_
            exfalso
            first
            | (have h := hmost.1; simp_all; done)
            | (exact hmost.2 fr x hx hz1 (by omega) (by simpa using ‹(x.fin == 1) = true›) hfrm)
          · -- False
            have hz0 : ¬ (cntTo f.tidy.nexts (allT f.tidy.blocks.length) (k : Int) f.tidy.blocks.length) = 0 := by simpa using hb7
            refine AOps.s 74 rfl rfl rfl (q_move (.inl rfl) rfl) ?_
            refine AOps.s 75 rfl rfl rfl (q_bin rfl rfl rfl rfl) ?_
            refine AOps.s 76 rfl rfl rfl (q_move (.inl rfl) rfl) ?_
            refine AOps.split 76 rfl (fun hb8 => ?_) (fun hb8 => ?_)
            · -- True
              have hz1 : (cntTo f.tidy.nexts (allT f.tidy.blocks.length) (k : Int) f.tidy.blocks.length) = 1 := by have h := hb8; simp at h; omega
              refine AOps.s 77 rfl rfl rfl (q_move (.inl rfl) rfl) ?_
              refine AOps.s 78 rfl rfl rfl (q_move (.inl rfl) rfl) ?_
              refine AOps.s 79 rfl rfl rfl (q_bin rfl rfl rfl rfl) ?_
              refine AOps.s 80 rfl rfl rfl (q_pick_true true rfl rfl rfl rfl) ?_
              refine AOps.s 81 rfl rfl rfl (q_move (.inl rfl) rfl) ?_
              refine AOps.split 81 rfl (fun hb9 => ?_) (fun hb9 => ?_)
              · -- True
                have hz2 : ¬ qf = (k : Int) := by simpa using hb9
                obtain ⟨fr, hfr, hfrl, hfrm⟩ := hF (by omega)
                obtain ⟨x, hx⟩ := get_of_lt (l := f.tidy.blocks) (k := fr) (by rw [nexts_length] at hfrl; exact hfrl)
                refine AOps.s 82 rfl rfl rfl (q_fieldAddr tok rfl rfl rfl rfl rfl rfl) ?_
                refine AOps.s 83 rfl rfl rfl (q_load tok rfl rfl rfl (by first | exact .loc _ | exact .ptr _ _ _ _ _ _ _ _ rfl rfl rfl) rfl) ?_
                refine AOps.s 84 rfl rfl rfl (q_move (.inl rfl) rfl) ?_
                refine AOps.s 85 rfl rfl rfl (q_index_lst tok rfl rfl rfl rfl rfl rfl (by omega) (by rw [hfr]; exact idx_map hx) rfl) ?_
                refine AOps.s 86 rfl rfl rfl (q_fieldAddr tok rfl rfl rfl rfl rfl rfl) ?_
                refine AOps.s 87 rfl rfl rfl (q_load tok rfl rfl rfl (by first | exact .loc _ | exact .ptr _ _ _ _ _ _ _ _ rfl rfl rfl) rfl) ?_
                refine AOps.s 88 rfl rfl rfl (q_bin rfl rfl rfl rfl) ?_
                refine AOps.s 89 rfl rfl rfl (q_pick_true true rfl rfl rfl rfl) ?_
                refine AOps.s 90 rfl rfl rfl (q_pick_false false rfl rfl rfl rfl) ?_
                refine AOps.nil ?_
                refine AGo.split 90 rfl (fun hb10 => ?_) (fun hb10 => ?_)
                · -- True
                  refine AGo.cond_true true rfl rfl ?_
                  refine AGo.seq ?_
                  refine AGo.region ?_
                  refine AOps.s 4 rfl rfl rfl (q_move (.inr rfl) rfl) ?_
                  refine AOps.nil ?_
                  refine AGo.ret ?_
                  exfalso
                  first
                  | (have h := hmost.1; simp_all; done)
                  | (exact hmost.2 fr x hx hz1 (by omega) (by simpa using ‹(x.fin == 1) = true›) hfrm)
                · -- False
                  refine AGo.cond_false false rfl rfl ?_
                  refine AGo.skip ?_
                  refine AGo.region ?_
                  refine AOps.s 42 rfl rfl rfl (q_move (.inl rfl) rfl) ?_
                  refine AOps.s 43 rfl rfl rfl (q_inc rfl rfl hkl (by simp only [maxLen]; omega)) ?_
                  refine AOps.s 8 rfl rfl rfl (q_move (.inr rfl) rfl) ?_
                  refine AOps.nil ?_
                  exact ⟨k+1, Sub.mk' (by repeat (first | exact ESub.new _ | refine ESub.put ?_ (by rfl))) (by repeat (first | exact HSub.none _ | exact HSub.from_new _ | exact HSub.from_from (by decide) | refine HSub.put ?_ (by rfl) | refine HSub.from_put ?_ (by decide) | refine HSub.from_rm ?_ (by decide))), (by omega), by omega⟩
              · -- False
                refine AOps.k 82 rfl rfl rfl ?_
                refine AOps.k 83 rfl rfl rfl ?_
                refine AOps.k 84 rfl rfl rfl ?_
                refine AOps.k 85 rfl rfl rfl ?_
                refine AOps.k 86 rfl rfl rfl ?_
                refine AOps.k 87 rfl rfl rfl ?_
                refine AOps.k 88 rfl rfl rfl ?_
                refine AOps.s 89 rfl rfl rfl (q_pick_false false rfl rfl rfl rfl) ?_
                refine AOps.s 90 rfl rfl rfl (q_pick_false false rfl rfl rfl rfl) ?_
                refine AOps.nil ?_
                refine AGo.cond_false false rfl rfl ?_
                refine AGo.skip ?_
                refine AGo.region ?_
                refine AOps.s 42 rfl rfl rfl (q_move (.inl rfl) rfl) ?_
                refine AOps.s 43 rfl rfl rfl (q_inc rfl rfl hkl (by simp only [maxLen]; omega)) ?_
                refine AOps.s 8 rfl rfl rfl (q_move (.inr rfl) rfl) ?_
                refine AOps.nil ?_
                exact ⟨k+1, Sub.mk' (by repeat (first | exact ESub.new _ | refine ESub.put ?_ (by rfl))) (by repeat (first | exact HSub.none _ | exact HSub.from_new _ | exact HSub.from_from (by decide) | refine HSub.put ?_ (by rfl) | refine HSub.from_put ?_ (by decide) | refine HSub.from_rm ?_ (by decide))), (by omega), by omega⟩
            · -- False
              refine AOps.k 77 rfl rfl rfl ?_
              refine AOps.k 78 rfl rfl rfl ?_
              refine AOps.k 79 rfl rfl rfl ?_
              refine AOps.s 80 rfl rfl rfl (q_pick_false false rfl rfl rfl rfl) ?_
              refine AOps.s 81 rfl rfl rfl (q_move (.inl rfl) rfl) ?_
              refine AOps.k 82 rfl rfl rfl ?_
              refine AOps.k 83 rfl rfl rfl ?_
              refine AOps.k 84 rfl rfl rfl ?_
              refine AOps.k 85 rfl rfl rfl ?_
              refine AOps.k 86 rfl rfl rfl ?_
              refine AOps.k 87 rfl rfl rfl ?_
              refine AOps.k 88 rfl rfl rfl ?_
              refine AOps.s 89 rfl rfl rfl (q_pick_false false rfl rfl rfl rfl) ?_
              refine AOps.s 90 rfl rfl rfl (q_pick_false false rfl rfl rfl rfl) ?_
              refine AOps.nil ?_
              refine AGo.cond_false false rfl rfl ?_
              refine AGo.skip ?_
              refine AGo.region ?_
              refine AOps.s 42 rfl rfl rfl (q_move (.inl rfl) rfl) ?_
              refine AOps.s 43 rfl rfl rfl (q_inc rfl rfl hkl (by simp only [maxLen]; omega)) ?_
              refine AOps.s 8 rfl rfl rfl (q_move (.inr rfl) rfl) ?_
              refine AOps.nil ?_
              exact ⟨k+1, Sub.mk' (by repeat (first | exact ESub.new _ | refine ESub.put ?_ (by rfl))) (by repeat (first | exact HSub.none _ | exact HSub.from_new _ | exact HSub.from_from (by decide) | refine HSub.put ?_ (by rfl) | refine HSub.from_put ?_ (by decide) | refine HSub.from_rm ?_ (by decide))), (by omega), by omega⟩
      · -- False
        refine AGo.cond_false false rfl rfl ?_
        refine AGo.exit ?_
        refine AGo.seq ?_
        refine AGo.region ?_
        refine AOps.s 91 rfl rfl rfl (q_fieldAddr tok rfl rfl rfl rfl rfl rfl) ?_
        refine AOps.s 92 rfl rfl rfl (q_load tok rfl rfl rfl (by first | exact .loc _ | exact .ptr _ _ _ _ _ _ _ _ rfl rfl rfl) rfl) ?_
        refine AOps.s 93 rfl rfl rfl (q_len tok rfl rfl rfl rfl rfl) ?_
        refine AOps.s 94 rfl rfl rfl (q_bin rfl rfl rfl rfl) ?_
        refine AOps.s 4 rfl rfl rfl (q_move (.inr rfl) rfl) ?_
        refine AOps.nil ?_
        refine AGo.ret ?_
        refine ⟨[_], ⟨rfl, trivial⟩, ?_, rfl⟩
        show AV.bool _ = AV.bool _
        congr 1
        rw [List.length_map]
        exact decide_eq_true (by have := List.length_pos_iff.2 (tidy_ne hle hfn); omega)

end Go.Proofs.Ytidfabbnobipkaa.Sv
