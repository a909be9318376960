/-
  WALKS: printed by a program of our own from the code's tree.
-/
import Derived.Test.YtidfabbnobipkaaSp26
import Derived.Test.YtidfabbnobipkaaSw2
import Derived.Test.YtidfabbnobipkaaLw3
import Derived.Test.YtidfabbnobipkaaLw4
namespace Go.Proofs.Ytidfabbnobipkaa.Sv
open Go
set_option linter.unusedVariables false
set_option linter.unusedSimpArgs false

set_option maxRecDepth 100000 in
theorem list_ok (l r : List Int) (hl : l.length ≤ 1000000000) : APure Try.prog 26 [intsAV l, intsAV r] (fun q => q = .bool (decide (l = r))) := by
  refine APure.of_body (n := 26) tok Try.func26 rfl rfl ?_
  refine AGo.seq ?_
  refine AGo.region ?_
  refine AOps.s 4 rfl rfl rfl (q_move (.inr rfl) rfl) ?_
  refine AOps.nil ?_
  refine AGo.seq ?_
  refine AGo.seq ?_
  refine AGo.region ?_
  refine AOps.s 6 rfl rfl rfl (q_move (.inl rfl) rfl) ?_
  refine AOps.s 7 rfl rfl rfl (q_len tok rfl rfl rfl rfl rfl) ?_
  refine AOps.s 8 rfl rfl rfl (q_move (.inl rfl) rfl) ?_
  refine AOps.s 9 rfl rfl rfl (q_len tok rfl rfl rfl rfl rfl) ?_
  refine AOps.s 10 rfl rfl rfl (q_bin rfl rfl rfl rfl) ?_
  refine AOps.nil ?_
  refine AGo.split 10 rfl (fun hb1 => ?_) (fun hb1 => ?_)
  · -- True
    refine AGo.cond_true true rfl rfl ?_
    refine AGo.seq ?_
    refine AGo.region ?_
    refine AOps.s 4 rfl rfl rfl (q_move (.inr rfl) rfl) ?_
    refine AOps.nil ?_
    refine AGo.ret ?_
    refine ⟨[_], ⟨rfl, trivial⟩, ?_, rfl⟩
    show AV.bool _ = AV.bool _
    congr 1
    exact (decide_eq_false (by rintro rfl; simp_all)).symm
  · -- False
    refine AGo.cond_false false rfl rfl ?_
    have hlr : l.length = r.length := by have h := hb1; simp at h; omega
    refine AGo.skip ?_
    refine AGo.seq ?_
    refine AGo.seq ?_
    refine AGo.region ?_
    refine AOps.s 5 rfl rfl rfl (q_move (.inr rfl) rfl) ?_
    refine AOps.nil ?_
    refine AGo.block ?_
    refine AGo.loopI (γ := Nat) (fun k => ⟨26, (eput (eput (eput eNew 0 (intsAV l)) 1 (intsAV r)) 5 (.int .i64 (k : Int))), hNone⟩) (fun k => l.take k = r.take k) (fun k => l.length - k) 0 (Sub.mk' (by repeat (first | exact ESub.new _ | refine ESub.put ?_ (by rfl))) (by repeat (first | exact HSub.none _ | exact HSub.from_new _ | exact HSub.from_from (by decide) | refine HSub.put ?_ (by rfl) | refine HSub.from_put ?_ (by decide) | refine HSub.from_rm ?_ (by decide)))) rfl ?_
    intro k ht
    refine AGo.seq ?_
    refine AGo.seq ?_
    refine AGo.region ?_
    refine AOps.s 11 rfl rfl rfl (q_move (.inl rfl) rfl) ?_
    refine AOps.s 12 rfl rfl rfl (q_move (.inl rfl) rfl) ?_
    refine AOps.s 13 rfl rfl rfl (q_len tok rfl rfl rfl rfl rfl) ?_
    refine AOps.s 14 rfl rfl rfl (q_bin rfl rfl rfl rfl) ?_
    refine AOps.nil ?_
    refine AGo.split 14 rfl (fun hb2 => ?_) (fun hb2 => ?_)
    · -- True
      refine AGo.cond_true true rfl rfl ?_
      have hkl : k < l.length := lt_of_idx hb2
      obtain ⟨x, hx⟩ := get_of_lt hkl
      obtain ⟨y, hy⟩ := get_of_lt (l := r) (k := k) (by omega)
      refine AGo.skip ?_
      refine AGo.seq ?_
      refine AGo.block ?_
      refine AGo.seq ?_
      refine AGo.draw mix ?_
      refine DOps.s 17 rfl rfl rfl (q_move (.inl rfl) rfl) ?_
      refine DOps.s 18 rfl rfl rfl (q_move (.inl rfl) rfl) ?_
      refine DOps.s 19 rfl rfl rfl (q_index_lst tok rfl rfl rfl rfl rfl rfl (Int.natCast_nonneg _) (idx_map (by assumption)) rfl) ?_
      refine DOps.s 20 rfl rfl rfl (q_load tok rfl rfl rfl (by first | exact .loc _ | exact .ptr _ _ _ _ _ _ _ _ rfl rfl rfl) rfl) ?_
      refine DOps.s 21 rfl rfl rfl (q_move (.inl rfl) rfl) ?_
      refine DOps.s 22 rfl rfl rfl (q_move (.inl rfl) rfl) ?_
      refine DOps.s 23 rfl rfl rfl (q_index_lst tok rfl rfl rfl rfl rfl rfl (Int.natCast_nonneg _) (idx_map (by assumption)) rfl) ?_
      refine DOps.s 24 rfl rfl rfl (q_load tok rfl rfl rfl (by first | exact .loc _ | exact .ptr _ _ _ _ _ _ _ _ rfl rfl rfl) rfl) ?_
      refine DOps.s 25 rfl rfl rfl (q_bin rfl rfl rfl rfl) ?_
      refine DOps.nil (by kernel_rfl) ?_
      refine AGo.split 25 rfl (fun hb3 => ?_) (fun hb3 => ?_)
      · -- True
        refine AGo.cond_true true rfl rfl ?_
        have hxy : x ≠ y := by simpa using hb3
        refine AGo.seq ?_
        refine AGo.region ?_
        refine AOps.s 4 rfl rfl rfl (q_move (.inr rfl) rfl) ?_
        refine AOps.nil ?_
        refine AGo.ret ?_
        refine ⟨[_], ⟨rfl, trivial⟩, ?_, rfl⟩
        show AV.bool _ = AV.bool _
        congr 1
        exact (decide_eq_false (by rintro rfl; rw [hx] at hy; cases hy; exact hxy rfl)).symm
      · -- False
        refine AGo.cond_false false rfl rfl ?_
        have hxy : x = y := by simpa using hb3
        refine AGo.skip ?_
        refine AGo.region ?_
        refine AOps.s 15 rfl rfl rfl (q_move (.inl rfl) rfl) ?_
        refine AOps.s 16 rfl rfl rfl (q_inc rfl rfl hkl (by simp only [maxLen]; omega)) ?_
        refine AOps.s 5 rfl rfl rfl (q_move (.inr rfl) rfl) ?_
        refine AOps.nil ?_
        exact ⟨k+1, Sub.mk' (by repeat (first | exact ESub.new _ | refine ESub.put ?_ (by rfl))) (by repeat (first | exact HSub.none _ | exact HSub.from_new _ | exact HSub.from_from (by decide) | refine HSub.put ?_ (by rfl) | refine HSub.from_put ?_ (by decide) | refine HSub.from_rm ?_ (by decide))), (by rw [take_succ_eq hx, take_succ_eq hy, ht, hxy]), by omega⟩
    · -- False
      refine AGo.cond_false false rfl rfl ?_
      have hge := ge_of_idx hb2
      refine AGo.exit ?_
      refine AGo.seq ?_
      refine AGo.region ?_
      refine AOps.s 4 rfl rfl rfl (q_move (.inr rfl) rfl) ?_
      refine AOps.nil ?_
      refine AGo.ret ?_
      refine ⟨[_], ⟨rfl, trivial⟩, ?_, rfl⟩
      show AV.bool _ = AV.bool _
      congr 1
      exact (decide_eq_true (take_all ht hge (hlr ▸ hge))).symm

set_option maxRecDepth 100000 in
theorem few_ok (f : BFunc) (blocks most : Int) (hb : blocks ≤ 1000) (ht : f.tight) : APure Try.prog 18 [.agg f.cells, .int .i64 blocks, .int .i64 most] (fun r => r = .bool (f.few blocks most)) := by
  refine APure.of_body (n := 33) tok Try.func18 rfl rfl ?_
  refine AGo.seq ?_
  refine AGo.region ?_
  refine AOps.x 3 rfl rfl rfl (o_box (sz := 2) 0 rfl rfl rfl rfl (Nat.zero_lt_succ _) rfl) ?_
  refine AOps.s 6 rfl rfl rfl (q_move (.inr rfl) rfl) ?_
  refine AOps.nil ?_
  refine AGo.seq ?_
  refine AGo.seq ?_
  refine AGo.region ?_
  refine AOps.s 9 rfl rfl rfl (q_fieldAddr tok rfl rfl rfl rfl rfl rfl) ?_
  refine AOps.s 10 rfl rfl rfl (q_load tok rfl rfl rfl (by first | exact .loc _ | exact .ptr _ _ _ _ _ _ _ _ rfl rfl rfl) rfl) ?_
  refine AOps.s 11 rfl rfl rfl (q_len tok rfl rfl rfl rfl rfl) ?_
  refine AOps.s 12 rfl rfl rfl (q_move (.inl rfl) rfl) ?_
  refine AOps.s 13 rfl rfl rfl (q_bin rfl rfl rfl rfl) ?_
  refine AOps.nil ?_
  refine AGo.split 13 rfl (fun hb1 => ?_) (fun hb1 => ?_)
  · -- True
    refine AGo.cond_true true rfl rfl ?_
    refine AGo.seq ?_
    refine AGo.region ?_
    refine AOps.s 6 rfl rfl rfl (q_move (.inr rfl) rfl) ?_
    refine AOps.nil ?_
    refine AGo.ret ?_
    refine ⟨[_], ⟨rfl, trivial⟩, ?_, rfl⟩
    show AV.bool _ = AV.bool _
    congr 1
    have h := hb1
    rw [List.length_map] at h
    simp only [BFunc.few, h]
    rfl
  · -- False
    refine AGo.cond_false false rfl rfl ?_
    have hbl : (f.blocks.length : Int) ≤ blocks := by have h := hb1; simp at h; omega
    refine AGo.skip ?_
    refine AGo.seq ?_
    refine AGo.region ?_
    refine AOps.s 7 rfl rfl rfl (q_move (.inr rfl) rfl) ?_
    refine AOps.nil ?_
    refine AGo.seq ?_
    refine AGo.seq ?_
    refine AGo.region ?_
    refine AOps.s 8 rfl rfl rfl (q_move (.inr rfl) rfl) ?_
    refine AOps.nil ?_
    refine AGo.block ?_
    refine AGo.loopD (γ := Nat) 1 (fun k => ⟨33, (eput (eput (eput (eput eNew 2 (.int .i64 most)) 3 (.ptr 0 1 0 0)) 7 (.int .i64 ((insSum (f.blocks.take k) : Nat) : Int))) 8 (.int .i64 (k : Int))), (hput (hFrom 1) 0 (.row false 2 [f.cells]))⟩) (fun k => True) (fun k => f.blocks.length - k) 0 (Sub.mk' (by repeat (first | exact ESub.new _ | refine ESub.put ?_ (by rfl))) (by repeat (first | exact HSub.none _ | exact HSub.from_new _ | exact HSub.from_from (by decide) | refine HSub.put ?_ (by rfl) | refine HSub.from_put ?_ (by decide) | refine HSub.from_rm ?_ (by decide)))) trivial (fun _ => hput_free (fun b hb => hFrom_free hb) rfl) ?_
    intro k _
    refine AGo.seq ?_
    refine AGo.seq ?_
    refine AGo.region ?_
    refine AOps.s 14 rfl rfl rfl (q_move (.inl rfl) rfl) ?_
    refine AOps.s 15 rfl rfl rfl (q_fieldAddr tok rfl rfl rfl rfl rfl rfl) ?_
    refine AOps.s 16 rfl rfl rfl (q_load tok rfl rfl rfl (by first | exact .loc _ | exact .ptr _ _ _ _ _ _ _ _ rfl rfl rfl) rfl) ?_
    refine AOps.s 17 rfl rfl rfl (q_len tok rfl rfl rfl rfl rfl) ?_
    refine AOps.s 18 rfl rfl rfl (q_bin rfl rfl rfl rfl) ?_
    refine AOps.nil ?_
    refine AGo.split 18 rfl (fun hb2 => ?_) (fun hb2 => ?_)
    · -- True
      refine AGo.cond_true true rfl rfl ?_
      have hkl : k < f.blocks.length := lt_of_idx hb2
      obtain ⟨x, hx⟩ := get_of_lt hkl
      have hs1 := insSum_le (l := f.blocks.take k) (fun y hy => ht y (List.mem_of_mem_take hy))
      have hs2 : x.ins.length ≤ big := ht x (List.mem_of_getElem? hx)
      have hs3 : (f.blocks.take k).length ≤ 1000 := by rw [List.length_take]; omega
      have hs4 := Nat.mul_le_mul_right big hs3
      refine AGo.skip ?_
      refine AGo.seq ?_
      refine AGo.block ?_
      refine AGo.region ?_
      refine AOps.s 21 rfl rfl rfl (q_move (.inl rfl) rfl) ?_
      refine AOps.s 22 rfl rfl rfl (q_fieldAddr tok rfl rfl rfl rfl rfl rfl) ?_
      refine AOps.s 23 rfl rfl rfl (q_load tok rfl rfl rfl (by first | exact .loc _ | exact .ptr _ _ _ _ _ _ _ _ rfl rfl rfl) rfl) ?_
      refine AOps.s 24 rfl rfl rfl (q_move (.inl rfl) rfl) ?_
      refine AOps.s 25 rfl rfl rfl (q_index_lst tok rfl rfl rfl rfl rfl rfl (Int.natCast_nonneg _) (idx_map (by assumption)) rfl) ?_
      refine AOps.s 26 rfl rfl rfl (q_fieldAddr tok rfl rfl rfl rfl rfl rfl) ?_
      refine AOps.s 27 rfl rfl rfl (q_load tok rfl rfl rfl (by first | exact .loc _ | exact .ptr _ _ _ _ _ _ _ _ rfl rfl rfl) rfl) ?_
      refine AOps.s 28 rfl rfl rfl (q_len tok rfl rfl rfl rfl rfl) ?_
      refine AOps.s 29 rfl rfl rfl (q_bin (r := .int .i64 ((insSum (f.blocks.take k) + x.ins.length : Nat) : Int)) rfl rfl rfl (by simp only [evalBin, evalInt, isShift, cond_false, if_true]; rw [List.length_map, wrap_i64 (by simp only [big] at *; omega) (by simp only [big] at *; omega)]; rfl)) ?_
      refine AOps.s 7 rfl rfl rfl (q_move (.inr rfl) rfl) ?_
      refine AOps.nil ?_
      refine AGo.region ?_
      refine AOps.s 19 rfl rfl rfl (q_move (.inl rfl) rfl) ?_
      refine AOps.s 20 rfl rfl rfl (q_inc rfl rfl hkl (by simp only [maxLen]; omega)) ?_
      refine AOps.s 8 rfl rfl rfl (q_move (.inr rfl) rfl) ?_
      refine AOps.nil ?_
      exact ⟨k+1, Drop.mk' (by repeat (first | exact EDrop.new _ _ | refine EDrop.put ?_ (by first | rfl | exact congrArg (fun (n : Nat) => some (AV.int .i64 (n : Int))) (insSum_succ hx).symm) rfl)) (by repeat (first | exact HDrop.none _ _ | exact HDrop.tail _ _ | refine HDrop.put ?_ (by rfl) rfl rfl)), trivial, by omega⟩
    · -- False
      refine AGo.cond_false false rfl rfl ?_
      have hge := ge_of_idx hb2
      rw [List.take_of_length_le hge]
      refine AGo.exit ?_
      refine AGo.seq ?_
      refine AGo.region ?_
      refine AOps.s 30 rfl rfl rfl (q_move (.inl rfl) rfl) ?_
      refine AOps.s 31 rfl rfl rfl (q_move (.inl rfl) rfl) ?_
      refine AOps.s 32 rfl rfl rfl (q_bin rfl rfl rfl rfl) ?_
      refine AOps.s 6 rfl rfl rfl (q_move (.inr rfl) rfl) ?_
      refine AOps.nil ?_
      refine AGo.ret ?_
      refine ⟨[_], ⟨rfl, trivial⟩, ?_, rfl⟩
      show AV.bool _ = AV.bool _
      congr 1
      simp [BFunc.few, *]

set_option maxRecDepth 100000 in
theorem smallP_ok (l : List (List Int)) (rows most : Int) (hm : most ≤ 1000000) (hl : l.length ≤ 10000000000000) (ht : ∀ p ∈ l, p.length ≤ big) : APure Try.prog 19 [pathsAV l, .int .i64 rows, .int .i64 most] (fun r => r = .bool (smallP l rows most)) := by
  refine APure.of_body (n := 36) tok Try.func19 rfl rfl ?_
  refine AGo.seq ?_
  refine AGo.region ?_
  refine AOps.s 6 rfl rfl rfl (q_move (.inr rfl) rfl) ?_
  refine AOps.nil ?_
  refine AGo.seq ?_
  refine AGo.region ?_
  refine AOps.s 7 rfl rfl rfl (q_move (.inr rfl) rfl) ?_
  refine AOps.nil ?_
  refine AGo.seq ?_
  refine AGo.seq ?_
  refine AGo.region ?_
  refine AOps.s 8 rfl rfl rfl (q_move (.inr rfl) rfl) ?_
  refine AOps.nil ?_
  refine AGo.block ?_
  refine AGo.loopI (γ := Nat) (fun k => ⟨36, (eput (eput (eput (eput (eput eNew 0 (pathsAV l)) 1 (.int .i64 rows)) 2 (.int .i64 most)) 7 (.int .i64 ((pathSum (l.take k) : Nat) : Int))) 8 (.int .i64 (k : Int))), hNone⟩) (fun k => True) (fun k => l.length - k) 0 (Sub.mk' (by repeat (first | exact ESub.new _ | refine ESub.put ?_ (by rfl))) (by repeat (first | exact HSub.none _ | exact HSub.from_new _ | exact HSub.from_from (by decide) | refine HSub.put ?_ (by rfl) | refine HSub.from_put ?_ (by decide) | refine HSub.from_rm ?_ (by decide)))) trivial ?_
  intro k _
  refine AGo.seq ?_
  refine AGo.seq ?_
  refine AGo.region ?_
  refine AOps.s 9 rfl rfl rfl (q_move (.inl rfl) rfl) ?_
  refine AOps.s 10 rfl rfl rfl (q_move (.inl rfl) rfl) ?_
  refine AOps.s 11 rfl rfl rfl (q_len tok rfl rfl rfl rfl rfl) ?_
  refine AOps.s 12 rfl rfl rfl (q_bin rfl rfl rfl rfl) ?_
  refine AOps.s 13 rfl rfl rfl (q_move (.inl rfl) rfl) ?_
  refine AOps.split 13 rfl (fun hb1 => ?_) (fun hb1 => ?_)
  · -- True
    have hkl : k < l.length := lt_of_idx hb1
    obtain ⟨x, hx⟩ := get_of_lt hkl
    have hs2 := ht x (List.mem_of_getElem? hx)
    refine AOps.s 14 rfl rfl rfl (q_move (.inl rfl) rfl) ?_
    refine AOps.s 15 rfl rfl rfl (q_move (.inl rfl) rfl) ?_
    refine AOps.s 16 rfl rfl rfl (q_bin rfl rfl rfl rfl) ?_
    refine AOps.s 17 rfl rfl rfl (q_pick_true true rfl rfl rfl rfl) ?_
    refine AOps.nil ?_
    refine AGo.split 17 rfl (fun hb2 => ?_) (fun hb2 => ?_)
    · -- True
      refine AGo.cond_true true rfl rfl ?_
      have hle : (pathSum (l.take k) : Int) ≤ most := by simp_all
      refine AGo.skip ?_
      refine AGo.seq ?_
      refine AGo.block ?_
      refine AGo.region ?_
      refine AOps.s 20 rfl rfl rfl (q_move (.inl rfl) rfl) ?_
      refine AOps.s 21 rfl rfl rfl (q_move (.inl rfl) rfl) ?_
      refine AOps.s 22 rfl rfl rfl (q_move (.inl rfl) rfl) ?_
      refine AOps.s 23 rfl rfl rfl (q_index_lst tok rfl rfl rfl rfl rfl rfl (Int.natCast_nonneg _) (idx_map (by assumption)) rfl) ?_
      refine AOps.s 24 rfl rfl rfl (q_load tok rfl rfl rfl (by first | exact .loc _ | exact .ptr _ _ _ _ _ _ _ _ rfl rfl rfl) rfl) ?_
      refine AOps.s 25 rfl rfl rfl (q_len tok rfl rfl rfl rfl rfl) ?_
      refine AOps.s 26 rfl rfl rfl (q_bin (r := .int .i64 ((pathSum (l.take k) + x.length : Nat) : Int)) rfl rfl rfl (by simp only [evalBin, evalInt, isShift, cond_false, if_true]; rw [List.length_map, wrap_i64 (by simp only [big] at *; omega) (by simp only [big] at *; omega)]; rfl)) ?_
      refine AOps.s 7 rfl rfl rfl (q_move (.inr rfl) rfl) ?_
      refine AOps.nil ?_
      refine AGo.region ?_
      refine AOps.s 18 rfl rfl rfl (q_move (.inl rfl) rfl) ?_
      refine AOps.s 19 rfl rfl rfl (q_inc rfl rfl hkl (by simp only [maxLen]; omega)) ?_
      refine AOps.s 8 rfl rfl rfl (q_move (.inr rfl) rfl) ?_
      refine AOps.nil ?_
      exact ⟨k+1, Sub.mk' (by repeat (first | exact ESub.new _ | refine ESub.put ?_ (by first | rfl | exact congrArg (fun (n : Nat) => some (AV.int .i64 (n : Int))) (pathSum_succ hx).symm))) (by repeat (first | exact HSub.none _ | exact HSub.from_new _ | exact HSub.from_from (by decide) | refine HSub.put ?_ (by rfl) | refine HSub.from_put ?_ (by decide) | refine HSub.from_rm ?_ (by decide))), trivial, by omega⟩
    · -- False
      refine AGo.cond_false false rfl rfl ?_
      have hq : l.length ≤ k ∨ most < (pathSum (l.take k) : Int) := by first | (right; simp_all; done) | (left; simp_all [pathsAV]; done) | (left; simp_all [pathsAV]; omega)
      refine AGo.exit ?_
      refine AGo.seq ?_
      refine AGo.region ?_
      refine AOps.s 27 rfl rfl rfl (q_move (.inl rfl) rfl) ?_
      refine AOps.s 28 rfl rfl rfl (q_len tok rfl rfl rfl rfl rfl) ?_
      refine AOps.s 29 rfl rfl rfl (q_move (.inl rfl) rfl) ?_
      refine AOps.s 30 rfl rfl rfl (q_bin rfl rfl rfl rfl) ?_
      refine AOps.s 31 rfl rfl rfl (q_move (.inl rfl) rfl) ?_
      refine AOps.split 31 rfl (fun hb3 => ?_) (fun hb3 => ?_)
      · -- True
        refine AOps.s 32 rfl rfl rfl (q_move (.inl rfl) rfl) ?_
        refine AOps.s 33 rfl rfl rfl (q_move (.inl rfl) rfl) ?_
        refine AOps.s 34 rfl rfl rfl (q_bin rfl rfl rfl rfl) ?_
        refine AOps.s 35 rfl rfl rfl (q_pick_true true rfl rfl rfl rfl) ?_
        refine AOps.s 6 rfl rfl rfl (q_move (.inr rfl) rfl) ?_
        refine AOps.nil ?_
        refine AGo.ret ?_
        refine ⟨[_], ⟨rfl, trivial⟩, ?_, rfl⟩
        show AV.bool _ = AV.bool _
        congr 1
        rw [← smallP_end hq]
        simp only [pathsAV, List.length_map] at *
        first | (simp only [*, Bool.true_and, Bool.false_and]; done) | (simp [*]; done) | simp_all
      · -- False
        refine AOps.k 32 rfl rfl rfl ?_
        refine AOps.k 33 rfl rfl rfl ?_
        refine AOps.k 34 rfl rfl rfl ?_
        refine AOps.s 35 rfl rfl rfl (q_pick_false false rfl rfl rfl rfl) ?_
        refine AOps.s 6 rfl rfl rfl (q_move (.inr rfl) rfl) ?_
        refine AOps.nil ?_
        refine AGo.ret ?_
        refine ⟨[_], ⟨rfl, trivial⟩, ?_, rfl⟩
        show AV.bool _ = AV.bool _
        congr 1
        rw [← smallP_end hq]
        simp only [pathsAV, List.length_map] at *
        first | (simp only [*, Bool.true_and, Bool.false_and]; done) | (simp [*]; done) | simp_all
  · -- False
    refine AOps.k 14 rfl rfl rfl ?_
    refine AOps.k 15 rfl rfl rfl ?_
    refine AOps.k 16 rfl rfl rfl ?_
    refine AOps.s 17 rfl rfl rfl (q_pick_false false rfl rfl rfl rfl) ?_
    refine AOps.nil ?_
    refine AGo.cond_false false rfl rfl ?_
    have hq : l.length ≤ k ∨ most < (pathSum (l.take k) : Int) := by first | (right; simp_all; done) | (left; simp_all [pathsAV]; done) | (left; simp_all [pathsAV]; omega)
    refine AGo.exit ?_
    refine AGo.seq ?_
    refine AGo.region ?_
    refine AOps.s 27 rfl rfl rfl (q_move (.inl rfl) rfl) ?_
    refine AOps.s 28 rfl rfl rfl (q_len tok rfl rfl rfl rfl rfl) ?_
    refine AOps.s 29 rfl rfl rfl (q_move (.inl rfl) rfl) ?_
    refine AOps.s 30 rfl rfl rfl (q_bin rfl rfl rfl rfl) ?_
    refine AOps.s 31 rfl rfl rfl (q_move (.inl rfl) rfl) ?_
    refine AOps.split 31 rfl (fun hb4 => ?_) (fun hb4 => ?_)
    · -- True
      refine AOps.s 32 rfl rfl rfl (q_move (.inl rfl) rfl) ?_
      refine AOps.s 33 rfl rfl rfl (q_move (.inl rfl) rfl) ?_
      refine AOps.s 34 rfl rfl rfl (q_bin rfl rfl rfl rfl) ?_
      refine AOps.s 35 rfl rfl rfl (q_pick_true true rfl rfl rfl rfl) ?_
      refine AOps.s 6 rfl rfl rfl (q_move (.inr rfl) rfl) ?_
      refine AOps.nil ?_
      refine AGo.ret ?_
      refine ⟨[_], ⟨rfl, trivial⟩, ?_, rfl⟩
      show AV.bool _ = AV.bool _
      congr 1
      rw [← smallP_end hq]
      simp only [pathsAV, List.length_map] at *
      first | (simp only [*, Bool.true_and, Bool.false_and]; done) | (simp [*]; done) | simp_all
    · -- False
      refine AOps.k 32 rfl rfl rfl ?_
      refine AOps.k 33 rfl rfl rfl ?_
      refine AOps.k 34 rfl rfl rfl ?_
      refine AOps.s 35 rfl rfl rfl (q_pick_false false rfl rfl rfl rfl) ?_
      refine AOps.s 6 rfl rfl rfl (q_move (.inr rfl) rfl) ?_
      refine AOps.nil ?_
      refine AGo.ret ?_
      refine ⟨[_], ⟨rfl, trivial⟩, ?_, rfl⟩
      show AV.bool _ = AV.bool _
      congr 1
      rw [← smallP_end hq]
      simp only [pathsAV, List.length_map] at *
      first | (simp only [*, Bool.true_and, Bool.false_and]; done) | (simp [*]; done) | simp_all

set_option maxRecDepth 100000 in
theorem awake_ok  : APure Try.prog 11 [] (fun r => r = .bool true) := by
  refine APure.of_body (n := 60) tok Try.func11 rfl rfl ?_
  refine AGo.seq ?_
  refine AGo.region ?_
  refine AOps.s 0 rfl rfl rfl (q_move (.inr rfl) rfl) ?_
  refine AOps.nil ?_
  refine AGo.seq ?_
  refine AGo.region ?_
  refine AOps.s 5 rfl rfl rfl (q_build tok rfl rfl rfl rfl rfl (by decide) rfl rfl rfl) ?_
  refine AOps.x 6 rfl rfl rfl (o_lit' tok rfl rfl rfl rfl rfl rfl (by decide) rfl rfl rfl rfl rfl rfl) ?_
  refine AOps.s 7 rfl rfl rfl (q_build tok rfl rfl rfl rfl rfl (by decide) rfl rfl rfl) ?_
  refine AOps.s 8 rfl rfl rfl (QLoc.weak (q_build tok rfl rfl rfl rfl rfl (by decide) rfl rfl rfl) (fun _ _ _ h => agg_nil h)) ?_
  refine AOps.s 9 rfl rfl rfl (q_build tok rfl rfl rfl rfl rfl (by decide) rfl rfl rfl) ?_
  refine AOps.x 10 rfl rfl rfl (o_lit' tok rfl rfl rfl rfl rfl rfl (by decide) rfl rfl rfl rfl rfl rfl) ?_
  refine AOps.s 11 rfl rfl rfl (q_build tok rfl rfl rfl rfl rfl (by decide) rfl rfl rfl) ?_
  refine AOps.x 12 rfl rfl rfl (o_lit' tok rfl rfl rfl rfl rfl rfl (by decide) rfl rfl rfl rfl rfl rfl) ?_
  refine AOps.s 13 rfl rfl rfl (q_build tok rfl rfl rfl rfl rfl (by decide) rfl rfl rfl) ?_
  refine AOps.x 1 rfl rfl rfl (o_alloc tok 0 rfl rfl rfl rfl (Nat.zero_lt_succ _) rfl) ?_
  refine AOps.w rfl rfl (o_store tok rfl rfl rfl rfl rfl rfl rfl rfl rfl (by decide) rfl (by first | exact fun _ => rfl | (intro h; cases h))) ?_
  refine AOps.nil ?_
  refine AGo.seq ?_
  refine AGo.region ?_
  refine AOps.s 14 rfl rfl rfl (q_build tok rfl rfl rfl rfl rfl (by decide) rfl rfl rfl) ?_
  refine AOps.s 15 rfl rfl rfl (q_build tok rfl rfl rfl rfl rfl (by decide) rfl rfl rfl) ?_
  refine AOps.x 16 rfl rfl rfl (o_lit' tok rfl rfl rfl rfl rfl rfl (by decide) rfl rfl rfl rfl rfl rfl) ?_
  refine AOps.s 17 rfl rfl rfl (q_build tok rfl rfl rfl rfl rfl (by decide) rfl rfl rfl) ?_
  refine AOps.x 18 rfl rfl rfl (o_lit' tok rfl rfl rfl rfl rfl rfl (by decide) rfl rfl rfl rfl rfl rfl) ?_
  refine AOps.s 19 rfl rfl rfl (q_build tok rfl rfl rfl rfl rfl (by decide) rfl rfl rfl) ?_
  refine AOps.x 2 rfl rfl rfl (o_alloc tok 1 rfl rfl rfl rfl (Nat.zero_lt_succ _) rfl) ?_
  refine AOps.w rfl rfl (o_store tok rfl rfl rfl rfl rfl rfl rfl rfl rfl (by decide) rfl (by first | exact fun _ => rfl | (intro h; cases h))) ?_
  refine AOps.nil ?_
  refine AGo.seq ?_
  refine AGo.region ?_
  refine AOps.s 21 rfl rfl rfl (q_load tok rfl rfl rfl (by first | exact .loc _ | exact .ptr _ _ _ _ _ _ _ _ rfl rfl rfl) rfl) ?_
  refine AOps.x 22 rfl rfl rfl (o_pure rfl Try.func13 (by kernel_rfl) rfl rfl rfl ((tidyOf_ok awF aw_tame).mono (fun r h => by rw [h, aw_tidy, aw_paths]))) ?_
  refine AOps.s 20 rfl rfl rfl (q_move (.inl rfl) rfl) ?_
  refine AOps.s 23 rfl rfl rfl (q_extract rfl rfl rfl) ?_
  refine AOps.s 24 rfl rfl rfl (q_extract rfl rfl rfl) ?_
  refine AOps.x 3 rfl rfl rfl (o_alloc tok 2 rfl rfl rfl rfl (Nat.zero_lt_succ _) rfl) ?_
  refine AOps.w rfl rfl (o_store tok rfl rfl rfl rfl rfl rfl rfl rfl rfl (by decide) rfl (by first | exact fun _ => rfl | (intro h; cases h))) ?_
  refine AOps.s 4 rfl rfl rfl (q_move (.inr rfl) rfl) ?_
  refine AOps.nil ?_
  refine AGo.seq ?_
  refine AGo.region ?_
  refine AOps.s 25 rfl rfl rfl (q_load tok rfl rfl rfl (by first | exact .loc _ | exact .ptr _ _ _ _ _ _ _ _ rfl rfl rfl) rfl) ?_
  refine AOps.s 26 rfl rfl rfl (q_load tok rfl rfl rfl (by first | exact .loc _ | exact .ptr _ _ _ _ _ _ _ _ rfl rfl rfl) rfl) ?_
  refine AOps.x 27 rfl rfl rfl (o_pure rfl Try.func15 (by kernel_rfl) rfl rfl rfl ((sameFunc_ok awW awW).mono (fun r h => by rw [h, decide_eq_true rfl]))) ?_
  refine AOps.s 28 rfl rfl rfl (q_move (.inl rfl) rfl) ?_
  refine AOps.s 29 rfl rfl rfl (q_move (.inl rfl) rfl) ?_
  refine AOps.s 30 rfl rfl rfl (q_len tok rfl rfl rfl rfl rfl) ?_
  refine AOps.s 31 rfl rfl rfl (q_bin (r := .bool true) rfl rfl rfl (by rfl)) ?_
  refine AOps.s 32 rfl rfl rfl (q_pick_true true rfl rfl rfl rfl) ?_
  refine AOps.s 33 rfl rfl rfl (q_move (.inl rfl) rfl) ?_
  refine AOps.s 34 rfl rfl rfl (q_move (.inl rfl) rfl) ?_
  refine AOps.s 35 rfl rfl rfl (q_index_lst tok rfl rfl rfl rfl rfl rfl (by decide) (cs := pathCell [0, 2]) rfl rfl) ?_
  refine AOps.s 36 rfl rfl rfl (q_load tok rfl rfl rfl (by first | exact .loc _ | exact .ptr _ _ _ _ _ _ _ _ rfl rfl rfl) rfl) ?_
  refine AOps.x 37 rfl rfl rfl (o_lit' tok rfl rfl rfl rfl rfl rfl (by decide) rfl rfl rfl rfl rfl rfl) ?_
  refine AOps.x 38 rfl rfl rfl (o_pure rfl Try.func26 (by kernel_rfl) rfl rfl rfl ((list_ok [0, 2] [0, 2] (by decide)).mono (fun r h => by rw [h, decide_eq_true rfl]))) ?_
  refine AOps.s 39 rfl rfl rfl (q_pick_true true rfl rfl rfl rfl) ?_
  refine AOps.s 40 rfl rfl rfl (q_move (.inl rfl) rfl) ?_
  refine AOps.s 41 rfl rfl rfl (q_load tok rfl rfl rfl (by first | exact .loc _ | exact .ptr _ _ _ _ _ _ _ _ rfl rfl rfl) rfl) ?_
  refine AOps.s 42 rfl rfl rfl (q_load tok rfl rfl rfl (by first | exact .loc _ | exact .ptr _ _ _ _ _ _ _ _ rfl rfl rfl) rfl) ?_
  refine AOps.s 43 rfl rfl rfl (q_move (.inl rfl) rfl) ?_
  refine AOps.x 44 rfl rfl rfl (o_pure rfl Try.func17 (by kernel_rfl) rfl rfl rfl ((check_ok awF awW [[0, 2]] (by decide) (by decide) (by decide)).mono (fun r h => by rw [h, aw_check]))) ?_
  refine AOps.s 45 rfl rfl rfl (q_pick_true true rfl rfl rfl rfl) ?_
  refine AOps.s 46 rfl rfl rfl (q_move (.inl rfl) rfl) ?_
  refine AOps.s 47 rfl rfl rfl (q_load tok rfl rfl rfl (by first | exact .loc _ | exact .ptr _ _ _ _ _ _ _ _ rfl rfl rfl) rfl) ?_
  refine AOps.s 48 rfl rfl rfl (q_load tok rfl rfl rfl (by first | exact .loc _ | exact .ptr _ _ _ _ _ _ _ _ rfl rfl rfl) rfl) ?_
  refine AOps.x 49 rfl rfl rfl (o_lit' tok rfl rfl rfl rfl rfl rfl (by decide) rfl rfl rfl rfl rfl rfl) ?_
  refine AOps.x 50 rfl rfl rfl (o_lit' tok rfl rfl rfl rfl rfl rfl (by decide) rfl rfl rfl rfl rfl rfl) ?_
  refine AOps.x 51 rfl rfl rfl (o_pure rfl Try.func17 (by kernel_rfl) rfl rfl rfl ((check_ok awF awW [[0]] (by decide) (by decide) (by decide)).mono (fun r h => by rw [h, aw_check0]))) ?_
  refine AOps.s 52 rfl rfl rfl (q_not rfl rfl) ?_
  refine AOps.s 53 rfl rfl rfl (q_pick_true true rfl rfl rfl rfl) ?_
  refine AOps.s 54 rfl rfl rfl (q_move (.inl rfl) rfl) ?_
  refine AOps.s 55 rfl rfl rfl (q_load tok rfl rfl rfl (by first | exact .loc _ | exact .ptr _ _ _ _ _ _ _ _ rfl rfl rfl) rfl) ?_
  refine AOps.s 56 rfl rfl rfl (q_load tok rfl rfl rfl (by first | exact .loc _ | exact .ptr _ _ _ _ _ _ _ _ rfl rfl rfl) rfl) ?_
  refine AOps.x 57 rfl rfl rfl (o_pure rfl Try.func17 (by kernel_rfl) rfl rfl rfl (APure.nilThird ((check_ok awF awW [] (by decide) (by decide) (by decide)).mono (fun r h => by rw [h, aw_check1])))) ?_
  refine AOps.s 58 rfl rfl rfl (q_not rfl rfl) ?_
  refine AOps.s 59 rfl rfl rfl (q_pick_true true rfl rfl rfl rfl) ?_
  refine AOps.s 0 rfl rfl rfl (q_move (.inr rfl) rfl) ?_
  refine AOps.nil ?_
  refine AGo.ret ?_
  refine ⟨[_], ⟨rfl, trivial⟩, ?_, rfl⟩
  rfl

end Go.Proofs.Ytidfabbnobipkaa.Sv
