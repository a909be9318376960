/-
  WALKS: printed by a program of our own from the code's tree.
-/
import Derived.Test.YtidfabbnobipkaaSp1
import Derived.Test.YtidfabbnobipkaaSw1
namespace Go.Proofs.Ytidfabbnobipkaa.Sv
open Go
set_option linter.unusedVariables false
set_option linter.unusedSimpArgs false

set_option maxRecDepth 100000 in
theorem sameFunc_ok (f g : BFunc) : APure Try.prog 15 [.agg f.cells, .agg g.cells] (fun r => r = .bool (decide (f = g))) := by
  refine APure.of_body (n := 93) tok Try.func15 rfl rfl ?_
  refine AGo.seq ?_
  refine AGo.slot 0 rfl (fun H ι v => rel_bfunc) (fun hfit => ?_)
  refine AGo.region ?_
  refine AOps.x 2 rfl rfl rfl (o_box (sz := 2) 0 rfl rfl rfl rfl (Nat.zero_lt_succ _) rfl) ?_
  refine AOps.x 3 rfl rfl rfl (o_box (sz := 2) 1 rfl rfl rfl rfl (Nat.zero_lt_succ _) rfl) ?_
  refine AOps.s 4 rfl rfl rfl (q_move (.inr rfl) rfl) ?_
  refine AOps.nil ?_
  refine AGo.seq ?_
  refine AGo.seq ?_
  refine AGo.region ?_
  refine AOps.s 9 rfl rfl rfl (q_fieldAddr tok rfl rfl rfl rfl rfl rfl) ?_
  refine AOps.s 10 rfl rfl rfl (q_load tok rfl rfl rfl (by first | exact .loc _ | exact .ptr _ _ _ _ _ _ _ _ rfl rfl rfl) rfl) ?_
  refine AOps.s 11 rfl rfl rfl (q_fieldAddr tok rfl rfl rfl rfl rfl rfl) ?_
  refine AOps.s 12 rfl rfl rfl (q_load tok rfl rfl rfl (by first | exact .loc _ | exact .ptr _ _ _ _ _ _ _ _ rfl rfl rfl) rfl) ?_
  refine AOps.s 13 rfl rfl rfl (q_bin rfl rfl rfl rfl) ?_
  refine AOps.s 14 rfl rfl rfl (q_move (.inl rfl) rfl) ?_
  refine AOps.split 14 rfl (fun hb1 => ?_) (fun hb1 => ?_)
  · -- True
    refine AOps.k 15 rfl rfl rfl ?_
    refine AOps.k 16 rfl rfl rfl ?_
    refine AOps.k 17 rfl rfl rfl ?_
    refine AOps.k 18 rfl rfl rfl ?_
    refine AOps.k 19 rfl rfl rfl ?_
    refine AOps.k 20 rfl rfl rfl ?_
    refine AOps.k 21 rfl rfl rfl ?_
    refine AOps.s 22 rfl rfl rfl (q_pick_true true rfl rfl rfl rfl) ?_
    refine AOps.nil ?_
    refine AGo.cond_true true rfl rfl ?_
    refine AGo.seq ?_
    refine AGo.region ?_
    refine AOps.s 4 rfl rfl rfl (q_move (.inr rfl) rfl) ?_
    refine AOps.nil ?_
    refine AGo.ret ?_
    refine ⟨[_], ⟨rfl, trivial⟩, ?_, rfl⟩
    show AV.bool false = _
    rw [decide_eq_false (by rintro rfl; simp_all)]
  · -- False
    refine AOps.s 15 rfl rfl rfl (q_fieldAddr tok rfl rfl rfl rfl rfl rfl) ?_
    refine AOps.s 16 rfl rfl rfl (q_load tok rfl rfl rfl (by first | exact .loc _ | exact .ptr _ _ _ _ _ _ _ _ rfl rfl rfl) rfl) ?_
    refine AOps.s 17 rfl rfl rfl (q_len tok rfl rfl rfl rfl rfl) ?_
    refine AOps.s 18 rfl rfl rfl (q_fieldAddr tok rfl rfl rfl rfl rfl rfl) ?_
    refine AOps.s 19 rfl rfl rfl (q_load tok rfl rfl rfl (by first | exact .loc _ | exact .ptr _ _ _ _ _ _ _ _ rfl rfl rfl) rfl) ?_
    refine AOps.s 20 rfl rfl rfl (q_len tok rfl rfl rfl rfl rfl) ?_
    refine AOps.s 21 rfl rfl rfl (q_bin rfl rfl rfl rfl) ?_
    refine AOps.s 22 rfl rfl rfl (q_pick_false false rfl rfl rfl rfl) ?_
    refine AOps.nil ?_
    refine AGo.split 22 rfl (fun hb2 => ?_) (fun hb2 => ?_)
    · -- True
      refine AGo.cond_true true rfl rfl ?_
      refine AGo.seq ?_
      refine AGo.region ?_
      refine AOps.s 4 rfl rfl rfl (q_move (.inr rfl) rfl) ?_
      refine AOps.nil ?_
      refine AGo.ret ?_
      refine ⟨[_], ⟨rfl, trivial⟩, ?_, rfl⟩
      show AV.bool false = _
      rw [decide_eq_false (by rintro rfl; simp_all)]
    · -- False
      refine AGo.cond_false false rfl rfl ?_
      refine AGo.skip ?_
      refine AGo.seq ?_
      refine AGo.seq ?_
      refine AGo.region ?_
      refine AOps.s 5 rfl rfl rfl (q_move (.inr rfl) rfl) ?_
      refine AOps.nil ?_
      refine AGo.block ?_
      refine AGo.loopD (γ := Nat) 2 (fun k => ⟨93, (eput (eput (eput eNew 2 (.ptr 0 1 0 0)) 3 (.ptr 1 1 0 0)) 5 (.int .i64 (k : Int))), (hput (hput (hFrom 2) 0 (.row false 2 [BFunc.cells f])) 1 (.row false 2 [BFunc.cells g]))⟩) (fun k => k ≤ f.blocks.length ∧ f.regs = g.regs ∧ f.blocks.length = g.blocks.length ∧ f.blocks.take k = g.blocks.take k) (fun k => f.blocks.length - k) 0 (Sub.mk' (by repeat (first | exact ESub.new _ | refine ESub.put ?_ (by rfl))) (by repeat (first | exact HSub.none _ | exact HSub.from_new _ | exact HSub.from_from (by decide) | refine HSub.put ?_ (by rfl) | refine HSub.from_put ?_ (by decide) | refine HSub.from_rm ?_ (by decide)))) ⟨Nat.zero_le _, by simp_all, by simp_all; omega, rfl⟩ (fun _ => hput_free (hput_free (fun b hb => hFrom_free hb) rfl) rfl) ?_
      intro k ⟨hk, hr, hl, ht⟩
      refine AGo.seq ?_
      refine AGo.seq ?_
      refine AGo.region ?_
      refine AOps.s 23 rfl rfl rfl (q_move (.inl rfl) rfl) ?_
      refine AOps.s 24 rfl rfl rfl (q_fieldAddr tok rfl rfl rfl rfl rfl rfl) ?_
      refine AOps.s 25 rfl rfl rfl (q_load tok rfl rfl rfl (by first | exact .loc _ | exact .ptr _ _ _ _ _ _ _ _ rfl rfl rfl) rfl) ?_
      refine AOps.s 26 rfl rfl rfl (q_len tok rfl rfl rfl rfl rfl) ?_
      refine AOps.s 27 rfl rfl rfl (q_bin rfl rfl rfl rfl) ?_
      refine AOps.nil ?_
      refine AGo.split 27 rfl (fun hb3 => ?_) (fun hb3 => ?_)
      · -- True
        refine AGo.cond_true true rfl rfl ?_
        have hkl : k < f.blocks.length := lt_of_idx hb3
        obtain ⟨x, hx⟩ := get_of_lt hkl
        obtain ⟨y, hy⟩ := get_of_lt (l := g.blocks) (k := k) (by omega)
        refine AGo.skip ?_
        refine AGo.seq ?_
        refine AGo.block ?_
        refine AGo.seq ?_
        refine AGo.region ?_
        refine AOps.s 30 rfl rfl rfl (q_fieldAddr tok rfl rfl rfl rfl rfl rfl) ?_
        refine AOps.s 31 rfl rfl rfl (q_load tok rfl rfl rfl (by first | exact .loc _ | exact .ptr _ _ _ _ _ _ _ _ rfl rfl rfl) rfl) ?_
        refine AOps.s 32 rfl rfl rfl (q_move (.inl rfl) rfl) ?_
        refine AOps.s 33 rfl rfl rfl (q_index_lst tok rfl rfl rfl rfl rfl rfl (Int.natCast_nonneg _) (idx_map (by assumption)) rfl) ?_
        refine AOps.s 34 rfl rfl rfl (q_load tok rfl rfl rfl (by first | exact .loc _ | exact .ptr _ _ _ _ _ _ _ _ rfl rfl rfl) rfl) ?_
        refine AOps.x 6 rfl rfl rfl (o_alloc tok 2 rfl rfl rfl rfl (Nat.zero_lt_succ _) rfl) ?_
        refine AOps.w rfl rfl (o_store tok rfl rfl rfl rfl rfl rfl rfl rfl rfl (by decide) rfl (by first | exact fun _ => rfl | (intro h; cases h))) ?_
        refine AOps.nil ?_
        refine AGo.seq ?_
        refine AGo.region ?_
        refine AOps.s 35 rfl rfl rfl (q_fieldAddr tok rfl rfl rfl rfl rfl rfl) ?_
        refine AOps.s 36 rfl rfl rfl (q_load tok rfl rfl rfl (by first | exact .loc _ | exact .ptr _ _ _ _ _ _ _ _ rfl rfl rfl) rfl) ?_
        refine AOps.s 37 rfl rfl rfl (q_move (.inl rfl) rfl) ?_
        refine AOps.s 38 rfl rfl rfl (q_index_lst tok rfl rfl rfl rfl rfl rfl (Int.natCast_nonneg _) (idx_map (by assumption)) rfl) ?_
        refine AOps.s 39 rfl rfl rfl (q_load tok rfl rfl rfl (by first | exact .loc _ | exact .ptr _ _ _ _ _ _ _ _ rfl rfl rfl) rfl) ?_
        refine AOps.x 7 rfl rfl rfl (o_alloc tok 3 rfl rfl rfl rfl (Nat.zero_lt_succ _) rfl) ?_
        refine AOps.w rfl rfl (o_store tok rfl rfl rfl rfl rfl rfl rfl rfl rfl (by decide) rfl (by first | exact fun _ => rfl | (intro h; cases h))) ?_
        refine AOps.nil ?_
        refine AGo.seq ?_
        refine AGo.seq ?_
        refine AGo.region ?_
        refine AOps.s 40 rfl rfl rfl (q_fieldAddr tok rfl rfl rfl rfl rfl rfl) ?_
        refine AOps.s 41 rfl rfl rfl (q_load tok rfl rfl rfl (by first | exact .loc _ | exact .ptr _ _ _ _ _ _ _ _ rfl rfl rfl) rfl) ?_
        refine AOps.s 42 rfl rfl rfl (q_fieldAddr tok rfl rfl rfl rfl rfl rfl) ?_
        refine AOps.s 43 rfl rfl rfl (q_load tok rfl rfl rfl (by first | exact .loc _ | exact .ptr _ _ _ _ _ _ _ _ rfl rfl rfl) rfl) ?_
        refine AOps.s 44 rfl rfl rfl (q_bin rfl rfl rfl rfl) ?_
        refine AOps.s 45 rfl rfl rfl (q_move (.inl rfl) rfl) ?_
        refine AOps.split 45 rfl (fun hb4 => ?_) (fun hb4 => ?_)
        · -- True
          refine AOps.k 46 rfl rfl rfl ?_
          refine AOps.k 47 rfl rfl rfl ?_
          refine AOps.k 48 rfl rfl rfl ?_
          refine AOps.k 49 rfl rfl rfl ?_
          refine AOps.k 50 rfl rfl rfl ?_
          refine AOps.s 51 rfl rfl rfl (q_pick_true true rfl rfl rfl rfl) ?_
          refine AOps.s 52 rfl rfl rfl (q_move (.inl rfl) rfl) ?_
          refine AOps.k 53 rfl rfl rfl ?_
          refine AOps.k 54 rfl rfl rfl ?_
          refine AOps.k 55 rfl rfl rfl ?_
          refine AOps.k 56 rfl rfl rfl ?_
          refine AOps.k 57 rfl rfl rfl ?_
          refine AOps.s 58 rfl rfl rfl (q_pick_true true rfl rfl rfl rfl) ?_
          refine AOps.s 59 rfl rfl rfl (q_move (.inl rfl) rfl) ?_
          refine AOps.k 60 rfl rfl rfl ?_
          refine AOps.k 61 rfl rfl rfl ?_
          refine AOps.k 62 rfl rfl rfl ?_
          refine AOps.k 63 rfl rfl rfl ?_
          refine AOps.k 64 rfl rfl rfl ?_
          refine AOps.s 65 rfl rfl rfl (q_pick_true true rfl rfl rfl rfl) ?_
          refine AOps.s 66 rfl rfl rfl (q_move (.inl rfl) rfl) ?_
          refine AOps.k 67 rfl rfl rfl ?_
          refine AOps.k 68 rfl rfl rfl ?_
          refine AOps.k 69 rfl rfl rfl ?_
          refine AOps.k 70 rfl rfl rfl ?_
          refine AOps.k 71 rfl rfl rfl ?_
          refine AOps.k 72 rfl rfl rfl ?_
          refine AOps.k 73 rfl rfl rfl ?_
          refine AOps.s 74 rfl rfl rfl (q_pick_true true rfl rfl rfl rfl) ?_
          refine AOps.nil ?_
          refine AGo.cond_true true rfl rfl ?_
          refine AGo.seq ?_
          refine AGo.region ?_
          refine AOps.s 4 rfl rfl rfl (q_move (.inr rfl) rfl) ?_
          refine AOps.nil ?_
          refine AGo.ret ?_
          refine ⟨[_], ⟨rfl, trivial⟩, ?_, rfl⟩
          show AV.bool false = _
          rw [decide_eq_false (by rintro rfl; rw [hx] at hy; cases hy; simp_all)]
        · -- False
          refine AOps.s 46 rfl rfl rfl (q_fieldAddr tok rfl rfl rfl rfl rfl rfl) ?_
          refine AOps.s 47 rfl rfl rfl (q_load tok rfl rfl rfl (by first | exact .loc _ | exact .ptr _ _ _ _ _ _ _ _ rfl rfl rfl) rfl) ?_
          refine AOps.s 48 rfl rfl rfl (q_fieldAddr tok rfl rfl rfl rfl rfl rfl) ?_
          refine AOps.s 49 rfl rfl rfl (q_load tok rfl rfl rfl (by first | exact .loc _ | exact .ptr _ _ _ _ _ _ _ _ rfl rfl rfl) rfl) ?_
          refine AOps.s 50 rfl rfl rfl (q_bin rfl rfl rfl rfl) ?_
          refine AOps.s 51 rfl rfl rfl (q_pick_false false rfl rfl rfl rfl) ?_
          refine AOps.s 52 rfl rfl rfl (q_move (.inl rfl) rfl) ?_
          refine AOps.split 52 rfl (fun hb5 => ?_) (fun hb5 => ?_)
          · -- True
            refine AOps.k 53 rfl rfl rfl ?_
            refine AOps.k 54 rfl rfl rfl ?_
            refine AOps.k 55 rfl rfl rfl ?_
            refine AOps.k 56 rfl rfl rfl ?_
            refine AOps.k 57 rfl rfl rfl ?_
            refine AOps.s 58 rfl rfl rfl (q_pick_true true rfl rfl rfl rfl) ?_
            refine AOps.s 59 rfl rfl rfl (q_move (.inl rfl) rfl) ?_
            refine AOps.k 60 rfl rfl rfl ?_
            refine AOps.k 61 rfl rfl rfl ?_
            refine AOps.k 62 rfl rfl rfl ?_
            refine AOps.k 63 rfl rfl rfl ?_
            refine AOps.k 64 rfl rfl rfl ?_
            refine AOps.s 65 rfl rfl rfl (q_pick_true true rfl rfl rfl rfl) ?_
            refine AOps.s 66 rfl rfl rfl (q_move (.inl rfl) rfl) ?_
            refine AOps.k 67 rfl rfl rfl ?_
            refine AOps.k 68 rfl rfl rfl ?_
            refine AOps.k 69 rfl rfl rfl ?_
            refine AOps.k 70 rfl rfl rfl ?_
            refine AOps.k 71 rfl rfl rfl ?_
            refine AOps.k 72 rfl rfl rfl ?_
            refine AOps.k 73 rfl rfl rfl ?_
            refine AOps.s 74 rfl rfl rfl (q_pick_true true rfl rfl rfl rfl) ?_
            refine AOps.nil ?_
            refine AGo.cond_true true rfl rfl ?_
            refine AGo.seq ?_
            refine AGo.region ?_
            refine AOps.s 4 rfl rfl rfl (q_move (.inr rfl) rfl) ?_
            refine AOps.nil ?_
            refine AGo.ret ?_
            refine ⟨[_], ⟨rfl, trivial⟩, ?_, rfl⟩
            show AV.bool false = _
            rw [decide_eq_false (by rintro rfl; rw [hx] at hy; cases hy; simp_all)]
          · -- False
            refine AOps.s 53 rfl rfl rfl (q_fieldAddr tok rfl rfl rfl rfl rfl rfl) ?_
            refine AOps.s 54 rfl rfl rfl (q_load tok rfl rfl rfl (by first | exact .loc _ | exact .ptr _ _ _ _ _ _ _ _ rfl rfl rfl) rfl) ?_
            refine AOps.s 55 rfl rfl rfl (q_fieldAddr tok rfl rfl rfl rfl rfl rfl) ?_
            refine AOps.s 56 rfl rfl rfl (q_load tok rfl rfl rfl (by first | exact .loc _ | exact .ptr _ _ _ _ _ _ _ _ rfl rfl rfl) rfl) ?_
            refine AOps.s 57 rfl rfl rfl (q_bin rfl rfl rfl rfl) ?_
            refine AOps.s 58 rfl rfl rfl (q_pick_false false rfl rfl rfl rfl) ?_
            refine AOps.s 59 rfl rfl rfl (q_move (.inl rfl) rfl) ?_
            refine AOps.split 59 rfl (fun hb6 => ?_) (fun hb6 => ?_)
            · -- True
              refine AOps.k 60 rfl rfl rfl ?_
              refine AOps.k 61 rfl rfl rfl ?_
              refine AOps.k 62 rfl rfl rfl ?_
              refine AOps.k 63 rfl rfl rfl ?_
              refine AOps.k 64 rfl rfl rfl ?_
              refine AOps.s 65 rfl rfl rfl (q_pick_true true rfl rfl rfl rfl) ?_
              refine AOps.s 66 rfl rfl rfl (q_move (.inl rfl) rfl) ?_
              refine AOps.k 67 rfl rfl rfl ?_
              refine AOps.k 68 rfl rfl rfl ?_
              refine AOps.k 69 rfl rfl rfl ?_
              refine AOps.k 70 rfl rfl rfl ?_
              refine AOps.k 71 rfl rfl rfl ?_
              refine AOps.k 72 rfl rfl rfl ?_
              refine AOps.k 73 rfl rfl rfl ?_
              refine AOps.s 74 rfl rfl rfl (q_pick_true true rfl rfl rfl rfl) ?_
              refine AOps.nil ?_
              refine AGo.cond_true true rfl rfl ?_
              refine AGo.seq ?_
              refine AGo.region ?_
              refine AOps.s 4 rfl rfl rfl (q_move (.inr rfl) rfl) ?_
              refine AOps.nil ?_
              refine AGo.ret ?_
              refine ⟨[_], ⟨rfl, trivial⟩, ?_, rfl⟩
              show AV.bool false = _
              rw [decide_eq_false (by rintro rfl; rw [hx] at hy; cases hy; simp_all)]
            · -- False
              refine AOps.s 60 rfl rfl rfl (q_fieldAddr tok rfl rfl rfl rfl rfl rfl) ?_
              refine AOps.s 61 rfl rfl rfl (q_load tok rfl rfl rfl (by first | exact .loc _ | exact .ptr _ _ _ _ _ _ _ _ rfl rfl rfl) rfl) ?_
              refine AOps.s 62 rfl rfl rfl (q_fieldAddr tok rfl rfl rfl rfl rfl rfl) ?_
              refine AOps.s 63 rfl rfl rfl (q_load tok rfl rfl rfl (by first | exact .loc _ | exact .ptr _ _ _ _ _ _ _ _ rfl rfl rfl) rfl) ?_
              refine AOps.s 64 rfl rfl rfl (q_bin rfl rfl rfl rfl) ?_
              refine AOps.s 65 rfl rfl rfl (q_pick_false false rfl rfl rfl rfl) ?_
              refine AOps.s 66 rfl rfl rfl (q_move (.inl rfl) rfl) ?_
              refine AOps.split 66 rfl (fun hb7 => ?_) (fun hb7 => ?_)
              · -- True
                refine AOps.k 67 rfl rfl rfl ?_
                refine AOps.k 68 rfl rfl rfl ?_
                refine AOps.k 69 rfl rfl rfl ?_
                refine AOps.k 70 rfl rfl rfl ?_
                refine AOps.k 71 rfl rfl rfl ?_
                refine AOps.k 72 rfl rfl rfl ?_
                refine AOps.k 73 rfl rfl rfl ?_
                refine AOps.s 74 rfl rfl rfl (q_pick_true true rfl rfl rfl rfl) ?_
                refine AOps.nil ?_
                refine AGo.cond_true true rfl rfl ?_
                refine AGo.seq ?_
                refine AGo.region ?_
                refine AOps.s 4 rfl rfl rfl (q_move (.inr rfl) rfl) ?_
                refine AOps.nil ?_
                refine AGo.ret ?_
                refine ⟨[_], ⟨rfl, trivial⟩, ?_, rfl⟩
                show AV.bool false = _
                rw [decide_eq_false (by rintro rfl; rw [hx] at hy; cases hy; simp_all)]
              · -- False
                refine AOps.s 67 rfl rfl rfl (q_fieldAddr tok rfl rfl rfl rfl rfl rfl) ?_
                refine AOps.s 68 rfl rfl rfl (q_load tok rfl rfl rfl (by first | exact .loc _ | exact .ptr _ _ _ _ _ _ _ _ rfl rfl rfl) rfl) ?_
                refine AOps.s 69 rfl rfl rfl (q_len tok rfl rfl rfl rfl rfl) ?_
                refine AOps.s 70 rfl rfl rfl (q_fieldAddr tok rfl rfl rfl rfl rfl rfl) ?_
                refine AOps.s 71 rfl rfl rfl (q_load tok rfl rfl rfl (by first | exact .loc _ | exact .ptr _ _ _ _ _ _ _ _ rfl rfl rfl) rfl) ?_
                refine AOps.s 72 rfl rfl rfl (q_len tok rfl rfl rfl rfl rfl) ?_
                refine AOps.s 73 rfl rfl rfl (q_bin rfl rfl rfl rfl) ?_
                refine AOps.s 74 rfl rfl rfl (q_pick_false false rfl rfl rfl rfl) ?_
                refine AOps.nil ?_
                refine AGo.split 74 rfl (fun hb8 => ?_) (fun hb8 => ?_)
                · -- True
                  refine AGo.cond_true true rfl rfl ?_
                  refine AGo.seq ?_
                  refine AGo.region ?_
                  refine AOps.s 4 rfl rfl rfl (q_move (.inr rfl) rfl) ?_
                  refine AOps.nil ?_
                  refine AGo.ret ?_
                  refine ⟨[_], ⟨rfl, trivial⟩, ?_, rfl⟩
                  show AV.bool false = _
                  rw [decide_eq_false (by rintro rfl; rw [hx] at hy; cases hy; simp_all)]
                · -- False
                  refine AGo.cond_false false rfl rfl ?_
                  refine AGo.skip ?_
                  refine AGo.seq ?_
                  refine AGo.region ?_
                  refine AOps.s 8 rfl rfl rfl (q_move (.inr rfl) rfl) ?_
                  refine AOps.nil ?_
                  refine AGo.block ?_
                  refine AGo.loopD (γ := Nat) 4 (fun j => ⟨93, (eput (eput (eput (eput (eput (eput eNew 2 (.ptr 0 1 0 0)) 3 (.ptr 1 1 0 0)) 5 (.int .i64 (k : Int))) 6 (.ptr 2 1 0 0)) 7 (.ptr 3 1 0 0)) 8 (.int .i64 (j : Int))), (hput (hput (hput (hput (hFrom 4) 0 (.row false 2 [BFunc.cells f])) 1 (.row false 2 [BFunc.cells g])) 2 (.row false 5 [x.cells])) 3 (.row false 5 [y.cells]))⟩) (fun j => j ≤ x.ins.length ∧ x.ins.length = y.ins.length ∧ x.ins.take j = y.ins.take j) (fun j => x.ins.length - j) 0 (Sub.mk' (by repeat (first | exact ESub.new _ | refine ESub.put ?_ (by rfl))) (by repeat (first | exact HSub.none _ | exact HSub.from_new _ | exact HSub.from_from (by decide) | refine HSub.put ?_ (by rfl) | refine HSub.from_put ?_ (by decide) | refine HSub.from_rm ?_ (by decide)))) ⟨Nat.zero_le _, by have h := hb8; simp at h; omega, rfl⟩ (fun _ => hput_free (hput_free (hput_free (hput_free (fun b hb => hFrom_free hb) rfl) rfl) rfl) rfl) ?_
                  intro j ⟨hj, hjl, hjt⟩
                  refine AGo.seq ?_
                  refine AGo.seq ?_
                  refine AGo.region ?_
                  refine AOps.s 75 rfl rfl rfl (q_move (.inl rfl) rfl) ?_
                  refine AOps.s 76 rfl rfl rfl (q_fieldAddr tok rfl rfl rfl rfl rfl rfl) ?_
                  refine AOps.s 77 rfl rfl rfl (q_load tok rfl rfl rfl (by first | exact .loc _ | exact .ptr _ _ _ _ _ _ _ _ rfl rfl rfl) rfl) ?_
                  refine AOps.s 78 rfl rfl rfl (q_len tok rfl rfl rfl rfl rfl) ?_
                  refine AOps.s 79 rfl rfl rfl (q_bin rfl rfl rfl rfl) ?_
                  refine AOps.nil ?_
                  refine AGo.split 79 rfl (fun hb9 => ?_) (fun hb9 => ?_)
                  · -- True
                    refine AGo.cond_true true rfl rfl ?_
                    have hjk : j < x.ins.length := lt_of_idx hb9
                    obtain ⟨u, hu⟩ := get_of_lt hjk
                    obtain ⟨v, hv⟩ := get_of_lt (l := y.ins) (k := j) (by omega)
                    refine AGo.skip ?_
                    refine AGo.seq ?_
                    refine AGo.block ?_
                    refine AGo.seq ?_
                    refine AGo.draw mix ?_
                    refine DOps.s 82 rfl rfl rfl (q_fieldAddr tok rfl rfl rfl rfl rfl rfl) ?_
                    refine DOps.s 83 rfl rfl rfl (q_load tok rfl rfl rfl (by first | exact .loc _ | exact .ptr _ _ _ _ _ _ _ _ rfl rfl rfl) rfl) ?_
                    refine DOps.s 84 rfl rfl rfl (q_move (.inl rfl) rfl) ?_
                    refine DOps.s 85 rfl rfl rfl (q_index_lst tok rfl rfl rfl rfl rfl rfl (Int.natCast_nonneg _) (idx_map (by assumption)) rfl) ?_
                    refine DOps.s 86 rfl rfl rfl (q_load tok rfl rfl rfl (by first | exact .loc _ | exact .ptr _ _ _ _ _ _ _ _ rfl rfl rfl) rfl) ?_
                    refine DOps.s 87 rfl rfl rfl (q_fieldAddr tok rfl rfl rfl rfl rfl rfl) ?_
                    refine DOps.s 88 rfl rfl rfl (q_load tok rfl rfl rfl (by first | exact .loc _ | exact .ptr _ _ _ _ _ _ _ _ rfl rfl rfl) rfl) ?_
                    refine DOps.s 89 rfl rfl rfl (q_move (.inl rfl) rfl) ?_
                    refine DOps.s 90 rfl rfl rfl (q_index_lst tok rfl rfl rfl rfl rfl rfl (Int.natCast_nonneg _) (idx_map (by assumption)) rfl) ?_
                    refine DOps.s 91 rfl rfl rfl (q_load tok rfl rfl rfl (by first | exact .loc _ | exact .ptr _ _ _ _ _ _ _ _ rfl rfl rfl) rfl) ?_
                    refine DOps.s 92 rfl rfl rfl (q_eqStruct tok true rfl rfl rfl (by kernel_rfl) rfl rfl rfl rfl rfl) ?_
                    refine DOps.nil (by kernel_rfl) ?_
                    refine AGo.split 92 rfl (fun hb10 => ?_) (fun hb10 => ?_)
                    · -- True
                      refine AGo.cond_true true rfl rfl ?_
                      refine AGo.seq ?_
                      refine AGo.region ?_
                      refine AOps.s 4 rfl rfl rfl (q_move (.inr rfl) rfl) ?_
                      refine AOps.nil ?_
                      refine AGo.ret ?_
                      refine ⟨[_], ⟨rfl, trivial⟩, ?_, rfl⟩
                      show AV.bool false = _
                      rw [decide_eq_false (by rintro rfl; rw [hx] at hy; cases hy; rw [hu] at hv; cases hv; simp_all)]
                    · -- False
                      refine AGo.cond_false false rfl rfl ?_
                      have huv : u = v := by cases u; cases v; simpa using hb10
                      refine AGo.skip ?_
                      refine AGo.region ?_
                      refine AOps.s 80 rfl rfl rfl (q_move (.inl rfl) rfl) ?_
                      refine AOps.s 81 rfl rfl rfl (q_inc rfl rfl hjk (hfit.2 x (List.mem_of_getElem? hx))) ?_
                      refine AOps.s 8 rfl rfl rfl (q_move (.inr rfl) rfl) ?_
                      refine AOps.nil ?_
                      exact ⟨j+1, Drop.mk' (by repeat (first | exact EDrop.new _ _ | refine EDrop.put ?_ (by rfl) rfl)) (by repeat (first | exact HDrop.none _ _ | exact HDrop.tail _ _ | refine HDrop.put ?_ (by rfl) rfl rfl)), ⟨hjk, hjl, by rw [take_succ_eq hu, take_succ_eq hv, hjt, huv]⟩, by omega⟩
                  · -- False
                    refine AGo.cond_false false rfl rfl ?_
                    have hge2 := ge_of_idx hb9
                    have hxy : x = y := by
                      have := take_all hjt hge2 (hjl ▸ hge2)
                      cases x; cases y; simp_all
                    refine AGo.exit ?_
                    refine AGo.region ?_
                    refine AOps.s 28 rfl rfl rfl (q_move (.inl rfl) rfl) ?_
                    refine AOps.s 29 rfl rfl rfl (q_inc rfl rfl hkl hfit.1) ?_
                    refine AOps.s 5 rfl rfl rfl (q_move (.inr rfl) rfl) ?_
                    refine AOps.nil ?_
                    exact ⟨k+1, Drop.mk' (by repeat (first | exact EDrop.new _ _ | refine EDrop.put ?_ (by rfl) rfl)) (by repeat (first | exact HDrop.none _ _ | exact HDrop.tail _ _ | refine HDrop.put ?_ (by rfl) rfl rfl)), ⟨hkl, hr, hl, by rw [take_succ_eq hx, take_succ_eq hy, ht, hxy]⟩, by omega⟩
      · -- False
        refine AGo.cond_false false rfl rfl ?_
        have hge := ge_of_idx hb3
        refine AGo.exit ?_
        refine AGo.seq ?_
        refine AGo.region ?_
        refine AOps.s 4 rfl rfl rfl (q_move (.inr rfl) rfl) ?_
        refine AOps.nil ?_
        refine AGo.ret ?_
        refine ⟨[_], ⟨rfl, trivial⟩, ?_, rfl⟩
        show AV.bool true = _
        rw [decide_eq_true (BFunc.ext' hr (take_all ht hge (hl ▸ hge)))]

set_option maxRecDepth 100000 in
theorem small_ok (b : Blocks) (most : Int) (htight : b.tight) : APure Try.prog 12 [.agg b.cells, .int .i64 most] (fun r => r = .bool (b.small most)) := by
  refine APure.of_body (n := 73) tok Try.func12 rfl rfl ?_
  refine AGo.seq ?_
  refine AGo.slot 0 rfl (fun H ι v => rel_prog) (fun hfit => ?_)
  refine AGo.region ?_
  refine AOps.x 2 rfl rfl rfl (o_box (sz := 2) 0 rfl rfl rfl rfl (Nat.zero_lt_succ _) rfl) ?_
  refine AOps.s 4 rfl rfl rfl (q_move (.inr rfl) rfl) ?_
  refine AOps.nil ?_
  refine AGo.seq ?_
  refine AGo.region ?_
  refine AOps.s 5 rfl rfl rfl (q_move (.inr rfl) rfl) ?_
  refine AOps.nil ?_
  refine AGo.seq ?_
  refine AGo.seq ?_
  refine AGo.region ?_
  refine AOps.s 8 rfl rfl rfl (q_fieldAddr tok rfl rfl rfl rfl rfl rfl) ?_
  refine AOps.s 9 rfl rfl rfl (q_load tok rfl rfl rfl (by first | exact .loc _ | exact .ptr _ _ _ _ _ _ _ _ rfl rfl rfl) rfl) ?_
  refine AOps.s 10 rfl rfl rfl (q_bin rfl rfl rfl rfl) ?_
  refine AOps.s 11 rfl rfl rfl (q_move (.inl rfl) rfl) ?_
  refine AOps.split 11 rfl (fun hb1 => ?_) (fun hb1 => ?_)
  · -- True
    refine AOps.k 12 rfl rfl rfl ?_
    refine AOps.k 13 rfl rfl rfl ?_
    refine AOps.k 14 rfl rfl rfl ?_
    refine AOps.k 15 rfl rfl rfl ?_
    refine AOps.s 16 rfl rfl rfl (q_pick_true true rfl rfl rfl rfl) ?_
    refine AOps.nil ?_
    refine AGo.cond_true true rfl rfl ?_
    refine AGo.seq ?_
    refine AGo.region ?_
    refine AOps.s 4 rfl rfl rfl (q_move (.inr rfl) rfl) ?_
    refine AOps.nil ?_
    refine AGo.ret ?_
    refine ⟨[_], ⟨rfl, trivial⟩, ?_, rfl⟩
    show AV.bool _ = AV.bool _
    congr 1
    exact (small_bad1 (by simp_all <;> omega)).symm
  · -- False
    refine AOps.s 12 rfl rfl rfl (q_fieldAddr tok rfl rfl rfl rfl rfl rfl) ?_
    refine AOps.s 13 rfl rfl rfl (q_load tok rfl rfl rfl (by first | exact .loc _ | exact .ptr _ _ _ _ _ _ _ _ rfl rfl rfl) rfl) ?_
    refine AOps.s 14 rfl rfl rfl (q_len tok rfl rfl rfl rfl rfl) ?_
    refine AOps.s 15 rfl rfl rfl (q_bin rfl rfl rfl rfl) ?_
    refine AOps.s 16 rfl rfl rfl (q_pick_false false rfl rfl rfl rfl) ?_
    refine AOps.nil ?_
    refine AGo.split 16 rfl (fun hb2 => ?_) (fun hb2 => ?_)
    · -- True
      refine AGo.cond_true true rfl rfl ?_
      refine AGo.seq ?_
      refine AGo.region ?_
      refine AOps.s 4 rfl rfl rfl (q_move (.inr rfl) rfl) ?_
      refine AOps.nil ?_
      refine AGo.ret ?_
      refine ⟨[_], ⟨rfl, trivial⟩, ?_, rfl⟩
      show AV.bool _ = AV.bool _
      congr 1
      exact (small_bad1 (by simp_all <;> omega)).symm
    · -- False
      refine AGo.cond_false false rfl rfl ?_
      have h0 : b.words ≤ 500 ∧ b.funcs.length ≤ 10 := by simp_all <;> omega
      refine AGo.skip ?_
      refine AGo.seq ?_
      refine AGo.seq ?_
      refine AGo.region ?_
      refine AOps.s 6 rfl rfl rfl (q_move (.inr rfl) rfl) ?_
      refine AOps.nil ?_
      refine AGo.block ?_
      refine AGo.loopD (γ := Nat) 1 (fun k => ⟨73, (eput (eput (eput (eput eNew 1 (.int .i64 most)) 2 (.ptr 0 1 0 0)) 5 (.int .i64 ((((b.funcs.take k).map BFunc.count).sum : Nat) : Int))) 6 (.int .i64 (k : Int))), (hput (hFrom 1) 0 (.row false 2 [b.cells]))⟩) (fun k => (b.funcs.take k).all BFunc.low = true) (fun k => b.funcs.length - k) 0 (Sub.mk' (by repeat (first | exact ESub.new _ | refine ESub.put ?_ (by rfl))) (by repeat (first | exact HSub.none _ | exact HSub.from_new _ | exact HSub.from_from (by decide) | refine HSub.put ?_ (by rfl) | refine HSub.from_put ?_ (by decide) | refine HSub.from_rm ?_ (by decide)))) rfl (fun _ => hput_free (fun b hb => hFrom_free hb) rfl) ?_
      intro k hk
      refine AGo.seq ?_
      refine AGo.seq ?_
      refine AGo.region ?_
      refine AOps.s 17 rfl rfl rfl (q_move (.inl rfl) rfl) ?_
      refine AOps.s 18 rfl rfl rfl (q_fieldAddr tok rfl rfl rfl rfl rfl rfl) ?_
      refine AOps.s 19 rfl rfl rfl (q_load tok rfl rfl rfl (by first | exact .loc _ | exact .ptr _ _ _ _ _ _ _ _ rfl rfl rfl) rfl) ?_
      refine AOps.s 20 rfl rfl rfl (q_len tok rfl rfl rfl rfl rfl) ?_
      refine AOps.s 21 rfl rfl rfl (q_bin rfl rfl rfl rfl) ?_
      refine AOps.nil ?_
      refine AGo.split 21 rfl (fun hb3 => ?_) (fun hb3 => ?_)
      · -- True
        refine AGo.cond_true true rfl rfl ?_
        have hkl : k < b.funcs.length := lt_of_idx hb3
        obtain ⟨f, hx⟩ := get_of_lt hkl
        refine AGo.skip ?_
        refine AGo.seq ?_
        refine AGo.block ?_
        refine AGo.seq ?_
        refine AGo.seq ?_
        refine AGo.region ?_
        refine AOps.s 24 rfl rfl rfl (q_fieldAddr tok rfl rfl rfl rfl rfl rfl) ?_
        refine AOps.s 25 rfl rfl rfl (q_load tok rfl rfl rfl (by first | exact .loc _ | exact .ptr _ _ _ _ _ _ _ _ rfl rfl rfl) rfl) ?_
        refine AOps.s 26 rfl rfl rfl (q_move (.inl rfl) rfl) ?_
        refine AOps.s 27 rfl rfl rfl (q_index_lst tok rfl rfl rfl rfl rfl rfl (Int.natCast_nonneg _) (idx_map (by assumption)) rfl) ?_
        refine AOps.s 28 rfl rfl rfl (q_fieldAddr tok rfl rfl rfl rfl rfl rfl) ?_
        refine AOps.s 29 rfl rfl rfl (q_load tok rfl rfl rfl (by first | exact .loc _ | exact .ptr _ _ _ _ _ _ _ _ rfl rfl rfl) rfl) ?_
        refine AOps.s 30 rfl rfl rfl (q_bin rfl rfl rfl rfl) ?_
        refine AOps.s 31 rfl rfl rfl (q_move (.inl rfl) rfl) ?_
        refine AOps.split 31 rfl (fun hb4 => ?_) (fun hb4 => ?_)
        · -- True
          refine AOps.k 32 rfl rfl rfl ?_
          refine AOps.k 33 rfl rfl rfl ?_
          refine AOps.k 34 rfl rfl rfl ?_
          refine AOps.k 35 rfl rfl rfl ?_
          refine AOps.k 36 rfl rfl rfl ?_
          refine AOps.k 37 rfl rfl rfl ?_
          refine AOps.k 38 rfl rfl rfl ?_
          refine AOps.k 39 rfl rfl rfl ?_
          refine AOps.s 40 rfl rfl rfl (q_pick_true true rfl rfl rfl rfl) ?_
          refine AOps.nil ?_
          refine AGo.cond_true true rfl rfl ?_
          refine AGo.seq ?_
          refine AGo.region ?_
          refine AOps.s 4 rfl rfl rfl (q_move (.inr rfl) rfl) ?_
          refine AOps.nil ?_
          refine AGo.ret ?_
          refine ⟨[_], ⟨rfl, trivial⟩, ?_, rfl⟩
          show AV.bool _ = AV.bool _
          congr 1
          exact (small_bad2 (all_bad hx (by simp [BFunc.low] at *; omega))).symm
        · -- False
          refine AOps.s 32 rfl rfl rfl (q_fieldAddr tok rfl rfl rfl rfl rfl rfl) ?_
          refine AOps.s 33 rfl rfl rfl (q_load tok rfl rfl rfl (by first | exact .loc _ | exact .ptr _ _ _ _ _ _ _ _ rfl rfl rfl) rfl) ?_
          refine AOps.s 34 rfl rfl rfl (q_move (.inl rfl) rfl) ?_
          refine AOps.s 35 rfl rfl rfl (q_index_lst tok rfl rfl rfl rfl rfl rfl (Int.natCast_nonneg _) (idx_map (by assumption)) rfl) ?_
          refine AOps.s 36 rfl rfl rfl (q_fieldAddr tok rfl rfl rfl rfl rfl rfl) ?_
          refine AOps.s 37 rfl rfl rfl (q_load tok rfl rfl rfl (by first | exact .loc _ | exact .ptr _ _ _ _ _ _ _ _ rfl rfl rfl) rfl) ?_
          refine AOps.s 38 rfl rfl rfl (q_len tok rfl rfl rfl rfl rfl) ?_
          refine AOps.s 39 rfl rfl rfl (q_bin rfl rfl rfl rfl) ?_
          refine AOps.s 40 rfl rfl rfl (q_pick_false false rfl rfl rfl rfl) ?_
          refine AOps.nil ?_
          refine AGo.split 40 rfl (fun hb5 => ?_) (fun hb5 => ?_)
          · -- True
            refine AGo.cond_true true rfl rfl ?_
            refine AGo.seq ?_
            refine AGo.region ?_
            refine AOps.s 4 rfl rfl rfl (q_move (.inr rfl) rfl) ?_
            refine AOps.nil ?_
            refine AGo.ret ?_
            refine ⟨[_], ⟨rfl, trivial⟩, ?_, rfl⟩
            show AV.bool _ = AV.bool _
            congr 1
            exact (small_bad2 (all_bad hx (by simp [BFunc.low] at *; omega))).symm
          · -- False
            refine AGo.cond_false false rfl rfl ?_
            have hlow : BFunc.low f = true := by simp [BFunc.low] at *; omega
            have hlow2 : f.blocks.length ≤ 40 := by simp [BFunc.low] at hlow; omega
            have hn1 := counts_le (l := b.funcs.take k) (m := 10) (fun x hx => htight x (List.mem_of_mem_take hx)) hk (by rw [List.length_take]; omega)
            refine AGo.skip ?_
            refine AGo.seq ?_
            refine AGo.region ?_
            refine AOps.s 7 rfl rfl rfl (q_move (.inr rfl) rfl) ?_
            refine AOps.nil ?_
            refine AGo.block ?_
            refine AGo.loopD (γ := Nat) 1 (fun j => ⟨73, (eput (eput (eput (eput (eput eNew 1 (.int .i64 most)) 2 (.ptr 0 1 0 0)) 5 (.int .i64 ((((b.funcs.take k).map BFunc.count).sum + ((f.blocks.take j).map Block.count).sum : Nat) : Int))) 6 (.int .i64 (k : Int))) 7 (.int .i64 (j : Int))), (hput (hFrom 1) 0 (.row false 2 [b.cells]))⟩) (fun j => True) (fun j => f.blocks.length - j) 0 (Sub.mk' (by repeat (first | exact ESub.new _ | refine ESub.put ?_ (by rfl))) (by repeat (first | exact HSub.none _ | exact HSub.from_new _ | exact HSub.from_from (by decide) | refine HSub.put ?_ (by rfl) | refine HSub.from_put ?_ (by decide) | refine HSub.from_rm ?_ (by decide)))) trivial (fun _ => hput_free (fun b hb => hFrom_free hb) rfl) ?_
            intro j _
            refine AGo.seq ?_
            refine AGo.seq ?_
            refine AGo.region ?_
            refine AOps.s 41 rfl rfl rfl (q_move (.inl rfl) rfl) ?_
            refine AOps.s 42 rfl rfl rfl (q_fieldAddr tok rfl rfl rfl rfl rfl rfl) ?_
            refine AOps.s 43 rfl rfl rfl (q_load tok rfl rfl rfl (by first | exact .loc _ | exact .ptr _ _ _ _ _ _ _ _ rfl rfl rfl) rfl) ?_
            refine AOps.s 44 rfl rfl rfl (q_move (.inl rfl) rfl) ?_
            refine AOps.s 45 rfl rfl rfl (q_index_lst tok rfl rfl rfl rfl rfl rfl (Int.natCast_nonneg _) (idx_map (by assumption)) rfl) ?_
            refine AOps.s 46 rfl rfl rfl (q_fieldAddr tok rfl rfl rfl rfl rfl rfl) ?_
            refine AOps.s 47 rfl rfl rfl (q_load tok rfl rfl rfl (by first | exact .loc _ | exact .ptr _ _ _ _ _ _ _ _ rfl rfl rfl) rfl) ?_
            refine AOps.s 48 rfl rfl rfl (q_len tok rfl rfl rfl rfl rfl) ?_
            refine AOps.s 49 rfl rfl rfl (q_bin rfl rfl rfl rfl) ?_
            refine AOps.nil ?_
            refine AGo.split 49 rfl (fun hb6 => ?_) (fun hb6 => ?_)
            · -- True
              refine AGo.cond_true true rfl rfl ?_
              have hjk : j < f.blocks.length := lt_of_idx hb6
              obtain ⟨x, hj⟩ := get_of_lt hjk
              have hn2 := count_le (l := f.blocks.take j) (m := 40) (fun y hy => htight f (List.mem_of_getElem? hx) y (List.mem_of_mem_take hy)) (by rw [List.length_take]; omega)
              refine AGo.skip ?_
              refine AGo.seq ?_
              refine AGo.block ?_
              refine AGo.region ?_
              refine AOps.s 52 rfl rfl rfl (q_move (.inl rfl) rfl) ?_
              refine AOps.s 53 rfl rfl rfl (q_bin rfl rfl rfl rfl) ?_
              refine AOps.s 54 rfl rfl rfl (q_fieldAddr tok rfl rfl rfl rfl rfl rfl) ?_
              refine AOps.s 55 rfl rfl rfl (q_load tok rfl rfl rfl (by first | exact .loc _ | exact .ptr _ _ _ _ _ _ _ _ rfl rfl rfl) rfl) ?_
              refine AOps.s 56 rfl rfl rfl (q_move (.inl rfl) rfl) ?_
              refine AOps.s 57 rfl rfl rfl (q_index_lst tok rfl rfl rfl rfl rfl rfl (Int.natCast_nonneg _) (idx_map (by assumption)) rfl) ?_
              refine AOps.s 58 rfl rfl rfl (q_fieldAddr tok rfl rfl rfl rfl rfl rfl) ?_
              refine AOps.s 59 rfl rfl rfl (q_load tok rfl rfl rfl (by first | exact .loc _ | exact .ptr _ _ _ _ _ _ _ _ rfl rfl rfl) rfl) ?_
              refine AOps.s 60 rfl rfl rfl (q_move (.inl rfl) rfl) ?_
              refine AOps.s 61 rfl rfl rfl (q_index_lst tok rfl rfl rfl rfl rfl rfl (Int.natCast_nonneg _) (idx_map (by assumption)) rfl) ?_
              refine AOps.s 62 rfl rfl rfl (q_fieldAddr tok rfl rfl rfl rfl rfl rfl) ?_
              refine AOps.s 63 rfl rfl rfl (q_load tok rfl rfl rfl (by first | exact .loc _ | exact .ptr _ _ _ _ _ _ _ _ rfl rfl rfl) rfl) ?_
              refine AOps.s 64 rfl rfl rfl (q_len tok rfl rfl rfl rfl rfl) ?_
              refine AOps.s 65 rfl rfl rfl (q_bin (r := .int .i64 ((((b.funcs.take k).map BFunc.count).sum + ((f.blocks.take (j + 1)).map Block.count).sum : Nat) : Int)) rfl rfl rfl (by rw [sum_succ hj, show x.count = 1 + (List.map Tac.cells x.ins).length by rw [List.length_map]; rfl]; exact count_step hn1 hn2 (show List.length (List.map Tac.cells x.ins) ≤ big by rw [List.length_map]; exact htight f (List.mem_of_getElem? hx) x (List.mem_of_getElem? hj)))) ?_
              refine AOps.s 5 rfl rfl rfl (q_move (.inr rfl) rfl) ?_
              refine AOps.nil ?_
              refine AGo.region ?_
              refine AOps.s 50 rfl rfl rfl (q_move (.inl rfl) rfl) ?_
              refine AOps.s 51 rfl rfl rfl (q_inc rfl rfl hjk (hfit.2 f (List.mem_of_getElem? hx)).1) ?_
              refine AOps.s 7 rfl rfl rfl (q_move (.inr rfl) rfl) ?_
              refine AOps.nil ?_
              exact ⟨j+1, Drop.mk' (by repeat (first | exact EDrop.new _ _ | refine EDrop.put ?_ (by rfl) rfl)) (by repeat (first | exact HDrop.none _ _ | exact HDrop.tail _ _ | refine HDrop.put ?_ (by rfl) rfl rfl)), trivial, by omega⟩
            · -- False
              refine AGo.cond_false false rfl rfl ?_
              have hge2 := ge_of_idx hb6
              refine AGo.exit ?_
              refine AGo.region ?_
              refine AOps.s 22 rfl rfl rfl (q_move (.inl rfl) rfl) ?_
              refine AOps.s 23 rfl rfl rfl (q_inc rfl rfl hkl hfit.1) ?_
              refine AOps.s 6 rfl rfl rfl (q_move (.inr rfl) rfl) ?_
              refine AOps.nil ?_
              exact ⟨k+1, Drop.mk' (by repeat (first | exact EDrop.new _ _ | refine EDrop.put ?_ (by first | rfl | exact congrArg (fun (z : Nat) => some (AV.int .i64 (z : Int))) (by rw [sum_succ hx, BFunc.count, sum_end (p := Block.count) hge2])) rfl)) (by repeat (first | exact HDrop.none _ _ | exact HDrop.tail _ _ | refine HDrop.put ?_ (by rfl) rfl rfl)), all_succ hx hk hlow, by omega⟩
      · -- False
        refine AGo.cond_false false rfl rfl ?_
        have hge := ge_of_idx hb3
        have hall := all_end hk hge
        refine AGo.exit ?_
        refine AGo.seq ?_
        rw [show ((b.funcs.take k).map BFunc.count).sum = b.count from sum_end hge]
        refine AGo.region ?_
        refine AOps.s 66 rfl rfl rfl (q_move (.inl rfl) rfl) ?_
        refine AOps.s 67 rfl rfl rfl (q_move (.inl rfl) rfl) ?_
        refine AOps.s 68 rfl rfl rfl (q_bin rfl rfl rfl rfl) ?_
        refine AOps.s 69 rfl rfl rfl (q_move (.inl rfl) rfl) ?_
        refine AOps.split 69 rfl (fun hb7 => ?_) (fun hb7 => ?_)
        · -- True
          refine AOps.s 70 rfl rfl rfl (q_load tok rfl rfl rfl (by first | exact .loc _ | exact .ptr _ _ _ _ _ _ _ _ rfl rfl rfl) rfl) ?_
          refine AOps.x 71 rfl rfl rfl (o_pure rfl Try.func22 (by kernel_rfl) rfl rfl rfl (right_ok _)) ?_
          refine AOps.s 72 rfl rfl rfl (q_pick_true true rfl rfl rfl rfl) ?_
          refine AOps.s 4 rfl rfl rfl (q_move (.inr rfl) rfl) ?_
          refine AOps.nil ?_
          refine AGo.ret ?_
          refine ⟨[_], ⟨rfl, trivial⟩, ?_, rfl⟩
          show AV.bool _ = AV.bool _
          congr 1
          rw [small_all h0.1 h0.2 hall]
          first | (simp_all; done) | (simp_all; omega)
        · -- False
          refine AOps.k 70 rfl rfl rfl ?_
          refine AOps.k 71 rfl rfl rfl ?_
          refine AOps.s 72 rfl rfl rfl (q_pick_false false rfl rfl rfl rfl) ?_
          refine AOps.s 4 rfl rfl rfl (q_move (.inr rfl) rfl) ?_
          refine AOps.nil ?_
          refine AGo.ret ?_
          refine ⟨[_], ⟨rfl, trivial⟩, ?_, rfl⟩
          show AV.bool _ = AV.bool _
          congr 1
          rw [small_all h0.1 h0.2 hall]
          first | (simp_all; done) | (simp_all; omega)

end Go.Proofs.Ytidfabbnobipkaa.Sv
