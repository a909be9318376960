/-
  WALKS: printed by a program of our own from the code's tree.
-/
import Derived.Test.YtidfabbnobipkaaSp32
import Derived.Test.YtidfabbnobipkaaLw5
import Derived.Test.YtidfabbnobipkaaSw14
namespace Go.Proofs.Ytidfabbnobipkaa.Sv
open Go
set_option linter.unusedVariables false
set_option linter.unusedSimpArgs false

set_option maxRecDepth 100000 in
theorem put_ok (b : Blocks) (f : BFunc) (h0 : 0 < b.funcs.length) (h1 : b.funcs.length ≤ 1000) : APure Try.prog 21 [.agg b.cells, .agg f.cells] (fun r => r = .agg (b.put f).cells) := by
  refine APure.of_body (n := 22) tok Try.func21 rfl rfl ?_
  refine AGo.seq ?_
  refine AGo.region ?_
  refine AOps.x 2 rfl rfl rfl (o_box (sz := 2) 0 rfl rfl rfl rfl (Nat.zero_lt_succ _) rfl) ?_
  refine AOps.x 3 rfl rfl rfl (o_box (sz := 2) 1 rfl rfl rfl rfl (Nat.zero_lt_succ _) rfl) ?_
  refine AOps.x 4 rfl rfl rfl (o_alloc tok 2 rfl rfl rfl rfl (Nat.zero_lt_succ _) rfl) ?_
  refine AOps.nil ?_
  refine AGo.seq ?_
  refine AGo.draw mix ?_
  refine DOps.s 6 rfl rfl rfl (q_fieldAddr tok rfl rfl rfl rfl rfl rfl) ?_
  refine DOps.s 7 rfl rfl rfl (q_load tok rfl rfl rfl (by first | exact .loc _ | exact .ptr _ _ _ _ _ _ _ _ rfl rfl rfl) rfl) ?_
  refine DOps.x 8 rfl rfl rfl (o_litRow tok 3 false rfl rfl rfl rfl rfl rfl (by decide) rfl rfl rfl rfl (by first | exact fun _ => rfl | (intro h; cases h)) rfl rfl) ?_
  refine DOps.s 9 rfl rfl rfl (q_fieldAddr tok rfl rfl rfl rfl rfl rfl) ?_
  refine DOps.s 10 rfl rfl rfl (q_load tok rfl rfl rfl (by first | exact .loc _ | exact .ptr _ _ _ _ _ _ _ _ rfl rfl rfl) rfl) ?_
  refine DOps.x 11 rfl rfl rfl (o_append tok (n := 0) (m := b.funcs.length) (es := []) rfl rfl rfl rfl rfl rfl rfl rfl rfl rfl rfl rfl (Nat.zero_lt_succ _) (.lst _ _) (by intro cs h; simp at h; obtain ⟨v, _, rfl⟩ := h; rfl) (fun h => by cases h) (by simp) (by simp; show _ * 32 ≤ _; omega) (by simp; simp only [maxLen]; omega)) ?_
  refine DOps.s 12 rfl rfl rfl (q_build tok rfl rfl rfl rfl rfl (by decide) rfl rfl rfl) ?_
  refine DOps.x 5 rfl rfl rfl (o_alloc tok 4 rfl rfl rfl rfl (Nat.zero_lt_succ _) rfl) ?_
  refine DOps.w rfl rfl (o_store tok rfl rfl rfl rfl rfl rfl rfl rfl rfl (by decide) rfl (by first | exact fun _ => rfl | (intro h; cases h))) ?_
  refine DOps.nil (by kernel_rfl) ?_
  refine AGo.seq ?_
  refine AGo.region ?_
  obtain ⟨lo, hlo⟩ := get_of_lt (l := b.funcs.map BFunc.cells) (k := (b.funcs.length - 1)) (by simp; omega)
  have hlen : lo.length = 2 := by rw [List.getElem?_map, Option.map_eq_some_iff] at hlo; obtain ⟨g, _, e⟩ := hlo; rw [← e]; rfl
  obtain ⟨a0, a1, rfl⟩ : ∃ a0 a1, lo = [a0, a1] := by match lo, hlen with | [a0, a1], _ => exact ⟨a0, a1, rfl⟩
  have hlc : (b.funcs.map BFunc.cells)[0 + (((b.funcs.length - 1) : Nat) : Int).toNat]? = some [a0, a1] := by rw [Nat.zero_add, Int.toNat_natCast]; exact hlo
  refine AOps.s 13 rfl rfl rfl (q_fieldAddr tok rfl rfl rfl rfl rfl rfl) ?_
  refine AOps.s 14 rfl rfl rfl (q_load tok rfl rfl rfl (by first | exact .loc _ | exact .ptr _ _ _ _ _ _ _ _ rfl rfl rfl) rfl) ?_
  refine AOps.s 15 rfl rfl rfl (q_fieldAddr tok rfl rfl rfl rfl rfl rfl) ?_
  refine AOps.s 16 rfl rfl rfl (q_load tok rfl rfl rfl (by first | exact .loc _ | exact .ptr _ _ _ _ _ _ _ _ rfl rfl rfl) rfl) ?_
  refine AOps.s 17 rfl rfl rfl (q_len tok rfl rfl rfl rfl rfl) ?_
  refine AOps.s 18 rfl rfl rfl (q_bin (r := .int .i64 (((b.funcs.length - 1) : Nat) : Int)) rfl rfl rfl (by rw [Nat.zero_add]; exact len_pred h0 (by omega))) ?_
  refine AOps.s 19 rfl rfl rfl (q_load tok rfl rfl rfl (by first | exact .loc _ | exact .ptr _ _ _ _ _ _ _ _ rfl rfl rfl) rfl) ?_
  refine AOps.s 20 rfl rfl rfl (q_index_ref tok rfl rfl rfl rfl rfl rfl rfl (by simp) rfl (Int.natCast_nonneg _) (by omega)) ?_
  refine AOps.w rfl rfl (o_store tok rfl rfl rfl rfl rfl rfl (by simp) hlc rfl (by decide) rfl (by first | exact fun _ => rfl | (intro h; cases h))) ?_
  refine AOps.nil ?_
  refine AGo.seq ?_
  refine AGo.sub (s' := ⟨22, (eput (eput eNew 4 (.ptr 2 1 0 0)) 5 (.ptr 4 1 0 0)), (hput (hput (hput hNone 2 (.row false 2 [[.int .i64 0, .nil]])) 3 (.row false 2 ((b.put f).funcs.map BFunc.cells))) 4 (.row false 2 [[.int .i64 b.words, .ref 3 (0 + b.funcs.length) 0 (0 + b.funcs.length)]]))⟩) (Sub.mk' (by repeat (first | exact ESub.new _ | refine ESub.put ?_ (by rfl))) (by repeat (first | exact HSub.none _ | exact HSub.from_new _ | exact HSub.from_from (by decide) | refine HSub.put ?_ (by first | rfl | exact congrArg (fun es => some (AObj.row false 2 es)) (by rw [← put_cells, Nat.zero_add, Int.toNat_natCast]; rfl)) | refine HSub.from_put ?_ (by decide) | refine HSub.from_rm ?_ (by decide)))) ?_
  refine AGo.ghost (Ghost.plain 3 rfl (by intro cs h; simp at h; obtain ⟨v, _, rfl⟩ := h; rfl)) ?_
  refine AGo.ghost (.freezeCell 4 0 1 3 rfl rfl rfl rfl (by simp [Blocks.put]) (by decide)) ?_
  refine AGo.region ?_
  refine AOps.s 21 rfl rfl rfl (q_load tok rfl rfl rfl (by first | exact .loc _ | exact .ptr _ _ _ _ _ _ _ _ rfl rfl rfl) rfl) ?_
  refine AOps.w rfl rfl (o_store tok rfl rfl rfl rfl rfl rfl rfl rfl rfl (by decide) rfl (by first | exact fun _ => rfl | (intro h; cases h))) ?_
  refine AOps.nil ?_
  refine AGo.ret ?_
  refine ⟨[_], ⟨⟨_, _, _, _, rfl, rfl, .ptr _ _ _ _ _ _ _ _ rfl rfl rfl, rfl⟩, trivial⟩, ?_, rfl⟩
  show AV.agg [_, .lst false _] = AV.agg [_, .lst false _]
  rw [List.drop_zero, List.take_of_length_le (by simp [Blocks.put])]
  rfl

set_option maxRecDepth 100000 in
theorem tidyTrue_ok (b : Blocks) (f : BFunc) (ps : List (List Int)) (s : ByteArray) (fuel : Int) (hb : b.Ok) (hf : f.Ok) (hp : pathsOk ps) (hfu : 0 ≤ fuel ∧ fuel ≤ 255) : APure Try.prog 6 [.agg (claimCells b f ps), .str s, .int .u8 fuel] (fun r => r = .bool true) := by
  refine APure.of_body (n := 94) tok Try.func6 rfl rfl ?_
  refine AGo.seq ?_
  refine AGo.region ?_
  refine AOps.x 3 rfl rfl rfl (o_box (sz := 5) 0 rfl rfl rfl rfl (Nat.zero_lt_succ _) rfl) ?_
  refine AOps.s 6 rfl rfl rfl (q_move (.inr rfl) rfl) ?_
  refine AOps.nil ?_
  refine AGo.seq ?_
  refine AGo.seq ?_
  refine AGo.region ?_
  refine AOps.x 10 rfl rfl rfl (o_pure rfl Try.func11 (by kernel_rfl) rfl rfl rfl (awake_ok)) ?_
  refine AOps.s 11 rfl rfl rfl (q_not rfl rfl) ?_
  refine AOps.nil ?_
  refine AGo.cond_false false rfl rfl ?_
  refine AGo.skip ?_
  refine AGo.seq ?_
  refine AGo.seq ?_
  refine AGo.draw mix ?_
  refine DOps.s 12 rfl rfl rfl (q_fieldAddr tok rfl rfl rfl rfl rfl rfl) ?_
  refine DOps.s 13 rfl rfl rfl (q_load tok rfl rfl rfl (by first | exact .loc _ | exact .ptr _ _ _ _ _ _ _ _ rfl rfl rfl) rfl) ?_
  refine DOps.x 14 rfl rfl rfl (o_pure rfl Try.func12 (by kernel_rfl) rfl rfl rfl (small_ok b 100 hb.tight)) ?_
  refine DOps.s 15 rfl rfl rfl (q_not rfl rfl) ?_
  refine DOps.s 16 rfl rfl rfl (q_move (.inl rfl) rfl) ?_
  refine DOps.split 16 rfl (fun hb1 => ?_) (fun hb1 => ?_)
  · -- True
    refine DOps.u 17 rfl rfl rfl ?_
    refine DOps.u 18 rfl rfl rfl ?_
    refine DOps.u 19 rfl rfl rfl ?_
    refine DOps.s 20 rfl rfl rfl (q_pick_true true rfl rfl rfl rfl) ?_
    refine DOps.s 21 rfl rfl rfl (q_move (.inl rfl) rfl) ?_
    refine DOps.u 22 rfl rfl rfl ?_
    refine DOps.u 23 rfl rfl rfl ?_
    refine DOps.u 24 rfl rfl rfl ?_
    refine DOps.u 25 rfl rfl rfl ?_
    refine DOps.s 26 rfl rfl rfl (q_pick_true true rfl rfl rfl rfl) ?_
    refine DOps.s 27 rfl rfl rfl (q_move (.inl rfl) rfl) ?_
    refine DOps.u 28 rfl rfl rfl ?_
    refine DOps.u 29 rfl rfl rfl ?_
    refine DOps.u 30 rfl rfl rfl ?_
    refine DOps.u 31 rfl rfl rfl ?_
    refine DOps.s 32 rfl rfl rfl (q_pick_true true rfl rfl rfl rfl) ?_
    refine DOps.s 33 rfl rfl rfl (q_move (.inl rfl) rfl) ?_
    refine DOps.u 34 rfl rfl rfl ?_
    refine DOps.u 35 rfl rfl rfl ?_
    refine DOps.u 36 rfl rfl rfl ?_
    refine DOps.u 37 rfl rfl rfl ?_
    refine DOps.u 38 rfl rfl rfl ?_
    refine DOps.u 39 rfl rfl rfl ?_
    refine DOps.u 40 rfl rfl rfl ?_
    refine DOps.u 41 rfl rfl rfl ?_
    refine DOps.u 42 rfl rfl rfl ?_
    refine DOps.u 43 rfl rfl rfl ?_
    refine DOps.u 44 rfl rfl rfl ?_
    refine DOps.u 45 rfl rfl rfl ?_
    refine DOps.u 46 rfl rfl rfl ?_
    refine DOps.u 47 rfl rfl rfl ?_
    refine DOps.u 48 rfl rfl rfl ?_
    refine DOps.u 49 rfl rfl rfl ?_
    refine DOps.s 50 rfl rfl rfl (q_pick_true true rfl rfl rfl rfl) ?_
    refine DOps.nil (by kernel_rfl) ?_
    refine AGo.cond_true true rfl rfl ?_
    refine AGo.seq ?_
    refine AGo.region ?_
    refine AOps.s 6 rfl rfl rfl (q_move (.inr rfl) rfl) ?_
    refine AOps.nil ?_
    refine AGo.ret ?_
    refine ⟨[_], ⟨rfl, trivial⟩, ?_, rfl⟩
    rfl
  · -- False
    have hsm : b.small 100 = true := by simpa using hb1
    have hsp := small_spec hsm
    have hr := hsp.2.2.2.2
    have hne : 0 < b.funcs.length := List.length_pos_iff.2 (right_spec hr).2.2.1
    have hf10 := hsp.2.1
    obtain ⟨old, hold⟩ := get_of_lt (l := b.funcs) (k := b.funcs.length - 1) (by omega)
    refine DOps.s 17 rfl rfl rfl (q_move (.inl rfl) rfl) ?_
    refine DOps.s 18 rfl rfl rfl (q_len tok rfl rfl rfl rfl rfl) ?_
    refine DOps.s 19 rfl rfl rfl (q_bin rfl rfl rfl rfl) ?_
    refine DOps.s 20 rfl rfl rfl (q_pick_false false rfl rfl rfl rfl) ?_
    refine DOps.s 21 rfl rfl rfl (q_move (.inl rfl) rfl) ?_
    refine DOps.split 21 rfl (fun hb2 => ?_) (fun hb2 => ?_)
    · -- True
      refine DOps.u 22 rfl rfl rfl ?_
      refine DOps.u 23 rfl rfl rfl ?_
      refine DOps.u 24 rfl rfl rfl ?_
      refine DOps.u 25 rfl rfl rfl ?_
      refine DOps.s 26 rfl rfl rfl (q_pick_true true rfl rfl rfl rfl) ?_
      refine DOps.s 27 rfl rfl rfl (q_move (.inl rfl) rfl) ?_
      refine DOps.u 28 rfl rfl rfl ?_
      refine DOps.u 29 rfl rfl rfl ?_
      refine DOps.u 30 rfl rfl rfl ?_
      refine DOps.u 31 rfl rfl rfl ?_
      refine DOps.s 32 rfl rfl rfl (q_pick_true true rfl rfl rfl rfl) ?_
      refine DOps.s 33 rfl rfl rfl (q_move (.inl rfl) rfl) ?_
      refine DOps.u 34 rfl rfl rfl ?_
      refine DOps.u 35 rfl rfl rfl ?_
      refine DOps.u 36 rfl rfl rfl ?_
      refine DOps.u 37 rfl rfl rfl ?_
      refine DOps.u 38 rfl rfl rfl ?_
      refine DOps.u 39 rfl rfl rfl ?_
      refine DOps.u 40 rfl rfl rfl ?_
      refine DOps.u 41 rfl rfl rfl ?_
      refine DOps.u 42 rfl rfl rfl ?_
      refine DOps.u 43 rfl rfl rfl ?_
      refine DOps.u 44 rfl rfl rfl ?_
      refine DOps.u 45 rfl rfl rfl ?_
      refine DOps.u 46 rfl rfl rfl ?_
      refine DOps.u 47 rfl rfl rfl ?_
      refine DOps.u 48 rfl rfl rfl ?_
      refine DOps.u 49 rfl rfl rfl ?_
      refine DOps.s 50 rfl rfl rfl (q_pick_true true rfl rfl rfl rfl) ?_
      refine DOps.nil (by kernel_rfl) ?_
      refine AGo.cond_true true rfl rfl ?_
      refine AGo.seq ?_
      refine AGo.region ?_
      refine AOps.s 6 rfl rfl rfl (q_move (.inr rfl) rfl) ?_
      refine AOps.nil ?_
      refine AGo.ret ?_
      refine ⟨[_], ⟨rfl, trivial⟩, ?_, rfl⟩
      rfl
    · -- False
      have hsl : s.size ≤ 30 := by have h := hb2; simp at h; omega
      refine DOps.s 22 rfl rfl rfl (q_fieldAddr tok rfl rfl rfl rfl rfl rfl) ?_
      refine DOps.s 23 rfl rfl rfl (q_load tok rfl rfl rfl (by first | exact .loc _ | exact .ptr _ _ _ _ _ _ _ _ rfl rfl rfl) rfl) ?_
      refine DOps.x 24 rfl rfl rfl (o_pure rfl Try.func18 (by kernel_rfl) rfl rfl rfl (few_ok f 40 400 (by decide) hf.tight)) ?_
      refine DOps.s 25 rfl rfl rfl (q_not rfl rfl) ?_
      refine DOps.s 26 rfl rfl rfl (q_pick_false false rfl rfl rfl rfl) ?_
      refine DOps.s 27 rfl rfl rfl (q_move (.inl rfl) rfl) ?_
      refine DOps.split 27 rfl (fun hb3 => ?_) (fun hb3 => ?_)
      · -- True
        refine DOps.u 28 rfl rfl rfl ?_
        refine DOps.u 29 rfl rfl rfl ?_
        refine DOps.u 30 rfl rfl rfl ?_
        refine DOps.u 31 rfl rfl rfl ?_
        refine DOps.s 32 rfl rfl rfl (q_pick_true true rfl rfl rfl rfl) ?_
        refine DOps.s 33 rfl rfl rfl (q_move (.inl rfl) rfl) ?_
        refine DOps.u 34 rfl rfl rfl ?_
        refine DOps.u 35 rfl rfl rfl ?_
        refine DOps.u 36 rfl rfl rfl ?_
        refine DOps.u 37 rfl rfl rfl ?_
        refine DOps.u 38 rfl rfl rfl ?_
        refine DOps.u 39 rfl rfl rfl ?_
        refine DOps.u 40 rfl rfl rfl ?_
        refine DOps.u 41 rfl rfl rfl ?_
        refine DOps.u 42 rfl rfl rfl ?_
        refine DOps.u 43 rfl rfl rfl ?_
        refine DOps.u 44 rfl rfl rfl ?_
        refine DOps.u 45 rfl rfl rfl ?_
        refine DOps.u 46 rfl rfl rfl ?_
        refine DOps.u 47 rfl rfl rfl ?_
        refine DOps.u 48 rfl rfl rfl ?_
        refine DOps.u 49 rfl rfl rfl ?_
        refine DOps.s 50 rfl rfl rfl (q_pick_true true rfl rfl rfl rfl) ?_
        refine DOps.nil (by kernel_rfl) ?_
        refine AGo.cond_true true rfl rfl ?_
        refine AGo.seq ?_
        refine AGo.region ?_
        refine AOps.s 6 rfl rfl rfl (q_move (.inr rfl) rfl) ?_
        refine AOps.nil ?_
        refine AGo.ret ?_
        refine ⟨[_], ⟨rfl, trivial⟩, ?_, rfl⟩
        rfl
      · -- False
        have hfw : f.few 40 400 = true := by simpa using hb3
        have hfl := few_ins hfw (by decide)
        refine DOps.s 28 rfl rfl rfl (q_fieldAddr tok rfl rfl rfl rfl rfl rfl) ?_
        refine DOps.s 29 rfl rfl rfl (q_load tok rfl rfl rfl (by first | exact .loc _ | exact .ptr _ _ _ _ _ _ _ _ rfl rfl rfl) rfl) ?_
        refine DOps.x 30 rfl rfl rfl (o_pure rfl Try.func19 (by kernel_rfl) rfl rfl rfl (smallP_ok ps 40 400 (by decide) hp.len.1 hp.len.2)) ?_
        refine DOps.s 31 rfl rfl rfl (q_not rfl rfl) ?_
        refine DOps.s 32 rfl rfl rfl (q_pick_false false rfl rfl rfl rfl) ?_
        refine DOps.s 33 rfl rfl rfl (q_move (.inl rfl) rfl) ?_
        refine DOps.split 33 rfl (fun hb4 => ?_) (fun hb4 => ?_)
        · -- True
          refine DOps.u 34 rfl rfl rfl ?_
          refine DOps.u 35 rfl rfl rfl ?_
          refine DOps.u 36 rfl rfl rfl ?_
          refine DOps.u 37 rfl rfl rfl ?_
          refine DOps.u 38 rfl rfl rfl ?_
          refine DOps.u 39 rfl rfl rfl ?_
          refine DOps.u 40 rfl rfl rfl ?_
          refine DOps.u 41 rfl rfl rfl ?_
          refine DOps.u 42 rfl rfl rfl ?_
          refine DOps.u 43 rfl rfl rfl ?_
          refine DOps.u 44 rfl rfl rfl ?_
          refine DOps.u 45 rfl rfl rfl ?_
          refine DOps.u 46 rfl rfl rfl ?_
          refine DOps.u 47 rfl rfl rfl ?_
          refine DOps.u 48 rfl rfl rfl ?_
          refine DOps.u 49 rfl rfl rfl ?_
          refine DOps.s 50 rfl rfl rfl (q_pick_true true rfl rfl rfl rfl) ?_
          refine DOps.nil (by kernel_rfl) ?_
          refine AGo.cond_true true rfl rfl ?_
          refine AGo.seq ?_
          refine AGo.region ?_
          refine AOps.s 6 rfl rfl rfl (q_move (.inr rfl) rfl) ?_
          refine AOps.nil ?_
          refine AGo.ret ?_
          refine ⟨[_], ⟨rfl, trivial⟩, ?_, rfl⟩
          rfl
        · -- False
          have hps0 : smallP ps 40 400 = true := by simpa using hb4
          have hpp := smallP_spec hps0 (by decide)
          have hpl : ps.length ≤ 100000 := by have := hpp.1; omega
          have hps : ∀ p ∈ ps, p.length ≤ 100000 := fun p hp => by have := hpp.2 p hp; omega
          refine DOps.s 34 rfl rfl rfl (q_fieldAddr tok rfl rfl rfl rfl rfl rfl) ?_
          refine DOps.s 35 rfl rfl rfl (q_fieldAddr tok rfl rfl rfl rfl rfl rfl) ?_
          refine DOps.s 36 rfl rfl rfl (q_load tok rfl rfl rfl (by first | exact .loc _ | exact .ptr _ _ _ _ _ _ _ _ rfl rfl rfl) rfl) ?_
          refine DOps.s 37 rfl rfl rfl (q_fieldAddr tok rfl rfl rfl rfl rfl rfl) ?_
          refine DOps.s 38 rfl rfl rfl (q_fieldAddr tok rfl rfl rfl rfl rfl rfl) ?_
          refine DOps.s 39 rfl rfl rfl (q_load tok rfl rfl rfl (by first | exact .loc _ | exact .ptr _ _ _ _ _ _ _ _ rfl rfl rfl) rfl) ?_
          refine DOps.s 40 rfl rfl rfl (q_len tok rfl rfl rfl rfl rfl) ?_
          refine DOps.s 41 rfl rfl rfl (q_bin (r := .int .i64 ((b.funcs.length - 1 : Nat) : Int)) rfl rfl rfl (by rw [List.length_map]; exact len_pred hne (by omega))) ?_
          refine DOps.s 42 rfl rfl rfl (q_index_lst tok rfl rfl rfl rfl rfl rfl (Int.natCast_nonneg _) (cs := old.cells) (by rw [Int.toNat_natCast, List.getElem?_map, hold]; rfl) rfl) ?_
          refine DOps.s 43 rfl rfl rfl (q_load tok rfl rfl rfl (by first | exact .loc _ | exact .ptr _ _ _ _ _ _ _ _ rfl rfl rfl) rfl) ?_
          refine DOps.s 44 rfl rfl rfl (q_fieldAddr tok rfl rfl rfl rfl rfl rfl) ?_
          refine DOps.s 45 rfl rfl rfl (q_load tok rfl rfl rfl (by first | exact .loc _ | exact .ptr _ _ _ _ _ _ _ _ rfl rfl rfl) rfl) ?_
          refine DOps.s 46 rfl rfl rfl (q_fieldAddr tok rfl rfl rfl rfl rfl rfl) ?_
          refine DOps.s 47 rfl rfl rfl (q_load tok rfl rfl rfl (by first | exact .loc _ | exact .ptr _ _ _ _ _ _ _ _ rfl rfl rfl) rfl) ?_
          refine DOps.x 48 rfl rfl rfl (o_pure rfl Try.func17 (by kernel_rfl) rfl rfl rfl (check_ok old f ps hfl hpl hps)) ?_
          refine DOps.s 49 rfl rfl rfl (q_not rfl rfl) ?_
          refine DOps.s 50 rfl rfl rfl (q_pick_false false rfl rfl rfl rfl) ?_
          refine DOps.nil (by kernel_rfl) ?_
          refine AGo.split 50 rfl (fun hb5 => ?_) (fun hb5 => ?_)
          · -- True
            refine AGo.cond_true true rfl rfl ?_
            refine AGo.seq ?_
            refine AGo.region ?_
            refine AOps.s 6 rfl rfl rfl (q_move (.inr rfl) rfl) ?_
            refine AOps.nil ?_
            refine AGo.ret ?_
            refine ⟨[_], ⟨rfl, trivial⟩, ?_, rfl⟩
            rfl
          · -- False
            refine AGo.cond_false false rfl rfl ?_
            have hck : checkB old f ps = true := by simpa using hb5
            have hH := check_iff.1 hck
            have hrc := right_put hr hold hH
            have hrun := run_put hr hold hH s fuel
            have hiw := small_insWZ hb
            have hil := small_lenZ (by decide) hsm
            refine AGo.skip ?_
            refine AGo.seq ?_
            refine AGo.region ?_
            refine AOps.s 51 rfl rfl rfl (q_fieldAddr tok rfl rfl rfl rfl rfl rfl) ?_
            refine AOps.s 52 rfl rfl rfl (q_load tok rfl rfl rfl (by first | exact .loc _ | exact .ptr _ _ _ _ _ _ _ _ rfl rfl rfl) rfl) ?_
            refine AOps.s 53 rfl rfl rfl (q_fieldAddr tok rfl rfl rfl rfl rfl rfl) ?_
            refine AOps.s 54 rfl rfl rfl (q_load tok rfl rfl rfl (by first | exact .loc _ | exact .ptr _ _ _ _ _ _ _ _ rfl rfl rfl) rfl) ?_
            refine AOps.x 55 rfl rfl rfl (o_pure rfl Try.func21 (by kernel_rfl) rfl rfl rfl (put_ok b f hne (by omega))) ?_
            refine AOps.x 7 rfl rfl rfl (o_alloc tok 1 rfl rfl rfl rfl (Nat.zero_lt_succ _) rfl) ?_
            refine AOps.w rfl rfl (o_store tok rfl rfl rfl rfl rfl rfl rfl rfl rfl (by decide) rfl (by first | exact fun _ => rfl | (intro h; cases h))) ?_
            refine AOps.nil ?_
            refine AGo.seq ?_
            refine AGo.seq ?_
            refine AGo.region ?_
            refine AOps.s 56 rfl rfl rfl (q_load tok rfl rfl rfl (by first | exact .loc _ | exact .ptr _ _ _ _ _ _ _ _ rfl rfl rfl) rfl) ?_
            refine AOps.x 57 rfl rfl rfl (o_pure rfl Try.func22 (by kernel_rfl) rfl rfl rfl ((right_ok (b.put f)).mono (fun r h => by rw [h, hrc]))) ?_
            refine AOps.s 58 rfl rfl rfl (q_not rfl rfl) ?_
            refine AOps.nil ?_
            refine AGo.cond_false false rfl rfl ?_
            refine AGo.skip ?_
            refine AGo.seq ?_
            refine AGo.region ?_
            refine AOps.s 59 rfl rfl rfl (q_fieldAddr tok rfl rfl rfl rfl rfl rfl) ?_
            refine AOps.s 60 rfl rfl rfl (q_load tok rfl rfl rfl (by first | exact .loc _ | exact .ptr _ _ _ _ _ _ _ _ rfl rfl rfl) rfl) ?_
            refine AOps.s 61 rfl rfl rfl (q_move (.inl rfl) rfl) ?_
            refine AOps.s 62 rfl rfl rfl (q_move (.inl rfl) rfl) ?_
            refine AOps.s 63 rfl rfl rfl (q_convTo tok rfl rfl rfl rfl rfl (r := fuel) (wrap_i64 (by omega) (by omega))) ?_
            refine AOps.x 64 rfl rfl rfl (o_pure rfl Try.func23 (by kernel_rfl) rfl rfl rfl (run_ok b s fuel (by omega) (by omega) hr hiw hil)) ?_
            refine AOps.x 8 rfl rfl rfl (o_alloc tok 2 rfl rfl rfl rfl (Nat.zero_lt_succ _) rfl) ?_
            refine AOps.w rfl rfl (o_store tok rfl rfl rfl rfl rfl rfl rfl rfl rfl (by decide) rfl (by first | exact fun _ => rfl | (intro h; cases h))) ?_
            refine AOps.nil ?_
            refine AGo.seq ?_
            refine AGo.region ?_
            refine AOps.s 65 rfl rfl rfl (q_load tok rfl rfl rfl (by first | exact .loc _ | exact .ptr _ _ _ _ _ _ _ _ rfl rfl rfl) rfl) ?_
            refine AOps.s 66 rfl rfl rfl (q_move (.inl rfl) rfl) ?_
            refine AOps.s 67 rfl rfl rfl (q_move (.inl rfl) rfl) ?_
            refine AOps.s 68 rfl rfl rfl (q_convTo tok rfl rfl rfl rfl rfl (r := fuel) (wrap_i64 (by omega) (by omega))) ?_
            refine AOps.x 69 rfl rfl rfl (o_pure rfl Try.func23 (by kernel_rfl) rfl rfl rfl (run_ok (b.put f) s fuel (by omega) (by omega) hrc (put_insW hiw (fun x hx => hf.insW hx)) (put_lens hil hfl))) ?_
            refine AOps.x 9 rfl rfl rfl (o_alloc tok 3 rfl rfl rfl rfl (Nat.zero_lt_succ _) rfl) ?_
            refine AOps.w rfl rfl (o_store tok rfl rfl rfl rfl rfl rfl rfl rfl rfl (by decide) rfl (by first | exact fun _ => rfl | (intro h; cases h))) ?_
            refine AOps.nil ?_
            refine AGo.seq ?_
            refine AGo.region ?_
            refine AOps.s 70 rfl rfl rfl (q_fieldAddr tok rfl rfl rfl rfl rfl rfl) ?_
            refine AOps.s 71 rfl rfl rfl (q_load tok rfl rfl rfl (by first | exact .loc _ | exact .ptr _ _ _ _ _ _ _ _ rfl rfl rfl) rfl) ?_
            refine AOps.s 72 rfl rfl rfl (q_bin rfl rfl rfl rfl) ?_
            refine AOps.s 73 rfl rfl rfl (q_move (.inl rfl) rfl) ?_
            refine AOps.split 73 rfl (fun hb6 => ?_) (fun hb6 => ?_)
            · -- True
              refine AOps.k 74 rfl rfl rfl ?_
              refine AOps.k 75 rfl rfl rfl ?_
              refine AOps.k 76 rfl rfl rfl ?_
              refine AOps.k 77 rfl rfl rfl ?_
              refine AOps.k 78 rfl rfl rfl ?_
              refine AOps.k 79 rfl rfl rfl ?_
              refine AOps.k 80 rfl rfl rfl ?_
              refine AOps.k 81 rfl rfl rfl ?_
              refine AOps.k 82 rfl rfl rfl ?_
              refine AOps.k 83 rfl rfl rfl ?_
              refine AOps.k 84 rfl rfl rfl ?_
              refine AOps.k 85 rfl rfl rfl ?_
              refine AOps.k 86 rfl rfl rfl ?_
              refine AOps.k 87 rfl rfl rfl ?_
              refine AOps.k 88 rfl rfl rfl ?_
              refine AOps.k 89 rfl rfl rfl ?_
              refine AOps.k 90 rfl rfl rfl ?_
              refine AOps.k 91 rfl rfl rfl ?_
              refine AOps.k 92 rfl rfl rfl ?_
              refine AOps.s 93 rfl rfl rfl (q_pick_true true rfl rfl rfl rfl) ?_
              refine AOps.s 6 rfl rfl rfl (q_move (.inr rfl) rfl) ?_
              refine AOps.nil ?_
              refine AGo.ret ?_
              refine ⟨[_], ⟨rfl, trivial⟩, ?_, rfl⟩
              show AV.bool _ = AV.bool true
              first
              | rfl
              | (congr 1
                 rcases hrun with h | ⟨h1, h2, h3⟩
                 · first | (simp_all; done) | (exfalso; simp_all)
                 · first | (simp_all; done) | (exfalso; simp_all))
            · -- False
              refine AOps.s 74 rfl rfl rfl (q_fieldAddr tok rfl rfl rfl rfl rfl rfl) ?_
              refine AOps.s 75 rfl rfl rfl (q_load tok rfl rfl rfl (by first | exact .loc _ | exact .ptr _ _ _ _ _ _ _ _ rfl rfl rfl) rfl) ?_
              refine AOps.s 76 rfl rfl rfl (q_fieldAddr tok rfl rfl rfl rfl rfl rfl) ?_
              refine AOps.s 77 rfl rfl rfl (q_load tok rfl rfl rfl (by first | exact .loc _ | exact .ptr _ _ _ _ _ _ _ _ rfl rfl rfl) rfl) ?_
              refine AOps.s 78 rfl rfl rfl (q_bin rfl rfl rfl rfl) ?_
              refine AOps.s 79 rfl rfl rfl (q_move (.inl rfl) rfl) ?_
              refine AOps.split 79 rfl (fun hb7 => ?_) (fun hb7 => ?_)
              · -- True
                refine AOps.s 80 rfl rfl rfl (q_fieldAddr tok rfl rfl rfl rfl rfl rfl) ?_
                refine AOps.s 81 rfl rfl rfl (q_load tok rfl rfl rfl (by first | exact .loc _ | exact .ptr _ _ _ _ _ _ _ _ rfl rfl rfl) rfl) ?_
                refine AOps.s 82 rfl rfl rfl (q_fieldAddr tok rfl rfl rfl rfl rfl rfl) ?_
                refine AOps.s 83 rfl rfl rfl (q_load tok rfl rfl rfl (by first | exact .loc _ | exact .ptr _ _ _ _ _ _ _ _ rfl rfl rfl) rfl) ?_
                refine AOps.s 84 rfl rfl rfl (q_bin rfl rfl rfl rfl) ?_
                refine AOps.s 85 rfl rfl rfl (q_pick_true true rfl rfl rfl rfl) ?_
                refine AOps.s 86 rfl rfl rfl (q_move (.inl rfl) rfl) ?_
                refine AOps.split 86 rfl (fun hb8 => ?_) (fun hb8 => ?_)
                · -- True
                  refine AOps.s 87 rfl rfl rfl (q_fieldAddr tok rfl rfl rfl rfl rfl rfl) ?_
                  refine AOps.s 88 rfl rfl rfl (q_load tok rfl rfl rfl (by first | exact .loc _ | exact .ptr _ _ _ _ _ _ _ _ rfl rfl rfl) rfl) ?_
                  refine AOps.s 89 rfl rfl rfl (q_fieldAddr tok rfl rfl rfl rfl rfl rfl) ?_
                  refine AOps.s 90 rfl rfl rfl (q_load tok rfl rfl rfl (by first | exact .loc _ | exact .ptr _ _ _ _ _ _ _ _ rfl rfl rfl) rfl) ?_
                  refine AOps.s 91 rfl rfl rfl (q_bin rfl rfl rfl rfl) ?_
                  refine AOps.s 92 rfl rfl rfl (q_pick_true true rfl rfl rfl rfl) ?_
                  refine AOps.s 93 rfl rfl rfl (q_pick_false false rfl rfl rfl rfl) ?_
                  refine AOps.s 6 rfl rfl rfl (q_move (.inr rfl) rfl) ?_
                  refine AOps.nil ?_
                  refine AGo.ret ?_
                  refine ⟨[_], ⟨rfl, trivial⟩, ?_, rfl⟩
                  show AV.bool _ = AV.bool true
                  first
                  | rfl
                  | (congr 1
                     rcases hrun with h | ⟨h1, h2, h3⟩
                     · first | (simp_all; done) | (exfalso; simp_all)
                     · first | (simp_all; done) | (exfalso; simp_all))
                · -- False
                  refine AOps.k 87 rfl rfl rfl ?_
                  refine AOps.k 88 rfl rfl rfl ?_
                  refine AOps.k 89 rfl rfl rfl ?_
                  refine AOps.k 90 rfl rfl rfl ?_
                  refine AOps.k 91 rfl rfl rfl ?_
                  refine AOps.s 92 rfl rfl rfl (q_pick_false false rfl rfl rfl rfl) ?_
                  refine AOps.s 93 rfl rfl rfl (q_pick_false false rfl rfl rfl rfl) ?_
                  refine AOps.s 6 rfl rfl rfl (q_move (.inr rfl) rfl) ?_
                  refine AOps.nil ?_
                  refine AGo.ret ?_
                  refine ⟨[_], ⟨rfl, trivial⟩, ?_, rfl⟩
                  show AV.bool _ = AV.bool true
                  first
                  | rfl
                  | (congr 1
                     rcases hrun with h | ⟨h1, h2, h3⟩
                     · first | (simp_all; done) | (exfalso; simp_all)
                     · first | (simp_all; done) | (exfalso; simp_all))
              · -- False
                refine AOps.k 80 rfl rfl rfl ?_
                refine AOps.k 81 rfl rfl rfl ?_
                refine AOps.k 82 rfl rfl rfl ?_
                refine AOps.k 83 rfl rfl rfl ?_
                refine AOps.k 84 rfl rfl rfl ?_
                refine AOps.s 85 rfl rfl rfl (q_pick_false false rfl rfl rfl rfl) ?_
                refine AOps.s 86 rfl rfl rfl (q_move (.inl rfl) rfl) ?_
                refine AOps.k 87 rfl rfl rfl ?_
                refine AOps.k 88 rfl rfl rfl ?_
                refine AOps.k 89 rfl rfl rfl ?_
                refine AOps.k 90 rfl rfl rfl ?_
                refine AOps.k 91 rfl rfl rfl ?_
                refine AOps.s 92 rfl rfl rfl (q_pick_false false rfl rfl rfl rfl) ?_
                refine AOps.s 93 rfl rfl rfl (q_pick_false false rfl rfl rfl rfl) ?_
                refine AOps.s 6 rfl rfl rfl (q_move (.inr rfl) rfl) ?_
                refine AOps.nil ?_
                refine AGo.ret ?_
                refine ⟨[_], ⟨rfl, trivial⟩, ?_, rfl⟩
                show AV.bool _ = AV.bool true
                first
                | rfl
                | (congr 1
                   rcases hrun with h | ⟨h1, h2, h3⟩
                   · first | (simp_all; done) | (exfalso; simp_all)
                   · first | (simp_all; done) | (exfalso; simp_all))

end Go.Proofs.Ytidfabbnobipkaa.Sv
