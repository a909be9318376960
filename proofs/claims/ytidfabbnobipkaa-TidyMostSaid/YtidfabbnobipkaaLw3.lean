/-
  WALKS: printed by a program of our own from the code's tree.
-/
import Derived.Test.YtidfabbnobipkaaSp23
import Derived.Test.YtidfabbnobipkaaLw2
namespace Go.Proofs.Ytidfabbnobipkaa.Sv
open Go
set_option linter.unusedVariables false
set_option linter.unusedSimpArgs false

set_option maxRecDepth 100000 in
theorem tidyOf_ok (f : BFunc) (hf : f.tame) : APure Try.prog 13 [.agg f.cells] (fun r => r = .tup [.agg f.tidy.cells, pathsAV f.tpaths]) := by
  have hn := hf.mild
  have hle := hf.leads
  have hnn := nexts_length f
  have hrl := reach_length f
  have hn2 : ∀ l ∈ f.nexts, l.length ≤ 100000 := fun l hl => by have := nexts_two f l hl; omega
  have htl : f.tk.length = f.blocks.length := takes_length f _
  have hti := takes_in hle f.reach
  refine APure.of_body (n := 119) tok Try.func13 rfl rfl ?_
  refine AGo.seq ?_
  refine AGo.region ?_
  refine AOps.x 1 rfl rfl rfl (o_box (sz := 2) 0 rfl rfl rfl rfl (Nat.zero_lt_succ _) rfl) ?_
  refine AOps.x 2 rfl rfl rfl (o_alloc tok 1 rfl rfl rfl rfl (Nat.zero_lt_succ _) rfl) ?_
  refine AOps.s 3 rfl rfl rfl (q_move (.inr rfl) rfl) ?_
  refine AOps.nil ?_
  refine AGo.seq ?_
  refine AGo.region ?_
  refine AOps.s 16 rfl rfl rfl (q_load tok rfl rfl rfl (by first | exact .loc _ | exact .ptr _ _ _ _ _ _ _ _ rfl rfl rfl) rfl) ?_
  refine AOps.x 17 rfl rfl rfl (o_pure rfl Try.func27 (by kernel_rfl) rfl rfl rfl (next_ok f (by omega))) ?_
  refine AOps.s 4 rfl rfl rfl (q_move (.inr rfl) rfl) ?_
  refine AOps.nil ?_
  refine AGo.seq ?_
  refine AGo.region ?_
  refine AOps.s 18 rfl rfl rfl (q_move (.inl rfl) rfl) ?_
  refine AOps.x 19 rfl rfl rfl (o_pure rfl Try.func28 (by kernel_rfl) rfl rfl rfl (reach_ok f.nexts (by omega) hn2)) ?_
  refine AOps.s 5 rfl rfl rfl (q_move (.inr rfl) rfl) ?_
  refine AOps.nil ?_
  refine AGo.seq ?_
  refine AGo.region ?_
  refine AOps.s 21 rfl rfl rfl (q_load tok rfl rfl rfl (by first | exact .loc _ | exact .ptr _ _ _ _ _ _ _ _ rfl rfl rfl) rfl) ?_
  refine AOps.s 22 rfl rfl rfl (q_move (.inl rfl) rfl) ?_
  refine AOps.s 23 rfl rfl rfl (q_move (.inl rfl) rfl) ?_
  refine AOps.x 24 rfl rfl rfl (o_pure rfl Try.func29 (by kernel_rfl) rfl rfl rfl (takings_ok f f.reach hn hrl hle)) ?_
  refine AOps.s 20 rfl rfl rfl (q_move (.inl rfl) rfl) ?_
  refine AOps.s 25 rfl rfl rfl (q_extract rfl rfl rfl) ?_
  refine AOps.s 26 rfl rfl rfl (q_extract rfl rfl rfl) ?_
  refine AOps.x 6 rfl rfl rfl (o_alloc tok 2 rfl rfl rfl rfl (Nat.zero_lt_succ _) rfl) ?_
  refine AOps.w rfl rfl (o_store tok rfl rfl rfl rfl rfl rfl rfl rfl rfl (by decide) rfl (by first | exact fun _ => rfl | (intro h; cases h))) ?_
  refine AOps.s 7 rfl rfl rfl (q_move (.inr rfl) rfl) ?_
  refine AOps.nil ?_
  refine AGo.seq ?_
  refine AGo.region ?_
  refine AOps.s 8 rfl rfl rfl (q_move (.inr rfl) rfl) ?_
  refine AOps.nil ?_
  refine AGo.seq ?_
  refine AGo.ghost (.dry 8 4 1 true rfl rfl rfl (by decide)) ?_
  refine AGo.region ?_
  refine AOps.s 27 rfl rfl rfl (q_fieldAddr tok rfl rfl rfl rfl rfl rfl) ?_
  refine AOps.s 28 rfl rfl rfl (q_load tok rfl rfl rfl (by first | exact .loc _ | exact .ptr _ _ _ _ _ _ _ _ rfl rfl rfl) rfl) ?_
  refine AOps.s 29 rfl rfl rfl (q_len tok rfl rfl rfl rfl rfl) ?_
  refine AOps.x 30 rfl rfl rfl (o_makeSlice tok (n := f.blocks.length) (m := f.blocks.length) 3 true rfl rfl rfl (by simp) (by simp) rfl rfl rfl rfl rfl (Nat.zero_lt_succ _) rfl (Nat.le_refl _) (by show 8 * f.blocks.length ≤ _; omega) (by simp only [maxLen]; omega)) ?_
  refine AOps.s 9 rfl rfl rfl (q_move (.inr rfl) rfl) ?_
  refine AOps.nil ?_
  refine AGo.seq ?_
  refine AGo.region ?_
  refine AOps.s 31 rfl rfl rfl (q_makeFunc rfl rfl rfl) ?_
  refine AOps.s 10 rfl rfl rfl (q_move (.inr rfl) rfl) ?_
  refine AOps.nil ?_
  refine AGo.seq ?_
  refine AGo.seq ?_
  refine AGo.region ?_
  refine AOps.s 32 rfl rfl rfl (q_fieldAddr tok rfl rfl rfl rfl rfl rfl) ?_
  refine AOps.s 33 rfl rfl rfl (q_load tok rfl rfl rfl (by first | exact .loc _ | exact .ptr _ _ _ _ _ _ _ _ rfl rfl rfl) rfl) ?_
  refine AOps.s 34 rfl rfl rfl (q_len tok rfl rfl rfl rfl rfl) ?_
  refine AOps.s 35 rfl rfl rfl (q_move (.inl rfl) rfl) ?_
  refine AOps.nil ?_
  refine AGo.block ?_
  refine AGo.loopD (γ := Nat) 5 (fun k => ⟨119, (eput (eput (eput (eput (eput (eput (eput (eput (eput eNew 1 (.ptr 0 1 0 0)) 2 (.ptr 1 1 0 0)) 9 (.ref 3 f.blocks.length 0 f.blocks.length)) 5 (boolsAV f.reach)) 7 (boolsAV (f.takenAt f.reach f.blocks.length))) 8 (.ref 4 (f.pathsTo k).length 0 (f.pathsTo k).length)) 10 (.fn (.func 30) [] [.ptr 2 1 0 0])) 34 (.int .i64 (f.blocks.length : Int))) 35 (.int .i64 (k : Int))), (hput (hput (hput (hput (hput (hFrom 5) 0 (.row false 2 [f.cells])) 1 (.row false 2 [[.int .i64 0, .nil]])) 2 (.row false 1 [[intsAV f.tk]])) 3 (.row true 1 (intCells (f.numsTo k)))) 4 (.row true 1 ((f.pathsTo k).map pathCell)))⟩) (fun k => k ≤ f.blocks.length) (fun k => f.blocks.length - k) 0 (Sub.mk' (by repeat (first | exact ESub.new _ | refine ESub.put ?_ (by first | rfl | exact congrArg (fun (n : Nat) => some (AV.int .i64 (n : Int))) (by simp)))) (by repeat (first | exact HSub.none _ | exact HSub.from_new _ | exact HSub.from_from (by decide) | refine HSub.put ?_ (by first | rfl | exact congrArg (fun es => some (AObj.row true 1 es)) (intCells_rep _)) | refine HSub.from_put ?_ (by decide) | refine HSub.from_rm ?_ (by decide)))) (Nat.zero_le _) (fun _ => hput_free (hput_free (hput_free (hput_free (hput_free (fun b hb => hFrom_free hb) rfl) rfl) rfl) rfl) rfl) ?_
  intro k hk
  refine AGo.seq ?_
  refine AGo.region ?_
  refine AOps.s 36 rfl rfl rfl (q_bin rfl rfl rfl rfl) ?_
  refine AOps.nil ?_
  refine AGo.seq ?_
  refine AGo.split 36 rfl (fun hb1 => ?_) (fun hb1 => ?_)
  · -- True
    refine AGo.cond_true true rfl rfl ?_
    have hkl : k < f.blocks.length := by simpa using hb1
    obtain ⟨rk, hrk⟩ := get_of_lt (l := f.reach) (k := k) (by omega)
    obtain ⟨tk, htk⟩ := get_of_lt (l := (f.takenAt f.reach f.blocks.length)) (k := k) (by rw [takenAt_length]; omega)
    have hhd := headOf_eq hrk htk
    refine AGo.skip ?_
    refine AGo.seq ?_
    refine AGo.block ?_
    refine AGo.seq ?_
    refine AGo.region ?_
    refine AOps.s 37 rfl rfl rfl (q_move (.inl rfl) rfl) ?_
    refine AOps.s 11 rfl rfl rfl (q_move (.inr rfl) rfl) ?_
    refine AOps.nil ?_
    refine AGo.seq ?_
    refine AGo.region ?_
    refine AOps.s 38 rfl rfl rfl (q_move (.inl rfl) rfl) ?_
    refine AOps.s 39 rfl rfl rfl (q_move (.inl rfl) rfl) ?_
    refine AOps.s 40 rfl rfl rfl (q_index_lst tok rfl rfl rfl rfl rfl rfl (Int.natCast_nonneg _) (idx_map (by assumption)) rfl) ?_
    refine AOps.s 41 rfl rfl rfl (q_load tok rfl rfl rfl (by first | exact .loc _ | exact .ptr _ _ _ _ _ _ _ _ rfl rfl rfl) rfl) ?_
    refine AOps.s 42 rfl rfl rfl (q_move (.inl rfl) rfl) ?_
    refine AOps.split 42 rfl (fun hb2 => ?_) (fun hb2 => ?_)
    · -- True
      refine AOps.s 43 rfl rfl rfl (q_move (.inl rfl) rfl) ?_
      refine AOps.s 44 rfl rfl rfl (q_move (.inl rfl) rfl) ?_
      refine AOps.s 45 rfl rfl rfl (q_index_lst tok rfl rfl rfl rfl rfl rfl (Int.natCast_nonneg _) (idx_map (by assumption)) rfl) ?_
      refine AOps.s 46 rfl rfl rfl (q_load tok rfl rfl rfl (by first | exact .loc _ | exact .ptr _ _ _ _ _ _ _ _ rfl rfl rfl) rfl) ?_
      refine AOps.s 47 rfl rfl rfl (q_not rfl rfl) ?_
      refine AOps.s 48 rfl rfl rfl (q_pick_true true rfl rfl rfl rfl) ?_
      refine AOps.nil ?_
      refine AGo.split 48 rfl (fun hb3 => ?_) (fun hb3 => ?_)
      · -- True
        refine AGo.cond_true true rfl rfl ?_
        have hhead : f.headOf k = true := by rw [hhd]; simp_all
        have hpl := pathsTo_length f k
        refine AGo.seq ?_
        refine AGo.region ?_
        refine AOps.s 49 rfl rfl rfl (q_move (.inl rfl) rfl) ?_
        refine AOps.s 50 rfl rfl rfl (q_move (.inl rfl) rfl) ?_
        refine AOps.s 51 rfl rfl rfl (q_move (.inl rfl) rfl) ?_
        refine AOps.s 52 rfl rfl rfl (q_len tok rfl rfl rfl rfl rfl) ?_
        refine AOps.s 53 rfl rfl rfl (q_index_ref tok rfl rfl rfl rfl rfl rfl rfl (by rw [intCells_len, numsTo_length]) rfl (Int.natCast_nonneg _) (by omega)) ?_
        refine AOps.w rfl rfl (o_store tok rfl rfl rfl rfl rfl rfl (by rw [intCells_len, numsTo_length]) (icell (by rw [numsTo_length]; omega)) rfl (by decide) rfl (by first | exact fun _ => rfl | (intro h; cases h))) ?_
        refine AOps.nil ?_
        refine AGo.region ?_
        refine AOps.s 54 rfl rfl rfl (q_move (.inl rfl) rfl) ?_
        refine AOps.s 55 rfl rfl rfl (q_move (.inl rfl) rfl) ?_
        refine AOps.s 56 rfl rfl rfl (q_move (.inl rfl) rfl) ?_
        refine AOps.x 57 rfl rfl rfl (o_callF (hc := (hput hNew 2 (.row false 1 [[intsAV f.tk]]))) (hw := (hput hNone 2 (.row false 1 [[intsAV f.tk]]))) [2] [(2, (.row false 1 [[intsAV f.tk]]))] rfl rfl Try.func30 (by kernel_rfl) rfl rfl rfl ⟨⟨_, rfl, rfl⟩, trivial⟩ rfl (hres_cons rfl (hres_nil _)) ⟨⟨_, rfl, rfl, rfl⟩, trivial⟩ rfl (follow_ok f.tk k (by omega) (by omega) hti (hf.ends k hhead))) ?_
        refine AOps.x 58 rfl rfl rfl (o_lit' tok rfl rfl rfl rfl rfl rfl (by decide) rfl rfl rfl rfl rfl rfl) ?_
        refine AOps.x 59 rfl rfl rfl (o_append tok (n := (f.pathsTo k).length) (m := 1) rfl rfl rfl rfl rfl rfl rfl rfl rfl (by simp) rfl rfl (Nat.zero_lt_succ _) (.lst _ _) (by intro cs h; simp [partVals] at h; subst h; rfl) (fun _ cs h => by simp [partVals] at h; subst h; rfl) rfl (by simp [partVals]; show _ * 24 ≤ _; omega) (by simp [partVals]; simp only [maxLen]; omega)) ?_
        refine AOps.s 8 rfl rfl rfl (q_move (.inr rfl) rfl) ?_
        refine AOps.nil ?_
        refine AGo.region ?_
        refine AOps.s 60 rfl rfl rfl (q_inc rfl rfl hkl (by simp only [maxLen]; omega)) ?_
        refine AOps.s 35 rfl rfl rfl (q_move (.inl rfl) rfl) ?_
        refine AOps.nil ?_
        exact ⟨k+1, Drop.mk' (by repeat (first | exact EDrop.new _ _ | refine EDrop.put ?_ (by first | rfl | exact congrArg (fun n => some (AV.ref 4 n 0 n)) (by rw [pathsTo_yes hhead]; simp) | exact congrArg (fun n => some (AV.ref 4 n 0 n)) (by rw [pathsTo_no hhead])) rfl)) (by repeat (first | exact HDrop.none _ _ | exact HDrop.tail _ _ | refine HDrop.put ?_ (by first | rfl | exact congrArg (fun es => some (AObj.row true 1 es)) (by rw [numsTo_yes hhead]; exact icell_set _ _ _) | exact congrArg (fun es => some (AObj.row true 1 es)) (by rw [pathsTo_yes hhead, List.map_append]; rfl) | exact congrArg (fun es => some (AObj.row true 1 es)) (by rw [numsTo_no hhead]) | exact congrArg (fun es => some (AObj.row true 1 es)) (by rw [pathsTo_no hhead])) rfl rfl)), hkl, by omega⟩
      · -- False
        refine AGo.cond_false false rfl rfl ?_
        have hhead : f.headOf k = false := by rw [hhd]; simp_all
        refine AGo.skip ?_
        refine AGo.region ?_
        refine AOps.s 60 rfl rfl rfl (q_inc rfl rfl hkl (by simp only [maxLen]; omega)) ?_
        refine AOps.s 35 rfl rfl rfl (q_move (.inl rfl) rfl) ?_
        refine AOps.nil ?_
        exact ⟨k+1, Drop.mk' (by repeat (first | exact EDrop.new _ _ | refine EDrop.put ?_ (by first | rfl | exact congrArg (fun n => some (AV.ref 4 n 0 n)) (by rw [pathsTo_yes hhead]; simp) | exact congrArg (fun n => some (AV.ref 4 n 0 n)) (by rw [pathsTo_no hhead])) rfl)) (by repeat (first | exact HDrop.none _ _ | exact HDrop.tail _ _ | refine HDrop.put ?_ (by first | rfl | exact congrArg (fun es => some (AObj.row true 1 es)) (by rw [numsTo_yes hhead]; exact icell_set _ _ _) | exact congrArg (fun es => some (AObj.row true 1 es)) (by rw [pathsTo_yes hhead, List.map_append]; rfl) | exact congrArg (fun es => some (AObj.row true 1 es)) (by rw [numsTo_no hhead]) | exact congrArg (fun es => some (AObj.row true 1 es)) (by rw [pathsTo_no hhead])) rfl rfl)), hkl, by omega⟩
    · -- False
      refine AOps.k 43 rfl rfl rfl ?_
      refine AOps.k 44 rfl rfl rfl ?_
      refine AOps.k 45 rfl rfl rfl ?_
      refine AOps.k 46 rfl rfl rfl ?_
      refine AOps.k 47 rfl rfl rfl ?_
      refine AOps.s 48 rfl rfl rfl (q_pick_false false rfl rfl rfl rfl) ?_
      refine AOps.nil ?_
      refine AGo.cond_false false rfl rfl ?_
      have hhead : f.headOf k = false := by rw [hhd]; simp_all
      refine AGo.skip ?_
      refine AGo.region ?_
      refine AOps.s 60 rfl rfl rfl (q_inc rfl rfl hkl (by simp only [maxLen]; omega)) ?_
      refine AOps.s 35 rfl rfl rfl (q_move (.inl rfl) rfl) ?_
      refine AOps.nil ?_
      exact ⟨k+1, Drop.mk' (by repeat (first | exact EDrop.new _ _ | refine EDrop.put ?_ (by first | rfl | exact congrArg (fun n => some (AV.ref 4 n 0 n)) (by rw [pathsTo_yes hhead]; simp) | exact congrArg (fun n => some (AV.ref 4 n 0 n)) (by rw [pathsTo_no hhead])) rfl)) (by repeat (first | exact HDrop.none _ _ | exact HDrop.tail _ _ | refine HDrop.put ?_ (by first | rfl | exact congrArg (fun es => some (AObj.row true 1 es)) (by rw [numsTo_yes hhead]; exact icell_set _ _ _) | exact congrArg (fun es => some (AObj.row true 1 es)) (by rw [pathsTo_yes hhead, List.map_append]; rfl) | exact congrArg (fun es => some (AObj.row true 1 es)) (by rw [numsTo_no hhead]) | exact congrArg (fun es => some (AObj.row true 1 es)) (by rw [pathsTo_no hhead])) rfl rfl)), hkl, by omega⟩
  · -- False
    refine AGo.cond_false false rfl rfl ?_
    have hge : f.blocks.length ≤ k := by simpa using hb1
    obtain rfl : k = f.blocks.length := by omega
    refine AGo.exit ?_
    refine AGo.seq ?_
    refine AGo.ghost (.freezeA 8 4 rfl rfl (by simp)) ?_
    have hml : f.tpaths.length ≤ f.blocks.length := pathsTo_length f f.blocks.length
    refine AGo.draw mix ?_
    refine DOps.s 61 rfl rfl rfl (q_fieldAddr tok rfl rfl rfl rfl rfl rfl) ?_
    refine DOps.s 62 rfl rfl rfl (q_load tok rfl rfl rfl (by first | exact .loc _ | exact .ptr _ _ _ _ _ _ _ _ rfl rfl rfl) rfl) ?_
    refine DOps.s 63 rfl rfl rfl (q_move (.inl rfl) rfl) ?_
    refine DOps.s 64 rfl rfl rfl (q_len tok rfl rfl rfl rfl rfl) ?_
    refine DOps.x 65 rfl rfl rfl (o_makeSlice tok (n := f.tpaths.length) (m := f.tpaths.length) 5 true rfl rfl rfl (by simp [BFunc.tpaths]) (by simp [BFunc.tpaths]) rfl rfl rfl rfl rfl (Nat.zero_lt_succ _) rfl (Nat.le_refl _) (by show 56 * f.tpaths.length ≤ _; have := pathsTo_length f f.blocks.length; have : f.tpaths.length ≤ f.blocks.length := this; omega) (by have := pathsTo_length f f.blocks.length; have : f.tpaths.length ≤ f.blocks.length := this; simp only [maxLen]; omega)) ?_
    refine DOps.s 66 rfl rfl rfl (q_build tok rfl rfl rfl rfl rfl (by decide) rfl rfl rfl) ?_
    refine DOps.x 12 rfl rfl rfl (o_alloc tok 6 rfl rfl rfl rfl (Nat.zero_lt_succ _) rfl) ?_
    refine DOps.w rfl rfl (o_store tok rfl rfl rfl rfl rfl rfl rfl rfl rfl (by decide) rfl (by first | exact fun _ => rfl | (intro h; cases h))) ?_
    refine DOps.nil (by kernel_rfl) ?_
    refine AGo.seq ?_
    refine AGo.seq ?_
    refine AGo.region ?_
    refine AOps.s 67 rfl rfl rfl (q_move (.inl rfl) rfl) ?_
    refine AOps.s 68 rfl rfl rfl (q_len tok rfl rfl rfl rfl rfl) ?_
    refine AOps.s 69 rfl rfl rfl (q_move (.inl rfl) rfl) ?_
    refine AOps.nil ?_
    refine AGo.block ?_
    refine AGo.loopD (γ := Nat) 7 (fun k => ⟨119, (eput (eput (eput (eput (eput (eput (eput (eput eNew 1 (.ptr 0 1 0 0)) 2 (.ptr 1 1 0 0)) 9 (.ref 3 f.blocks.length 0 f.blocks.length)) 8 (pathsAV f.tpaths)) 12 (.ptr 6 1 0 0)) 67 (pathsAV f.tpaths)) 68 (.int .i64 (f.tpaths.length : Int))) 69 (.int .i64 (k : Int))), (hput (hput (hput (hput (hput (hFrom 7) 0 (.row false 2 [f.cells])) 1 (.row false 2 [[.int .i64 0, .nil]])) 3 (.row true 1 (intCells f.nums))) 5 (.row true 5 (((f.tpaths.map f.newBlock).take k).map Block.cells ++ List.replicate (f.tpaths.length - k) [.nil, .int .i64 0, .int .i64 0, .int .i64 0, .int .i64 0]))) 6 (.row false 2 [[.int .i64 f.regs, .ref 5 f.tpaths.length 0 f.tpaths.length]]))⟩) (fun k => k ≤ f.tpaths.length) (fun k => f.tpaths.length - k) 0 (Sub.mk' (by repeat (first | exact ESub.new _ | refine ESub.put ?_ (by first | rfl | exact congrArg (fun (n : Nat) => some (AV.int .i64 (n : Int))) (by simp [BFunc.tpaths])))) (by repeat (first | exact HSub.none _ | exact HSub.from_new _ | exact HSub.from_from (by decide) | refine HSub.put ?_ (by rfl) | refine HSub.from_put ?_ (by decide) | refine HSub.from_rm ?_ (by decide)))) (Nat.zero_le _) (fun _ => hput_free (hput_free (hput_free (hput_free (hput_free (fun b hb => hFrom_free hb) rfl) rfl) rfl) rfl) rfl) ?_
    intro k hk
    refine AGo.seq ?_
    refine AGo.region ?_
    refine AOps.s 70 rfl rfl rfl (q_bin rfl rfl rfl rfl) ?_
    refine AOps.nil ?_
    refine AGo.seq ?_
    refine AGo.split 70 rfl (fun hb4 => ?_) (fun hb4 => ?_)
    · -- True
      refine AGo.cond_true true rfl rfl ?_
      have hkl : k < f.tpaths.length := by simpa using hb4
      obtain ⟨p, hp⟩ := get_of_lt hkl
      have hpm := List.mem_of_getElem? hp
      have hpin := paths_in hle _ (Nat.le_refl _) p hpm
      have hplen : 0 < p.length := List.length_pos_iff.2 hpin.1
      have hlast := hpin.2 _ (last_mem hpin.1)
      have hbx := blockAt_get hlast
      have hnb : (f.tpaths.map f.newBlock)[k]? = some (f.newBlock p) := by simp [hp]
      refine AGo.skip ?_
      refine AGo.seq ?_
      refine AGo.block ?_
      refine AGo.seq ?_
      refine AGo.region ?_
      refine AOps.s 71 rfl rfl rfl (q_move (.inl rfl) rfl) ?_
      refine AOps.s 72 rfl rfl rfl (q_index_lst tok rfl rfl rfl rfl rfl rfl (Int.natCast_nonneg _) (idx_map (by assumption)) rfl) ?_
      refine AOps.s 73 rfl rfl rfl (q_load tok rfl rfl rfl (by first | exact .loc _ | exact .ptr _ _ _ _ _ _ _ _ rfl rfl rfl) rfl) ?_
      refine AOps.s 13 rfl rfl rfl (q_move (.inr rfl) rfl) ?_
      refine AOps.s 14 rfl rfl rfl (q_move (.inr rfl) rfl) ?_
      refine AOps.nil ?_
      refine AGo.seq ?_
      refine AGo.draw mix ?_
      refine DOps.s 74 rfl rfl rfl (q_fieldAddr tok rfl rfl rfl rfl rfl rfl) ?_
      refine DOps.s 75 rfl rfl rfl (q_load tok rfl rfl rfl (by first | exact .loc _ | exact .ptr _ _ _ _ _ _ _ _ rfl rfl rfl) rfl) ?_
      refine DOps.s 76 rfl rfl rfl (q_move (.inl rfl) rfl) ?_
      refine DOps.s 77 rfl rfl rfl (q_move (.inl rfl) rfl) ?_
      refine DOps.s 78 rfl rfl rfl (q_len tok rfl rfl rfl rfl rfl) ?_
      refine DOps.s 79 rfl rfl rfl (q_bin (r := .int .i64 ((p.length - 1 : Nat) : Int)) rfl rfl rfl (by rw [List.length_map]; exact len_pred hplen (by have := pathsTo_len _ p hpm; omega))) ?_
      refine DOps.s 80 rfl rfl rfl (q_index_lst tok rfl rfl rfl rfl rfl rfl (Int.natCast_nonneg _) (cs := [.int .i64 (lastOf p)]) (by show (List.map (fun b => [AV.int .i64 b]) p)[_]? = _; rw [Int.toNat_natCast, List.getElem?_map, last_get hpin.1]; rfl) rfl) ?_
      refine DOps.s 81 rfl rfl rfl (q_load tok rfl rfl rfl (by first | exact .loc _ | exact .ptr _ _ _ _ _ _ _ _ rfl rfl rfl) rfl) ?_
      refine DOps.s 82 rfl rfl rfl (q_index_lst tok rfl rfl rfl rfl rfl rfl hlast.1 (idx_mapZ (blockAt_get hlast)) rfl) ?_
      refine DOps.s 83 rfl rfl rfl (q_load tok rfl rfl rfl (by first | exact .loc _ | exact .ptr _ _ _ _ _ _ _ _ rfl rfl rfl) rfl) ?_
      refine DOps.x 15 rfl rfl rfl (o_alloc tok 7 rfl rfl rfl rfl (Nat.zero_lt_succ _) rfl) ?_
      refine DOps.w rfl rfl (o_store tok rfl rfl rfl rfl rfl rfl rfl rfl rfl (by decide) rfl (by first | exact fun _ => rfl | (intro h; cases h))) ?_
      refine DOps.nil (by kernel_rfl) ?_
      refine AGo.seq ?_
      refine AGo.region ?_
      refine AOps.s 84 rfl rfl rfl (q_load tok rfl rfl rfl (by first | exact .loc _ | exact .ptr _ _ _ _ _ _ _ _ rfl rfl rfl) rfl) ?_
      refine AOps.s 85 rfl rfl rfl (q_move (.inl rfl) rfl) ?_
      refine AOps.x 86 rfl rfl rfl (o_pure rfl Try.func31 (by kernel_rfl) rfl rfl rfl (joined_ok f p hf.ins hpin (by have := pathsTo_len _ p hpm; omega))) ?_
      refine AOps.s 87 rfl rfl rfl (q_fieldAddr tok rfl rfl rfl rfl rfl rfl) ?_
      refine AOps.w rfl rfl (o_store tok rfl rfl rfl rfl rfl rfl rfl rfl rfl (by decide) rfl (by first | exact fun _ => rfl | (intro h; cases h))) ?_
      refine AOps.nil ?_
      refine AGo.seq ?_
      refine AGo.seq ?_
      refine AGo.region ?_
      refine AOps.s 88 rfl rfl rfl (q_fieldAddr tok rfl rfl rfl rfl rfl rfl) ?_
      refine AOps.s 89 rfl rfl rfl (q_load tok rfl rfl rfl (by first | exact .loc _ | exact .ptr _ _ _ _ _ _ _ _ rfl rfl rfl) rfl) ?_
      refine AOps.s 90 rfl rfl rfl (q_bin rfl rfl rfl rfl) ?_
      refine AOps.s 91 rfl rfl rfl (q_move (.inl rfl) rfl) ?_
      refine AOps.split 91 rfl (fun hb5 => ?_) (fun hb5 => ?_)
      · -- True
        refine AOps.k 92 rfl rfl rfl ?_
        refine AOps.k 93 rfl rfl rfl ?_
        refine AOps.k 94 rfl rfl rfl ?_
        refine AOps.s 95 rfl rfl rfl (q_pick_true true rfl rfl rfl rfl) ?_
        refine AOps.nil ?_
        refine AGo.cond_true true rfl rfl ?_
        have hto := leads_to hle hbx (by simp_all)
        refine AGo.region ?_
        refine AOps.s 96 rfl rfl rfl (q_move (.inl rfl) rfl) ?_
        refine AOps.s 97 rfl rfl rfl (q_fieldAddr tok rfl rfl rfl rfl rfl rfl) ?_
        refine AOps.s 98 rfl rfl rfl (q_load tok rfl rfl rfl (by first | exact .loc _ | exact .ptr _ _ _ _ _ _ _ _ rfl rfl rfl) rfl) ?_
        refine AOps.s 99 rfl rfl rfl (q_index_ref tok rfl rfl rfl rfl rfl rfl rfl (by rw [intCells_len]; exact (numsTo_length f _).symm) rfl hto.1 (by omega)) ?_
        refine AOps.s 100 rfl rfl rfl (q_load tok rfl rfl rfl (.ptr _ _ _ _ _ _ _ _ rfl (by rw [intCells_len]; exact (numsTo_length f _).symm) (icell (by rw [show f.nums.length = f.blocks.length from numsTo_length f _]; exact hto))) rfl) ?_
        refine AOps.s 101 rfl rfl rfl (q_fieldAddr tok rfl rfl rfl rfl rfl rfl) ?_
        refine AOps.w rfl rfl (o_store tok rfl rfl rfl rfl rfl rfl rfl rfl rfl (by decide) rfl (by first | exact fun _ => rfl | (intro h; cases h))) ?_
        refine AOps.nil ?_
        refine AGo.seq ?_
        refine AGo.seq ?_
        refine AGo.region ?_
        refine AOps.s 102 rfl rfl rfl (q_fieldAddr tok rfl rfl rfl rfl rfl rfl) ?_
        refine AOps.s 103 rfl rfl rfl (q_load tok rfl rfl rfl (by first | exact .loc _ | exact .ptr _ _ _ _ _ _ _ _ rfl rfl rfl) rfl) ?_
        refine AOps.s 104 rfl rfl rfl (q_bin rfl rfl rfl rfl) ?_
        refine AOps.nil ?_
        refine AGo.split 104 rfl (fun hb6 => ?_) (fun hb6 => ?_)
        · -- True
          refine AGo.cond_true true rfl rfl ?_
          have hels := leads_els hle hbx (by simp_all)
          refine AGo.region ?_
          refine AOps.s 105 rfl rfl rfl (q_move (.inl rfl) rfl) ?_
          refine AOps.s 106 rfl rfl rfl (q_fieldAddr tok rfl rfl rfl rfl rfl rfl) ?_
          refine AOps.s 107 rfl rfl rfl (q_load tok rfl rfl rfl (by first | exact .loc _ | exact .ptr _ _ _ _ _ _ _ _ rfl rfl rfl) rfl) ?_
          refine AOps.s 108 rfl rfl rfl (q_index_ref tok rfl rfl rfl rfl rfl rfl rfl (by rw [intCells_len]; exact (numsTo_length f _).symm) rfl hels.1 (by omega)) ?_
          refine AOps.s 109 rfl rfl rfl (q_load tok rfl rfl rfl (.ptr _ _ _ _ _ _ _ _ rfl (by rw [intCells_len]; exact (numsTo_length f _).symm) (icell (by rw [show f.nums.length = f.blocks.length from numsTo_length f _]; exact hels))) rfl) ?_
          refine AOps.s 110 rfl rfl rfl (q_fieldAddr tok rfl rfl rfl rfl rfl rfl) ?_
          refine AOps.w rfl rfl (o_store tok rfl rfl rfl rfl rfl rfl rfl rfl rfl (by decide) rfl (by first | exact fun _ => rfl | (intro h; cases h))) ?_
          refine AOps.nil ?_
          refine AGo.region ?_
          refine AOps.s 111 rfl rfl rfl (q_fieldAddr tok rfl rfl rfl rfl rfl rfl) ?_
          refine AOps.s 112 rfl rfl rfl (q_load tok rfl rfl rfl (by first | exact .loc _ | exact .ptr _ _ _ _ _ _ _ _ rfl rfl rfl) rfl) ?_
          refine AOps.s 113 rfl rfl rfl (q_move (.inl rfl) rfl) ?_
          refine AOps.s 114 rfl rfl rfl (q_load tok rfl rfl rfl (by first | exact .loc _ | exact .ptr _ _ _ _ _ _ _ _ rfl rfl rfl) rfl) ?_
          refine AOps.s 115 rfl rfl rfl (q_index_ref tok rfl rfl rfl rfl rfl rfl rfl (fill_len (by simp : (f.tpaths.map f.newBlock).length = f.tpaths.length) (Nat.le_of_lt hkl)) rfl (Int.natCast_nonneg _) (by omega)) ?_
          refine AOps.w rfl rfl (o_store tok rfl rfl rfl rfl rfl rfl (fill_len (by simp : (f.tpaths.map f.newBlock).length = f.tpaths.length) (Nat.le_of_lt hkl)) (fill_get (by simp : (f.tpaths.map f.newBlock).length = f.tpaths.length) hkl) rfl (by decide) rfl (by first | exact fun _ => rfl | (intro h; cases h))) ?_
          refine AOps.nil ?_
          refine AGo.region ?_
          refine AOps.s 116 rfl rfl rfl (q_inc rfl rfl hkl (by simp only [maxLen]; omega)) ?_
          refine AOps.s 69 rfl rfl rfl (q_move (.inl rfl) rfl) ?_
          refine AOps.nil ?_
          exact ⟨k+1, Drop.mk' (by repeat (first | exact EDrop.new _ _ | refine EDrop.put ?_ (by rfl) rfl)) (by repeat (first | exact HDrop.none _ _ | exact HDrop.tail _ _ | refine HDrop.put ?_ (by first | rfl | exact absurd (show ((f.blockAt (lastOf p)).fin == 2) = true from ‹_›) (by rw [show ((f.blockAt (lastOf p)).fin == 2) = false from ‹_›]; decide) | exact congrArg (fun es => some (AObj.row true 5 es)) (fill_put (f := Block.cells) (x := ⟨f.joined p, (f.blockAt (lastOf p)).fin, (f.blockAt (lastOf p)).v, (f.blockAt (lastOf p)).to, (f.blockAt (lastOf p)).els⟩) (by simp : (f.tpaths.map f.newBlock).length = f.tpaths.length) (by rw [hnb]; simp [BFunc.newBlock, *])) | exact congrArg (fun es => some (AObj.row true 5 es)) (fill_put (f := Block.cells) (x := ⟨f.joined p, (f.blockAt (lastOf p)).fin, (f.blockAt (lastOf p)).v, (f.blockAt (lastOf p)).to, (iget f.nums (f.blockAt (lastOf p)).els)⟩) (by simp : (f.tpaths.map f.newBlock).length = f.tpaths.length) (by rw [hnb]; simp [BFunc.newBlock, *])) | exact congrArg (fun es => some (AObj.row true 5 es)) (fill_put (f := Block.cells) (x := ⟨f.joined p, (f.blockAt (lastOf p)).fin, (f.blockAt (lastOf p)).v, (iget f.nums (f.blockAt (lastOf p)).to), (f.blockAt (lastOf p)).els⟩) (by simp : (f.tpaths.map f.newBlock).length = f.tpaths.length) (by rw [hnb]; simp [BFunc.newBlock, *])) | exact congrArg (fun es => some (AObj.row true 5 es)) (fill_put (f := Block.cells) (x := ⟨f.joined p, (f.blockAt (lastOf p)).fin, (f.blockAt (lastOf p)).v, (iget f.nums (f.blockAt (lastOf p)).to), (iget f.nums (f.blockAt (lastOf p)).els)⟩) (by simp : (f.tpaths.map f.newBlock).length = f.tpaths.length) (by rw [hnb]; simp [BFunc.newBlock, *]))) rfl rfl)), hkl, by omega⟩
        · -- False
          refine AGo.cond_false false rfl rfl ?_
          refine AGo.skip ?_
          refine AGo.region ?_
          refine AOps.s 111 rfl rfl rfl (q_fieldAddr tok rfl rfl rfl rfl rfl rfl) ?_
          refine AOps.s 112 rfl rfl rfl (q_load tok rfl rfl rfl (by first | exact .loc _ | exact .ptr _ _ _ _ _ _ _ _ rfl rfl rfl) rfl) ?_
          refine AOps.s 113 rfl rfl rfl (q_move (.inl rfl) rfl) ?_
          refine AOps.s 114 rfl rfl rfl (q_load tok rfl rfl rfl (by first | exact .loc _ | exact .ptr _ _ _ _ _ _ _ _ rfl rfl rfl) rfl) ?_
          refine AOps.s 115 rfl rfl rfl (q_index_ref tok rfl rfl rfl rfl rfl rfl rfl (fill_len (by simp : (f.tpaths.map f.newBlock).length = f.tpaths.length) (Nat.le_of_lt hkl)) rfl (Int.natCast_nonneg _) (by omega)) ?_
          refine AOps.w rfl rfl (o_store tok rfl rfl rfl rfl rfl rfl (fill_len (by simp : (f.tpaths.map f.newBlock).length = f.tpaths.length) (Nat.le_of_lt hkl)) (fill_get (by simp : (f.tpaths.map f.newBlock).length = f.tpaths.length) hkl) rfl (by decide) rfl (by first | exact fun _ => rfl | (intro h; cases h))) ?_
          refine AOps.nil ?_
          refine AGo.region ?_
          refine AOps.s 116 rfl rfl rfl (q_inc rfl rfl hkl (by simp only [maxLen]; omega)) ?_
          refine AOps.s 69 rfl rfl rfl (q_move (.inl rfl) rfl) ?_
          refine AOps.nil ?_
          exact ⟨k+1, Drop.mk' (by repeat (first | exact EDrop.new _ _ | refine EDrop.put ?_ (by rfl) rfl)) (by repeat (first | exact HDrop.none _ _ | exact HDrop.tail _ _ | refine HDrop.put ?_ (by first | rfl | exact absurd (show ((f.blockAt (lastOf p)).fin == 2) = true from ‹_›) (by rw [show ((f.blockAt (lastOf p)).fin == 2) = false from ‹_›]; decide) | exact congrArg (fun es => some (AObj.row true 5 es)) (fill_put (f := Block.cells) (x := ⟨f.joined p, (f.blockAt (lastOf p)).fin, (f.blockAt (lastOf p)).v, (f.blockAt (lastOf p)).to, (f.blockAt (lastOf p)).els⟩) (by simp : (f.tpaths.map f.newBlock).length = f.tpaths.length) (by rw [hnb]; simp [BFunc.newBlock, *])) | exact congrArg (fun es => some (AObj.row true 5 es)) (fill_put (f := Block.cells) (x := ⟨f.joined p, (f.blockAt (lastOf p)).fin, (f.blockAt (lastOf p)).v, (f.blockAt (lastOf p)).to, (iget f.nums (f.blockAt (lastOf p)).els)⟩) (by simp : (f.tpaths.map f.newBlock).length = f.tpaths.length) (by rw [hnb]; simp [BFunc.newBlock, *])) | exact congrArg (fun es => some (AObj.row true 5 es)) (fill_put (f := Block.cells) (x := ⟨f.joined p, (f.blockAt (lastOf p)).fin, (f.blockAt (lastOf p)).v, (iget f.nums (f.blockAt (lastOf p)).to), (f.blockAt (lastOf p)).els⟩) (by simp : (f.tpaths.map f.newBlock).length = f.tpaths.length) (by rw [hnb]; simp [BFunc.newBlock, *])) | exact congrArg (fun es => some (AObj.row true 5 es)) (fill_put (f := Block.cells) (x := ⟨f.joined p, (f.blockAt (lastOf p)).fin, (f.blockAt (lastOf p)).v, (iget f.nums (f.blockAt (lastOf p)).to), (iget f.nums (f.blockAt (lastOf p)).els)⟩) (by simp : (f.tpaths.map f.newBlock).length = f.tpaths.length) (by rw [hnb]; simp [BFunc.newBlock, *]))) rfl rfl)), hkl, by omega⟩
      · -- False
        refine AOps.s 92 rfl rfl rfl (q_fieldAddr tok rfl rfl rfl rfl rfl rfl) ?_
        refine AOps.s 93 rfl rfl rfl (q_load tok rfl rfl rfl (by first | exact .loc _ | exact .ptr _ _ _ _ _ _ _ _ rfl rfl rfl) rfl) ?_
        refine AOps.s 94 rfl rfl rfl (q_bin rfl rfl rfl rfl) ?_
        refine AOps.s 95 rfl rfl rfl (q_pick_false false rfl rfl rfl rfl) ?_
        refine AOps.nil ?_
        refine AGo.split 95 rfl (fun hb7 => ?_) (fun hb7 => ?_)
        · -- True
          refine AGo.cond_true true rfl rfl ?_
          have hto := leads_to hle hbx (by simp_all)
          refine AGo.region ?_
          refine AOps.s 96 rfl rfl rfl (q_move (.inl rfl) rfl) ?_
          refine AOps.s 97 rfl rfl rfl (q_fieldAddr tok rfl rfl rfl rfl rfl rfl) ?_
          refine AOps.s 98 rfl rfl rfl (q_load tok rfl rfl rfl (by first | exact .loc _ | exact .ptr _ _ _ _ _ _ _ _ rfl rfl rfl) rfl) ?_
          refine AOps.s 99 rfl rfl rfl (q_index_ref tok rfl rfl rfl rfl rfl rfl rfl (by rw [intCells_len]; exact (numsTo_length f _).symm) rfl hto.1 (by omega)) ?_
          refine AOps.s 100 rfl rfl rfl (q_load tok rfl rfl rfl (.ptr _ _ _ _ _ _ _ _ rfl (by rw [intCells_len]; exact (numsTo_length f _).symm) (icell (by rw [show f.nums.length = f.blocks.length from numsTo_length f _]; exact hto))) rfl) ?_
          refine AOps.s 101 rfl rfl rfl (q_fieldAddr tok rfl rfl rfl rfl rfl rfl) ?_
          refine AOps.w rfl rfl (o_store tok rfl rfl rfl rfl rfl rfl rfl rfl rfl (by decide) rfl (by first | exact fun _ => rfl | (intro h; cases h))) ?_
          refine AOps.nil ?_
          refine AGo.seq ?_
          refine AGo.seq ?_
          refine AGo.region ?_
          refine AOps.s 102 rfl rfl rfl (q_fieldAddr tok rfl rfl rfl rfl rfl rfl) ?_
          refine AOps.s 103 rfl rfl rfl (q_load tok rfl rfl rfl (by first | exact .loc _ | exact .ptr _ _ _ _ _ _ _ _ rfl rfl rfl) rfl) ?_
          refine AOps.s 104 rfl rfl rfl (q_bin rfl rfl rfl rfl) ?_
          refine AOps.nil ?_
          refine AGo.split 104 rfl (fun hb8 => ?_) (fun hb8 => ?_)
          · -- True
            refine AGo.cond_true true rfl rfl ?_
            have hels := leads_els hle hbx (by simp_all)
            refine AGo.region ?_
            refine AOps.s 105 rfl rfl rfl (q_move (.inl rfl) rfl) ?_
            refine AOps.s 106 rfl rfl rfl (q_fieldAddr tok rfl rfl rfl rfl rfl rfl) ?_
            refine AOps.s 107 rfl rfl rfl (q_load tok rfl rfl rfl (by first | exact .loc _ | exact .ptr _ _ _ _ _ _ _ _ rfl rfl rfl) rfl) ?_
            refine AOps.s 108 rfl rfl rfl (q_index_ref tok rfl rfl rfl rfl rfl rfl rfl (by rw [intCells_len]; exact (numsTo_length f _).symm) rfl hels.1 (by omega)) ?_
            refine AOps.s 109 rfl rfl rfl (q_load tok rfl rfl rfl (.ptr _ _ _ _ _ _ _ _ rfl (by rw [intCells_len]; exact (numsTo_length f _).symm) (icell (by rw [show f.nums.length = f.blocks.length from numsTo_length f _]; exact hels))) rfl) ?_
            refine AOps.s 110 rfl rfl rfl (q_fieldAddr tok rfl rfl rfl rfl rfl rfl) ?_
            refine AOps.w rfl rfl (o_store tok rfl rfl rfl rfl rfl rfl rfl rfl rfl (by decide) rfl (by first | exact fun _ => rfl | (intro h; cases h))) ?_
            refine AOps.nil ?_
            refine AGo.region ?_
            refine AOps.s 111 rfl rfl rfl (q_fieldAddr tok rfl rfl rfl rfl rfl rfl) ?_
            refine AOps.s 112 rfl rfl rfl (q_load tok rfl rfl rfl (by first | exact .loc _ | exact .ptr _ _ _ _ _ _ _ _ rfl rfl rfl) rfl) ?_
            refine AOps.s 113 rfl rfl rfl (q_move (.inl rfl) rfl) ?_
            refine AOps.s 114 rfl rfl rfl (q_load tok rfl rfl rfl (by first | exact .loc _ | exact .ptr _ _ _ _ _ _ _ _ rfl rfl rfl) rfl) ?_
            refine AOps.s 115 rfl rfl rfl (q_index_ref tok rfl rfl rfl rfl rfl rfl rfl (fill_len (by simp : (f.tpaths.map f.newBlock).length = f.tpaths.length) (Nat.le_of_lt hkl)) rfl (Int.natCast_nonneg _) (by omega)) ?_
            refine AOps.w rfl rfl (o_store tok rfl rfl rfl rfl rfl rfl (fill_len (by simp : (f.tpaths.map f.newBlock).length = f.tpaths.length) (Nat.le_of_lt hkl)) (fill_get (by simp : (f.tpaths.map f.newBlock).length = f.tpaths.length) hkl) rfl (by decide) rfl (by first | exact fun _ => rfl | (intro h; cases h))) ?_
            refine AOps.nil ?_
            refine AGo.region ?_
            refine AOps.s 116 rfl rfl rfl (q_inc rfl rfl hkl (by simp only [maxLen]; omega)) ?_
            refine AOps.s 69 rfl rfl rfl (q_move (.inl rfl) rfl) ?_
            refine AOps.nil ?_
            exact ⟨k+1, Drop.mk' (by repeat (first | exact EDrop.new _ _ | refine EDrop.put ?_ (by rfl) rfl)) (by repeat (first | exact HDrop.none _ _ | exact HDrop.tail _ _ | refine HDrop.put ?_ (by first | rfl | exact absurd (show ((f.blockAt (lastOf p)).fin == 2) = true from ‹_›) (by rw [show ((f.blockAt (lastOf p)).fin == 2) = false from ‹_›]; decide) | exact congrArg (fun es => some (AObj.row true 5 es)) (fill_put (f := Block.cells) (x := ⟨f.joined p, (f.blockAt (lastOf p)).fin, (f.blockAt (lastOf p)).v, (f.blockAt (lastOf p)).to, (f.blockAt (lastOf p)).els⟩) (by simp : (f.tpaths.map f.newBlock).length = f.tpaths.length) (by rw [hnb]; simp [BFunc.newBlock, *])) | exact congrArg (fun es => some (AObj.row true 5 es)) (fill_put (f := Block.cells) (x := ⟨f.joined p, (f.blockAt (lastOf p)).fin, (f.blockAt (lastOf p)).v, (f.blockAt (lastOf p)).to, (iget f.nums (f.blockAt (lastOf p)).els)⟩) (by simp : (f.tpaths.map f.newBlock).length = f.tpaths.length) (by rw [hnb]; simp [BFunc.newBlock, *])) | exact congrArg (fun es => some (AObj.row true 5 es)) (fill_put (f := Block.cells) (x := ⟨f.joined p, (f.blockAt (lastOf p)).fin, (f.blockAt (lastOf p)).v, (iget f.nums (f.blockAt (lastOf p)).to), (f.blockAt (lastOf p)).els⟩) (by simp : (f.tpaths.map f.newBlock).length = f.tpaths.length) (by rw [hnb]; simp [BFunc.newBlock, *])) | exact congrArg (fun es => some (AObj.row true 5 es)) (fill_put (f := Block.cells) (x := ⟨f.joined p, (f.blockAt (lastOf p)).fin, (f.blockAt (lastOf p)).v, (iget f.nums (f.blockAt (lastOf p)).to), (iget f.nums (f.blockAt (lastOf p)).els)⟩) (by simp : (f.tpaths.map f.newBlock).length = f.tpaths.length) (by rw [hnb]; simp [BFunc.newBlock, *]))) rfl rfl)), hkl, by omega⟩
          · -- False
            refine AGo.cond_false false rfl rfl ?_
            refine AGo.skip ?_
            refine AGo.region ?_
            refine AOps.s 111 rfl rfl rfl (q_fieldAddr tok rfl rfl rfl rfl rfl rfl) ?_
            refine AOps.s 112 rfl rfl rfl (q_load tok rfl rfl rfl (by first | exact .loc _ | exact .ptr _ _ _ _ _ _ _ _ rfl rfl rfl) rfl) ?_
            refine AOps.s 113 rfl rfl rfl (q_move (.inl rfl) rfl) ?_
            refine AOps.s 114 rfl rfl rfl (q_load tok rfl rfl rfl (by first | exact .loc _ | exact .ptr _ _ _ _ _ _ _ _ rfl rfl rfl) rfl) ?_
            refine AOps.s 115 rfl rfl rfl (q_index_ref tok rfl rfl rfl rfl rfl rfl rfl (fill_len (by simp : (f.tpaths.map f.newBlock).length = f.tpaths.length) (Nat.le_of_lt hkl)) rfl (Int.natCast_nonneg _) (by omega)) ?_
            refine AOps.w rfl rfl (o_store tok rfl rfl rfl rfl rfl rfl (fill_len (by simp : (f.tpaths.map f.newBlock).length = f.tpaths.length) (Nat.le_of_lt hkl)) (fill_get (by simp : (f.tpaths.map f.newBlock).length = f.tpaths.length) hkl) rfl (by decide) rfl (by first | exact fun _ => rfl | (intro h; cases h))) ?_
            refine AOps.nil ?_
            refine AGo.region ?_
            refine AOps.s 116 rfl rfl rfl (q_inc rfl rfl hkl (by simp only [maxLen]; omega)) ?_
            refine AOps.s 69 rfl rfl rfl (q_move (.inl rfl) rfl) ?_
            refine AOps.nil ?_
            exact ⟨k+1, Drop.mk' (by repeat (first | exact EDrop.new _ _ | refine EDrop.put ?_ (by rfl) rfl)) (by repeat (first | exact HDrop.none _ _ | exact HDrop.tail _ _ | refine HDrop.put ?_ (by first | rfl | exact absurd (show ((f.blockAt (lastOf p)).fin == 2) = true from ‹_›) (by rw [show ((f.blockAt (lastOf p)).fin == 2) = false from ‹_›]; decide) | exact congrArg (fun es => some (AObj.row true 5 es)) (fill_put (f := Block.cells) (x := ⟨f.joined p, (f.blockAt (lastOf p)).fin, (f.blockAt (lastOf p)).v, (f.blockAt (lastOf p)).to, (f.blockAt (lastOf p)).els⟩) (by simp : (f.tpaths.map f.newBlock).length = f.tpaths.length) (by rw [hnb]; simp [BFunc.newBlock, *])) | exact congrArg (fun es => some (AObj.row true 5 es)) (fill_put (f := Block.cells) (x := ⟨f.joined p, (f.blockAt (lastOf p)).fin, (f.blockAt (lastOf p)).v, (f.blockAt (lastOf p)).to, (iget f.nums (f.blockAt (lastOf p)).els)⟩) (by simp : (f.tpaths.map f.newBlock).length = f.tpaths.length) (by rw [hnb]; simp [BFunc.newBlock, *])) | exact congrArg (fun es => some (AObj.row true 5 es)) (fill_put (f := Block.cells) (x := ⟨f.joined p, (f.blockAt (lastOf p)).fin, (f.blockAt (lastOf p)).v, (iget f.nums (f.blockAt (lastOf p)).to), (f.blockAt (lastOf p)).els⟩) (by simp : (f.tpaths.map f.newBlock).length = f.tpaths.length) (by rw [hnb]; simp [BFunc.newBlock, *])) | exact congrArg (fun es => some (AObj.row true 5 es)) (fill_put (f := Block.cells) (x := ⟨f.joined p, (f.blockAt (lastOf p)).fin, (f.blockAt (lastOf p)).v, (iget f.nums (f.blockAt (lastOf p)).to), (iget f.nums (f.blockAt (lastOf p)).els)⟩) (by simp : (f.tpaths.map f.newBlock).length = f.tpaths.length) (by rw [hnb]; simp [BFunc.newBlock, *]))) rfl rfl)), hkl, by omega⟩
        · -- False
          refine AGo.cond_false false rfl rfl ?_
          refine AGo.skip ?_
          refine AGo.seq ?_
          refine AGo.seq ?_
          refine AGo.region ?_
          refine AOps.s 102 rfl rfl rfl (q_fieldAddr tok rfl rfl rfl rfl rfl rfl) ?_
          refine AOps.s 103 rfl rfl rfl (q_load tok rfl rfl rfl (by first | exact .loc _ | exact .ptr _ _ _ _ _ _ _ _ rfl rfl rfl) rfl) ?_
          refine AOps.s 104 rfl rfl rfl (q_bin rfl rfl rfl rfl) ?_
          refine AOps.nil ?_
          refine AGo.split 104 rfl (fun hb9 => ?_) (fun hb9 => ?_)
          · -- True
            refine AGo.cond_true true rfl rfl ?_
            have hels := leads_els hle hbx (by simp_all)
            refine AGo.region ?_
            refine AOps.s 105 rfl rfl rfl (q_move (.inl rfl) rfl) ?_
            refine AOps.s 106 rfl rfl rfl (q_fieldAddr tok rfl rfl rfl rfl rfl rfl) ?_
            refine AOps.s 107 rfl rfl rfl (q_load tok rfl rfl rfl (by first | exact .loc _ | exact .ptr _ _ _ _ _ _ _ _ rfl rfl rfl) rfl) ?_
            refine AOps.s 108 rfl rfl rfl (q_index_ref tok rfl rfl rfl rfl rfl rfl rfl (by rw [intCells_len]; exact (numsTo_length f _).symm) rfl hels.1 (by omega)) ?_
            refine AOps.s 109 rfl rfl rfl (q_load tok rfl rfl rfl (.ptr _ _ _ _ _ _ _ _ rfl (by rw [intCells_len]; exact (numsTo_length f _).symm) (icell (by rw [show f.nums.length = f.blocks.length from numsTo_length f _]; exact hels))) rfl) ?_
            refine AOps.s 110 rfl rfl rfl (q_fieldAddr tok rfl rfl rfl rfl rfl rfl) ?_
            refine AOps.w rfl rfl (o_store tok rfl rfl rfl rfl rfl rfl rfl rfl rfl (by decide) rfl (by first | exact fun _ => rfl | (intro h; cases h))) ?_
            refine AOps.nil ?_
            refine AGo.region ?_
            refine AOps.s 111 rfl rfl rfl (q_fieldAddr tok rfl rfl rfl rfl rfl rfl) ?_
            refine AOps.s 112 rfl rfl rfl (q_load tok rfl rfl rfl (by first | exact .loc _ | exact .ptr _ _ _ _ _ _ _ _ rfl rfl rfl) rfl) ?_
            refine AOps.s 113 rfl rfl rfl (q_move (.inl rfl) rfl) ?_
            refine AOps.s 114 rfl rfl rfl (q_load tok rfl rfl rfl (by first | exact .loc _ | exact .ptr _ _ _ _ _ _ _ _ rfl rfl rfl) rfl) ?_
            refine AOps.s 115 rfl rfl rfl (q_index_ref tok rfl rfl rfl rfl rfl rfl rfl (fill_len (by simp : (f.tpaths.map f.newBlock).length = f.tpaths.length) (Nat.le_of_lt hkl)) rfl (Int.natCast_nonneg _) (by omega)) ?_
            refine AOps.w rfl rfl (o_store tok rfl rfl rfl rfl rfl rfl (fill_len (by simp : (f.tpaths.map f.newBlock).length = f.tpaths.length) (Nat.le_of_lt hkl)) (fill_get (by simp : (f.tpaths.map f.newBlock).length = f.tpaths.length) hkl) rfl (by decide) rfl (by first | exact fun _ => rfl | (intro h; cases h))) ?_
            refine AOps.nil ?_
            refine AGo.region ?_
            refine AOps.s 116 rfl rfl rfl (q_inc rfl rfl hkl (by simp only [maxLen]; omega)) ?_
            refine AOps.s 69 rfl rfl rfl (q_move (.inl rfl) rfl) ?_
            refine AOps.nil ?_
            exact ⟨k+1, Drop.mk' (by repeat (first | exact EDrop.new _ _ | refine EDrop.put ?_ (by rfl) rfl)) (by repeat (first | exact HDrop.none _ _ | exact HDrop.tail _ _ | refine HDrop.put ?_ (by first | rfl | exact absurd (show ((f.blockAt (lastOf p)).fin == 2) = true from ‹_›) (by rw [show ((f.blockAt (lastOf p)).fin == 2) = false from ‹_›]; decide) | exact congrArg (fun es => some (AObj.row true 5 es)) (fill_put (f := Block.cells) (x := ⟨f.joined p, (f.blockAt (lastOf p)).fin, (f.blockAt (lastOf p)).v, (f.blockAt (lastOf p)).to, (f.blockAt (lastOf p)).els⟩) (by simp : (f.tpaths.map f.newBlock).length = f.tpaths.length) (by rw [hnb]; simp [BFunc.newBlock, *])) | exact congrArg (fun es => some (AObj.row true 5 es)) (fill_put (f := Block.cells) (x := ⟨f.joined p, (f.blockAt (lastOf p)).fin, (f.blockAt (lastOf p)).v, (f.blockAt (lastOf p)).to, (iget f.nums (f.blockAt (lastOf p)).els)⟩) (by simp : (f.tpaths.map f.newBlock).length = f.tpaths.length) (by rw [hnb]; simp [BFunc.newBlock, *])) | exact congrArg (fun es => some (AObj.row true 5 es)) (fill_put (f := Block.cells) (x := ⟨f.joined p, (f.blockAt (lastOf p)).fin, (f.blockAt (lastOf p)).v, (iget f.nums (f.blockAt (lastOf p)).to), (f.blockAt (lastOf p)).els⟩) (by simp : (f.tpaths.map f.newBlock).length = f.tpaths.length) (by rw [hnb]; simp [BFunc.newBlock, *])) | exact congrArg (fun es => some (AObj.row true 5 es)) (fill_put (f := Block.cells) (x := ⟨f.joined p, (f.blockAt (lastOf p)).fin, (f.blockAt (lastOf p)).v, (iget f.nums (f.blockAt (lastOf p)).to), (iget f.nums (f.blockAt (lastOf p)).els)⟩) (by simp : (f.tpaths.map f.newBlock).length = f.tpaths.length) (by rw [hnb]; simp [BFunc.newBlock, *]))) rfl rfl)), hkl, by omega⟩
          · -- False
            refine AGo.cond_false false rfl rfl ?_
            refine AGo.skip ?_
            refine AGo.region ?_
            refine AOps.s 111 rfl rfl rfl (q_fieldAddr tok rfl rfl rfl rfl rfl rfl) ?_
            refine AOps.s 112 rfl rfl rfl (q_load tok rfl rfl rfl (by first | exact .loc _ | exact .ptr _ _ _ _ _ _ _ _ rfl rfl rfl) rfl) ?_
            refine AOps.s 113 rfl rfl rfl (q_move (.inl rfl) rfl) ?_
            refine AOps.s 114 rfl rfl rfl (q_load tok rfl rfl rfl (by first | exact .loc _ | exact .ptr _ _ _ _ _ _ _ _ rfl rfl rfl) rfl) ?_
            refine AOps.s 115 rfl rfl rfl (q_index_ref tok rfl rfl rfl rfl rfl rfl rfl (fill_len (by simp : (f.tpaths.map f.newBlock).length = f.tpaths.length) (Nat.le_of_lt hkl)) rfl (Int.natCast_nonneg _) (by omega)) ?_
            refine AOps.w rfl rfl (o_store tok rfl rfl rfl rfl rfl rfl (fill_len (by simp : (f.tpaths.map f.newBlock).length = f.tpaths.length) (Nat.le_of_lt hkl)) (fill_get (by simp : (f.tpaths.map f.newBlock).length = f.tpaths.length) hkl) rfl (by decide) rfl (by first | exact fun _ => rfl | (intro h; cases h))) ?_
            refine AOps.nil ?_
            refine AGo.region ?_
            refine AOps.s 116 rfl rfl rfl (q_inc rfl rfl hkl (by simp only [maxLen]; omega)) ?_
            refine AOps.s 69 rfl rfl rfl (q_move (.inl rfl) rfl) ?_
            refine AOps.nil ?_
            exact ⟨k+1, Drop.mk' (by repeat (first | exact EDrop.new _ _ | refine EDrop.put ?_ (by rfl) rfl)) (by repeat (first | exact HDrop.none _ _ | exact HDrop.tail _ _ | refine HDrop.put ?_ (by first | rfl | exact absurd (show ((f.blockAt (lastOf p)).fin == 2) = true from ‹_›) (by rw [show ((f.blockAt (lastOf p)).fin == 2) = false from ‹_›]; decide) | exact congrArg (fun es => some (AObj.row true 5 es)) (fill_put (f := Block.cells) (x := ⟨f.joined p, (f.blockAt (lastOf p)).fin, (f.blockAt (lastOf p)).v, (f.blockAt (lastOf p)).to, (f.blockAt (lastOf p)).els⟩) (by simp : (f.tpaths.map f.newBlock).length = f.tpaths.length) (by rw [hnb]; simp [BFunc.newBlock, *])) | exact congrArg (fun es => some (AObj.row true 5 es)) (fill_put (f := Block.cells) (x := ⟨f.joined p, (f.blockAt (lastOf p)).fin, (f.blockAt (lastOf p)).v, (f.blockAt (lastOf p)).to, (iget f.nums (f.blockAt (lastOf p)).els)⟩) (by simp : (f.tpaths.map f.newBlock).length = f.tpaths.length) (by rw [hnb]; simp [BFunc.newBlock, *])) | exact congrArg (fun es => some (AObj.row true 5 es)) (fill_put (f := Block.cells) (x := ⟨f.joined p, (f.blockAt (lastOf p)).fin, (f.blockAt (lastOf p)).v, (iget f.nums (f.blockAt (lastOf p)).to), (f.blockAt (lastOf p)).els⟩) (by simp : (f.tpaths.map f.newBlock).length = f.tpaths.length) (by rw [hnb]; simp [BFunc.newBlock, *])) | exact congrArg (fun es => some (AObj.row true 5 es)) (fill_put (f := Block.cells) (x := ⟨f.joined p, (f.blockAt (lastOf p)).fin, (f.blockAt (lastOf p)).v, (iget f.nums (f.blockAt (lastOf p)).to), (iget f.nums (f.blockAt (lastOf p)).els)⟩) (by simp : (f.tpaths.map f.newBlock).length = f.tpaths.length) (by rw [hnb]; simp [BFunc.newBlock, *]))) rfl rfl)), hkl, by omega⟩
    · -- False
      refine AGo.cond_false false rfl rfl ?_
      have hge : f.tpaths.length ≤ k := by simpa using hb4
      refine AGo.exit ?_
      refine AGo.seq ?_
      refine AGo.ghost (.freezeCell 6 0 1 5 rfl rfl rfl rfl (fill_len (by simp : (f.tpaths.map f.newBlock).length = f.tpaths.length) hk) (by decide)) ?_
      refine AGo.region ?_
      refine AOps.s 117 rfl rfl rfl (q_load tok rfl rfl rfl (by first | exact .loc _ | exact .ptr _ _ _ _ _ _ _ _ rfl rfl rfl) rfl) ?_
      refine AOps.s 118 rfl rfl rfl (q_move (.inl rfl) rfl) ?_
      refine AOps.w rfl rfl (o_store tok rfl rfl rfl rfl rfl rfl rfl rfl rfl (by decide) rfl (by first | exact fun _ => rfl | (intro h; cases h))) ?_
      refine AOps.s 3 rfl rfl rfl (q_move (.inr rfl) rfl) ?_
      refine AOps.nil ?_
      refine AGo.ret ?_
      refine ⟨[_, _], ⟨⟨_, _, _, _, rfl, rfl, .ptr _ _ _ _ _ _ _ _ rfl rfl rfl, rfl⟩, rfl, trivial⟩, ?_, rfl⟩
      have e1 := fill_end (f := Block.cells) (z := [.nil, .int .i64 0, .int .i64 0, .int .i64 0, .int .i64 0]) (by simp : (f.tpaths.map f.newBlock).length = f.tpaths.length) hge
      show AV.tup [.agg [_, .lst false _], _] = _
      rw [e1]
      rfl

end Go.Proofs.Ytidfabbnobipkaa.Sv
